/-
  Walks: the smallest failures that stop a function, of a valid net.
  Walk: a net read from a string.
  Walk: a net as a string.
-/
import Derived.Test.YtbdgblnccjpahaaGreatDoorUO8
import Derived.Test.YtbdgblnccjpahaaGreatDoorUO11
import Derived.Test.YtbdgblnccjpahaaGreatDoorUO9
import Derived.Test.YtbdgblnccjpahaaGreatDoorUO6
import Derived.Test.YtbdgblnccjpahaaGreatDoorUO10
set_option linter.unusedSimpArgs false
set_option linter.unusedVariables false
namespace Go.Proofs.YtbdgblnccjpahaaGreatDoor
open Go.RowKit Go.Shelf
attribute [local go_sem] bl_al bl_drew bl_drewN bl_refl bx_al bx_drew bx_drewN bx_refl
set_option maxRecDepth 20000
/-- The error of CutOf. -/
def cutErr (n : Nt) (k : Int) : Int := fstE [netErr n, unl (inR k 0 ((n.fs.length : Int) - 1)) 6]
set_option maxHeartbeats 4000000 in
theorem c_CutOf (n : Nt) (k : Int) (Ap Af Am : Option Addr) (cp cf cm : Nat) (w : World) (hn : NtIn n Ap Af Am cp cf cm w) (hT : Tab w) :
    Calls Tryz.prog 37 #[vNt Ap Af Am n.ps.length n.fs.length n.ms.length cp cf cm, .int .i64 k] w (fun e w' => Below w.heap.size w w' ∧
      ((cutErr n k ≠ 0 ∧ e = .returned (.tuple #[.slice none 0 0, .int .i64 (cutErr n k)])) ∨
        (cutErr n k = 0 ∧ ∃ f, n.fs[k.toNat]? = some f ∧ ∃ A c, e = .returned (.tuple #[.slice A (listS (cutS f n.ps.length)).length c, .int .i64 0]) ∧ w'.ownsRow w.heap.size 3 1 (.slice A (listS (cutS f n.ps.length)).length c) (listS (cutS f n.ps.length)).length ((listS (cutS f n.ps.length)).map (.int .i64))))) := by
  have hc := Lib.hid fun W (hb : Below w.heap.size w W) => c_netErr n Ap Af Am cp cf cm W (hn.below hb)
  have h1 := hn.plen
  have h2 := hn.flen
  have hE : Hid (fstE [netErr n, unl (inR k 0 ((n.fs.length : Int) - 1)) 6] = cutErr n k) := rfl
  have hok : Hid (cutErr n k = 0 → (0 ≤ k ∧ k < n.fs.length) ∧ n.ps.length ≤ 10 ∧ ∃ f, n.fs[k.toNat]? = some f ∧ (∀ W, Below w.heap.size w W → Calls Tryz.prog 89 #[vFu f, .int .i64 n.ps.length] W (Ret (.int .u64 (cutS f n.ps.length : Nat)) W)) ∧ cutS f n.ps.length < 1024 ∧
      ∃ b off, Af = some ⟨b, off, none⟩ ∧ ∀ W, Below w.heap.size w W → W.cell? ⟨b, off + k.toNat * 2, none⟩ = some (.string f.name) ∧ W.cell? ⟨b, off + k.toNat * 2 + 1, none⟩ = some (.slice f.A f.ws.length f.c)) := fun h0 => by
    obtain ⟨e1, e2⟩ := (fst_cons _ _).1 h0
    obtain ⟨e3, -⟩ := (fst_cons _ _).1 e2
    have e4 := (unl_zero (by decide)).1 e3
    simp [inR] at e4
    obtain ⟨o1, o2, o3⟩ := netErr_ok e1
    have hk : k.toNat < n.fs.length := by omega
    have hf : n.fs[k.toNat]? = some n.fs[k.toNat] := List.getElem?_eq_getElem hk
    generalize n.fs[k.toNat] = f at hf
    have hfi := hn.fin f (List.mem_of_getElem? hf)
    have hfo : FuOk f := fun r hr x hx => by have := o3 f (List.mem_of_getElem? hf) r hr x hx; omega
    obtain ⟨b, off, eA, hcc⟩ := hn.fsl k.toNat f hf
    have h2N : 2 ^ n.ps.length ≤ 1024 := Nat.le_trans (Nat.pow_le_pow_right (by decide) o1) (by decide)
    have h1N := Nat.two_pow_pos n.ps.length
    refine ⟨by omega, o1, f, hf, fun W hb => c_cut f n.ps.length W (hfi.below hb) hfo o1 (hT.below hb), cutTo_lt _ _ _ (by omega) h2N, b, off, eA, fun W hb => ⟨?_, ?_⟩⟩
    · have := kcell hb (hcc 0 _ rfl); exact this
    · have := kcell hb (hcc 1 _ rfl); exact this
  clear hn
  change Calls Tryz.prog 37 #[.agg #[.slice Ap n.ps.length cp, .slice Af n.fs.length cf, .slice Am n.ms.length cm], .int .i64 k] w _
  dsimp only [vNt, aNt] at hc
  generalize netErr n = ne at *
  generalize cutErr n k = ce at *
  generalize n.fs[k.toNat]? = fk at *
  generalize n.ps.length = np at *
  generalize n.fs.length = nf at *
  generalize n.ms.length = nm at *
  go_enter Tryz.func37, Tryz.ntmps37
  go_upto_region 1 with fail
  first
  | apply absB1 (w0 := w) (g0 := w.heap.size)
  | apply absTB1 (w0 := w) (g0 := w.heap.size)
  | apply absIB1 (w0 := w) (g0 := w.heap.size)
  iterate 2 (focus exact zL)
  try clear hb3
  try clear hb0
  try clear k0
  intro wa hb0 k0
  (try simp only [List.setIfInBounds_toArray, List.set_cons_zero, List.set_cons_succ] at k0)
  have Lk0 := k0.later
  have Fk0 := k0.laterF
  have Qk0 := k0.lt
  refine wp_any (w0 := wa) ⟨[], [], [some 7, some 8, some 9, some 10, some 11, some 12, some 13, some 14, some 15, some 16, some 17, some 6], [[], [0], [], [], [3], [3, 4], [3, 4, 5], [0, 1, 2, 3, 4, 5, 6], [0, 1, 2, 3, 4, 5, 6, 7], [0, 1, 2, 3, 4, 5, 6, 7, 8], [0, 1, 2, 3, 4, 5, 6, 7, 8, 9], [0, 1, 2, 3, 4, 5, 6, 7, 8, 9, 10]], [[], [0], [], [], [3], [4], [5], [2, 6], [7], [1, 8], [9], [9, 10]]⟩ (fun _ => []) (by kernel_rfl) (by kernel_rfl) (by (exact zE)) (fun u => by simp only [putD, Act.put, List.setIfInBounds_toArray, List.set_cons_zero, List.set_cons_succ, Nat.zero_add, Nat.reduceAdd]; rfl) ?_
  apply RGW.on (i := 0) rfl
  · exact zG
  · intro γ u W hcur hd
    clear hd
    (try dsimp only)
    exact ⟨rfl, zS⟩
  · exact zC
  · rfl
  dsimp only [nA, cA]
  apply RGW.call (i := 1) rfl
  · exact zG
  · intro γ u W hcur hd
    obtain ⟨⟨h0, -, -⟩, -⟩ := hd
    dsimp only at h0
    (try simp only [h0])
    refine ⟨rfl, fun K hK => ?_⟩
    go_simp
    first
    | (go_at_call 84; (with_reducible refine (hc.out _ (bl_tr hb0 hcur)).mono ?_); rintro e w3 ⟨rfl, hb3⟩; replace hb3 := bl_tt hb3)
    | (go_at_call 71; (with_reducible refine (c_within _ _ _ _).mono ?_); rintro e w3 ⟨rfl, rfl⟩)
    | (go_at_call 58; (with_reducible refine (c_unless _ _ _).mono ?_); rintro e w3 ⟨rfl, rfl⟩)
    | (go_at_call 74; (with_reducible refine (c_first2 (by (exact zK))).mono ?_); rintro e w3 ⟨rfl, rfl⟩)
    (try dsimp only)
    exact hK.out _ _ rfl (by (exact zE))
  · exact zC
  · rfl
  dsimp only [nA, cA]
  apply RGW.on (i := 2) rfl
  · exact zG
  · intro γ u W hcur hd
    clear hd
    (try dsimp only)
    exact ⟨rfl, zS⟩
  · exact zC
  · rfl
  dsimp only [nA, cA]
  apply RGW.on (i := 3) rfl
  · exact zG
  · intro γ u W hcur hd
    clear hd
    (try dsimp only)
    exact ⟨rfl, zS⟩
  · exact zC
  · rfl
  dsimp only [nA, cA]
  apply RGW.on (i := 4) rfl
  · exact zG
  · intro γ u W hcur hd
    obtain ⟨⟨h3, -, -⟩, -⟩ := hd
    dsimp only at h3
    (try simp only [h3])
    exact ⟨rfl, zS⟩
  · exact zC
  · rfl
  dsimp only [nA, cA]
  apply RGW.on (i := 5) rfl
  · exact zG
  · intro γ u W hcur hd
    obtain ⟨⟨h4, -, -⟩, -⟩ := hd
    dsimp only at h4
    (try simp only [h4])
    exact ⟨rfl, zS⟩
  · exact zC
  · rfl
  dsimp only [nA, cA]
  apply RGW.on (i := 6) rfl
  · exact zG
  · intro γ u W hcur hd
    obtain ⟨⟨h5, -, -⟩, -⟩ := hd
    dsimp only at h5
    (try simp only [h5])
    exact ⟨rfl, zS⟩
  · exact zC
  · rfl
  dsimp only [nA, cA]
  apply RGW.call (i := 7) rfl
  · exact zG
  · intro γ u W hcur hd
    obtain ⟨⟨h2, -, -⟩, ⟨h6, -, -⟩, -⟩ := hd
    dsimp only at h2 h6
    (try simp only [h2, h6])
    refine ⟨rfl, fun K hK => ?_⟩
    go_simp
    first
    | (go_at_call 84; (with_reducible refine (hc.out _ (bl_tr hb0 hcur)).mono ?_); rintro e w3 ⟨rfl, hb3⟩; replace hb3 := bl_tt hb3)
    | (go_at_call 71; (with_reducible refine (c_within _ _ _ _).mono ?_); rintro e w3 ⟨rfl, rfl⟩)
    | (go_at_call 58; (with_reducible refine (c_unless _ _ _).mono ?_); rintro e w3 ⟨rfl, rfl⟩)
    | (go_at_call 74; (with_reducible refine (c_first2 (by (exact zK))).mono ?_); rintro e w3 ⟨rfl, rfl⟩)
    (try dsimp only)
    exact hK.out _ _ rfl (by (exact zE))
  · exact zC
  · rfl
  dsimp only [nA, cA]
  apply RGW.call (i := 8) rfl
  · exact zG
  · intro γ u W hcur hd
    obtain ⟨⟨h7, -, -⟩, -⟩ := hd
    dsimp only at h7
    (try simp only [h7])
    refine ⟨rfl, fun K hK => ?_⟩
    go_simp
    first
    | (go_at_call 84; (with_reducible refine (hc.out _ (bl_tr hb0 hcur)).mono ?_); rintro e w3 ⟨rfl, hb3⟩; replace hb3 := bl_tt hb3)
    | (go_at_call 71; (with_reducible refine (c_within _ _ _ _).mono ?_); rintro e w3 ⟨rfl, rfl⟩)
    | (go_at_call 58; (with_reducible refine (c_unless _ _ _).mono ?_); rintro e w3 ⟨rfl, rfl⟩)
    | (go_at_call 74; (with_reducible refine (c_first2 (by (exact zK))).mono ?_); rintro e w3 ⟨rfl, rfl⟩)
    (try dsimp only)
    exact hK.out _ _ rfl (by (exact zE))
  · exact zC
  · rfl
  dsimp only [nA, cA]
  apply RGW.bslice (i := 9) rfl
  · exact zG
  · intro γ u W hcur hd
    obtain ⟨⟨h1, -, -⟩, ⟨h8, -, -⟩, -⟩ := hd
    dsimp only at h1 h8
    (try simp only [h1, h8])
    refine ⟨rfl, fun K hK => ?_⟩
    go_simp
    exact hK.out _ _ rfl rfl
  · exact zC
  · rfl
  · rfl
  dsimp only [nA, cA]
  apply RGW.call (i := 10) rfl
  · exact zG
  · intro γ u W hcur hd
    obtain ⟨⟨h9, r9, -⟩, -⟩ := hd
    dsimp only at h9 r9
    have L9 := r9.cell
    (try simp only [h9])
    refine ⟨rfl, fun K hK => ?_⟩
    go_simp
    first
    | (go_at_call 84; (with_reducible refine (hc.out _ (bl_tr hb0 hcur)).mono ?_); rintro e w3 ⟨rfl, hb3⟩; replace hb3 := bl_tt hb3)
    | (go_at_call 71; (with_reducible refine (c_within _ _ _ _).mono ?_); rintro e w3 ⟨rfl, rfl⟩)
    | (go_at_call 58; (with_reducible refine (c_unless _ _ _).mono ?_); rintro e w3 ⟨rfl, rfl⟩)
    | (go_at_call 74; (with_reducible refine (c_first2 (by (exact zK))).mono ?_); rintro e w3 ⟨rfl, rfl⟩)
    (try dsimp only)
    exact hK.out _ _ rfl (by (exact zE))
  · first
    | exact zC
    | intro γ γ' hg
      try dsimp only
      have e9 := hg 9 (by decide)
      simp only [e9]
  · rfl
  dsimp only [nA, cA]
  apply RGW.on (i := 11) rfl
  · exact zG
  · intro γ u W hcur hd
    obtain ⟨⟨h9, r9, -⟩, ⟨h10, -, -⟩, -⟩ := hd
    dsimp only at h9 h10 r9
    have L9 := r9.cell
    (try simp only [h9, h10])
    exact ⟨rfl, zS⟩
  · first
    | exact zC
    | intro γ γ' hg
      try dsimp only
      have e9 := hg 9 (by decide)
      simp only [e9]
  · rfl
  dsimp only [nA, cA]
  refine RGW.fin (fun γ u wb hwb hd hdis => ?_)
  obtain ⟨⟨h0, -, -⟩, ⟨h1, -, -⟩, ⟨h2, -, -⟩, ⟨h3, -, -⟩, ⟨h4, -, -⟩, ⟨h5, -, -⟩, ⟨h6, -, -⟩, ⟨h7, -, -⟩, ⟨h8, -, -⟩, ⟨h9, r9, b9⟩, ⟨h10, -, -⟩, ⟨h11, -, -⟩, -⟩ := hd
  dsimp only at h0 h1 h2 h3 h4 h5 h6 h7 h8 h9 h10 h11 r9 b9
  clear hdis
  simp only [h0, h1, h2, h3, h4, h5, h6, h7, h8, h9, h10, h11]
  clear h11 h10 h9 h8 h7 h6 h5 h4 h3 h2 h1 h0
  replace b9 := b9 _ (List.mem_singleton.2 rfl)
  generalize hγ9 : (γ 9).n = g9 at *
  clear hγ9
  clear u
  simp only [List.map_nil]
  refine PlanW.done ?_
  have hb3 := bl_tt hwb
  rw [hE.out]
  first
  | apply absB1 (w0 := w) (g0 := w.heap.size)
  | apply absTB1 (w0 := w) (g0 := w.heap.size)
  | apply absIB1 (w0 := w) (g0 := w.heap.size)
  iterate 2 (focus exact zL)
  try clear hb3
  try clear Lk0
  try clear Fk0
  try clear Qk0
  try clear hb0
  try clear k0
  intro wc hb0 k0
  (try simp only [List.setIfInBounds_toArray, List.set_cons_zero, List.set_cons_succ] at k0)
  by_cases h0 : ce = 0
  rotate_left
  · go_wp2
    go_ret2
    exact ⟨by (exact zE), .inl ⟨h0, rfl⟩⟩
  obtain ⟨⟨hk0, hk1⟩, hp10, f, rfl, hcut, hlt, b, off, rfl, hcell⟩ := hok.out h0
  clear hok hc hE
  obtain ⟨m, rfl⟩ : ∃ m : Nat, k = m := ⟨k.toNat, by omega⟩
  rw [Int.toNat_natCast] at hcell
  obtain ⟨cs, Hcs⟩ : ∃ cs, Hid (cutS f np = cs) := ⟨_, rfl⟩
  rw [Hcs.out] at hlt
  simp only [Hcs.out] at hcut ⊢
  have hl := Lib.hid fun W (hb : Below w.heap.size w W) => c_list cs W hlt (hT.below hb)
  have hcu := Lib.hid hcut
  have hx0 := fun W (hb : Below wc.heap.size wc W) => (hcell W (bl_tr hb0 hb)).1
  have hx1 := fun W (hb : Below wc.heap.size wc W) => (hcell W (bl_tr hb0 hb)).2
  dsimp only [vFu] at hcu
  clear hcell hcut hT
  subst h0
  obtain ⟨L, HL⟩ : ∃ L, Hid (listS cs = L) := ⟨_, rfl⟩
  rw [HL.out] at hl
  generalize f.ws.length = fl at *
  go_upto_region 4 with fail
  have Lk0 := k0.later
  have Fk0 := k0.laterF
  have Qk0 := k0.lt
  refine wp_any (w0 := wc) ⟨[], [], [some 21, some 22, some 23, some 24, some 25, some 26, some 27, some 28, some 29, some 30, some 4, some 5], [[], [0], [], [0, 1, 2], [0, 1, 2, 3], [], [5], [5, 6], [0, 1, 2, 3, 4, 5, 6, 7], [0, 1, 2, 3, 4, 5, 6, 7, 8], [0, 1, 2, 3, 4, 5, 6, 7, 8, 9], [0, 1, 2, 3, 4, 5, 6, 7, 8, 9, 10]], [[], [0], [], [1, 2], [3], [], [5], [6], [4, 7], [8], [9], []]⟩ (fun _ => []) (by kernel_rfl) (by kernel_rfl) (by (exact zE)) (fun u => by simp only [putD, Act.put, List.setIfInBounds_toArray, List.set_cons_zero, List.set_cons_succ, Nat.zero_add, Nat.reduceAdd]; rfl) ?_
  apply RGW.on (i := 0) rfl
  · exact zG
  · intro γ u W hcur hd
    clear hd
    (try dsimp only)
    exact ⟨rfl, zS⟩
  · exact zC
  · rfl
  dsimp only [nA, cA]
  apply RGW.on (i := 1) rfl
  · exact zG
  · intro γ u W hcur hd
    obtain ⟨⟨h0, -, -⟩, -⟩ := hd
    dsimp only at h0
    (try simp only [h0])
    exact ⟨rfl, zS⟩
  · exact zC
  · rfl
  dsimp only [nA, cA]
  apply RGW.on (i := 2) rfl
  · exact zG
  · intro γ u W hcur hd
    clear hd
    (try dsimp only)
    exact ⟨rfl, zS⟩
  · exact zC
  · rfl
  dsimp only [nA, cA]
  apply RGW.on (i := 3) rfl
  · exact zG
  · intro γ u W hcur hd
    obtain ⟨⟨h1, -, -⟩, ⟨h2, -, -⟩, -⟩ := hd
    dsimp only at h1 h2
    (try simp only [h1, h2])
    exact ⟨rfl, zS⟩
  · exact zC
  · rfl
  dsimp only [nA, cA]
  apply RGW.on (i := 4) rfl
  · exact zG
  · intro γ u W hcur hd
    obtain ⟨⟨h3, -, -⟩, -⟩ := hd
    dsimp only at h3
    (try simp only [h3])
    exact ⟨rfl, zS⟩
  · exact zC
  · rfl
  dsimp only [nA, cA]
  apply RGW.on (i := 5) rfl
  · exact zG
  · intro γ u W hcur hd
    clear hd
    (try dsimp only)
    exact ⟨rfl, zS⟩
  · exact zC
  · rfl
  dsimp only [nA, cA]
  apply RGW.on (i := 6) rfl
  · exact zG
  · intro γ u W hcur hd
    obtain ⟨⟨h5, -, -⟩, -⟩ := hd
    dsimp only at h5
    (try simp only [h5])
    exact ⟨rfl, zS⟩
  · exact zC
  · rfl
  dsimp only [nA, cA]
  apply RGW.on (i := 7) rfl
  · exact zG
  · intro γ u W hcur hd
    obtain ⟨⟨h6, -, -⟩, -⟩ := hd
    dsimp only at h6
    (try simp only [h6])
    exact ⟨rfl, zS⟩
  · exact zC
  · rfl
  dsimp only [nA, cA]
  apply RGW.call (i := 8) rfl
  · exact zG
  · intro γ u W hcur hd
    obtain ⟨⟨h4, -, -⟩, ⟨h7, -, -⟩, -⟩ := hd
    dsimp only at h4 h7
    (try simp only [h4, h7])
    refine ⟨rfl, fun K hK => ?_⟩
    go_simp
    first
    | (go_at_call 89; (with_reducible refine (hcu.out _ (bl_tr hb0 hcur)).mono ?_); rintro e w3 ⟨rfl, hb3⟩; replace hb3 := bl_tt hb3)
    | (go_at_call 90; (with_reducible refine (hl.out _ (bl_tr hb0 hcur)).mono ?_); rintro e w3 ⟨Ax, cx, rfl, hb3, hox⟩; dsimp only; exact hK.out ⟨0, undef, Ax, cx⟩ _ _ (by simp [up]) hb3 (by simpa [up] using own_mono (bl_tr hb0 hcur).size hox) (by simp))
    (try dsimp only)
    exact hK.out _ _ rfl (by (exact zE))
  · exact zC
  · rfl
  dsimp only [nA, cA]
  apply RGW.gh (⟨fun γ => .slice (γ 9).A L.length (γ 9).c, fun γ W => W.ownsRow w.heap.size 3 1 (.slice (γ 9).A L.length (γ 9).c) L.length (L.map (.int .i64)), fun _ => []⟩) (i := 9) rfl
  · exact zG
  · intro γ u W hcur hd
    obtain ⟨⟨h8, -, -⟩, -⟩ := hd
    dsimp only at h8
    (try simp only [h8])
    refine ⟨rfl, fun K hK => ?_⟩
    go_simp
    first
    | (go_at_call 89; (with_reducible refine (hcu.out _ (bl_tr hb0 hcur)).mono ?_); rintro e w3 ⟨rfl, hb3⟩; replace hb3 := bl_tt hb3)
    | (go_at_call 90; (with_reducible refine (hl.out _ (bl_tr hb0 hcur)).mono ?_); rintro e w3 ⟨Ax, cx, rfl, hb3, hox⟩; dsimp only; exact hK.out ⟨0, undef, Ax, cx⟩ _ _ (by simp [up]) hb3 (by simpa [up] using own_mono (bl_tr hb0 hcur).size hox) (by simp))
  · first
    | exact zC
    | intro γ γ' hg
      try dsimp only
      have e9 := hg 9 (by decide)
      simp only [e9]
      try exact ⟨trivial, fun _ h => h⟩
  · intro γ W W' hbl hR
    first | exact hR.below hbl | exact own_below hR hbl | exact trivial | exact ⟨hR.1.below hbl, hR.2⟩
  · rfl
  dsimp only [nA, cA]
  apply RGW.on (i := 10) rfl
  · exact zG
  · intro γ u W hcur hd
    obtain ⟨⟨h9, r9, -⟩, -⟩ := hd
    dsimp only at h9 r9
    (try simp only [h9])
    exact ⟨rfl, zS⟩
  · first
    | exact zC
    | intro γ γ' hg
      try dsimp only
      have e9 := hg 9 (by decide)
      simp only [e9]
  · rfl
  dsimp only [nA, cA]
  apply RGW.on (i := 11) rfl
  · exact zG
  · intro γ u W hcur hd
    clear hd
    (try dsimp only)
    exact ⟨rfl, zS⟩
  · first
    | exact zC
    | intro γ γ' hg
      try dsimp only
      have e9 := hg 9 (by decide)
      simp only [e9]
  · rfl
  dsimp only [nA, cA]
  refine RGW.fin (fun γ u wd hwd hd hdis => ?_)
  obtain ⟨⟨h0, -, -⟩, ⟨h1, -, -⟩, ⟨h2, -, -⟩, ⟨h3, -, -⟩, ⟨h4, -, -⟩, ⟨h5, -, -⟩, ⟨h6, -, -⟩, ⟨h7, -, -⟩, ⟨h8, -, -⟩, ⟨h9, r9, b9⟩, ⟨h10, -, -⟩, ⟨h11, -, -⟩, -⟩ := hd
  dsimp only at h0 h1 h2 h3 h4 h5 h6 h7 h8 h9 h10 h11 r9 b9
  clear hdis
  simp only [h0, h1, h2, h3, h4, h5, h6, h7, h8, h9, h10, h11]
  clear h11 h10 h9 h8 h7 h6 h5 h4 h3 h2 h1 h0
  clear u
  simp only [List.map_nil]
  refine PlanW.done ?_
  have hb3 := bl_tt hwd
  go_wp2
  go_ret2
  simp only [Hcs.out, HL.out]
  exact ⟨by (exact zE), _, _, rfl, r9⟩
end Go.Proofs.YtbdgblnccjpahaaGreatDoor
namespace Go.Proofs.YtbdgblnccjpahaaGreatDoor
open Go.RowKit Go.Shelf
attribute [local go_sem] bl_al bl_drew bl_drewN bl_refl bx_al bx_drew bx_drewN bx_refl
set_option maxRecDepth 20000
/-- What a string of a net may have of each. -/
def FewS (l : List UInt8) : Prop := ∀ x y z, splitC 47 l = [x, y, z] → Few3 x y z
theorem nt0_in (w : World) : NtOw ⟨[], [], []⟩ none none none 0 0 0 w :=
  ⟨Nat.zero_le _, Nat.zero_le _, Nat.zero_le _, World.ownsRow_nil _ _ _ _, World.ownsRow_nil _ _ _ _, World.ownsRow_nil _ _ _ _, fun s h => (by simp at h), fun s h => (by simp at h), fun s h => (by simp at h)⟩
theorem c_pn (l : List UInt8) (A : Option Addr) (c : Nat) (w : World) (hl : l.length ≤ 50000) (hs : Sl cB 1 w A (splitC 47 l)) (hE : Env w) (hf : FewS l) :
    Calls Tryz.prog 82 #[.slice A (splitC 47 l).length c] w (fun e w' => Below w.heap.size w w' ∧ ∃ (n : Nt) (Ap Af Am : Option Addr) (cp cf cm : Nat) (ok : Bool), NtOw n Ap Af Am cp cf cm w' ∧ pnE l = fstE [unl ok 7, netErr n] ∧ (pnE l = 0 → n.cn = pnC l) ∧
      e = .returned (.tuple #[.agg #[.slice Ap n.ps.length cp, .slice Af n.fs.length cf, .slice Am n.ms.length cm], .bool ok])) := by
  refine (c_parseNet (splitC 47 l) A c w hs hE hf).mono fun e w' ⟨hb, h1, h2⟩ => ⟨hb, ?_⟩
  have hE0 : pnE l = pnE3 (splitC 47 l) := by unfold pnE; rw [if_neg (by omega)]
  by_cases h3 : (splitC 47 l).length = 3
  · obtain ⟨x, y, z, e3⟩ := len3x h3
    obtain ⟨n, Ap, Af, Am, cp, cf, cm, hc, hn, he⟩ := h2 x y z e3
    rw [e3] at hE0
    dsimp only [pnE3] at hE0
    refine ⟨n, Ap, Af, Am, cp, cf, cm, _, hn, ?_, fun _ => ?_, he⟩
    · have h := (ntEq_cn (n := mkNt (ntC x y z)) (m := n)).2 (by rw [hc, mk_cn])
      rw [hE0, h.err]
      cases ntOkS x y z
      · rfl
      · simp [unl, fstE]
    · rw [hc]
      unfold pnC
      rw [e3]
      rfl
  · have hE7 : pnE l = 7 := by
      rw [hE0]
      generalize splitC 47 l = S at h3
      match S, h3 with
      | [], _ => rfl
      | [_], _ => rfl
      | [_, _], _ => rfl
      | [_, _, _], h => exact absurd rfl h
      | _ :: _ :: _ :: _ :: _, _ => rfl
    refine ⟨⟨[], [], []⟩, none, none, none, 0, 0, 0, false, (nt0_in w'), by rw [hE7]; rfl, fun h => (by rw [hE7] at h; cases h), h1 h3⟩
set_option maxHeartbeats 8000000 in
theorem c_ParseNet (l : List UInt8) (w : World) (hl : l.length ≤ 50000) (hf : FewS l) (hE : Env w) :
    Calls Tryz.prog 33 #[.string ⟨l.toArray⟩] w (fun e w' => Below w.heap.size w w' ∧
      (pnE l ≠ 0 → e = .returned (.tuple #[.agg #[.slice none 0 0, .slice none 0 0, .slice none 0 0], .int .i64 (pnE l)])) ∧
      (pnE l = 0 → ∃ (n : Nt) (Ap Af Am : Option Addr) (cp cf cm : Nat), n.cn = pnC l ∧ NtOw n Ap Af Am cp cf cm w' ∧ e = .returned (.tuple #[.agg #[.slice Ap n.ps.length cp, .slice Af n.fs.length cf, .slice Am n.ms.length cm], .int .i64 0]))) := by
  have hsp := Lib.hid fun W => c_SplitB l 47 W (by omega)
  have hpn := Lib.hid fun A c W hs (hb : Below w.heap.size w W) => c_pn l A c W hl hs (hE.below hb) hf
  clear hE hf
  generalize pnE l = E at *
  generalize pnC l = C at *
  generalize splitC 47 l = S at *
  have hl6 : ¬ (60000 : Int) < l.length := by omega
  go_enter Tryz.func33, Tryz.ntmps33
  go_upto_region 3 with fail
  clear hl6
  have kR := Blk.new w 58 #[.slice none 0 0, .slice none 0 0, .slice none 0 0]
  have hb0 := bl_al (.cells #[.slice none 0 0, .slice none 0 0, .slice none 0 0] 58) (bl_refl w)
  generalize w.alloc (.cells #[.slice none 0 0, .slice none 0 0, .slice none 0 0] 58) = wA at *
  go_wp2_with fail
  refine (hsp.out _).mono ?_
  rintro e w1 ⟨A1, c1, rfl, hb1, ho1⟩
  have hsl : Sl cB 1 w1 A1 S := own_slC (cs := cB) (fun _ => rfl) (by decide) ho1
  replace hb0 := bl_tr hb0 hb1
  replace kR := kR.below hb1
  clear hb1 ho1 hsp
  go_wp2_with fail
  refine (hpn.out A1 c1 w1 hsl hb0).mono ?_
  rintro e w2 ⟨hb2, n, Ap, Af, Am, cp, cf, cm, ok, hn, hEq, hcn, rfl⟩
  replace hb0 := bl_tr hb0 hb2
  replace kR := kR.below hb2
  clear hb2 hsl hpn
  replace hEq := Lib.hid hEq
  replace hcn := Lib.hid hcn
  replace hn := Lib.hid hn
  have hnerr := Lib.hid fun W (hb : Below w2.heap.size w2 W) => c_netErr n Ap Af Am cp cf cm W (hn.out.below hb).net
  obtain ⟨np, Hp⟩ : ∃ k, Hid (n.ps.length = k) := ⟨_, rfl⟩
  obtain ⟨nf, Hf⟩ : ∃ k, Hid (n.fs.length = k) := ⟨_, rfl⟩
  obtain ⟨nm, Hm⟩ : ∃ k, Hid (n.ms.length = k) := ⟨_, rfl⟩
  obtain ⟨ne, Hne⟩ : ∃ k, Hid (netErr n = k) := ⟨_, rfl⟩
  rw [Hp.out, Hf.out, Hm.out, Hne.out] at hnerr
  rw [Hp.out, Hf.out, Hm.out]
  rw [Hne.out] at hEq
  go_upto_region 4 with fail
  have kN := Blk.new w2 58 #[.slice Ap np cp, .slice Af nf cf, .slice Am nm cm]
  have hbA := bl_al (.cells #[.slice Ap np cp, .slice Af nf cf, .slice Am nm cm] 58) (bl_refl w2)
  replace hn := Lib.hid (hn.out.below hbA)
  have hnerr' := Lib.hid fun W (hb : Below (w2.alloc (.cells #[.slice Ap np cp, .slice Af nf cf, .slice Am nm cm] 58)).heap.size (w2.alloc (.cells #[.slice Ap np cp, .slice Af nf cf, .slice Am nm cm] 58)) W) => hnerr.out W (bl_tr hbA hb)
  clear hnerr
  replace hb0 := bl_tr hb0 hbA
  replace kR := kR.below hbA
  generalize hgN : w2.heap.size = gN at *
  generalize w2.alloc (.cells #[.slice Ap np cp, .slice Af nf cf, .slice Am nm cm] 58) = w3 at *
  clear hbA
  have LN := kN.later
  refine wp_any (w0 := w3) ⟨[], [], [some 17, some 18, some 19, some 20, some 21, some 22, some 6], [[], [0], [], [0, 1, 2], [0, 1, 2, 3], [0, 1, 2, 3, 4], [0, 1, 2, 3, 4, 5]], [[], [0], [], [2], [1, 3], [4], [4, 5]]⟩ (fun _ => []) (by kernel_rfl) (by kernel_rfl) (by (exact zE)) (fun u => by simp only [putD, Act.put, List.setIfInBounds_toArray, List.set_cons_zero, List.set_cons_succ, Nat.zero_add, Nat.reduceAdd]; rfl) ?_
  apply RGW.on (i := 0) rfl
  · exact zG
  · intro γ u W hcur hd
    clear hd
    (try dsimp only)
    exact ⟨rfl, zS⟩
  · exact zC
  · rfl
  dsimp only [nA, cA]
  apply RGW.call (i := 1) rfl
  · exact zG
  · intro γ u W hcur hd
    obtain ⟨⟨h0, -, -⟩, -⟩ := hd
    dsimp only at h0
    (try simp only [h0])
    refine ⟨rfl, fun K hK => ?_⟩
    go_simp
    first
    | (go_at_call 58; (with_reducible refine (c_unless _ _ _).mono ?_); rintro e w3 ⟨rfl, rfl⟩)
    | (go_at_call 74; (with_reducible refine (c_first2 (by (exact zK))).mono ?_); rintro e w3 ⟨rfl, rfl⟩)
    | (go_at_call 84; (with_reducible refine (hnerr'.out _ (by (exact zE))).mono ?_); rintro e w3 ⟨rfl, hb3⟩; replace hb3 := bl_tt hb3)
    (try dsimp only)
    exact hK.out _ _ rfl (by (exact zE))
  · exact zC
  · rfl
  dsimp only [nA, cA]
  apply RGW.on (i := 2) rfl
  · exact zG
  · intro γ u W hcur hd
    clear hd
    (try dsimp only)
    exact ⟨rfl, zS⟩
  · exact zC
  · rfl
  dsimp only [nA, cA]
  apply RGW.call (i := 3) rfl
  · exact zG
  · intro γ u W hcur hd
    obtain ⟨⟨h2, -, -⟩, -⟩ := hd
    dsimp only at h2
    (try simp only [h2])
    refine ⟨rfl, fun K hK => ?_⟩
    go_simp
    first
    | (go_at_call 58; (with_reducible refine (c_unless _ _ _).mono ?_); rintro e w3 ⟨rfl, rfl⟩)
    | (go_at_call 74; (with_reducible refine (c_first2 (by (exact zK))).mono ?_); rintro e w3 ⟨rfl, rfl⟩)
    | (go_at_call 84; (with_reducible refine (hnerr'.out _ (by (exact zE))).mono ?_); rintro e w3 ⟨rfl, hb3⟩; replace hb3 := bl_tt hb3)
    (try dsimp only)
    exact hK.out _ _ rfl (by (exact zE))
  · exact zC
  · rfl
  dsimp only [nA, cA]
  apply RGW.bslice (i := 4) rfl
  · exact zG
  · intro γ u W hcur hd
    obtain ⟨⟨h1, -, -⟩, ⟨h3, -, -⟩, -⟩ := hd
    dsimp only at h1 h3
    (try simp only [h1, h3])
    refine ⟨rfl, fun K hK => ?_⟩
    go_simp
    exact hK.out _ _ rfl rfl
  · exact zC
  · rfl
  · rfl
  dsimp only [nA, cA]
  apply RGW.call (i := 5) rfl
  · exact zG
  · intro γ u W hcur hd
    obtain ⟨⟨h4, r4, -⟩, -⟩ := hd
    dsimp only at h4 r4
    have L4 := r4.cell
    (try simp only [h4])
    refine ⟨rfl, fun K hK => ?_⟩
    go_simp
    first
    | (go_at_call 58; (with_reducible refine (c_unless _ _ _).mono ?_); rintro e w3 ⟨rfl, rfl⟩)
    | (go_at_call 74; (with_reducible refine (c_first2 (by (exact zK))).mono ?_); rintro e w3 ⟨rfl, rfl⟩)
    | (go_at_call 84; (with_reducible refine (hnerr'.out _ (by (exact zE))).mono ?_); rintro e w3 ⟨rfl, hb3⟩; replace hb3 := bl_tt hb3)
    (try dsimp only)
    exact hK.out _ _ rfl (by (exact zE))
  · first
    | exact zC
    | intro γ γ' hg
      try dsimp only
      have e4 := hg 4 (by decide)
      simp only [e4]
  · rfl
  dsimp only [nA, cA]
  apply RGW.on (i := 6) rfl
  · exact zG
  · intro γ u W hcur hd
    obtain ⟨⟨h4, r4, -⟩, ⟨h5, -, -⟩, -⟩ := hd
    dsimp only at h4 h5 r4
    have L4 := r4.cell
    (try simp only [h4, h5])
    exact ⟨rfl, zS⟩
  · first
    | exact zC
    | intro γ γ' hg
      try dsimp only
      have e4 := hg 4 (by decide)
      simp only [e4]
  · rfl
  dsimp only [nA, cA]
  refine RGW.fin (fun γ u wd hwd hd hdis => ?_)
  obtain ⟨⟨h0, -, -⟩, ⟨h1, -, -⟩, ⟨h2, -, -⟩, ⟨h3, -, -⟩, ⟨h4, r4, b4⟩, ⟨h5, -, -⟩, ⟨h6, -, -⟩, -⟩ := hd
  dsimp only at h0 h1 h2 h3 h4 h5 h6 r4 b4
  clear hdis
  simp only [h0, h1, h2, h3, h4, h5, h6]
  clear h6 h5 h4 h3 h2 h1 h0
  replace b4 := b4 _ (List.mem_singleton.2 rfl)
  generalize hγ4 : (γ 4).n = g4 at *
  clear hγ4
  clear u
  simp only [List.map_nil]
  refine PlanW.done ?_
  have hb3 := bl_tt hwd
  rw [← hEq.out]
  replace kR := kR.below hwd
  replace kN := kN.below hwd
  replace hn := Lib.hid (hn.out.below hwd)
  replace hb0 := bl_tr hb0 hwd
  clear hnerr' LN hb3
  have LN := kN.cell
  have LR := kR.cell
  have FR := kR.frozen
  by_cases h0 : E = 0
  · have h0' : (E != 0) = false := by simp [h0]
    replace h0 := Lib.hid h0
    go_wp2
    have kRz : Blk (((wd.setCell ⟨w.heap.size, 0, none⟩ (.slice Ap np cp)).setCell ⟨w.heap.size, 1, none⟩ (.slice Af nf cf)).setCell ⟨w.heap.size, 2, none⟩ (.slice Am nm cm)) w.heap.size 58 #[.slice Ap np cp, .slice Af nf cf, .slice Am nm cm] := ((kR.set 0 (.slice Ap np cp)).set 1 (.slice Af nf cf)).set 2 (.slice Am nm cm)
    have hS : BX [w.heap.size] wd (((wd.setCell ⟨w.heap.size, 0, none⟩ (.slice Ap np cp)).setCell ⟨w.heap.size, 1, none⟩ (.slice Af nf cf)).setCell ⟨w.heap.size, 2, none⟩ (.slice Am nm cm)) := bx_set (.inl (by simp)) _ (bx_set (.inl (by simp)) _ (bx_set (.inl (by simp)) _ (bx_refl _ _)))
    generalize ((wd.setCell ⟨w.heap.size, 0, none⟩ (.slice Ap np cp)).setCell ⟨w.heap.size, 1, none⟩ (.slice Af nf cf)).setCell ⟨w.heap.size, 2, none⟩ (.slice Am nm cm) = Wz at *
    have r0 := kRz.cell 0
    have r1 := kRz.cell 1
    have r2 := kRz.cell 2
    refine bodyPost_ret (v := .tuple #[.agg #[.slice Ap np cp, .slice Af nf cf, .slice Am nm cm], .int .i64 0]) (by simp [results, Tryz.results33, go_sem, r0, r1, r2]) rfl ⟨bx_below hb0 hS (by simp), fun h => absurd h0.out h, fun _ => ⟨n, Ap, Af, Am, cp, cf, cm, hcn.out h0.out, ?_, ?_⟩⟩
    · refine hn.out.keep hS fun e he => noT_blk kR (by rcases he with rfl | rfl | rfl | rfl | rfl <;> decide) (noT_nil _ _)
    · rw [Hp.out, Hf.out, Hm.out]
  · have h0' : (E != 0) = true := by simp [h0]
    replace h0 := Lib.hid h0
    go_wp2
    have kRz : Blk (((wd.setCell ⟨w.heap.size, 0, none⟩ (.slice none 0 0)).setCell ⟨w.heap.size, 1, none⟩ (.slice none 0 0)).setCell ⟨w.heap.size, 2, none⟩ (.slice none 0 0)) w.heap.size 58 #[.slice none 0 0, .slice none 0 0, .slice none 0 0] := ((kR.set 0 (.slice none 0 0)).set 1 (.slice none 0 0)).set 2 (.slice none 0 0)
    have hS : BX [w.heap.size] wd (((wd.setCell ⟨w.heap.size, 0, none⟩ (.slice none 0 0)).setCell ⟨w.heap.size, 1, none⟩ (.slice none 0 0)).setCell ⟨w.heap.size, 2, none⟩ (.slice none 0 0)) := bx_set (.inl (by simp)) _ (bx_set (.inl (by simp)) _ (bx_set (.inl (by simp)) _ (bx_refl _ _)))
    generalize ((wd.setCell ⟨w.heap.size, 0, none⟩ (.slice none 0 0)).setCell ⟨w.heap.size, 1, none⟩ (.slice none 0 0)).setCell ⟨w.heap.size, 2, none⟩ (.slice none 0 0) = Wz at *
    have r0 := kRz.cell 0
    have r1 := kRz.cell 1
    have r2 := kRz.cell 2
    refine bodyPost_ret (v := .tuple #[.agg #[.slice none 0 0, .slice none 0 0, .slice none 0 0], .int .i64 E]) (by simp [results, Tryz.results33, go_sem, r0, r1, r2]) rfl ⟨bx_below hb0 hS (by simp), fun _ => rfl, fun h => absurd h h0.out⟩
end Go.Proofs.YtbdgblnccjpahaaGreatDoor
namespace Go.Proofs.YtbdgblnccjpahaaGreatDoor
open Go.RowKit Go.Shelf
attribute [local go_sem] bl_al bl_drew bl_drewN bl_refl bx_al bx_drew bx_drewN bx_refl
set_option maxRecDepth 20000
/-- What a net's strings ask: that names are short and numbers are numbers of the machine. -/
structure NtFit (n : Nt) : Prop where
  ps : ∀ s ∈ n.ps, s.size ≤ 1000
  fs : ∀ f ∈ n.fs, f.name.size ≤ 1000 ∧ ∀ r ∈ f.ws, ∀ v ∈ r.l, Fits v
  ms : ∀ m ∈ n.ms, m.name.size ≤ 1000 ∧ ∀ v ∈ m.r.l, Fits v
theorem own_lt' {W : World} {b n size : Nat} {e : TypeId} {v : Value} {xs : List Value} (h : W.ownsRow b e size v n xs) : ∀ g, v.ownBlock = some g → g < W.heap.size := fun g hg => by
  rcases h.2 with ⟨e, _⟩ | ⟨k, _, cur, e, e2, e3, _⟩
  · rw [e] at hg; simp [Value.ownBlock] at hg
  · rw [e] at hg
    obtain rfl : k = g := by simpa [Value.ownBlock] using hg
    exact (Array.getElem?_eq_some_iff.1 e3).1
theorem fmtWay_len (l : List Int) (hl : l.length ≤ 1000) (hf : ∀ v ∈ l, Fits v) : (fmtWay l).length ≤ 22000 := by
  have := join_len (itoas l) [43] 21 (fun x hx => by
    obtain ⟨n, hn, rfl⟩ := List.mem_map.1 hx
    exact Lib.itoa_length_le n (hf n hn).1 (hf n hn).2)
  simp [itoas] at this
  unfold fmtWay itoas
  omega
theorem fmtFu_len (f : Fu) (hn : f.name.size ≤ 1000) (hl : f.ws.length ≤ 1000) (hw : ∀ r ∈ f.ws, r.l.length ≤ 1000) (hf : ∀ r ∈ f.ws, ∀ v ∈ r.l, Fits v) : (fmtFu f.con).length ≤ 22003000 ∧ (Lib.join ((f.ws.map fun r : Rw => r.l).map fmtWay) [44]).length ≤ 22001000 := by
  have := join_len ((f.ws.map fun r : Rw => r.l).map fmtWay) [44] 22000 (fun x hx => by
    obtain ⟨l, hl, rfl⟩ := List.mem_map.1 hx
    obtain ⟨r, hr, rfl⟩ := List.mem_map.1 hl
    exact fmtWay_len r.l (hw r hr) (hf r hr))
  have hz : f.name.data.toList.length = f.name.size := rfl
  rw [List.length_map, List.length_map] at this
  simp only [List.length_singleton] at this
  constructor
  · unfold fmtFu Fu.con
    dsimp only
    rw [List.length_append, List.length_append, hz, List.length_singleton]
    omega
  · omega
set_option maxHeartbeats 8000000 in
theorem c_FormatNet (n : Nt) (Ap Af Am : Option Addr) (cp cf cm : Nat) (w : World) (hn : NtIn n Ap Af Am cp cf cm w) (hft : NtFit n) (hE : Env w) :
    Calls Tryz.prog 34 #[vNt Ap Af Am n.ps.length n.fs.length n.ms.length cp cf cm] w (Ret (.string ⟨(fmtNt n.cn).toArray⟩) w) := by
  obtain ⟨i0, hi, hz0, hz1, hz2⟩ := info_parts infoStr
  have Hn := Lib.hid hn
  have HE := Lib.hid fun W (hb : Below w.heap.size w W) => hE.below hb
  have hpl := hn.plen
  have hfl := hn.flen
  have hml := hn.mlen
  -- what is joined
  have hjw := Lib.hid fun (r : Rw) (h : (∃ f ∈ n.fs, r ∈ f.ws) ∨ ∃ m ∈ n.ms, r = m.r) (A' : Option Addr) c' W (hs : Sl cI 1 W A' r.l) (hW : Env W) => c_joined r.l 43 A' c' W hs (by
    rcases h with ⟨f, hf, hr⟩ | ⟨m, hm, rfl⟩
    · exact ((hn.fin f hf).rows r hr).len
    · exact (hn.min m hm).row.len) (by
    rcases h with ⟨f, hf, hr⟩ | ⟨m, hm, rfl⟩
    · exact (hft.fs f hf).2 r hr
    · exact (hft.ms m hm).2) hW
  have hflen := Lib.hid fun (f : Fu) (hf : f ∈ n.fs) => fmtFu_len f (hft.fs f hf).1 (hn.fin f hf).len (fun r hr => ((hn.fin f hf).rows r hr).len) (hft.fs f hf).2
  have hmlen := Lib.hid fun (m : Md) (hm : m ∈ n.ms) => fmtWay_len m.r.l (hn.min m hm).row.len (hft.ms m hm).2
  have hfname := Lib.hid fun (f : Fu) (hf : f ∈ n.fs) => (hft.fs f hf).1
  have hmname := Lib.hid fun (f : Md) (hf : f ∈ n.ms) => (hft.ms f hf).1
  have hJf := Lib.hid fun (f : Fu) (hf : f ∈ n.fs) A' c' W h hc => c_JoinB ((f.ws.map fun r : Rw => r.l).map fmtWay) [44] A' c' W h hc (by have := (hn.fin f hf).len; rw [List.length_map, List.length_map]; omega) (by have := (hflen.out f hf).2; omega)
  have hjl1 : (Lib.join (n.ps.map fun p => p.data.toList) [44]).length ≤ 1001000 := by
    have := join_len (n.ps.map fun p => p.data.toList) [44] 1000 (fun x hx => by
      obtain ⟨p, hp, rfl⟩ := List.mem_map.1 hx
      exact hft.ps p hp)
    rw [List.length_map] at this
    simp only [List.length_singleton] at this
    omega
  have hjl2 : (Lib.join (n.cn.fs.map fmtFu) [59]).length ≤ 22003001000 := by
    have := join_len (n.cn.fs.map fmtFu) [59] 22003000 (fun x hx => by
      obtain ⟨c, hc, rfl⟩ := List.mem_map.1 hx
      obtain ⟨f, hf, rfl⟩ := List.mem_map.1 hc
      exact (hflen.out f hf).1)
    have e : n.cn.fs.length = n.fs.length := List.length_map _
    rw [List.length_map, e] at this
    simp only [List.length_singleton] at this
    omega
  have hjl3 : (Lib.join (n.cn.ms.map fmtMd) [59]).length ≤ 24002000 := by
    have := join_len (n.cn.ms.map fmtMd) [59] 24001 (fun x hx => by
      obtain ⟨c, hc, rfl⟩ := List.mem_map.1 hx
      obtain ⟨f, hf, rfl⟩ := List.mem_map.1 hc
      have h1 := hmlen.out f hf
      have h2 := hmname.out f hf
      have hz : f.name.data.toList.length = f.name.size := rfl
      unfold fmtMd Md.con
      dsimp only
      rw [List.length_append, List.length_append, hz, List.length_singleton]
      omega)
    have e : n.cn.ms.length = n.ms.length := List.length_map _
    rw [List.length_map, e] at this
    simp only [List.length_singleton] at this
    omega
  have hJ1 := Lib.hid fun A' c' W h hc => c_JoinB (n.ps.map fun p => p.data.toList) [44] A' c' W h hc (by rw [List.length_map]; omega) (by omega)
  have hJ2 := Lib.hid fun A' c' W h hc => c_JoinB (n.cn.fs.map fmtFu) [59] A' c' W h hc (by rw [List.length_map]; show (n.fs.map Fu.con).length ≤ _; rw [List.length_map]; omega) (by omega)
  have hJ3 := Lib.hid fun A' c' W h hc => c_JoinB (n.cn.ms.map fmtMd) [59] A' c' W h hc (by rw [List.length_map]; show (n.ms.map Md.con).length ≤ _; rw [List.length_map]; omega) (by omega)
  have hAll : Hid (fmtNt n.cn = Lib.join (n.ps.map fun p => p.data.toList) [44] ++ [47] ++ Lib.join (n.cn.fs.map fmtFu) [59] ++ [47] ++ Lib.join (n.cn.ms.map fmtMd) [59]) := rfl
  clear hn hft hE
  generalize fmtNt n.cn = OUT at *
  change Calls Tryz.prog 34 #[.agg #[.slice Ap n.ps.length cp, .slice Af n.fs.length cf, .slice Am n.ms.length cm]] w _
  obtain ⟨np, Hp⟩ : ∃ k, Hid (n.ps.length = k) := ⟨_, rfl⟩
  obtain ⟨nf, Hf⟩ : ∃ k, Hid (n.fs.length = k) := ⟨_, rfl⟩
  obtain ⟨nm, Hm⟩ : ∃ k, Hid (n.ms.length = k) := ⟨_, rfl⟩
  rw [Hp.out] at hpl ⊢
  rw [Hf.out] at hfl ⊢
  rw [Hm.out] at hml ⊢
  go_enter Tryz.func34, Tryz.ntmps34
  go_upto_region 2 with fail
  first
  | apply absB1 (w0 := w) (g0 := w.heap.size)
  | apply absTB1 (w0 := w) (g0 := w.heap.size)
  | apply absIB1 (w0 := w) (g0 := w.heap.size)
  iterate 2 (focus exact zL)
  try clear hb3
  try clear hb0
  try clear k0
  intro wa hb0 k0
  (try simp only [List.setIfInBounds_toArray, List.set_cons_zero, List.set_cons_succ] at k0)
  have L0 := k0.cell
  go_wp2
  go_loopw [3, 15] (fun v i wr => ∃ k : Nat, k ≤ nf ∧ i = .int .i64 k ∧ Below w.heap.size w wr ∧ Blk wr w.heap.size 58 #[.slice Ap np cp, .slice Af nf cf, .slice Am nm cm] ∧ wr.ownsRow (w.heap.size + 1) 9 1 v k (((n.fs.take k).map fun f : Fu => fmtFu f.con).flatMap cB)) (fun _ i _ => nf - (intOf i).toNat)
  case atStart => exact ⟨0, Nat.zero_le _, rfl, hb0, k0, World.ownsRow_nil _ _ _ _⟩
  case round =>
    clear hb0 k0 L0
    obtain ⟨k, hk, rfl, hb0, k0, ho⟩ := hrel
    obtain ⟨vA, vc, rfl⟩ := own_slice ho
    replace ho := Lib.hid ho
    have L0 := k0.cell
    generalize wr = wo at *
    by_cases hkn : k < nf
    · have hx : n.fs[k]? = some (n.fs[k]'(by rw [Hf.out]; exact hkn)) := List.getElem?_eq_getElem _
      generalize n.fs[k]'(by rw [Hf.out]; exact hkn) = f at hx
      have hm := List.mem_of_getElem? hx
      have hgn := Lib.hid (show (n.fs.take (k + 1)).map (fun f : Fu => fmtFu f.con) = (n.fs.take k).map (fun f : Fu => fmtFu f.con) ++ [fmtFu f.con] by rw [List.take_add_one, hx]; simp)
      have hff := Lib.hid (Hn.out.fin f hm)
      have hJx := Lib.hid (hJf.out f hm)
      have hlx := Lib.hid (hflen.out f hm)
      have hnx := hfname.out f hm
      have hwl := (Hn.out.fin f hm).len
      have hjx := Lib.hid fun (r : Rw) (hr : r ∈ f.ws) => hjw.out r (.inl ⟨f, hm, hr⟩)
      obtain ⟨b, off, rfl, hc⟩ := Hn.out.fsl k f hx
      have c0 : wo.cell? ⟨b, off + k * 2, none⟩ = some (.string f.name) := by simpa using kcell hb0 (hc 0 _ rfl)
      have c1 := kcell hb0 (hc 1 _ rfl)
      have hkn2 : (k : Int) < nf := by omega
      clear hc hx
      obtain ⟨fname, fA, fc, ws⟩ := f
      dsimp only at *
      obtain ⟨fw, Hfw⟩ : ∃ k, Hid (ws.length = k) := ⟨_, rfl⟩
      rw [Hfw.out] at c1 hwl
      go_upto_region 5 with fail
      have kF := Blk.new wo 144 #[.string fname, .slice fA fw fc]
      have hbA := bl_al (.cells #[.string fname, .slice fA fw fc] 144) (bl_refl wo)
      replace hb0 := bl_tr hb0 hbA
      replace k0 := k0.below hbA
      replace ho := Lib.hid (own_below ho.out hbA)
      generalize hbF : wo.heap.size = bF at *
      generalize wo.alloc (.cells #[.string fname, .slice fA fw fc] 144) = wB at *
      clear hbA L0 c0 c1
      have LF := kF.cell
      go_wp2
      go_loopw [7, 22] (fun v i wr => ∃ j : Nat, j ≤ fw ∧ i = .int .i64 j ∧ Below wB.heap.size wB wr ∧ wr.ownsRow wB.heap.size 9 1 v j (((ws.take j).map fun r : Rw => fmtWay r.l).flatMap cB)) (fun _ i _ => fw - (intOf i).toNat)
      case atStart => exact ⟨0, Nat.zero_le _, rfl, bl_refl _, World.ownsRow_nil _ _ _ _⟩
      case round =>
        obtain ⟨j, hj, rfl, hbq, hq⟩ := hrel
        obtain ⟨qA, qc, rfl⟩ := own_slice hq
        replace hq := Lib.hid hq
        by_cases hjn : j < fw
        · have hx : ws[j]? = some (ws[j]'(by rw [Hfw.out]; exact hjn)) := List.getElem?_eq_getElem _
          generalize ws[j]'(by rw [Hfw.out]; exact hjn) = r at hx
          have hr := List.mem_of_getElem? hx
          have hgr := Lib.hid (show (ws.take (j + 1)).map (fun r : Rw => fmtWay r.l) = (ws.take j).map (fun r : Rw => fmtWay r.l) ++ [fmtWay r.l] by rw [List.take_add_one, hx]; simp)
          have hbr := bl_tr hb0 hbq
          have hjr := Lib.hid fun W h => hjx.out r hr r.A r.c W h
          have hrs := Lib.hid ((hff.out.rows r hr).sl.below hbr)
          have hrE := HE.out wr hbr
          obtain ⟨b2, off2, e2, hc⟩ := hff.out.sl j r hx
          dsimp only at e2
          subst e2
          have c0 : wr.cell? ⟨b2, off2 + j, none⟩ = some (.slice r.A r.l.length r.c) := by simpa using kcell hbr (hc 0 _ rfl)
          have hjn2 : (j : Int) < fw := by omega
          have hJr := Lib.hid (hjr.out wr hrs.out hrE)
          obtain ⟨FW, HFW⟩ : ∃ z, Hid (fmtWay r.l = z) := ⟨_, rfl⟩
          have hJr2 : Hid (Calls Tryz.prog 62 #[.slice r.A r.l.length r.c, .string ⟨#[43]⟩] wr (Ret (.string ⟨FW.toArray⟩) wr)) := by rw [← HFW.out]; exact hJr
          rw [HFW.out] at hgr
          generalize r.l.length = rl at *
          clear hc hx hjr hJr hrE
          go_wp2_with fail
          refine hJr2.out.mono ?_
          rintro e w1 ⟨rfl, hb1⟩
          replace hbq := bl_tr hbq hb1
          replace hq := Lib.hid (own_below hq.out hb1)
          clear hb1 c0 hJr2 hbr
          have hszA := hbq.size
          have hoA := Lib.hid (own_below hq.out (bl_al (.cells #[.string ⟨FW.toArray⟩] 9) (bl_refl w1)))
          go_wp2_with (at_builtin; refine wpList_append_own2 rfl _ _ 54 rfl wB.heap.size 9 i0 (.string ByteArray.empty) 1 16 Tryz.underlying54 hi hz0 hz1 hz2 rfl (by decide) _ _ _ rfl hoA.out ⟨_, 0, none⟩ 1 1 (cB FW) rfl rfl ?c1 ?c2 ?c3 ?c4 ?c5 ?_)
          try case c1 =>
            intro q u hq
            match q, hq with
            | 0, hq => simp [cB] at hq; subst hq; simp [Addr.add]
            | q + 1, hq => simp [cB] at hq
          case c2 => first | (intro u hu; simp [cB] at hu; subst hu; rfl) | rfl
          case c3 => unfold maxLen; omega
          case c4 => omega
          case c5 => first | omega | (simp; omega)
          intro v9 w9 hown hg2 hd2
          have hb9 := (bl_al (.cells #[.string ⟨FW.toArray⟩] 9) hbq).grown hg2 (by simp; omega) (own_ge hoA.out)
          have hown9 := Lib.hid (show w9.ownsRow wB.heap.size 9 1 v9 (j + 1) (((ws.take (j + 1)).map fun r : Rw => fmtWay r.l).flatMap cB) by rw [hgr.out, List.flatMap_append]; simpa using hown)
          clear hg2 hd2 hown hoA
          go_wp2
          go_roundw
          case rel => exact ⟨j + 1, by omega, by go_num, hb9, hown9.out⟩
          case measure => simp [intOf]; omega
        · obtain rfl : fw = j := by omega
          have hfull : ((ws.take fw).map fun r : Rw => fmtWay r.l) = (ws.map fun r : Rw => r.l).map fmtWay := by rw [← Hfw.out, List.take_length, List.map_map]; rfl
          rw [hfull] at hq
          have hqs : Sl cB 1 wr qA ((ws.map fun r : Rw => r.l).map fmtWay) := own_slC (cs := cB) (fun _ => rfl) (by decide) (by rw [List.length_map, List.length_map, Hfw.out]; exact hq.out)
          have hJq := Lib.hid (hJx.out qA qc)
          have hql : ((ws.map fun r : Rw => r.l).map fmtWay).length = fw := by rw [List.length_map, List.length_map, Hfw.out]
          rw [hql] at hJq
          have hcap := own_cap hq.out
          obtain ⟨JJ, HJJ⟩ : ∃ z, Hid (Lib.join ((ws.map fun r : Rw => r.l).map fmtWay) [44] = z) := ⟨_, rfl⟩
          have hfmt : Hid (fmtFu (Fu.con ⟨fname, fA, fc, ws⟩) = fname.data.toList ++ [61] ++ JJ) := by rw [← HJJ.out]; rfl
          rw [HJJ.out] at hJq hlx
          have hlq := hlx.out.2
          rw [hfmt.out] at hgn
          replace hb0 := bl_tr hb0 hbq
          replace k0 := k0.below hbq
          replace kF := kF.below hbq
          replace ho := Lib.hid (own_below ho.out hbq)
          have hJq2 : Hid (∀ W, Below wr.heap.size wr W → Calls Tryz.prog 63 #[.slice qA fw qc, .string ⟨#[44]⟩] W (Ret (.string ⟨JJ.toArray⟩) W)) := fun W hW => hJq.out W (hqs.below hW) hcap
          have hszB := hb0.size
          have hDx : w.heap.size + 1 ≤ wr.heap.size := by have := k0.lt; omega
          have LF' := kF.later
          have hs1 : ¬ 9223372036854775807 < fname.size + 1 := by omega
          have hs2 : ¬ 9223372036854775807 < fname.size + 1 + JJ.length := by omega
          clear hJq hqs hbq LF hql hfull hjn hJx hlx
          generalize wr = w5 at *
          go_upto_region 11 with fail
          refine wp_any (w0 := w5) ⟨[8, 9], [], [some 32, some 33, some 34, some 35, some 36, some 37, some 38, some 39, none, none], [[], [], [1], [1, 2], [], [4], [1, 2, 3, 4, 5], [1, 2, 3, 4, 5, 6], [0, 1, 2, 3, 4, 5, 6, 7], [0, 1, 2, 3, 4, 5, 6, 7, 8]], [[], [], [1], [2], [], [4], [3, 5], [6], [], []]⟩ (fun _ => ownL (.slice vA k vc)) (by kernel_rfl) (by kernel_rfl) (by (exact zE)) (fun u => by simp only [putD, Act.put, List.setIfInBounds_toArray, List.set_cons_zero, List.set_cons_succ, Nat.zero_add, Nat.reduceAdd]; rfl) ?_
          apply RGW.on (i := 0) rfl
          · exact zG
          · intro γ u W hcur hd
            clear hd
            (try dsimp only)
            exact ⟨rfl, zS⟩
          · exact zC
          · rfl
          dsimp only [nA, cA]
          apply RGW.on (i := 1) rfl
          · exact zG
          · intro γ u W hcur hd
            clear hd
            (try dsimp only)
            exact ⟨rfl, zS⟩
          · exact zC
          · rfl
          dsimp only [nA, cA]
          apply RGW.on (i := 2) rfl
          · exact zG
          · intro γ u W hcur hd
            obtain ⟨⟨h1, -, -⟩, -⟩ := hd
            dsimp only at h1
            (try simp only [h1])
            exact ⟨rfl, zS⟩
          · exact zC
          · rfl
          dsimp only [nA, cA]
          apply RGW.on (i := 3) rfl
          · exact zG
          · intro γ u W hcur hd
            obtain ⟨⟨h2, -, -⟩, -⟩ := hd
            dsimp only at h2
            (try simp only [h2])
            exact ⟨rfl, zS⟩
          · exact zC
          · rfl
          dsimp only [nA, cA]
          apply RGW.on (i := 4) rfl
          · exact zG
          · intro γ u W hcur hd
            clear hd
            (try dsimp only)
            exact ⟨rfl, zS⟩
          · exact zC
          · rfl
          dsimp only [nA, cA]
          apply RGW.call (i := 5) rfl
          · exact zG
          · intro γ u W hcur hd
            obtain ⟨⟨h4, -, -⟩, -⟩ := hd
            dsimp only at h4
            (try simp only [h4])
            refine ⟨rfl, fun K hK => ?_⟩
            go_simp
            first
            | (go_at_call 63; (with_reducible refine (hJq2.out _ hcur).mono ?_); rintro e w3 ⟨rfl, hb3⟩; replace hb3 := bl_tt hb3)
            | (refine wp_appT _ _ rfl Tryz.underlying54 hi hz0 hz1 hz2 rfl (by decide) (.slice vA k vc) k _ _ rfl rfl (own_below ho.out hwd) r7 rfl (by simp [Value.oneCell']) (by unfold maxLen; omega) (by omega) (Nat.le_trans hDx hwd.size) ?_; intro v' w' hown' hbx' hnew'; refine hK.out _ _ hbx' (fun hcur => ?_))
            (try dsimp only)
            exact hK.out _ _ rfl (by (exact zE))
          · exact zC
          · rfl
          dsimp only [nA, cA]
          apply RGW.on (i := 6) rfl
          · exact zG
          · intro γ u W hcur hd
            obtain ⟨⟨h3, -, -⟩, ⟨h5, -, -⟩, -⟩ := hd
            dsimp only at h3 h5
            (try simp only [h3, h5])
            exact ⟨rfl, zS⟩
          · exact zC
          · rfl
          dsimp only [nA, cA]
          apply RGW.bslice (i := 7) rfl
          · exact zG
          · intro γ u W hcur hd
            obtain ⟨⟨h6, -, -⟩, -⟩ := hd
            dsimp only at h6
            (try simp only [h6])
            refine ⟨rfl, fun K hK => ?_⟩
            go_simp
            exact hK.out _ _ rfl rfl
          · exact zC
          · rfl
          · rfl
          dsimp only [nA, cA]
          refine RGW.skip (i := 8) rfl rfl ?_
          dsimp only [nA, cA]
          refine RGW.skip (i := 9) rfl rfl ?_
          dsimp only [nA, cA]
          refine RGW.fin (fun γ u wd hwd hd hdis => ?_)
          obtain ⟨⟨h0, -, -⟩, ⟨h1, -, -⟩, ⟨h2, -, -⟩, ⟨h3, -, -⟩, ⟨h4, -, -⟩, ⟨h5, -, -⟩, ⟨h6, -, -⟩, ⟨h7, r7, b7⟩, -⟩ := hd
          dsimp only at h0 h1 h2 h3 h4 h5 h6 h7 r7 b7
          clear hdis
          simp only [h0, h1, h2, h3, h4, h5, h6, h7]
          clear h7 h6 h5 h4 h3 h2 h1 h0
          replace b7 := b7 _ (List.mem_singleton.2 rfl)
          generalize hγ7 : (γ 7).n = g7 at *
          clear hγ7
          clear u
          simp only [List.map_cons, List.map_nil]
          apply PlanW.step
          · exact zG
          · rfl
          intro K hK
          first
          | (go_at_call 63; (with_reducible refine (hJq2.out _ hcur).mono ?_); rintro e w3 ⟨rfl, hb3⟩; replace hb3 := bl_tt hb3)
          | (refine wp_appT _ _ rfl Tryz.underlying54 hi hz0 hz1 hz2 rfl (by decide) (.slice vA k vc) k _ _ rfl rfl (own_below ho.out hwd) r7 rfl (by simp [Value.oneCell']) (by unfold maxLen; omega) (by omega) (Nat.le_trans hDx hwd.size) ?_; intro v' w' hown' hbx' hnew'; refine hK.out _ _ hbx' (fun hcur => ?_))
          clear hK K
          try simp only [Act.put, List.setIfInBounds_toArray, List.set_cons_zero, List.set_cons_succ]
          apply PlanW.step
          · exact zG
          · rfl
          intro K hK
          go_simp
          refine hK.out _ _ (by with_reducible first | assumption | exact bx_refl _ _) (fun hcur => ?_)
          clear hK K
          try simp only [Act.put, List.setIfInBounds_toArray, List.set_cons_zero, List.set_cons_succ]
          refine PlanW.done ?_
          have hb3 := bl_tt hwd
          have hown9 : w'.ownsRow (w.heap.size + 1) 9 1 v' (k + 1) (((n.fs.take (k + 1)).map fun f : Fu => fmtFu f.con).flatMap cB) := by
            rw [hgn.out, List.flatMap_append]
            have e : (fname ++ (⟨#[61]⟩ : ByteArray)) ++ ⟨JJ.toArray⟩ = ⟨(fname.data.toList ++ [61] ++ JJ).toArray⟩ := by
              rw [ba_app, ba_app]
            rw [e] at hown'
            exact hown'
          replace hown9 := Lib.hid hown9
          have hb9 := bx_below (bl_tr hb0 hwd) hbx' (fun x hx => by have := ownL_ge ho.out x hx; omega)
          have k09 := (k0.below hwd).keep (fun hx => by have := ownL_ge ho.out _ hx; omega) hbx'
          clear hown' hnew' hbx' hcur hb3
          go_wp2
          go_roundw
          case rel => exact ⟨k + 1, by omega, by go_num, hb9, k09, hown9.out⟩
          case measure => simp [intOf]; omega
    · obtain rfl : nf = k := by omega
      have hfull : ((n.fs.take nf).map fun f : Fu => fmtFu f.con) = n.cn.fs.map fmtFu := by
        rw [← Hf.out, List.take_length]
        unfold Nt.cn
        rw [List.map_map]
        rfl
      rw [hfull] at ho
      have hszW := hb0.size
      have hD0 := k0.lt
      go_wp2
      go_loopw [4, 45] (fun v i wr => ∃ k : Nat, k ≤ nm ∧ i = .int .i64 k ∧ wo.heap.size ≤ wr.heap.size ∧ Below w.heap.size w wr ∧ Blk wr w.heap.size 58 #[.slice Ap np cp, .slice Af nf cf, .slice Am nm cm] ∧ wr.ownsRow (w.heap.size + 1) 9 1 (.slice vA nf vc) nf ((n.cn.fs.map fmtFu).flatMap cB) ∧
        wr.ownsRow wo.heap.size 9 1 v k (((n.ms.take k).map fun f : Md => fmtMd f.con).flatMap cB)) (fun _ i _ => nm - (intOf i).toNat)
      case atStart => exact ⟨0, Nat.zero_le _, rfl, Nat.le_refl _, hb0, k0, ho.out, World.ownsRow_nil _ _ _ _⟩
      case round =>
        have hvl := own_lt' ho.out
        clear hb0 k0 L0 ho
        obtain ⟨k, hk, rfl, hDw, hb0, k0, ho, hu⟩ := hrel
        obtain ⟨uA, uc, rfl⟩ := own_slice hu
        replace ho := Lib.hid ho
        replace hu := Lib.hid hu
        have L0 := k0.cell
        by_cases hkn : k < nm
        · have hx : n.ms[k]? = some (n.ms[k]'(by rw [Hm.out]; exact hkn)) := List.getElem?_eq_getElem _
          generalize n.ms[k]'(by rw [Hm.out]; exact hkn) = f at hx
          have hm := List.mem_of_getElem? hx
          have hgn := Lib.hid (show (n.ms.take (k + 1)).map (fun f : Md => fmtMd f.con) = (n.ms.take k).map (fun f : Md => fmtMd f.con) ++ [fmtMd f.con] by rw [List.take_add_one, hx]; simp)
          have hff := Lib.hid (Hn.out.min f hm)
          have hlx := hmlen.out f hm
          have hnx := hmname.out f hm
          have hjx := Lib.hid fun W (hW : Below w.heap.size w W) => hjw.out f.r (.inr ⟨f, hm, rfl⟩) f.r.A f.r.c W (hff.out.row.sl.below hW) (HE.out W hW)
          obtain ⟨b, off, rfl, hc⟩ := Hn.out.msl k f hx
          have c0 : wr.cell? ⟨b, off + k * 2, none⟩ = some (.string f.name) := by simpa using kcell hb0 (hc 0 _ rfl)
          have c1 : wr.cell? ⟨b, off + k * 2 + 1, none⟩ = some (.slice f.r.A f.r.l.length f.r.c) := kcell hb0 (hc 1 _ rfl)
          have hkn2 : (k : Int) < nm := by omega
          clear hc hx
          obtain ⟨fname, fA, fc, fl⟩ := f
          dsimp only at *
          obtain ⟨JJ, HJJ⟩ : ∃ z, Hid (Lib.join (itoas fl) [43] = z) := ⟨_, rfl⟩
          have hfmt : Hid (fmtMd (Md.con ⟨fname, fA, fc, fl⟩) = fname.data.toList ++ [61] ++ JJ) := by rw [← HJJ.out]; rfl
          rw [HJJ.out] at hjx
          have hlq : JJ.length ≤ 22000 := by rw [← HJJ.out]; exact hlx
          rw [hfmt.out] at hgn
          obtain ⟨fw, Hfw⟩ : ∃ k, Hid (fl.length = k) := ⟨_, rfl⟩
          rw [Hfw.out] at c1 hjx
          go_upto_region 16 with fail
          have kF := Blk.new wr 146 #[.string fname, .slice fA fw fc]
          have hbA := bl_al (.cells #[.string fname, .slice fA fw fc] 146) (bl_refl wr)
          replace hb0 := bl_tr hb0 hbA
          replace k0 := k0.below hbA
          replace ho := Lib.hid (own_below ho.out hbA)
          replace hu := Lib.hid (own_below hu.out hbA)
          have hDx := Nat.le_trans hDw hbA.size
          generalize hbF : wr.heap.size = bF at *
          generalize wr.alloc (.cells #[.string fname, .slice fA fw fc] 146) = w5 at *
          clear hbA L0 c0 c1
          have LF' := kF.later
          have hs1 : ¬ 9223372036854775807 < fname.size + 1 := by omega
          have hs2 : ¬ 9223372036854775807 < fname.size + 1 + JJ.length := by omega
          have hjx2 : Hid (∀ W, Below w5.heap.size w5 W → Calls Tryz.prog 62 #[.slice fA fw fc, .string ⟨#[43]⟩] W (Ret (.string ⟨JJ.toArray⟩) W)) := fun W hW => hjx.out W (bl_tr hb0 hW)
          refine wp_any (w0 := w5) ⟨[9, 10], [], [some 49, some 50, some 51, some 52, some 53, some 54, some 55, some 56, some 57, none, none], [[], [], [1], [1, 2], [], [4], [4, 5], [1, 2, 3, 4, 5, 6], [1, 2, 3, 4, 5, 6, 7], [0, 1, 2, 3, 4, 5, 6, 7, 8], [0, 1, 2, 3, 4, 5, 6, 7, 8, 9]], [[], [], [1], [2], [], [4], [5], [3, 6], [7], [], []]⟩ (fun _ => ownL (.slice uA k uc)) (by kernel_rfl) (by kernel_rfl) (by (exact zE)) (fun u => by simp only [putD, Act.put, List.setIfInBounds_toArray, List.set_cons_zero, List.set_cons_succ, Nat.zero_add, Nat.reduceAdd]; rfl) ?_
          apply RGW.on (i := 0) rfl
          · exact zG
          · intro γ u W hcur hd
            clear hd
            (try dsimp only)
            exact ⟨rfl, zS⟩
          · exact zC
          · rfl
          dsimp only [nA, cA]
          apply RGW.on (i := 1) rfl
          · exact zG
          · intro γ u W hcur hd
            clear hd
            (try dsimp only)
            exact ⟨rfl, zS⟩
          · exact zC
          · rfl
          dsimp only [nA, cA]
          apply RGW.on (i := 2) rfl
          · exact zG
          · intro γ u W hcur hd
            obtain ⟨⟨h1, -, -⟩, -⟩ := hd
            dsimp only at h1
            (try simp only [h1])
            exact ⟨rfl, zS⟩
          · exact zC
          · rfl
          dsimp only [nA, cA]
          apply RGW.on (i := 3) rfl
          · exact zG
          · intro γ u W hcur hd
            obtain ⟨⟨h2, -, -⟩, -⟩ := hd
            dsimp only at h2
            (try simp only [h2])
            exact ⟨rfl, zS⟩
          · exact zC
          · rfl
          dsimp only [nA, cA]
          apply RGW.on (i := 4) rfl
          · exact zG
          · intro γ u W hcur hd
            clear hd
            (try dsimp only)
            exact ⟨rfl, zS⟩
          · exact zC
          · rfl
          dsimp only [nA, cA]
          apply RGW.on (i := 5) rfl
          · exact zG
          · intro γ u W hcur hd
            obtain ⟨⟨h4, -, -⟩, -⟩ := hd
            dsimp only at h4
            (try simp only [h4])
            exact ⟨rfl, zS⟩
          · exact zC
          · rfl
          dsimp only [nA, cA]
          apply RGW.call (i := 6) rfl
          · exact zG
          · intro γ u W hcur hd
            obtain ⟨⟨h5, -, -⟩, -⟩ := hd
            dsimp only at h5
            (try simp only [h5])
            refine ⟨rfl, fun K hK => ?_⟩
            go_simp
            first
            | (go_at_call 62; (with_reducible refine (hjx2.out _ hcur).mono ?_); rintro e w3 ⟨rfl, hb3⟩; replace hb3 := bl_tt hb3)
            | (refine wp_appT _ _ rfl Tryz.underlying54 hi hz0 hz1 hz2 rfl (by decide) (.slice uA k uc) k _ _ rfl rfl (own_below hu.out hwd) r8 rfl (by simp [Value.oneCell']) (by unfold maxLen; omega) (by omega) (Nat.le_trans hDx hwd.size) ?_; intro v' w' hown' hbx' hnew'; refine hK.out _ _ hbx' (fun hcur => ?_))
            (try dsimp only)
            exact hK.out _ _ rfl (by (exact zE))
          · exact zC
          · rfl
          dsimp only [nA, cA]
          apply RGW.on (i := 7) rfl
          · exact zG
          · intro γ u W hcur hd
            obtain ⟨⟨h3, -, -⟩, ⟨h6, -, -⟩, -⟩ := hd
            dsimp only at h3 h6
            (try simp only [h3, h6])
            exact ⟨rfl, zS⟩
          · exact zC
          · rfl
          dsimp only [nA, cA]
          apply RGW.bslice (i := 8) rfl
          · exact zG
          · intro γ u W hcur hd
            obtain ⟨⟨h7, -, -⟩, -⟩ := hd
            dsimp only at h7
            (try simp only [h7])
            refine ⟨rfl, fun K hK => ?_⟩
            go_simp
            exact hK.out _ _ rfl rfl
          · exact zC
          · rfl
          · rfl
          dsimp only [nA, cA]
          refine RGW.skip (i := 9) rfl rfl ?_
          dsimp only [nA, cA]
          refine RGW.skip (i := 10) rfl rfl ?_
          dsimp only [nA, cA]
          refine RGW.fin (fun γ u wd hwd hd hdis => ?_)
          obtain ⟨⟨h0, -, -⟩, ⟨h1, -, -⟩, ⟨h2, -, -⟩, ⟨h3, -, -⟩, ⟨h4, -, -⟩, ⟨h5, -, -⟩, ⟨h6, -, -⟩, ⟨h7, -, -⟩, ⟨h8, r8, b8⟩, -⟩ := hd
          dsimp only at h0 h1 h2 h3 h4 h5 h6 h7 h8 r8 b8
          clear hdis
          simp only [h0, h1, h2, h3, h4, h5, h6, h7, h8]
          clear h8 h7 h6 h5 h4 h3 h2 h1 h0
          replace b8 := b8 _ (List.mem_singleton.2 rfl)
          generalize hγ8 : (γ 8).n = g8 at *
          clear hγ8
          clear u
          simp only [List.map_cons, List.map_nil]
          apply PlanW.step
          · exact zG
          · rfl
          intro K hK
          first
          | (go_at_call 62; (with_reducible refine (hjx2.out _ hcur).mono ?_); rintro e w3 ⟨rfl, hb3⟩; replace hb3 := bl_tt hb3)
          | (refine wp_appT _ _ rfl Tryz.underlying54 hi hz0 hz1 hz2 rfl (by decide) (.slice uA k uc) k _ _ rfl rfl (own_below hu.out hwd) r8 rfl (by simp [Value.oneCell']) (by unfold maxLen; omega) (by omega) (Nat.le_trans hDx hwd.size) ?_; intro v' w' hown' hbx' hnew'; refine hK.out _ _ hbx' (fun hcur => ?_))
          clear hK K
          try simp only [Act.put, List.setIfInBounds_toArray, List.set_cons_zero, List.set_cons_succ]
          apply PlanW.step
          · exact zG
          · rfl
          intro K hK
          go_simp
          refine hK.out _ _ (by with_reducible first | assumption | exact bx_refl _ _) (fun hcur => ?_)
          clear hK K
          try simp only [Act.put, List.setIfInBounds_toArray, List.set_cons_zero, List.set_cons_succ]
          refine PlanW.done ?_
          have hb3 := bl_tt hwd
          have hown9 : w'.ownsRow wo.heap.size 9 1 v' (k + 1) (((n.ms.take (k + 1)).map fun f : Md => fmtMd f.con).flatMap cB) := by
            rw [hgn.out, List.flatMap_append]
            have e : (fname ++ (⟨#[61]⟩ : ByteArray)) ++ ⟨JJ.toArray⟩ = ⟨(fname.data.toList ++ [61] ++ JJ).toArray⟩ := by
              rw [ba_app, ba_app]
            rw [e] at hown'
            exact hown'
          replace hown9 := Lib.hid hown9
          have hge := ownL_ge hu.out
          have hb9 := bx_below (bl_tr hb0 hwd) hbx' (fun x hx => by have := hge x hx; omega)
          have k09 := (k0.below hwd).keep (fun hx => by have := hge _ hx; omega) hbx'
          have ho9 := own_bxT (own_below ho.out hwd) hbx' (fun g hg hx => by have := hge g hx; have := hvl g hg; omega)
          have hszW' := hbx'.size
          clear hown' hnew' hbx' hcur hb3
          go_wp2
          go_roundw
          case rel => exact ⟨k + 1, by omega, by go_num, Nat.le_trans hDx (Nat.le_trans hwd.size hszW'), hb9, k09, ho9, hown9.out⟩
          case measure => simp [intOf]; omega
        · obtain rfl : nm = k := by omega
          have hfull2 : ((n.ms.take nm).map fun f : Md => fmtMd f.con) = n.cn.ms.map fmtMd := by
            rw [← Hm.out, List.take_length]
            unfold Nt.cn
            rw [List.map_map]
            rfl
          rw [hfull2] at hu
          have e1 : (n.ps.map fun p => p.data.toList).length = np := by rw [List.length_map, Hp.out]
          have e2 : (n.cn.fs.map fmtFu).length = nf := by rw [List.length_map]; show (n.fs.map Fu.con).length = nf; rw [List.length_map, Hf.out]
          have e3 : (n.cn.ms.map fmtMd).length = nm := by rw [List.length_map]; show (n.ms.map Md.con).length = nm; rw [List.length_map, Hm.out]
          have hq1 : Hid (∀ W, Below wr.heap.size wr W → Calls Tryz.prog 63 #[.slice Ap np cp, .string ⟨#[44]⟩] W (Ret (.string ⟨(Lib.join (n.ps.map fun p => p.data.toList) [44]).toArray⟩) W)) := fun W hW => by
            have h := hJ1.out Ap cp W (fun j x hx => by
              rw [List.getElem?_map] at hx
              cases hp : n.ps[j]? with
              | none => rw [hp] at hx; cases hx
              | some p =>
                rw [hp] at hx
                injection hx with hx
                subst hx
                exact (Hn.out.psl.below (bl_tr hb0 hW)) j p hp) (by rw [e1, ← Hp.out]; exact Hn.out.pcap)
            rw [e1] at h
            exact h
          have hq2 : Hid (∀ W, Below wr.heap.size wr W → Calls Tryz.prog 63 #[.slice vA nf vc, .string ⟨#[59]⟩] W (Ret (.string ⟨(Lib.join (n.cn.fs.map fmtFu) [59]).toArray⟩) W)) := fun W hW => by
            have hs : Sl cB 1 wr vA (n.cn.fs.map fmtFu) := own_slC (cs := cB) (fun _ => rfl) (by decide) (by rw [e2]; exact ho.out)
            have h := hJ2.out vA vc W (hs.below hW) (by rw [e2]; exact own_cap ho.out)
            rw [e2] at h
            exact h
          have hq3 : Hid (∀ W, Below wr.heap.size wr W → Calls Tryz.prog 63 #[.slice uA nm uc, .string ⟨#[59]⟩] W (Ret (.string ⟨(Lib.join (n.cn.ms.map fmtMd) [59]).toArray⟩) W)) := fun W hW => by
            have hs : Sl cB 1 wr uA (n.cn.ms.map fmtMd) := own_slC (cs := cB) (fun _ => rfl) (by decide) (by rw [e3]; exact hu.out)
            have h := hJ3.out uA uc W (hs.below hW) (by rw [e3]; exact own_cap hu.out)
            rw [e3] at h
            exact h
          clear hJ1 hJ2 hJ3 hJf hjw hflen hmlen hfname hmname hfull2 e1 e2 e3
          generalize Lib.join (n.ps.map fun p => p.data.toList) [44] = J1 at *
          generalize Lib.join (n.cn.fs.map fmtFu) [59] = J2 at *
          generalize Lib.join (n.cn.ms.map fmtMd) [59] = J3 at *
          have hs1 : ¬ 9223372036854775807 < J1.length + 1 := by omega
          have hs2 : ¬ 9223372036854775807 < J1.length + 1 + J2.length := by omega
          have hs3 : ¬ 9223372036854775807 < J1.length + 1 + J2.length + 1 := by omega
          have hs4 : ¬ 9223372036854775807 < J1.length + 1 + J2.length + 1 + J3.length := by omega
          have hout : (((⟨J1.toArray⟩ ++ (⟨#[47]⟩ : ByteArray)) ++ ⟨J2.toArray⟩) ++ (⟨#[47]⟩ : ByteArray)) ++ ⟨J3.toArray⟩ = ⟨OUT.toArray⟩ := by
            rw [hAll.out, ba_app, ba_app, ba_app, ba_app]
          clear hjl1 hjl2 hjl3 ho hu k0 hvl hfull hszW hD0
          replace hout := Lib.hid hout
          replace hAll := Lib.hid hAll
          go_wp2_with fail
          refine (hq1.out wr (bl_refl _)).mono ?_
          rintro e w1 ⟨rfl, hb1⟩
          go_wp2_with fail
          refine (hq2.out w1 hb1).mono ?_
          rintro e w2 ⟨rfl, hb2⟩
          go_wp2_with fail
          refine (hq3.out w2 (bl_tr hb1 hb2)).mono ?_
          rintro e w4 ⟨rfl, hb3⟩
          go_wp2
          go_ret
          exact ⟨congrArg (fun z => Ending.returned (.string z)) hout.out, bl_tr hb0 (bl_tr hb1 (bl_tr hb2 hb3))⟩
end Go.Proofs.YtbdgblnccjpahaaGreatDoor
