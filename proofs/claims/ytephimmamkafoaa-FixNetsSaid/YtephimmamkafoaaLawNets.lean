/-
  Walk: the law of nets.
-/
import Derived.Test.YtephimmamkafoaaLaw1
import Derived.Test.YtephimmamkafoaaRef11
import Derived.Test.YtephimmamkafoaaRef2
import Derived.Test.YtephimmamkafoaaDepth
namespace Go.Proofs.Ytephimmamkafoaa
set_option linter.unusedSimpArgs false
set_option linter.unusedVariables false
open Go.RowKit Go.Shelf
attribute [local go_sem] bl_al bl_drew bl_drewN bl_refl bx_al bx_drew bx_drewN bx_refl
set_option maxRecDepth 20000
theorem depth_ok {p d : Rg} (h : depthErr p d = 0) : insd p 0 1000000 = true ∧ insd d 1 2000 = true := by
  unfold depthErr at h
  simp only [fst_cons, unl_zero (show (2 : Int) ≠ 0 by decide), unl_zero (show (9 : Int) ≠ 0 by decide), Bool.and_eq_true] at h
  exact h.1
set_option maxHeartbeats 8000000 in
theorem l_FixNets (n : Nt) (b : Bx) (p d : Rg) (A : Option Addr) (c : Nat) (w : World) (hs : Sl cBc 4 w A n.bs) (hc : n.bs.length ≤ c) (hnm : ∀ b ∈ n.bs, b.name.size ≤ maxLen) :
    Calls Try.prog 3 #[vNt n.world (.slice A n.bs.length c), vBx b, .agg #[.int .i64 p.lo, .int .i64 p.hi, .int .i64 d.lo, .int .i64 d.hi]] w (Ret (.bool true) w) := by
  have hfw := Lib.hid fun W : World => r_few n A none c 0 0 W
  by_cases h8 : n.bs.length ≤ 8
  · have hn : NtIn n A c w := ⟨by omega, hc, hnm, hs⟩
    have hcp := Lib.hid fun (W : World) (hb : Below w.heap.size w W) => r_CopyNet n A c W (hn.below hb)
    have hck := Lib.hid fun (W : World) (A : Option Addr) (c : Nat) (h : NtIn n A c W) => c_CheckNet n A c W h
    have hcb := Lib.hid fun (W : World) (A : Option Addr) (c : Nat) (h : NtIn n A c W) => c_CheckBox n b A c W h
    have hrn := Lib.hid fun (W : World) (hb : Below w.heap.size w W) => r_CheckNet n A c W (hn.below hb) (by omega)
    have hrb := Lib.hid fun (W : World) (hb : Below w.heap.size w W) => r_BoxErr n b A c W (hn.below hb)
    have hcd := Lib.hid fun (W : World) => c_DepthIn p d W
    have hre := Lib.hid fun (W : World) => r_DepthErr p d W
    have hdk := Lib.hid (@depth_ok p d)
    have hds : Hid (depthErr p d ≠ 0 → depthS p d = (⟨0, 0⟩, depthErr p d)) := fun h => by simp [depthS, h]
    have hdz : Hid (depthErr p d = 0 → depthS p d = (depth p d, 0)) := fun h => by simp [depthS, h]
    rw [show decide (n.bs.length ≤ 8) = true by simpa using h8] at hfw
    simp only [Nat.zero_le, decide_true, Bool.and_self] at hfw
    clear hs hc hnm hn
    generalize n.bs.length = nl at *
    generalize netChk n = ck at *
    generalize boxErr n b = be at *
    obtain ⟨ci, ce⟩ := ck
    dsimp only at hck hrn
    go_enter Try.func3, Try.ntmps3
    go_upto_region 3 with (go_at_call 10; (with_reducible refine (r_awake _).mono ?_); rintro e w3 ⟨rfl, hb3⟩; replace hb3 := bl_tt hb3)
    first
    | apply absB3 (w0 := w) (g0 := w.heap.size) (g1 := w.heap.size + 1) (g2 := w.heap.size + 2)
    | apply absTB3 (w0 := w) (g0 := w.heap.size) (g1 := w.heap.size + 1) (g2 := w.heap.size + 2)
    | apply absIB3 (w0 := w) (g0 := w.heap.size) (g1 := w.heap.size + 1) (g2 := w.heap.size + 2)
    iterate 4 (focus ((with_reducible (repeat' (first | assumption | apply bl_refl | apply bl_al | apply bl_drew | apply bl_drewN | (apply bl_set; case hp => (first | (simp; done) | (simp; omega) | (dsimp only; omega))) | (apply bl_row; case hg => (first | (simp; done) | (simp; omega) | omega)) | apply hb3 | apply bx_refl | (apply bx_set; case hp => (first | exact Or.inl (by simp; done) | exact Or.inr (by first | (simp; done) | (simp; omega) | (dsimp only; omega)))) | apply bx_drew | apply bx_al | apply bx_drewN | apply hb3x | (apply Blk.newAt; first | (simp; done) | rfl) | apply Blk.alloc | apply Blk.drew | apply Blk.drewN | apply Blk.set | (apply Blk.other; case hne => first | assumption | (simp; done) | (simp; omega) | omega) | apply Blk.row | (apply Blk.rowOther; case hne => first | assumption | (simp; done) | (simp; omega) | omega) | apply Blk.below (hb := hb3 _ (bl_refl _))))); done))
    intro wa hb0' k0' k1' k2'
    (try simp only [List.setIfInBounds_toArray, List.set_cons_zero, List.set_cons_succ] at k0' k1' k2')
    try clear hb3
    try clear hb0
    try clear k0
    try clear k1
    try clear k2
    have hb0 := hb0'; clear hb0'
    have k0 := k0'; clear k0'
    have k1 := k1'; clear k1'
    have k2 := k2'; clear k2'
    have Lk0 := k0.later
    have Fk0 := k0.laterF
    have Qk0 := k0.lt
    have Lk1 := k1.later
    have Fk1 := k1.laterF
    have Qk1 := k1.lt
    have Lk2 := k2.later
    have Fk2 := k2.laterF
    have Qk2 := k2.lt
    go_upto_region 5 with (go_at_call 11; (with_reducible refine (hfw.out _).mono ?_); rintro e w3 ⟨rfl, hb3⟩; replace hb3 := bl_tt hb3)
    first
    | apply absB3 (w0 := w) (g0 := w.heap.size) (g1 := w.heap.size + 1) (g2 := w.heap.size + 2)
    | apply absTB3 (w0 := w) (g0 := w.heap.size) (g1 := w.heap.size + 1) (g2 := w.heap.size + 2)
    | apply absIB3 (w0 := w) (g0 := w.heap.size) (g1 := w.heap.size + 1) (g2 := w.heap.size + 2)
    iterate 4 (focus ((with_reducible (repeat' (first | assumption | apply bl_refl | apply bl_al | apply bl_drew | apply bl_drewN | (apply bl_set; case hp => (first | (simp; done) | (simp; omega) | (dsimp only; omega))) | (apply bl_row; case hg => (first | (simp; done) | (simp; omega) | omega)) | apply hb3 | apply bx_refl | (apply bx_set; case hp => (first | exact Or.inl (by simp; done) | exact Or.inr (by first | (simp; done) | (simp; omega) | (dsimp only; omega)))) | apply bx_drew | apply bx_al | apply bx_drewN | apply hb3x | (apply Blk.newAt; first | (simp; done) | rfl) | apply Blk.alloc | apply Blk.drew | apply Blk.drewN | apply Blk.set | (apply Blk.other; case hne => first | assumption | (simp; done) | (simp; omega) | omega) | apply Blk.row | (apply Blk.rowOther; case hne => first | assumption | (simp; done) | (simp; omega) | omega) | apply Blk.below (hb := hb3 _ (bl_refl _))))); done))
    intro wb hb0' k0' k1' k2'
    (try simp only [List.setIfInBounds_toArray, List.set_cons_zero, List.set_cons_succ] at k0' k1' k2')
    try clear hb3
    try clear Lk0
    try clear Fk0
    try clear Qk0
    try clear Lk1
    try clear Fk1
    try clear Qk1
    try clear Lk2
    try clear Fk2
    try clear Qk2
    try clear hb0
    try clear k0
    try clear k1
    try clear k2
    have hb0 := hb0'; clear hb0'
    have k0 := k0'; clear k0'
    have k1 := k1'; clear k1'
    have k2 := k2'; clear k2'
    have Lk0 := k0.later
    have Fk0 := k0.laterF
    have Qk0 := k0.lt
    have Lk1 := k1.later
    have Fk1 := k1.laterF
    have Qk1 := k1.lt
    have Lk2 := k2.later
    have Fk2 := k2.laterF
    have Qk2 := k2.lt
    go_upto_region 6 with (first | (go_at_call 13; (with_reducible refine (hcp.out _ hb0).mono ?_); rintro e w3 ⟨A2, c2, rfl, hb3, hn2⟩; replace hb3 := bl_tt hb3) | (go_at_call 12; (with_reducible refine (hck.out _ _ _ hn2).mono ?_); rintro e w4 ⟨rfl, hb4⟩; replace hb3 := fun w h => bl_tt hb4 w (hb3 w h)))
    clear hn2
    first
    | apply absB3 (w0 := w) (g0 := w.heap.size) (g1 := w.heap.size + 1) (g2 := w.heap.size + 2)
    | apply absTB3 (w0 := w) (g0 := w.heap.size) (g1 := w.heap.size + 1) (g2 := w.heap.size + 2)
    | apply absIB3 (w0 := w) (g0 := w.heap.size) (g1 := w.heap.size + 1) (g2 := w.heap.size + 2)
    iterate 4 (focus ((with_reducible (repeat' (first | assumption | apply bl_refl | apply bl_al | apply bl_drew | apply bl_drewN | (apply bl_set; case hp => (first | (simp; done) | (simp; omega) | (dsimp only; omega))) | (apply bl_row; case hg => (first | (simp; done) | (simp; omega) | omega)) | apply hb3 | apply bx_refl | (apply bx_set; case hp => (first | exact Or.inl (by simp; done) | exact Or.inr (by first | (simp; done) | (simp; omega) | (dsimp only; omega)))) | apply bx_drew | apply bx_al | apply bx_drewN | apply hb3x | (apply Blk.newAt; first | (simp; done) | rfl) | apply Blk.alloc | apply Blk.drew | apply Blk.drewN | apply Blk.set | (apply Blk.other; case hne => first | assumption | (simp; done) | (simp; omega) | omega) | apply Blk.row | (apply Blk.rowOther; case hne => first | assumption | (simp; done) | (simp; omega) | omega) | apply Blk.below (hb := hb3 _ (bl_refl _))))); done))
    intro wc hb0' k0' k1' k2'
    (try simp only [List.setIfInBounds_toArray, List.set_cons_zero, List.set_cons_succ] at k0' k1' k2')
    try clear hb3
    try clear Lk0
    try clear Fk0
    try clear Qk0
    try clear Lk1
    try clear Fk1
    try clear Qk1
    try clear Lk2
    try clear Fk2
    try clear Qk2
    try clear hb0
    try clear k0
    try clear k1
    try clear k2
    have hb0 := hb0'; clear hb0'
    have k0 := k0'; clear k0'
    have k1 := k1'; clear k1'
    have k2 := k2'; clear k2'
    have Lk0 := k0.later
    have Fk0 := k0.laterF
    have Qk0 := k0.lt
    have Lk1 := k1.later
    have Fk1 := k1.laterF
    have Qk1 := k1.lt
    have Lk2 := k2.later
    have Fk2 := k2.laterF
    have Qk2 := k2.lt
    go_upto_region 7 with (go_at_call 14; (with_reducible refine (hcd.out _).mono ?_); rintro e v3 ⟨rfl, hb3⟩; replace hb3 := bl_tt hb3)
    first
    | apply absB4 (w0 := w) (g0 := w.heap.size) (g1 := w.heap.size + 1) (g2 := w.heap.size + 2) (g3 := v3.heap.size)
    | apply absTB4 (w0 := w) (g0 := w.heap.size) (g1 := w.heap.size + 1) (g2 := w.heap.size + 2) (g3 := v3.heap.size)
    | apply absIB4 (w0 := w) (g0 := w.heap.size) (g1 := w.heap.size + 1) (g2 := w.heap.size + 2) (g3 := v3.heap.size)
    iterate 5 (focus ((with_reducible (repeat' (first | assumption | apply bl_refl | apply bl_al | apply bl_drew | apply bl_drewN | (apply bl_set; case hp => (first | (simp; done) | (simp; omega) | (dsimp only; omega))) | (apply bl_row; case hg => (first | (simp; done) | (simp; omega) | omega)) | apply hb3 | apply bx_refl | (apply bx_set; case hp => (first | exact Or.inl (by simp; done) | exact Or.inr (by first | (simp; done) | (simp; omega) | (dsimp only; omega)))) | apply bx_drew | apply bx_al | apply bx_drewN | apply hb3x | (apply Blk.newAt; first | (simp; done) | rfl) | apply Blk.alloc | apply Blk.drew | apply Blk.drewN | apply Blk.set | (apply Blk.other; case hne => first | assumption | (simp; done) | (simp; omega) | omega) | apply Blk.row | (apply Blk.rowOther; case hne => first | assumption | (simp; done) | (simp; omega) | omega) | apply Blk.below (hb := hb3 _ (bl_refl _))))); done))
    intro wd hb0' k0' k1' k2' k3'
    (try simp only [List.setIfInBounds_toArray, List.set_cons_zero, List.set_cons_succ] at k0' k1' k2' k3')
    try clear hb3
    try clear Lk0
    try clear Fk0
    try clear Qk0
    try clear Lk1
    try clear Fk1
    try clear Qk1
    try clear Lk2
    try clear Fk2
    try clear Qk2
    try clear hb0
    try clear k0
    try clear k1
    try clear k2
    try clear k3
    have hb0 := hb0'; clear hb0'
    have k0 := k0'; clear k0'
    have k1 := k1'; clear k1'
    have k2 := k2'; clear k2'
    have k3 := k3'; clear k3'
    have Lk0 := k0.later
    have Fk0 := k0.laterF
    have Qk0 := k0.lt
    have Lk1 := k1.later
    have Fk1 := k1.laterF
    have Qk1 := k1.lt
    have Lk2 := k2.later
    have Fk2 := k2.laterF
    have Qk2 := k2.lt
    have Lk3 := k3.later
    have Fk3 := k3.laterF
    have Qk3 := k3.lt
    go_upto_region 8 with (go_at_call 15; (with_reducible refine (hrn.out _ hb0).mono ?_); rintro e w3 ⟨rfl, hb3⟩; replace hb3 := bl_tt hb3)
    first
    | apply absB4 (w0 := w) (g0 := w.heap.size) (g1 := w.heap.size + 1) (g2 := w.heap.size + 2) (g3 := v3.heap.size)
    | apply absTB4 (w0 := w) (g0 := w.heap.size) (g1 := w.heap.size + 1) (g2 := w.heap.size + 2) (g3 := v3.heap.size)
    | apply absIB4 (w0 := w) (g0 := w.heap.size) (g1 := w.heap.size + 1) (g2 := w.heap.size + 2) (g3 := v3.heap.size)
    iterate 5 (focus ((with_reducible (repeat' (first | assumption | apply bl_refl | apply bl_al | apply bl_drew | apply bl_drewN | (apply bl_set; case hp => (first | (simp; done) | (simp; omega) | (dsimp only; omega))) | (apply bl_row; case hg => (first | (simp; done) | (simp; omega) | omega)) | apply hb3 | apply bx_refl | (apply bx_set; case hp => (first | exact Or.inl (by simp; done) | exact Or.inr (by first | (simp; done) | (simp; omega) | (dsimp only; omega)))) | apply bx_drew | apply bx_al | apply bx_drewN | apply hb3x | (apply Blk.newAt; first | (simp; done) | rfl) | apply Blk.alloc | apply Blk.drew | apply Blk.drewN | apply Blk.set | (apply Blk.other; case hne => first | assumption | (simp; done) | (simp; omega) | omega) | apply Blk.row | (apply Blk.rowOther; case hne => first | assumption | (simp; done) | (simp; omega) | omega) | apply Blk.below (hb := hb3 _ (bl_refl _))))); done))
    intro we hb0' k0' k1' k2' k3'
    (try simp only [List.setIfInBounds_toArray, List.set_cons_zero, List.set_cons_succ] at k0' k1' k2' k3')
    try clear hb3
    try clear Lk0
    try clear Fk0
    try clear Qk0
    try clear Lk1
    try clear Fk1
    try clear Qk1
    try clear Lk2
    try clear Fk2
    try clear Qk2
    try clear Lk3
    try clear Fk3
    try clear Qk3
    try clear hb0
    try clear k0
    try clear k1
    try clear k2
    try clear k3
    have hb0 := hb0'; clear hb0'
    have k0 := k0'; clear k0'
    have k1 := k1'; clear k1'
    have k2 := k2'; clear k2'
    have k3 := k3'; clear k3'
    have Lk0 := k0.later
    have Fk0 := k0.laterF
    have Qk0 := k0.lt
    have Lk1 := k1.later
    have Fk1 := k1.laterF
    have Qk1 := k1.lt
    have Lk2 := k2.later
    have Fk2 := k2.laterF
    have Qk2 := k2.lt
    have Lk3 := k3.later
    have Fk3 := k3.laterF
    have Qk3 := k3.lt
    refine wp_any (w0 := we) ⟨[], [], [some 37, some 38, some 39, some 40, some 41, some 42, some 43, some 44, some 45, some 46, some 47, some 48, some 49, some 50, some 51, some 52, some 53, some 54], [[], [], [0, 1], [0, 1, 2], [0, 1, 2, 3], [0, 1, 2, 3], [0, 1, 2, 3, 4, 5], [0, 1, 2, 3, 4, 5, 6], [0, 1, 2, 3, 4, 5, 6, 7], [0, 1, 2, 3, 4, 5, 6, 7, 8], [0, 1, 2, 3, 4, 5, 6, 7, 8, 9], [0, 1, 2, 3, 4, 5, 6, 7, 8], [0, 1, 2, 3, 4, 5, 6, 7, 8, 9, 10, 11], [0, 1, 2, 3, 4, 5, 6, 7, 8], [0, 1, 2, 3, 4, 5, 6, 7, 8], [0, 1, 2, 3, 4, 5, 6, 7, 8, 9, 10, 11, 12, 13, 14], [0, 1, 2, 3, 4, 5, 6, 7, 8, 9, 10, 11, 12, 13, 14, 15], [0, 1, 2, 3, 4, 5, 6, 7, 8, 9, 10, 11, 12, 13, 14, 15, 16]], [[], [], [0, 1], [2], [3], [3], [3, 4, 5], [3, 6], [7], [8], [8, 9], [8], [8, 10, 11], [8], [8], [8, 13, 14], [8, 10, 12, 15], [8, 10, 16]]⟩ (fun _ => []) (by kernel_rfl) (by kernel_rfl) (by (with_reducible (repeat' (first | assumption | apply bl_refl | apply bl_al | apply bl_drew | apply bl_drewN | (apply bl_set; case hp => (first | (simp; done) | (simp; omega) | (dsimp only; omega))) | (apply bl_row; case hg => (first | (simp; done) | (simp; omega) | omega)) | apply hb3)))) (fun u => by simp only [putD, Act.put, List.setIfInBounds_toArray, List.set_cons_zero, List.set_cons_succ, Nat.zero_add, Nat.reduceAdd]; rfl) ?_
    apply RGW.on (i := 0) rfl
    · (simp only [List.getElem?_toArray, List.getElem?_cons_succ, List.getElem?_cons_zero] <;> rfl)
    · intro γ u W hcur hd
      clear hd
      (try dsimp only)
      refine ⟨rfl, ?_⟩
      go_simp <;> (try go_bits) <;> with_reducible rfl
    · first
      | exact fun _ _ _ => rfl
    · rfl
    dsimp only [List.nil_append, List.cons_append]
    apply RGW.on (i := 1) rfl
    · (simp only [List.getElem?_toArray, List.getElem?_cons_succ, List.getElem?_cons_zero] <;> rfl)
    · intro γ u W hcur hd
      clear hd
      (try dsimp only)
      refine ⟨rfl, ?_⟩
      go_simp <;> (try go_bits) <;> with_reducible rfl
    · first
      | exact fun _ _ _ => rfl
    · rfl
    dsimp only [List.nil_append, List.cons_append]
    apply RGW.on (i := 2) rfl
    · (simp only [List.getElem?_toArray, List.getElem?_cons_succ, List.getElem?_cons_zero] <;> rfl)
    · intro γ u W hcur hd
      obtain ⟨⟨h0, -, -⟩, ⟨h1, -, -⟩, -⟩ := hd
      dsimp only at h0 h1
      (try simp only [h0, h1])
      refine ⟨rfl, ?_⟩
      go_simp <;> (try go_bits) <;> with_reducible rfl
    · first
      | exact fun _ _ _ => rfl
    · rfl
    dsimp only [List.nil_append, List.cons_append]
    apply RGW.on (i := 3) rfl
    · (simp only [List.getElem?_toArray, List.getElem?_cons_succ, List.getElem?_cons_zero] <;> rfl)
    · intro γ u W hcur hd
      obtain ⟨⟨h2, -, -⟩, -⟩ := hd
      dsimp only at h2
      (try simp only [h2])
      refine ⟨rfl, ?_⟩
      go_simp <;> (try go_bits) <;> with_reducible rfl
    · first
      | exact fun _ _ _ => rfl
    · rfl
    dsimp only [List.nil_append, List.cons_append]
    first
    | apply RGW.on (i := 4) rfl
      · (simp only [List.getElem?_toArray, List.getElem?_cons_succ, List.getElem?_cons_zero] <;> rfl)
      · intro γ u W hcur hd
        obtain ⟨⟨h3, -, -⟩, -⟩ := hd
        dsimp only at h3
        (try simp only [h3])
        refine ⟨?_, ?_⟩
        · (simp [Region.wanted, yielded, *]; done)
        go_simp <;> (try go_bits) <;> with_reducible rfl
      · first
        | exact fun _ _ _ => rfl
      · rfl
    | apply RGW.off (i := 4) rfl
      · (simp only [List.getElem?_toArray, List.getElem?_cons_succ, List.getElem?_cons_zero] <;> rfl)
      · intro γ u W hcur hd
        obtain ⟨⟨h3, -, -⟩, -⟩ := hd
        dsimp only at h3
        (try simp only [h3])
        simp [Region.wanted, yielded, *]
      · rfl
    dsimp only [List.nil_append, List.cons_append]
    first
    | apply RGW.on (i := 5) rfl
      · (simp only [List.getElem?_toArray, List.getElem?_cons_succ, List.getElem?_cons_zero] <;> rfl)
      · intro γ u W hcur hd
        obtain ⟨⟨h3, -, -⟩, -⟩ := hd
        dsimp only at h3
        (try simp only [h3])
        refine ⟨?_, ?_⟩
        · (simp [Region.wanted, yielded, *]; done)
        go_simp <;> (try go_bits) <;> with_reducible rfl
      · first
        | exact fun _ _ _ => rfl
      · rfl
    | apply RGW.off (i := 5) rfl
      · (simp only [List.getElem?_toArray, List.getElem?_cons_succ, List.getElem?_cons_zero] <;> rfl)
      · intro γ u W hcur hd
        obtain ⟨⟨h3, -, -⟩, -⟩ := hd
        dsimp only at h3
        (try simp only [h3])
        simp [Region.wanted, yielded, *]
      · rfl
    dsimp only [List.nil_append, List.cons_append]
    first
    | apply RGW.on (i := 6) rfl
      · (simp only [List.getElem?_toArray, List.getElem?_cons_succ, List.getElem?_cons_zero] <;> rfl)
      · intro γ u W hcur hd
        obtain ⟨⟨h3, -, -⟩, ⟨h4, -, -⟩, ⟨h5, -, -⟩, -⟩ := hd
        dsimp only at h3 h4 h5
        (try simp only [h3, h4, h5])
        refine ⟨?_, ?_⟩
        · (simp [Region.wanted, yielded, *]; done)
        go_simp <;> (try go_bits) <;> with_reducible rfl
      · first
        | exact fun _ _ _ => rfl
      · rfl
    | apply RGW.off (i := 6) rfl
      · (simp only [List.getElem?_toArray, List.getElem?_cons_succ, List.getElem?_cons_zero] <;> rfl)
      · intro γ u W hcur hd
        obtain ⟨⟨h3, -, -⟩, ⟨h4, -, -⟩, ⟨h5, -, -⟩, -⟩ := hd
        dsimp only at h3 h4 h5
        (try simp only [h3, h4, h5])
        simp [Region.wanted, yielded, *]
      · rfl
    dsimp only [List.nil_append, List.cons_append]
    apply RGW.on (i := 7) rfl
    · (simp only [List.getElem?_toArray, List.getElem?_cons_succ, List.getElem?_cons_zero] <;> rfl)
    · intro γ u W hcur hd
      obtain ⟨⟨h3, -, -⟩, ⟨h6, -, -⟩, -⟩ := hd
      dsimp only at h3 h6
      (try simp only [h3, h6])
      refine ⟨rfl, ?_⟩
      go_simp <;> (try go_bits) <;> with_reducible rfl
    · first
      | exact fun _ _ _ => rfl
    · rfl
    dsimp only [List.nil_append, List.cons_append]
    apply RGW.on (i := 8) rfl
    · (simp only [List.getElem?_toArray, List.getElem?_cons_succ, List.getElem?_cons_zero] <;> rfl)
    · intro γ u W hcur hd
      obtain ⟨⟨h7, -, -⟩, -⟩ := hd
      dsimp only at h7
      (try simp only [h7])
      refine ⟨rfl, ?_⟩
      go_simp <;> (try go_bits) <;> with_reducible rfl
    · first
      | exact fun _ _ _ => rfl
    · rfl
    dsimp only [List.nil_append, List.cons_append]
    first
    | apply RGW.on (i := 9) rfl
      · (simp only [List.getElem?_toArray, List.getElem?_cons_succ, List.getElem?_cons_zero] <;> rfl)
      · intro γ u W hcur hd
        obtain ⟨⟨h8, -, -⟩, -⟩ := hd
        dsimp only at h8
        (try simp only [h8])
        refine ⟨?_, ?_⟩
        · (simp [Region.wanted, yielded, *]; done)
        go_simp <;> (try go_bits) <;> with_reducible rfl
      · first
        | exact fun _ _ _ => rfl
      · rfl
    | apply RGW.off (i := 9) rfl
      · (simp only [List.getElem?_toArray, List.getElem?_cons_succ, List.getElem?_cons_zero] <;> rfl)
      · intro γ u W hcur hd
        obtain ⟨⟨h8, -, -⟩, -⟩ := hd
        dsimp only at h8
        (try simp only [h8])
        simp [Region.wanted, yielded, *]
      · rfl
    dsimp only [List.nil_append, List.cons_append]
    first
    | apply RGW.gh (⟨fun γ => vNt n.world (.slice (γ 10).A nl (γ 10).c), fun γ W => NtIn n (γ 10).A (γ 10).c W, fun _ => []⟩) (i := 10) rfl
      · (simp only [List.getElem?_toArray, List.getElem?_cons_succ, List.getElem?_cons_zero] <;> rfl)
      · intro γ u W hcur hd
        obtain ⟨⟨h8, -, -⟩, ⟨h9, -, -⟩, -⟩ := hd
        dsimp only at h8 h9
        (try simp only [h8, h9])
        refine ⟨?_, fun K hK => ?_⟩
        · (simp [Region.wanted, yielded, *]; done)
        go_simp
        (first | (go_at_call 13; (with_reducible refine (hcp.out _ (bl_tr hb0 hcur)).mono ?_); rintro e w3 ⟨Ax, cx, rfl, hb3, hox⟩; dsimp only; exact hK.out ⟨0, undef, Ax, cx⟩ _ _ (by simp [up]) hb3 (by simpa [up] using hox) (by simp)) | (go_at_call 16; (with_reducible refine (hcb.out _ _ _ r10).mono ?_); rintro e w3 ⟨rfl, hb3⟩; replace hb3 := bl_tt hb3) | (go_at_call 17; (with_reducible refine (hrb.out _ (bl_tr hb0 hcur)).mono ?_); rintro e w3 ⟨rfl, hb3⟩; replace hb3 := bl_tt hb3))
      · first
        | exact fun _ _ _ => rfl
        | (intro γ γ' hg
           try dsimp only
           have e10 := hg 10 (by decide)
           simp only [e10]
           try exact ⟨trivial, fun _ h => h⟩)
      · intro γ W W' hbl hR
        first | exact hR.below hbl | exact own_below hR hbl | exact trivial | exact ⟨hR.1.below hbl, hR.2⟩
      · rfl
    | apply RGW.off (i := 10) rfl
      · (simp only [List.getElem?_toArray, List.getElem?_cons_succ, List.getElem?_cons_zero] <;> rfl)
      · intro γ u W hcur hd
        obtain ⟨⟨h8, -, -⟩, ⟨h9, -, -⟩, -⟩ := hd
        dsimp only at h8 h9
        (try simp only [h8, h9])
        simp [Region.wanted, yielded, *]
      · rfl
    dsimp only [List.nil_append, List.cons_append]
    first
    | apply RGW.on (i := 11) rfl
      · (simp only [List.getElem?_toArray, List.getElem?_cons_succ, List.getElem?_cons_zero] <;> rfl)
      · intro γ u W hcur hd
        obtain ⟨⟨h8, -, -⟩, -⟩ := hd
        dsimp only at h8
        (try simp only [h8])
        refine ⟨?_, ?_⟩
        · (simp [Region.wanted, yielded, *]; done)
        go_simp <;> (try go_bits) <;> with_reducible rfl
      · first
        | exact fun _ _ _ => rfl
      · rfl
    | apply RGW.off (i := 11) rfl
      · (simp only [List.getElem?_toArray, List.getElem?_cons_succ, List.getElem?_cons_zero] <;> rfl)
      · intro γ u W hcur hd
        obtain ⟨⟨h8, -, -⟩, -⟩ := hd
        dsimp only at h8
        (try simp only [h8])
        simp [Region.wanted, yielded, *]
      · rfl
    dsimp only [List.nil_append, List.cons_append]
    first
    | apply RGW.call (i := 12) rfl
      · (simp only [List.getElem?_toArray, List.getElem?_cons_succ, List.getElem?_cons_zero] <;> rfl)
      · intro γ u W hcur hd
        obtain ⟨⟨h8, -, -⟩, ⟨h10, r10, -⟩, ⟨h11, -, -⟩, -⟩ := hd
        dsimp only at h8 h10 h11 r10
        (try simp only [h8, h10, h11])
        refine ⟨?_, fun K hK => ?_⟩
        · (simp [Region.wanted, yielded, *]; done)
        go_simp
        (first | (go_at_call 13; (with_reducible refine (hcp.out _ (bl_tr hb0 hcur)).mono ?_); rintro e w3 ⟨Ax, cx, rfl, hb3, hox⟩; dsimp only; exact hK.out ⟨0, undef, Ax, cx⟩ _ _ (by simp [up]) hb3 (by simpa [up] using hox) (by simp)) | (go_at_call 16; (with_reducible refine (hcb.out _ _ _ r10).mono ?_); rintro e w3 ⟨rfl, hb3⟩; replace hb3 := bl_tt hb3) | (go_at_call 17; (with_reducible refine (hrb.out _ (bl_tr hb0 hcur)).mono ?_); rintro e w3 ⟨rfl, hb3⟩; replace hb3 := bl_tt hb3))
        (try dsimp only)
        exact hK.out _ _ rfl (by (with_reducible (repeat' (first | assumption | apply bl_refl | apply bl_al | apply bl_drew | apply bl_drewN | (apply bl_set; case hp => (first | (simp; done) | (simp; omega) | (dsimp only; omega))) | (apply bl_row; case hg => (first | (simp; done) | (simp; omega) | omega)) | apply hb3))))
      · first
        | exact fun _ _ _ => rfl
        | (intro γ γ' hg
           try dsimp only
           have e10 := hg 10 (by decide)
           simp only [e10])
      · rfl
    | apply RGW.off (i := 12) rfl
      · (simp only [List.getElem?_toArray, List.getElem?_cons_succ, List.getElem?_cons_zero] <;> rfl)
      · intro γ u W hcur hd
        obtain ⟨⟨h8, -, -⟩, ⟨h10, r10, -⟩, ⟨h11, -, -⟩, -⟩ := hd
        dsimp only at h8 h10 h11 r10
        (try simp only [h8, h10, h11])
        simp [Region.wanted, yielded, *]
      · rfl
    dsimp only [List.nil_append, List.cons_append]
    first
    | apply RGW.on (i := 13) rfl
      · (simp only [List.getElem?_toArray, List.getElem?_cons_succ, List.getElem?_cons_zero] <;> rfl)
      · intro γ u W hcur hd
        obtain ⟨⟨h8, -, -⟩, -⟩ := hd
        dsimp only at h8
        (try simp only [h8])
        refine ⟨?_, ?_⟩
        · (simp [Region.wanted, yielded, *]; done)
        go_simp <;> (try go_bits) <;> with_reducible rfl
      · first
        | exact fun _ _ _ => rfl
      · rfl
    | apply RGW.off (i := 13) rfl
      · (simp only [List.getElem?_toArray, List.getElem?_cons_succ, List.getElem?_cons_zero] <;> rfl)
      · intro γ u W hcur hd
        obtain ⟨⟨h8, -, -⟩, -⟩ := hd
        dsimp only at h8
        (try simp only [h8])
        simp [Region.wanted, yielded, *]
      · rfl
    dsimp only [List.nil_append, List.cons_append]
    first
    | apply RGW.on (i := 14) rfl
      · (simp only [List.getElem?_toArray, List.getElem?_cons_succ, List.getElem?_cons_zero] <;> rfl)
      · intro γ u W hcur hd
        obtain ⟨⟨h8, -, -⟩, -⟩ := hd
        dsimp only at h8
        (try simp only [h8])
        refine ⟨?_, ?_⟩
        · (simp [Region.wanted, yielded, *]; done)
        go_simp <;> (try go_bits) <;> with_reducible rfl
      · first
        | exact fun _ _ _ => rfl
      · rfl
    | apply RGW.off (i := 14) rfl
      · (simp only [List.getElem?_toArray, List.getElem?_cons_succ, List.getElem?_cons_zero] <;> rfl)
      · intro γ u W hcur hd
        obtain ⟨⟨h8, -, -⟩, -⟩ := hd
        dsimp only at h8
        (try simp only [h8])
        simp [Region.wanted, yielded, *]
      · rfl
    dsimp only [List.nil_append, List.cons_append]
    first
    | apply RGW.call (i := 15) rfl
      · (simp only [List.getElem?_toArray, List.getElem?_cons_succ, List.getElem?_cons_zero] <;> rfl)
      · intro γ u W hcur hd
        obtain ⟨⟨h8, -, -⟩, ⟨h13, -, -⟩, ⟨h14, -, -⟩, -⟩ := hd
        dsimp only at h8 h13 h14
        (try simp only [h8, h13, h14])
        refine ⟨?_, fun K hK => ?_⟩
        · (simp [Region.wanted, yielded, *]; done)
        go_simp
        (first | (go_at_call 13; (with_reducible refine (hcp.out _ (bl_tr hb0 hcur)).mono ?_); rintro e w3 ⟨Ax, cx, rfl, hb3, hox⟩; dsimp only; exact hK.out ⟨0, undef, Ax, cx⟩ _ _ (by simp [up]) hb3 (by simpa [up] using hox) (by simp)) | (go_at_call 16; (with_reducible refine (hcb.out _ _ _ r10).mono ?_); rintro e w3 ⟨rfl, hb3⟩; replace hb3 := bl_tt hb3) | (go_at_call 17; (with_reducible refine (hrb.out _ (bl_tr hb0 hcur)).mono ?_); rintro e w3 ⟨rfl, hb3⟩; replace hb3 := bl_tt hb3))
        (try dsimp only)
        exact hK.out _ _ rfl (by (with_reducible (repeat' (first | assumption | apply bl_refl | apply bl_al | apply bl_drew | apply bl_drewN | (apply bl_set; case hp => (first | (simp; done) | (simp; omega) | (dsimp only; omega))) | (apply bl_row; case hg => (first | (simp; done) | (simp; omega) | omega)) | apply hb3))))
      · first
        | exact fun _ _ _ => rfl
        | (intro γ γ' hg
           try dsimp only
           have e10 := hg 10 (by decide)
           simp only [e10])
      · rfl
    | apply RGW.off (i := 15) rfl
      · (simp only [List.getElem?_toArray, List.getElem?_cons_succ, List.getElem?_cons_zero] <;> rfl)
      · intro γ u W hcur hd
        obtain ⟨⟨h8, -, -⟩, ⟨h13, -, -⟩, ⟨h14, -, -⟩, -⟩ := hd
        dsimp only at h8 h13 h14
        (try simp only [h8, h13, h14])
        simp [Region.wanted, yielded, *]
      · rfl
    dsimp only [List.nil_append, List.cons_append]
    first
    | apply RGW.on (i := 16) rfl
      · (simp only [List.getElem?_toArray, List.getElem?_cons_succ, List.getElem?_cons_zero] <;> rfl)
      · intro γ u W hcur hd
        obtain ⟨⟨h8, -, -⟩, ⟨h10, r10, -⟩, ⟨h12, -, -⟩, ⟨h15, -, -⟩, -⟩ := hd
        dsimp only at h8 h10 h12 h15 r10
        (try simp only [h8, h10, h12, h15])
        refine ⟨?_, ?_⟩
        · (simp [Region.wanted, yielded, *]; done)
        go_simp <;> (try go_bits) <;> with_reducible rfl
      · first
        | exact fun _ _ _ => rfl
        | (intro γ γ' hg
           try dsimp only
           have e10 := hg 10 (by decide)
           simp only [e10])
      · rfl
    | apply RGW.off (i := 16) rfl
      · (simp only [List.getElem?_toArray, List.getElem?_cons_succ, List.getElem?_cons_zero] <;> rfl)
      · intro γ u W hcur hd
        obtain ⟨⟨h8, -, -⟩, ⟨h10, r10, -⟩, ⟨h12, -, -⟩, ⟨h15, -, -⟩, -⟩ := hd
        dsimp only at h8 h10 h12 h15 r10
        (try simp only [h8, h10, h12, h15])
        simp [Region.wanted, yielded, *]
      · rfl
    dsimp only [List.nil_append, List.cons_append]
    apply RGW.on (i := 17) rfl
    · (simp only [List.getElem?_toArray, List.getElem?_cons_succ, List.getElem?_cons_zero] <;> rfl)
    · intro γ u W hcur hd
      obtain ⟨⟨h8, -, -⟩, ⟨h10, r10, -⟩, ⟨h16, -, -⟩, -⟩ := hd
      dsimp only at h8 h10 h16 r10
      (try simp only [h8, h10, h16])
      refine ⟨rfl, ?_⟩
      go_simp <;> (try go_bits) <;> with_reducible rfl
    · first
      | exact fun _ _ _ => rfl
      | (intro γ γ' hg
         try dsimp only
         have e10 := hg 10 (by decide)
         simp only [e10])
    · rfl
    dsimp only [List.nil_append, List.cons_append]
    refine RGW.fin (fun γ u wf hwf hd hdis => ?_)
    obtain ⟨⟨h0, -, -⟩, ⟨h1, -, -⟩, ⟨h2, -, -⟩, ⟨h3, -, -⟩, ⟨h4, -, -⟩, ⟨h5, -, -⟩, ⟨h6, -, -⟩, ⟨h7, -, -⟩, ⟨h8, -, -⟩, ⟨h9, -, -⟩, ⟨h10, r10, b10⟩, ⟨h11, -, -⟩, ⟨h12, -, -⟩, ⟨h13, -, -⟩, ⟨h14, -, -⟩, ⟨h15, -, -⟩, ⟨h16, -, -⟩, ⟨h17, -, -⟩, -⟩ := hd
    dsimp only at h0 h1 h2 h3 h4 h5 h6 h7 h8 h9 h10 h11 h12 h13 h14 h15 h16 h17 r10 b10
    clear hdis
    simp only [h0, h1, h2, h3, h4, h5, h6, h7, h8, h9, h10, h11, h12, h13, h14, h15, h16, h17]
    clear h17 h16 h15 h14 h13 h12 h11 h10 h9 h8 h7 h6 h5 h4 h3 h2 h1 h0
    clear u
    simp only [List.map_nil]
    refine PlanW.done ?_
    have hb3 := bl_tt hwf
    clear r10
    first
    | apply absB4 (w0 := w) (g0 := w.heap.size) (g1 := w.heap.size + 1) (g2 := w.heap.size + 2) (g3 := v3.heap.size)
    | apply absTB4 (w0 := w) (g0 := w.heap.size) (g1 := w.heap.size + 1) (g2 := w.heap.size + 2) (g3 := v3.heap.size)
    | apply absIB4 (w0 := w) (g0 := w.heap.size) (g1 := w.heap.size + 1) (g2 := w.heap.size + 2) (g3 := v3.heap.size)
    iterate 5 (focus ((with_reducible (repeat' (first | assumption | apply bl_refl | apply bl_al | apply bl_drew | apply bl_drewN | (apply bl_set; case hp => (first | (simp; done) | (simp; omega) | (dsimp only; omega))) | (apply bl_row; case hg => (first | (simp; done) | (simp; omega) | omega)) | apply hb3 | apply bx_refl | (apply bx_set; case hp => (first | exact Or.inl (by simp; done) | exact Or.inr (by first | (simp; done) | (simp; omega) | (dsimp only; omega)))) | apply bx_drew | apply bx_al | apply bx_drewN | apply hb3x | (apply Blk.newAt; first | (simp; done) | rfl) | apply Blk.alloc | apply Blk.drew | apply Blk.drewN | apply Blk.set | (apply Blk.other; case hne => first | assumption | (simp; done) | (simp; omega) | omega) | apply Blk.row | (apply Blk.rowOther; case hne => first | assumption | (simp; done) | (simp; omega) | omega) | apply Blk.below (hb := hb3 _ (bl_refl _))))); done))
    intro wf2 hb0' k0' k1' k2' k3'
    (try simp only [List.setIfInBounds_toArray, List.set_cons_zero, List.set_cons_succ] at k0' k1' k2' k3')
    try clear hb3
    try clear Lk0
    try clear Fk0
    try clear Qk0
    try clear Lk1
    try clear Fk1
    try clear Qk1
    try clear Lk2
    try clear Fk2
    try clear Qk2
    try clear Lk3
    try clear Fk3
    try clear Qk3
    try clear hb0
    try clear k0
    try clear k1
    try clear k2
    try clear k3
    have hb0 := hb0'; clear hb0'
    have k0 := k0'; clear k0'
    have k1 := k1'; clear k1'
    have k2 := k2'; clear k2'
    have k3 := k3'; clear k3'
    have Lk0 := k0.later
    have Fk0 := k0.laterF
    have Qk0 := k0.lt
    have Lk1 := k1.later
    have Fk1 := k1.laterF
    have Qk1 := k1.lt
    have Lk2 := k2.later
    have Fk2 := k2.laterF
    have Qk2 := k2.lt
    have Lk3 := k3.later
    have Fk3 := k3.laterF
    have Qk3 := k3.lt
    go_upto_region 11 with (go_at_call 18; (with_reducible refine (hre.out _).mono ?_); rintro e w3 ⟨rfl, hb3⟩; replace hb3 := bl_tt hb3)
    first
    | apply absB4 (w0 := w) (g0 := w.heap.size) (g1 := w.heap.size + 1) (g2 := w.heap.size + 2) (g3 := v3.heap.size)
    | apply absTB4 (w0 := w) (g0 := w.heap.size) (g1 := w.heap.size + 1) (g2 := w.heap.size + 2) (g3 := v3.heap.size)
    | apply absIB4 (w0 := w) (g0 := w.heap.size) (g1 := w.heap.size + 1) (g2 := w.heap.size + 2) (g3 := v3.heap.size)
    iterate 5 (focus ((with_reducible (repeat' (first | assumption | apply bl_refl | apply bl_al | apply bl_drew | apply bl_drewN | (apply bl_set; case hp => (first | (simp; done) | (simp; omega) | (dsimp only; omega))) | (apply bl_row; case hg => (first | (simp; done) | (simp; omega) | omega)) | apply hb3 | apply bx_refl | (apply bx_set; case hp => (first | exact Or.inl (by simp; done) | exact Or.inr (by first | (simp; done) | (simp; omega) | (dsimp only; omega)))) | apply bx_drew | apply bx_al | apply bx_drewN | apply hb3x | (apply Blk.newAt; first | (simp; done) | rfl) | apply Blk.alloc | apply Blk.drew | apply Blk.drewN | apply Blk.set | (apply Blk.other; case hne => first | assumption | (simp; done) | (simp; omega) | omega) | apply Blk.row | (apply Blk.rowOther; case hne => first | assumption | (simp; done) | (simp; omega) | omega) | apply Blk.below (hb := hb3 _ (bl_refl _))))); done))
    intro wg hb0' k0' k1' k2' k3'
    (try simp only [List.setIfInBounds_toArray, List.set_cons_zero, List.set_cons_succ] at k0' k1' k2' k3')
    try clear hb3
    try clear Lk0
    try clear Fk0
    try clear Qk0
    try clear Lk1
    try clear Fk1
    try clear Qk1
    try clear Lk2
    try clear Fk2
    try clear Qk2
    try clear Lk3
    try clear Fk3
    try clear Qk3
    try clear hb0
    try clear k0
    try clear k1
    try clear k2
    try clear k3
    have hb0 := hb0'; clear hb0'
    have k0 := k0'; clear k0'
    have k1 := k1'; clear k1'
    have k2 := k2'; clear k2'
    have k3 := k3'; clear k3'
    have Lk0 := k0.later
    have Fk0 := k0.laterF
    have Qk0 := k0.lt
    have Lk1 := k1.later
    have Fk1 := k1.laterF
    have Qk1 := k1.lt
    have Lk2 := k2.later
    have Fk2 := k2.laterF
    have Qk2 := k2.lt
    have Lk3 := k3.later
    have Fk3 := k3.laterF
    have Qk3 := k3.lt
    clear Lk0 Lk1 Lk2 Lk3 Fk0 Fk1 Fk2 Fk3
    by_cases h0 : depthErr p d = 0
    · have e0 := Lib.hid (hdz.out h0)
      obtain ⟨i1, i2⟩ := hdk.out h0
      have hrd := Lib.hid fun W : World => r_Depth p d W i1 i2
      rw [e0.out] at k3 ⊢
      rw [h0]
      dsimp only at k3 ⊢
      clear hre hcd hds hdz hdk e0 i1 i2 h0 hcp hck hcb hrn hrb hfw
      generalize depth p d = dd at *
      obtain ⟨dl, dh⟩ := dd
      dsimp only at k3
      have Lk0 := k0.later
      have Fk0 := k0.laterF
      have Qk0 := k0.lt
      have Lk1 := k1.later
      have Fk1 := k1.laterF
      have Qk1 := k1.lt
      have Lk2 := k2.later
      have Fk2 := k2.laterF
      have Qk2 := k2.lt
      have Lk3 := k3.later
      have Fk3 := k3.laterF
      have Qk3 := k3.lt
      go_upto_region 13 with fail
      refine wp_any (w0 := wg) ⟨[], [], [some 70, some 71, some 72, some 73, some 74, some 75, some 76, some 77, some 78, some 79, some 80, some 6], [[], [0], [0, 1], [0, 1, 2], [0, 1, 2], [0, 1, 2, 4], [0, 1, 2], [0, 1, 2, 6], [0, 1, 2, 4, 5, 6, 7], [0, 1, 2, 3, 4, 5, 6, 7, 8], [0, 1, 2, 3, 4, 5, 6, 7, 8, 9], [0, 1, 2, 3, 4, 5, 6, 7, 8, 9, 10]], [[], [0], [1], [2], [2], [2, 4], [2], [2, 6], [2, 5, 7], [2, 3, 8], [2, 9], [10]]⟩ (fun _ => []) (by kernel_rfl) (by kernel_rfl) (by (with_reducible (repeat' (first | assumption | apply bl_refl | apply bl_al | apply bl_drew | apply bl_drewN | (apply bl_set; case hp => (first | (simp; done) | (simp; omega) | (dsimp only; omega))) | (apply bl_row; case hg => (first | (simp; done) | (simp; omega) | omega)) | apply hb3)))) (fun u => by simp only [putD, Act.put, List.setIfInBounds_toArray, List.set_cons_zero, List.set_cons_succ, Nat.zero_add, Nat.reduceAdd]; rfl) ?_
      apply RGW.on (i := 0) rfl
      · (simp only [List.getElem?_toArray, List.getElem?_cons_succ, List.getElem?_cons_zero] <;> rfl)
      · intro γ u W hcur hd
        clear hd
        (try dsimp only)
        refine ⟨rfl, ?_⟩
        go_simp <;> (try go_bits) <;> with_reducible rfl
      · first
        | exact fun _ _ _ => rfl
      · rfl
      dsimp only [List.nil_append, List.cons_append]
      apply RGW.on (i := 1) rfl
      · (simp only [List.getElem?_toArray, List.getElem?_cons_succ, List.getElem?_cons_zero] <;> rfl)
      · intro γ u W hcur hd
        obtain ⟨⟨h0, -, -⟩, -⟩ := hd
        dsimp only at h0
        (try simp only [h0])
        refine ⟨rfl, ?_⟩
        go_simp <;> (try go_bits) <;> with_reducible rfl
      · first
        | exact fun _ _ _ => rfl
      · rfl
      dsimp only [List.nil_append, List.cons_append]
      apply RGW.on (i := 2) rfl
      · (simp only [List.getElem?_toArray, List.getElem?_cons_succ, List.getElem?_cons_zero] <;> rfl)
      · intro γ u W hcur hd
        obtain ⟨⟨h1, -, -⟩, -⟩ := hd
        dsimp only at h1
        (try simp only [h1])
        refine ⟨rfl, ?_⟩
        go_simp <;> (try go_bits) <;> with_reducible rfl
      · first
        | exact fun _ _ _ => rfl
      · rfl
      dsimp only [List.nil_append, List.cons_append]
      first
      | apply RGW.on (i := 3) rfl
        · (simp only [List.getElem?_toArray, List.getElem?_cons_succ, List.getElem?_cons_zero] <;> rfl)
        · intro γ u W hcur hd
          obtain ⟨⟨h2, -, -⟩, -⟩ := hd
          dsimp only at h2
          (try simp only [h2])
          refine ⟨?_, ?_⟩
          · (simp [Region.wanted, yielded, *]; done)
          go_simp <;> (try go_bits) <;> with_reducible rfl
        · first
          | exact fun _ _ _ => rfl
        · rfl
      | apply RGW.off (i := 3) rfl
        · (simp only [List.getElem?_toArray, List.getElem?_cons_succ, List.getElem?_cons_zero] <;> rfl)
        · intro γ u W hcur hd
          obtain ⟨⟨h2, -, -⟩, -⟩ := hd
          dsimp only at h2
          (try simp only [h2])
          simp [Region.wanted, yielded, *]
        · rfl
      dsimp only [List.nil_append, List.cons_append]
      first
      | apply RGW.on (i := 4) rfl
        · (simp only [List.getElem?_toArray, List.getElem?_cons_succ, List.getElem?_cons_zero] <;> rfl)
        · intro γ u W hcur hd
          obtain ⟨⟨h2, -, -⟩, -⟩ := hd
          dsimp only at h2
          (try simp only [h2])
          refine ⟨?_, ?_⟩
          · (simp [Region.wanted, yielded, *]; done)
          go_simp <;> (try go_bits) <;> with_reducible rfl
        · first
          | exact fun _ _ _ => rfl
        · rfl
      | apply RGW.off (i := 4) rfl
        · (simp only [List.getElem?_toArray, List.getElem?_cons_succ, List.getElem?_cons_zero] <;> rfl)
        · intro γ u W hcur hd
          obtain ⟨⟨h2, -, -⟩, -⟩ := hd
          dsimp only at h2
          (try simp only [h2])
          simp [Region.wanted, yielded, *]
        · rfl
      dsimp only [List.nil_append, List.cons_append]
      first
      | apply RGW.on (i := 5) rfl
        · (simp only [List.getElem?_toArray, List.getElem?_cons_succ, List.getElem?_cons_zero] <;> rfl)
        · intro γ u W hcur hd
          obtain ⟨⟨h2, -, -⟩, ⟨h4, -, -⟩, -⟩ := hd
          dsimp only at h2 h4
          (try simp only [h2, h4])
          refine ⟨?_, ?_⟩
          · (simp [Region.wanted, yielded, *]; done)
          go_simp <;> (try go_bits) <;> with_reducible rfl
        · first
          | exact fun _ _ _ => rfl
        · rfl
      | apply RGW.off (i := 5) rfl
        · (simp only [List.getElem?_toArray, List.getElem?_cons_succ, List.getElem?_cons_zero] <;> rfl)
        · intro γ u W hcur hd
          obtain ⟨⟨h2, -, -⟩, ⟨h4, -, -⟩, -⟩ := hd
          dsimp only at h2 h4
          (try simp only [h2, h4])
          simp [Region.wanted, yielded, *]
        · rfl
      dsimp only [List.nil_append, List.cons_append]
      first
      | apply RGW.on (i := 6) rfl
        · (simp only [List.getElem?_toArray, List.getElem?_cons_succ, List.getElem?_cons_zero] <;> rfl)
        · intro γ u W hcur hd
          obtain ⟨⟨h2, -, -⟩, -⟩ := hd
          dsimp only at h2
          (try simp only [h2])
          refine ⟨?_, ?_⟩
          · (simp [Region.wanted, yielded, *]; done)
          go_simp <;> (try go_bits) <;> with_reducible rfl
        · first
          | exact fun _ _ _ => rfl
        · rfl
      | apply RGW.off (i := 6) rfl
        · (simp only [List.getElem?_toArray, List.getElem?_cons_succ, List.getElem?_cons_zero] <;> rfl)
        · intro γ u W hcur hd
          obtain ⟨⟨h2, -, -⟩, -⟩ := hd
          dsimp only at h2
          (try simp only [h2])
          simp [Region.wanted, yielded, *]
        · rfl
      dsimp only [List.nil_append, List.cons_append]
      first
      | apply RGW.on (i := 7) rfl
        · (simp only [List.getElem?_toArray, List.getElem?_cons_succ, List.getElem?_cons_zero] <;> rfl)
        · intro γ u W hcur hd
          obtain ⟨⟨h2, -, -⟩, ⟨h6, -, -⟩, -⟩ := hd
          dsimp only at h2 h6
          (try simp only [h2, h6])
          refine ⟨?_, ?_⟩
          · (simp [Region.wanted, yielded, *]; done)
          go_simp <;> (try go_bits) <;> with_reducible rfl
        · first
          | exact fun _ _ _ => rfl
        · rfl
      | apply RGW.off (i := 7) rfl
        · (simp only [List.getElem?_toArray, List.getElem?_cons_succ, List.getElem?_cons_zero] <;> rfl)
        · intro γ u W hcur hd
          obtain ⟨⟨h2, -, -⟩, ⟨h6, -, -⟩, -⟩ := hd
          dsimp only at h2 h6
          (try simp only [h2, h6])
          simp [Region.wanted, yielded, *]
        · rfl
      dsimp only [List.nil_append, List.cons_append]
      first
      | apply RGW.call (i := 8) rfl
        · (simp only [List.getElem?_toArray, List.getElem?_cons_succ, List.getElem?_cons_zero] <;> rfl)
        · intro γ u W hcur hd
          obtain ⟨⟨h2, -, -⟩, ⟨h5, -, -⟩, ⟨h7, -, -⟩, -⟩ := hd
          dsimp only at h2 h5 h7
          (try simp only [h2, h5, h7])
          refine ⟨?_, fun K hK => ?_⟩
          · (simp [Region.wanted, yielded, *]; done)
          go_simp
          (first | (go_at_call 19; (with_reducible refine (hrd.out _).mono ?_); rintro e w3 ⟨rfl, hb3⟩; replace hb3 := bl_tt hb3))
          (try dsimp only)
          exact hK.out _ _ rfl (by (with_reducible (repeat' (first | assumption | apply bl_refl | apply bl_al | apply bl_drew | apply bl_drewN | (apply bl_set; case hp => (first | (simp; done) | (simp; omega) | (dsimp only; omega))) | (apply bl_row; case hg => (first | (simp; done) | (simp; omega) | omega)) | apply hb3))))
        · first
          | exact fun _ _ _ => rfl
        · rfl
      | apply RGW.off (i := 8) rfl
        · (simp only [List.getElem?_toArray, List.getElem?_cons_succ, List.getElem?_cons_zero] <;> rfl)
        · intro γ u W hcur hd
          obtain ⟨⟨h2, -, -⟩, ⟨h5, -, -⟩, ⟨h7, -, -⟩, -⟩ := hd
          dsimp only at h2 h5 h7
          (try simp only [h2, h5, h7])
          simp [Region.wanted, yielded, *]
        · rfl
      dsimp only [List.nil_append, List.cons_append]
      first
      | apply RGW.on (i := 9) rfl
        · (simp only [List.getElem?_toArray, List.getElem?_cons_succ, List.getElem?_cons_zero] <;> rfl)
        · intro γ u W hcur hd
          obtain ⟨⟨h2, -, -⟩, ⟨h3, -, -⟩, ⟨h8, -, -⟩, -⟩ := hd
          dsimp only at h2 h3 h8
          (try simp only [h2, h3, h8])
          refine ⟨?_, ?_⟩
          · (simp [Region.wanted, yielded, *]; done)
          go_simp <;> (try go_bits) <;> with_reducible rfl
        · first
          | exact fun _ _ _ => rfl
        · rfl
      | apply RGW.off (i := 9) rfl
        · (simp only [List.getElem?_toArray, List.getElem?_cons_succ, List.getElem?_cons_zero] <;> rfl)
        · intro γ u W hcur hd
          obtain ⟨⟨h2, -, -⟩, ⟨h3, -, -⟩, ⟨h8, -, -⟩, -⟩ := hd
          dsimp only at h2 h3 h8
          (try simp only [h2, h3, h8])
          simp [Region.wanted, yielded, *]
        · rfl
      dsimp only [List.nil_append, List.cons_append]
      apply RGW.on (i := 10) rfl
      · (simp only [List.getElem?_toArray, List.getElem?_cons_succ, List.getElem?_cons_zero] <;> rfl)
      · intro γ u W hcur hd
        obtain ⟨⟨h2, -, -⟩, ⟨h9, -, -⟩, -⟩ := hd
        dsimp only at h2 h9
        (try simp only [h2, h9])
        refine ⟨rfl, ?_⟩
        go_simp <;> (try go_bits) <;> with_reducible rfl
      · first
        | exact fun _ _ _ => rfl
      · rfl
      dsimp only [List.nil_append, List.cons_append]
      apply RGW.on (i := 11) rfl
      · (simp only [List.getElem?_toArray, List.getElem?_cons_succ, List.getElem?_cons_zero] <;> rfl)
      · intro γ u W hcur hd
        obtain ⟨⟨h10, -, -⟩, -⟩ := hd
        dsimp only at h10
        (try simp only [h10])
        refine ⟨rfl, ?_⟩
        go_simp <;> (try go_bits) <;> with_reducible rfl
      · first
        | exact fun _ _ _ => rfl
      · rfl
      dsimp only [List.nil_append, List.cons_append]
      refine RGW.fin (fun γ u wh hwh hd hdis => ?_)
      obtain ⟨⟨h0, -, -⟩, ⟨h1, -, -⟩, ⟨h2, -, -⟩, ⟨h3, -, -⟩, ⟨h4, -, -⟩, ⟨h5, -, -⟩, ⟨h6, -, -⟩, ⟨h7, -, -⟩, ⟨h8, -, -⟩, ⟨h9, -, -⟩, ⟨h10, -, -⟩, ⟨h11, -, -⟩, -⟩ := hd
      dsimp only at h0 h1 h2 h3 h4 h5 h6 h7 h8 h9 h10 h11
      clear hdis
      simp only [h0, h1, h2, h3, h4, h5, h6, h7, h8, h9, h10, h11]
      clear h11 h10 h9 h8 h7 h6 h5 h4 h3 h2 h1 h0
      clear u
      simp only [List.map_nil]
      refine PlanW.done ?_
      have hb3 := bl_tt hwh
      go_wp2
      go_ret
      exact ⟨rfl, hb3 _ hb0⟩
    · have e0 := Lib.hid (hds.out h0)
      rw [e0.out] at k3 ⊢
      dsimp only at k3 ⊢
      clear hre hcd hds hdz hdk e0 hcp hck hcb hrn hrb hfw
      generalize depthErr p d = de at *
      have h0' : (de != 0) = true := by simp [h0]
      replace h0 := Lib.hid h0
      have Lk0 := k0.later
      have Fk0 := k0.laterF
      have Qk0 := k0.lt
      have Lk1 := k1.later
      have Fk1 := k1.laterF
      have Qk1 := k1.lt
      have Lk2 := k2.later
      have Fk2 := k2.laterF
      have Qk2 := k2.lt
      have Lk3 := k3.later
      have Fk3 := k3.laterF
      have Qk3 := k3.lt
      go_wp2
      go_ret
      exact ⟨by simp, hb0⟩
  · have hfw' := Lib.hid fun W : World => r_few n A none c 0 0 W
    rw [show decide (n.bs.length ≤ 8) = false by simpa using h8] at hfw
    simp only [Bool.false_and] at hfw
    clear hs hc hnm hfw'
    generalize n.bs.length = nl at *
    go_enter Try.func3, Try.ntmps3
    go_upto_region 3 with (go_at_call 10; (with_reducible refine (r_awake _).mono ?_); rintro e w3 ⟨rfl, hb3⟩; replace hb3 := bl_tt hb3)
    first
    | apply absB1 (w0 := w) (g0 := w.heap.size)
    | apply absTB1 (w0 := w) (g0 := w.heap.size)
    | apply absIB1 (w0 := w) (g0 := w.heap.size)
    iterate 2 (focus ((with_reducible (repeat' (first | assumption | apply bl_refl | apply bl_al | apply bl_drew | apply bl_drewN | (apply bl_set; case hp => (first | (simp; done) | (simp; omega) | (dsimp only; omega))) | (apply bl_row; case hg => (first | (simp; done) | (simp; omega) | omega)) | apply hb3 | apply bx_refl | (apply bx_set; case hp => (first | exact Or.inl (by simp; done) | exact Or.inr (by first | (simp; done) | (simp; omega) | (dsimp only; omega)))) | apply bx_drew | apply bx_al | apply bx_drewN | apply hb3x | (apply Blk.newAt; first | (simp; done) | rfl) | apply Blk.alloc | apply Blk.drew | apply Blk.drewN | apply Blk.set | (apply Blk.other; case hne => first | assumption | (simp; done) | (simp; omega) | omega) | apply Blk.row | (apply Blk.rowOther; case hne => first | assumption | (simp; done) | (simp; omega) | omega) | apply Blk.below (hb := hb3 _ (bl_refl _))))); done))
    intro wa hb0' k0'
    (try simp only [List.setIfInBounds_toArray, List.set_cons_zero, List.set_cons_succ] at k0')
    try clear hb3
    try clear hb0
    try clear k0
    have hb0 := hb0'; clear hb0'
    have k0 := k0'; clear k0'
    have Lk0 := k0.later
    have Fk0 := k0.laterF
    have Qk0 := k0.lt
    go_wp2_with (go_at_call 11; (with_reducible refine (hfw.out _).mono ?_); rintro e w3 ⟨rfl, hb3⟩; replace hb3 := bl_tt hb3)
    go_ret
    exact ⟨rfl, hb3 _ hb0⟩
end Go.Proofs.Ytephimmamkafoaa
