/-
  Walk: the law that every short error is found.
-/
import Derived.Test.YtdlmkblmljhbfaaDoorU6
import Derived.Test.YtdlmkblmljhbfaaDoorVFound1
namespace Go.Proofs.YtdlmkblmljhbfaaDoor
set_option linter.unusedSimpArgs false
set_option linter.unusedVariables false
open Go.RowKit Go.Shelf
attribute [local go_sem] bl_al bl_drew bl_drewN bl_refl bx_al bx_drew bx_drewN bx_refl
set_option maxRecDepth 20000
def cP (p : Int × Int) : List Value := [.int .i64 p.1, .int .i64 p.2]
/-- Numbers as the cells of an array. -/
def vL (L : List Nat) : Array Value := (L.map fun n : Nat => Value.int .i64 (n : Int)).toArray
theorem vL_fr {L : List Nat} (h : L.length = 8) : vL L = aFr (frN L) := by
  match L, h with
  | [a, b, c, d, e, f, g, i], _ => rfl
theorem chg_stop {l : List Nat} {f p k : Nat} (h : 64 ≤ f + k) : ∀ d, chg l f p (k + d) = chg l f p k ∧ anyK f p (k + d) = anyK f p k
  | 0 => ⟨rfl, rfl⟩
  | d + 1 => by
    obtain ⟨h1, h2⟩ := chg_stop (l := l) (p := p) h d
    refine ⟨by rw [← h1]; exact chg_off (k := k + d) (fun hh => by omega), ?_⟩
    rw [← h2]
    show (anyK f p (k + d) || (decide (f + (k + d) < 64) && p.testBit (k + d))) = _
    simp
    intro h3
    omega
theorem i64_and (a b : Nat) (ha : a < 1024) (hb : b < 1024) : bits .and .i64 (a : Int) (b : Int) = ((a &&& b : Nat) : Int) := by
  have hx : a &&& b ≤ a := Nat.and_le_left
  have h1 : (BitVec.ofInt 64 (a : Int)).toNat = a := by
    rw [BitVec.ofInt_natCast, BitVec.toNat_ofNat]; exact Nat.mod_eq_of_lt (by omega)
  have h2 : (BitVec.ofInt 64 (b : Int)).toNat = b := by
    rw [BitVec.ofInt_natCast, BitVec.toNat_ofNat]; exact Nat.mod_eq_of_lt (by omega)
  show IntKind.i64.wrap ((BitVec.ofInt 64 (a : Int) &&& BitVec.ofInt 64 (b : Int)).toNat : Int) = _
  rw [BitVec.toNat_and, h1, h2]
  exact IntWalk.i64_in _ (by omega)
theorem bit_at (P k : Nat) (hP : P < 256) : (bits .and .i64 ((P : Int) / 2 ^ k) 1 == 1) = P.testBit k := by
  have e : ((P : Int) / 2 ^ k) = ((P / 2 ^ k : Nat) : Int) := by simp
  have hlt : P / 2 ^ k < 1024 := Nat.lt_of_le_of_lt (Nat.div_le_self _ _) (by omega)
  have := i64_and (P / 2 ^ k) 1 hlt (by decide)
  rw [e, show (1 : Int) = ((1 : Nat) : Int) from rfl, this, Nat.and_one_is_mod, Nat.testBit_eq_decide_div_mod_eq, Bool.eq_iff_iff]
  simp
  omega
theorem xor_at (x s : Nat) (hx : x < 256) (hs : s ≤ 7) : bits .xor .i64 (x : Int) (wrap64 (2 ^ s)) = ((x ^^^ 2 ^ s : Nat) : Int) := by
  have h1 : 2 ^ s ≤ 2 ^ 7 := Nat.pow_le_pow_right (by decide) hs
  have e : ((2 : Int) ^ s) = ((2 ^ s : Nat) : Int) := by simp
  rw [e]
  generalize 2 ^ s = z at *
  rw [show wrap64 (z : Int) = z by unfold wrap64; omega]
  exact i64_xor x z (by omega) (by omega)
/-- The bytes of pairs: the first ones, the second ones, and both xored. -/
def fA (l : List (Int × Int)) : List Int := l.map fun p => p.1 % 256
def fB (l : List (Int × Int)) : List Int := l.map fun p => p.2 % 256
def fC (l : List (Int × Int)) : List Int := l.map fun p => (((p.1 % 256).toNat ^^^ (p.2 % 256).toNat : Nat) : Int)
theorem fA_bd (l : List (Int × Int)) : ∀ n ∈ fA l, 0 ≤ n ∧ n ≤ 255 := fun n hn => by
  obtain ⟨p, -, rfl⟩ := List.mem_map.1 hn
  omega
theorem fB_bd (l : List (Int × Int)) : ∀ n ∈ fB l, 0 ≤ n ∧ n ≤ 255 := fun n hn => by
  obtain ⟨p, -, rfl⟩ := List.mem_map.1 hn
  omega
theorem fC_bd (l : List (Int × Int)) : ∀ n ∈ fC l, 0 ≤ n ∧ n ≤ 255 := fun n hn => by
  obtain ⟨p, -, rfl⟩ := List.mem_map.1 hn
  have := xor_byte (a := (p.1 % 256).toNat) (b := (p.2 % 256).toNat) (by omega) (by omega)
  omega
theorem remI_xor (l : List (Int × Int)) : remI (fC l) = remI (fA l) ^^^ remI (fB l) := by
  have hlt : ∀ {L : List Int}, (∀ n ∈ L, 0 ≤ n ∧ n ≤ 255) → ∀ n ∈ L.map Int.toNat, n < 256 := fun h n hn => by
    obtain ⟨m, hm, rfl⟩ := List.mem_map.1 hn
    have := h m hm
    omega
  have h := remN_xor ((fA l).map Int.toNat) ((fB l).map Int.toNat) (r := 0) (s := 0) (by simp [fA, fB]) (by decide) (by decide) (hlt (fA_bd l)) (hlt (fB_bd l))
  have e : (fC l).map Int.toNat = xorL ((fA l).map Int.toNat) ((fB l).map Int.toNat) := by
    unfold fA fB fC xorL
    induction l with
    | nil => rfl
    | cons p l ih => simp [ih]
  unfold remI
  rw [e, ← h]
  rfl
theorem remI_snoc {L : List Int} : remI (L ++ [((remI L : Nat) : Int)]) = 0 := by
  unfold remI
  rw [List.map_append, List.map_cons, List.map_nil, remN_snoc, Int.toNat_natCast, Nat.xor_self]
  decide +kernel
theorem remS_ok {L : List Int} (hb : ∀ n ∈ L, 0 ≤ n ∧ n ≤ 255) (h : L.length ≤ 60) : remS L = (((remI L : Nat) : Int), 0) := by
  rw [remS, if_pos]
  exact (fst_cons _ _).2 ⟨(unl_zero (by decide)).2 (by simp; omega), (fst_cons _ _).2 ⟨bytesE_zero hb, rfl⟩⟩
set_option maxHeartbeats 1000000 in
theorem r_BusFound (m : Ms) (l : List (Int × Int)) (x0 x1 : Int) (A : Option Addr) (c : Nat) (w : World) (hs : Sl cP 2 w A l) (hT : Tab w) :
    Calls Tryd.prog 5 #[vMs m, .slice A l.length c, .agg #[.int .i64 x0, .int .i64 x1]] w (Ret (.bool true) w) := by
  have Hs := Lib.hid fun W (hb : Below w.heap.size w W) => hs.below hb
  have haw := Lib.hid fun W (hb : Below w.heap.size w W) => r_awake W (hT.below hb)
  have hme := Lib.hid fun W : World => r_MessageErr m W
  clear hs hT
  by_cases h0 : msE m = 0
  rotate_left
  · generalize msE m = d at *
    generalize l.length = n at *
    have h0' : (d != 0) = true := by simp [h0]
    replace h0 := Lib.hid h0
    go_enter Tryd.func5, Tryd.ntmps5
    go_upto_region 1 with fail
    first
    | apply absB2 (w0 := w) (g0 := w.heap.size) (g1 := w.heap.size + 1)
    | apply absTB2 (w0 := w) (g0 := w.heap.size) (g1 := w.heap.size + 1)
    | apply absIB2 (w0 := w) (g0 := w.heap.size) (g1 := w.heap.size + 1)
    iterate 3 (focus ((with_reducible (repeat' (first | assumption | apply jA | apply jB | apply jC | apply jD | apply jE | apply jF | apply hb3 | apply jG | apply jH | apply jI | apply jJ | apply jK | apply hb3x | (apply jL; first | (simp; done) | rfl) | apply jM | apply jN | apply jO | apply jP | apply jQ | apply jR | apply jS | apply jT (hb := hb3 _ (jA _)) | omega | (simp; done) | (simp; omega) | (dsimp only; omega)))); done))
    intro wa hb0' k0' k1'
    (try simp only [List.setIfInBounds_toArray, List.set_cons_zero, List.set_cons_succ] at k0' k1')
    try clear hb3
    try clear hb0
    try clear k0
    try clear k1
    have hb0 := hb0'; clear hb0'
    have k0 := k0'; clear k0'
    have k1 := k1'; clear k1'
    go_wp2_with fail
    refine (haw.out wa hb0).mono ?_
    rintro e w1 ⟨rfl, hb1⟩
    replace hb0 := bl_tr hb0 hb1
    replace k0 := k0.below hb1
    have L0 := k0.cell
    go_wp2_with fail
    refine (hme.out _).mono ?_
    rintro e w2 ⟨rfl, hb2⟩
    replace hb0 := bl_tr hb0 hb2
    go_wp2
    go_ret
    exact ⟨rfl, hb0⟩
  by_cases h20 : (l.length : Int) ≤ 20
  rotate_left
  · rw [h0] at hme
    clear h0
    generalize l.length = n at *
    have h20' : (20 : Int) < n := by omega
    go_enter Tryd.func5, Tryd.ntmps5
    go_upto_region 1 with fail
    first
    | apply absB2 (w0 := w) (g0 := w.heap.size) (g1 := w.heap.size + 1)
    | apply absTB2 (w0 := w) (g0 := w.heap.size) (g1 := w.heap.size + 1)
    | apply absIB2 (w0 := w) (g0 := w.heap.size) (g1 := w.heap.size + 1)
    iterate 3 (focus ((with_reducible (repeat' (first | assumption | apply jA | apply jB | apply jC | apply jD | apply jE | apply jF | apply hb3 | apply jG | apply jH | apply jI | apply jJ | apply jK | apply hb3x | (apply jL; first | (simp; done) | rfl) | apply jM | apply jN | apply jO | apply jP | apply jQ | apply jR | apply jS | apply jT (hb := hb3 _ (jA _)) | omega | (simp; done) | (simp; omega) | (dsimp only; omega)))); done))
    intro wa hb0' k0' k1'
    (try simp only [List.setIfInBounds_toArray, List.set_cons_zero, List.set_cons_succ] at k0' k1')
    try clear hb3
    try clear hb0
    try clear k0
    try clear k1
    have hb0 := hb0'; clear hb0'
    have k0 := k0'; clear k0'
    have k1 := k1'; clear k1'
    go_wp2_with fail
    refine (haw.out wa hb0).mono ?_
    rintro e w1 ⟨rfl, hb1⟩
    replace hb0 := bl_tr hb0 hb1
    replace k0 := k0.below hb1
    have L0 := k0.cell
    go_wp2_with fail
    refine (hme.out _).mono ?_
    rintro e w2 ⟨rfl, hb2⟩
    replace hb0 := bl_tr hb0 hb2
    go_wp2
    go_ret
    exact ⟨rfl, hb0⟩
  have h20' : ¬ (20 : Int) < l.length := by omega
  obtain ⟨i0, hi, hz0, hz1, hz2⟩ := info_parts infoI
  rw [h0] at hme
  have hen : Hid (∀ W : World, Calls Tryd.prog 24 #[vMs m] W (Ret (.tuple #[vFr (frameOf m), .int .i64 0]) W)) := fun W => by
    have := c_Encoded m W
    rw [encS, if_pos h0] at this
    exact this
  have hde : Hid (∀ W : World, Calls Tryd.prog 25 #[vFr (frameOf m)] W (Ret (.tuple #[vMs m, .int .i64 0]) W)) := fun W => by
    have := c_Decoded (frameOf m) W
    rw [back_ok h0] at this
    exact this
  have hcpA := Lib.hid fun (A' : Option Addr) (c' : Nat) (W : World) (h : Sl cI 1 W A' (fA l)) => r_CopyInts (fA l) A' c' W h (by simp [fA]; omega)
  have hcpB := Lib.hid fun (A' : Option Addr) (c' : Nat) (W : World) (h : Sl cI 1 W A' (fB l)) => r_CopyInts (fB l) A' c' W h (by simp [fB]; omega)
  have hrmA : Hid (∀ (A' : Option Addr) (c' : Nat) (W : World), Sl cI 1 W A' (fA l) → Calls Tryd.prog 23 #[.slice A' (fA l).length c'] W (Ret (.tuple #[.int .i64 ((remI (fA l) : Nat) : Int), .int .i64 0]) W)) := fun A' c' W h => by
    have := c_RemainderOf (fA l) A' c' W (by simp [fA]; omega) h
    rw [remS_ok (fA_bd l) (by simp [fA]; omega)] at this
    exact this
  have hrmB : Hid (∀ (A' : Option Addr) (c' : Nat) (W : World), Sl cI 1 W A' (fB l) → Calls Tryd.prog 23 #[.slice A' (fB l).length c'] W (Ret (.tuple #[.int .i64 ((remI (fB l) : Nat) : Int), .int .i64 0]) W)) := fun A' c' W h => by
    have := c_RemainderOf (fB l) A' c' W (by simp [fB]; omega) h
    rw [remS_ok (fB_bd l) (by simp [fB]; omega)] at this
    exact this
  have hrmC : Hid (∀ (A' : Option Addr) (c' : Nat) (W : World), Sl cI 1 W A' (fC l) → Calls Tryd.prog 23 #[.slice A' (fC l).length c'] W (Ret (.tuple #[.int .i64 ((remI (fA l) ^^^ remI (fB l) : Nat) : Int), .int .i64 0]) W)) := fun A' c' W h => by
    have := c_RemainderOf (fC l) A' c' W (by simp [fC]; omega) h
    rw [remS_ok (fC_bd l) (by simp [fC]; omega), remI_xor] at this
    exact this
  have hra := remI_lt (fA_bd l)
  have hrb := remI_lt (fB_bd l)
  have hrmZ : Hid (∀ (A' : Option Addr) (c' : Nat) (W : World), Sl cI 1 W A' (fA l ++ [((remI (fA l) : Nat) : Int)]) → Calls Tryd.prog 23 #[.slice A' ((fA l).length + 1) c'] W (Ret (.tuple #[.int .i64 0, .int .i64 0]) W)) := fun A' c' W h => by
    have := c_RemainderOf (fA l ++ [((remI (fA l) : Nat) : Int)]) A' c' W (by simp [fA]; omega) h
    rw [remS_ok (fun n hn => by
      rcases List.mem_append.1 hn with hn | hn
      · exact fA_bd l n hn
      · simp at hn; omega) (by simp [fA]; omega), remI_snoc] at this
    simpa using this
  have hga0 : Hid (fA (l.take 0) = [] ∧ fB (l.take 0) = [] ∧ fC (l.take 0) = []) := ⟨rfl, rfl, rfl⟩
  have hgs := Lib.hid fun (k : Nat) (x : Int × Int) (hx : l[k]? = some x) => (show fA (l.take (k + 1)) = fA (l.take k) ++ [x.1 % 256] ∧ fB (l.take (k + 1)) = fB (l.take k) ++ [x.2 % 256] ∧ fC (l.take (k + 1)) = fC (l.take k) ++ [(((x.1 % 256).toNat ^^^ (x.2 % 256).toNat : Nat) : Int)] by
    rw [List.take_add_one, hx]
    simp [fA, fB, fC])
  have hgl := Lib.hid fun k => (show (fA (l.take k)).length ≤ 20 ∧ (fB (l.take k)).length ≤ 20 ∧ (fC (l.take k)).length ≤ 20 by simp [fA, fB, fC]; omega)
  have hgn : Hid (fA (l.take l.length) = fA l ∧ fB (l.take l.length) = fB l ∧ fC (l.take l.length) = fC l) := Lib.hid (by rw [List.take_length]; exact ⟨rfl, rfl, rfl⟩)
  obtain ⟨ga, ha⟩ : ∃ ga : Nat → List Int, ∀ k, fA (l.take k) = ga k := ⟨_, fun _ => rfl⟩
  obtain ⟨gb, hb⟩ : ∃ gb : Nat → List Int, ∀ k, fB (l.take k) = gb k := ⟨_, fun _ => rfl⟩
  obtain ⟨gc, hc⟩ : ∃ gc : Nat → List Int, ∀ k, fC (l.take k) = gc k := ⟨_, fun _ => rfl⟩
  simp only [ha, hb, hc] at hga0 hgs hgl hgn
  clear ha hb hc
  generalize remI (fA l) = ra at *
  generalize remI (fB l) = rb at *
  have hlA : (fA l).length ≤ 20 := by simp [fA]; omega
  generalize fA l = LA at *
  generalize fB l = LB at *
  generalize fC l = LC at *
  have hde2 := Lib.hid fun (f : Fr) (W : World) => c_Decoded f W
  have hmE := Lib.hid fun W : World => eqMs_self m W
  have hlen : Hid ((frameOf m).ns.length = 8) := rfl
  have hfn : Hid (frN (frameOf m).ns = frameOf m) := Lib.hid (frN_ns (frame_bytes h0))
  have hfl := Lib.hid (ns_lt (frame_bytes h0))
  have hfound := Lib.hid fun (f p : Nat) hf hp ha => chg_found h0 (f := f) (p := p) hf hp ha
  have hmf := Lib.hid fun W : World => r_Mod x0 64 W (by decide) (by decide)
  have hmp := Lib.hid fun W : World => r_Mod x1 255 W (by decide) (by decide)
  obtain ⟨F, hF⟩ : ∃ F : Nat, x0 % 64 = F := ⟨(x0 % 64).toNat, by omega⟩
  obtain ⟨P, hP⟩ : ∃ P : Nat, 1 + x1 % 255 = P := ⟨(1 + x1 % 255).toNat, by omega⟩
  have hF64 : F < 64 := by omega
  have hP1 : 1 ≤ P := by omega
  have hP256 : P < 256 := by omega
  have hP2 : x1 % 255 = (P : Int) - 1 := by omega
  rw [hF] at hmf
  rw [hP2] at hmp
  clear hF hP hP2 h0
  generalize frameOf m = fm at *
  go_enter Tryd.func5, Tryd.ntmps5
  go_upto_region 1 with fail
  first
  | apply absB2 (w0 := w) (g0 := w.heap.size) (g1 := w.heap.size + 1)
  | apply absTB2 (w0 := w) (g0 := w.heap.size) (g1 := w.heap.size + 1)
  | apply absIB2 (w0 := w) (g0 := w.heap.size) (g1 := w.heap.size + 1)
  iterate 3 (focus ((with_reducible (repeat' (first | assumption | apply jA | apply jB | apply jC | apply jD | apply jE | apply jF | apply hb3 | apply jG | apply jH | apply jI | apply jJ | apply jK | apply hb3x | (apply jL; first | (simp; done) | rfl) | apply jM | apply jN | apply jO | apply jP | apply jQ | apply jR | apply jS | apply jT (hb := hb3 _ (jA _)) | omega | (simp; done) | (simp; omega) | (dsimp only; omega)))); done))
  intro wa hb0' k0' k1'
  (try simp only [List.setIfInBounds_toArray, List.set_cons_zero, List.set_cons_succ] at k0' k1')
  try clear hb3
  try clear hb0
  try clear k0
  try clear k1
  have hb0 := hb0'; clear hb0'
  have k0 := k0'; clear k0'
  have k1 := k1'; clear k1'
  go_wp2_with fail
  refine (haw.out wa hb0).mono ?_
  rintro e w1 ⟨rfl, hb1⟩
  replace hb0 := bl_tr hb0 hb1
  replace k0 := k0.below hb1
  replace k1 := k1.below hb1
  clear hb1 haw
  have L0 := k0.cell
  go_wp2_with fail
  refine (hme.out _).mono ?_
  rintro e w2 ⟨rfl, hb1⟩
  replace hb0 := bl_tr hb0 hb1
  replace k0 := k0.below hb1
  replace k1 := k1.below hb1
  clear hb1 hme L0
  have L0 := k0.cell
  go_wp2_with fail
  refine (hen.out _).mono ?_
  rintro e w3 ⟨rfl, hb1⟩
  replace hb0 := bl_tr hb0 hb1
  replace k0 := k0.below hb1
  replace k1 := k1.below hb1
  clear hb1 hen L0
  have hq1 := k1.lt
  have hqs := hb0.size
  go_upto_region 8 with fail
  first
  | apply absB3 (w0 := w) (g0 := w.heap.size) (g1 := w.heap.size + 1) (g2 := w3.heap.size)
  | apply absTB3 (w0 := w) (g0 := w.heap.size) (g1 := w.heap.size + 1) (g2 := w3.heap.size)
  | apply absIB3 (w0 := w) (g0 := w.heap.size) (g1 := w.heap.size + 1) (g2 := w3.heap.size)
  iterate 4 (focus ((with_reducible (repeat' (first | assumption | apply jA | apply jB | apply jC | apply jD | apply jE | apply jF | apply hb3 | apply jG | apply jH | apply jI | apply jJ | apply jK | apply hb3x | (apply jL; first | (simp; done) | rfl) | apply jM | apply jN | apply jO | apply jP | apply jQ | apply jR | apply jS | apply jT (hb := hb3 _ (jA _)) | omega | (simp; done) | (simp; omega) | (dsimp only; omega)))); done))
  intro w4 hb0' k0' k1' k2'
  (try simp only [List.setIfInBounds_toArray, List.set_cons_zero, List.set_cons_succ] at k0' k1' k2')
  try clear hb3
  try clear hb0
  try clear k0
  try clear k1
  try clear k2
  have hb0 := hb0'; clear hb0'
  have k0 := k0'; clear k0'
  have k1 := k1'; clear k1'
  have k2 := k2'; clear k2'
  have L2 := k2.cell
  go_wp2_with fail
  refine (hde.out _).mono ?_
  rintro e w5 ⟨rfl, hb1⟩
  replace hb0 := bl_tr hb0 hb1
  replace k0 := k0.below hb1
  replace k1 := k1.below hb1
  replace k2 := k2.below hb1
  clear hb1 hde L2
  have hq2 := k2.lt
  go_upto_region 9 with fail
  first
  | apply absB4 (w0 := w) (g0 := w.heap.size) (g1 := w.heap.size + 1) (g2 := w3.heap.size) (g3 := w5.heap.size)
  | apply absTB4 (w0 := w) (g0 := w.heap.size) (g1 := w.heap.size + 1) (g2 := w3.heap.size) (g3 := w5.heap.size)
  | apply absIB4 (w0 := w) (g0 := w.heap.size) (g1 := w.heap.size + 1) (g2 := w3.heap.size) (g3 := w5.heap.size)
  iterate 5 (focus ((with_reducible (repeat' (first | assumption | apply jA | apply jB | apply jC | apply jD | apply jE | apply jF | apply hb3 | apply jG | apply jH | apply jI | apply jJ | apply jK | apply hb3x | (apply jL; first | (simp; done) | rfl) | apply jM | apply jN | apply jO | apply jP | apply jQ | apply jR | apply jS | apply jT (hb := hb3 _ (jA _)) | omega | (simp; done) | (simp; omega) | (dsimp only; omega)))); done))
  intro w6 hb0' k0' k1' k2' k3'
  (try simp only [List.setIfInBounds_toArray, List.set_cons_zero, List.set_cons_succ] at k0' k1' k2' k3')
  try clear hb3
  try clear hb0
  try clear k0
  try clear k1
  try clear k2
  try clear k3
  have hb0 := hb0'; clear hb0'
  have k0 := k0'; clear k0'
  have k1 := k1'; clear k1'
  have k2 := k2'; clear k2'
  have k3 := k3'; clear k3'
  have L0 := k0.cell
  have L3 := k3.cell
  have hmE' := hmE.out
  clear hmE
  go_upto_region 11 with fail
  clear hmE' L0 L3
  clear k3
  have Lk0 := k0.later
  have Fk0 := k0.laterF
  have Qk0 := k0.lt
  have Lk1 := k1.later
  have Fk1 := k1.laterF
  have Qk1 := k1.lt
  have Lk2 := k2.later
  have Fk2 := k2.laterF
  have Qk2 := k2.lt
  refine wp_any (w0 := w6) ⟨[], [], [some 62, some 63, some 64, some 65, some 66, some 67, some 68, some 11, some 12], [[], [0], [0, 1], [], [3], [0, 1, 2, 3, 4], [0, 1, 2, 3, 4, 5], [0, 1, 2, 3, 4, 5], [0, 1, 2, 3, 4, 5, 6, 7]], [[], [0], [1], [], [3], [4], [5], [2], [6]]⟩ (fun _ => []) (by kernel_rfl) (by kernel_rfl) (by (with_reducible (repeat' (first | assumption | apply jA | apply jB | apply jC | apply jD | apply jE | apply jF | apply hb3 | omega | (simp; done) | (simp; omega) | (dsimp only; omega))))) (fun u => by simp only [putD, Act.put, List.setIfInBounds_toArray, List.set_cons_zero, List.set_cons_succ, Nat.zero_add, Nat.reduceAdd]; rfl) ?_
  apply RGW.on (i := 0) rfl
  · (simp only [gA, gB, gC] <;> rfl)
  · intro γ u W hcur hd
    clear hd
    (try dsimp only)
    refine ⟨rfl, ?_⟩
    go_simp <;> (try go_bits) <;> with_reducible rfl
  · exact fun _ _ _ => rfl
  · rfl
  dsimp only [nA, cA]
  apply RGW.on (i := 1) rfl
  · (simp only [gA, gB, gC] <;> rfl)
  · intro γ u W hcur hd
    obtain ⟨⟨h0, -, -⟩, -⟩ := hd
    dsimp only at h0
    (try simp only [h0])
    refine ⟨rfl, ?_⟩
    go_simp <;> (try go_bits) <;> with_reducible rfl
  · exact fun _ _ _ => rfl
  · rfl
  dsimp only [nA, cA]
  apply RGW.call (i := 2) rfl
  · (simp only [gA, gB, gC] <;> rfl)
  · intro γ u W hcur hd
    obtain ⟨⟨h1, -, -⟩, -⟩ := hd
    dsimp only at h1
    (try simp only [h1])
    refine ⟨rfl, fun K hK => ?_⟩
    go_simp
    (go_at_call 31; (first | (with_reducible refine (hmf.out _).mono ?_) | (with_reducible refine (hmp.out _).mono ?_)); rintro e w3 ⟨rfl, rfl⟩)
    (try dsimp only)
    exact hK.out _ _ rfl (by (with_reducible (repeat' (first | assumption | apply jA | apply jB | apply jC | apply jD | apply jE | apply jF | apply hb3 | omega | (simp; done) | (simp; omega) | (dsimp only; omega)))))
  · exact fun _ _ _ => rfl
  · rfl
  dsimp only [nA, cA]
  apply RGW.on (i := 3) rfl
  · (simp only [gA, gB, gC] <;> rfl)
  · intro γ u W hcur hd
    clear hd
    (try dsimp only)
    refine ⟨rfl, ?_⟩
    go_simp <;> (try go_bits) <;> with_reducible rfl
  · exact fun _ _ _ => rfl
  · rfl
  dsimp only [nA, cA]
  apply RGW.on (i := 4) rfl
  · (simp only [gA, gB, gC] <;> rfl)
  · intro γ u W hcur hd
    obtain ⟨⟨h3, -, -⟩, -⟩ := hd
    dsimp only at h3
    (try simp only [h3])
    refine ⟨rfl, ?_⟩
    go_simp <;> (try go_bits) <;> with_reducible rfl
  · exact fun _ _ _ => rfl
  · rfl
  dsimp only [nA, cA]
  apply RGW.call (i := 5) rfl
  · (simp only [gA, gB, gC] <;> rfl)
  · intro γ u W hcur hd
    obtain ⟨⟨h4, -, -⟩, -⟩ := hd
    dsimp only at h4
    (try simp only [h4])
    refine ⟨rfl, fun K hK => ?_⟩
    go_simp
    (go_at_call 31; (first | (with_reducible refine (hmf.out _).mono ?_) | (with_reducible refine (hmp.out _).mono ?_)); rintro e w3 ⟨rfl, rfl⟩)
    (try dsimp only)
    exact hK.out _ _ rfl (by (with_reducible (repeat' (first | assumption | apply jA | apply jB | apply jC | apply jD | apply jE | apply jF | apply hb3 | omega | (simp; done) | (simp; omega) | (dsimp only; omega)))))
  · exact fun _ _ _ => rfl
  · rfl
  dsimp only [nA, cA]
  apply RGW.on (i := 6) rfl
  · (simp only [gA, gB, gC] <;> rfl)
  · intro γ u W hcur hd
    obtain ⟨⟨h5, -, -⟩, -⟩ := hd
    dsimp only at h5
    (try simp only [h5])
    refine ⟨rfl, ?_⟩
    go_simp <;> (try go_bits) <;> with_reducible rfl
  · exact fun _ _ _ => rfl
  · rfl
  dsimp only [nA, cA]
  apply RGW.on (i := 7) rfl
  · (simp only [gA, gB, gC] <;> rfl)
  · intro γ u W hcur hd
    obtain ⟨⟨h2, -, -⟩, -⟩ := hd
    dsimp only at h2
    (try simp only [h2])
    refine ⟨rfl, ?_⟩
    go_simp <;> (try go_bits) <;> with_reducible rfl
  · exact fun _ _ _ => rfl
  · rfl
  dsimp only [nA, cA]
  apply RGW.on (i := 8) rfl
  · (simp only [gA, gB, gC] <;> rfl)
  · intro γ u W hcur hd
    obtain ⟨⟨h6, -, -⟩, -⟩ := hd
    dsimp only at h6
    (try simp only [h6])
    refine ⟨rfl, ?_⟩
    go_simp <;> (try go_bits) <;> with_reducible rfl
  · exact fun _ _ _ => rfl
  · rfl
  dsimp only [nA, cA]
  refine RGW.fin (fun γ u w7 hw7 hd hdis => ?_)
  obtain ⟨⟨h0, -, -⟩, ⟨h1, -, -⟩, ⟨h2, -, -⟩, ⟨h3, -, -⟩, ⟨h4, -, -⟩, ⟨h5, -, -⟩, ⟨h6, -, -⟩, ⟨h7, -, -⟩, ⟨h8, -, -⟩, -⟩ := hd
  dsimp only at h0 h1 h2 h3 h4 h5 h6 h7 h8
  clear hdis
  simp only [h0, h1, h2, h3, h4, h5, h6, h7, h8]
  clear h8 h7 h6 h5 h4 h3 h2 h1 h0
  clear u
  simp only [List.map_nil]
  refine PlanW.done ?_
  have hb3 := bl_tt hw7
  have hb0' := bl_tr hb0 hw7
  replace k1 := k1.below hw7
  replace k2 := k2.below hw7
  clear Lk0 Lk1 Lk2 Fk0 Fk1 Fk2 hb0 hb3 k0 hw7 hmf hmp
  have hb0 := hb0'
  clear hb0'
  have e1 : (1 : Int) + ((P : Int) - 1) = P := by omega
  rw [e1]
  clear e1
  have L2 := k2.cell
  have hq3 := hb0.size
  go_upto_region 13 with fail
  first
  | apply absB1 (w0 := w) (g0 := w7.heap.size)
  | apply absTB1 (w0 := w) (g0 := w7.heap.size)
  | apply absIB1 (w0 := w) (g0 := w7.heap.size)
  iterate 2 (focus ((with_reducible (repeat' (first | assumption | apply jA | apply jB | apply jC | apply jD | apply jE | apply jF | apply hb3 | apply jG | apply jH | apply jI | apply jJ | apply jK | apply hb3x | (apply jL; first | (simp; done) | rfl) | apply jM | apply jN | apply jO | apply jP | apply jQ | apply jR | apply jS | apply jT (hb := hb3 _ (jA _)) | omega | (simp; done) | (simp; omega) | (dsimp only; omega)))); done))
  intro w8 hb0' k4'
  (try simp only [List.setIfInBounds_toArray, List.set_cons_zero, List.set_cons_succ] at k4')
  try clear hb3
  try clear hb0
  try clear k4
  have hb0 := hb0'; clear hb0'
  have k4 := k4'; clear k4'
  have hvf : aFr fm = vL (chg fm.ns F P 0) := by rw [chg_zero hlen.out, vL_fr hlen.out, hfn.out]
  replace k4 : Blk w8 w7.heap.size 40 (aFr fm) := k4
  rw [hvf] at k4
  clear hvf L2 k1 k2
  have hglen := Lib.hid fun k => chg_len hlen.out F P k
  have hglt := Lib.hid fun k => chg_lt hfl.out F P k
  have hgon := Lib.hid fun k x (h : F + k < 64) h2 hx => chg_on hlen.out (f := F) (p := P) (k := k) (x := x) h h2 hx
  have hgoff := Lib.hid fun k h => chg_off (l := fm.ns) (f := F) (p := P) (k := k) h
  have hgst := Lib.hid fun k (h : 64 ≤ F + k) (h8 : k ≤ 8) => (show chg fm.ns F P 8 = chg fm.ns F P k ∧ anyK F P 8 = anyK F P k by
    have := chg_stop (l := fm.ns) (p := P) h (8 - k)
    rwa [show k + (8 - k) = 8 by omega] at this)
  have hy0 : Hid (anyK F P 0 = false) := rfl
  have hys : Hid (∀ k, anyK F P (k + 1) = (anyK F P k || (decide (F + k < 64) && P.testBit k))) := fun _ => rfl
  have hfd : Hid (anyK F P 8 = true → (decS (frN (chg fm.ns F P 8))).2 ≠ 0) := fun h => hfound.out F P hF64 hP256 h
  clear hfound hfl hfn hlen
  obtain ⟨g, hg⟩ : ∃ g : Nat → List Nat, ∀ k, chg fm.ns F P k = g k := ⟨_, fun _ => rfl⟩
  obtain ⟨y, hy⟩ : ∃ y : Nat → Bool, ∀ k, anyK F P k = y k := ⟨_, fun _ => rfl⟩
  simp only [hg, hy] at hglen hglt hgon hgoff hgst hy0 hys hfd k4
  clear hg hy
  go_wp2
  go_loopw [14, 15] (fun a i wr => ∃ k : Nat, k ≤ 8 ∧ F + k ≤ 64 ∧ i = .int .i64 k ∧ a = .bool (y k) ∧ Below w.heap.size w wr ∧ Blk wr w7.heap.size 40 (vL (g k))) (fun _ i _ => 8 - (intOf i).toNat)
  case atStart => exact ⟨0, by omega, by omega, rfl, by rw [hy0.out], hb0, k4⟩
  case round =>
    clear hb0 k4
    obtain ⟨k, hk, hFk, rfl, rfl, hb0, k4⟩ := hrel
    by_cases hin : k < 8 ∧ F + k < 64
    · obtain ⟨hk8, hk64⟩ := hin
      have hI : (F : Int) + k < 64 := by omega
      have hbit := bit_at P k hP256
      generalize hB : P.testBit k = B at *
      cases B
      · have e1 := Lib.hid (hgoff.out k (by rw [hB]; simp))
        have e2 := Lib.hid (show y (k + 1) = y k by rw [hys.out, hB]; simp)
        go_wp2
        go_roundw
        case rel => exact ⟨k + 1, by omega, by omega, by go_num, by rw [e2.out], hb0, by rw [e1.out]; exact k4⟩
        case measure => simp [intOf]; omega
      · have e2 := Lib.hid (show y (k + 1) = true by rw [hys.out, hB]; simp [hk64])
        have hql : (F + k) / 8 < (g k).length := by rw [hglen.out]; omega
        have hx : (g k)[(F + k) / 8]? = some ((g k)[(F + k) / 8]'hql) := List.getElem?_eq_getElem _
        generalize (g k)[(F + k) / 8]'hql = x at hx
        have e1 := Lib.hid (hgon.out k x hk64 hB hx)
        have hx256 := hglt.out k x (List.mem_of_getElem? hx)
        have hxor := xor_at x (7 - (F + k) % 8) hx256 (by omega)
        go_upto_region 18 with fail
        clear hbit
        obtain ⟨at', hat⟩ : ∃ a : Nat, F + k = a := ⟨_, rfl⟩
        have hat2 : (F : Int) + k = at' := by omega
        rw [hat] at hx hql hxor e1
        rw [hat2]
        obtain ⟨q, hq⟩ : ∃ q : Nat, at' / 8 = q := ⟨_, rfl⟩
        obtain ⟨r, hr⟩ : ∃ r : Nat, at' % 8 = r := ⟨_, rfl⟩
        obtain ⟨s, hs⟩ : ∃ s : Nat, 7 - r = s := ⟨_, rfl⟩
        rw [hq] at hx hql e1
        rw [hr, hs] at hxor e1
        have hq2 : (at' : Int) / 8 = q := by omega
        have hr2 : (at' : Int) % 8 = r := by omega
        have hs2 : (7 : Int) - r = s := by omega
        have hq8 : (q : Int) < 8 := by omega
        have LC : ∀ W, Below wr.heap.size wr W → W.cell? ⟨w7.heap.size, q, none⟩ = some (.int .i64 x) := later (by rw [k4.cell]; simp [vL, hx])
        have FC : ∀ W, Below wr.heap.size wr W → W.frozen? ⟨w7.heap.size, q, none⟩ = false := fun W hb => (k4.below hb).frozen _
        clear hx hql hat hat2 hq hr hs
        refine wp_any (w0 := wr) ⟨[12], [], [some 88, some 89, some 90, some 91, some 92, some 93, some 94, some 95, some 96, some 97, some 98, some 99, none], [[], [0], [], [2], [2, 3], [2, 3, 4], [], [6], [6, 7], [6, 7, 8], [2, 3, 4, 5, 6, 7, 8, 9], [0, 1, 2, 3, 4, 5, 6, 7, 8, 9, 10], [0, 1, 2, 3, 4, 5, 6, 7, 8, 9, 10, 11]], [[], [0], [], [2], [3], [4], [], [6], [7], [8], [5, 9], [1], []]⟩ (fun _ => [w7.heap.size]) (by kernel_rfl) (by kernel_rfl) (by (with_reducible (repeat' (first | assumption | apply jA | apply jB | apply jC | apply jD | apply jE | apply jF | apply hb3 | omega | (simp; done) | (simp; omega) | (dsimp only; omega))))) (fun u => by simp only [putD, Act.put, List.setIfInBounds_toArray, List.set_cons_zero, List.set_cons_succ, Nat.zero_add, Nat.reduceAdd]; rfl) ?_
        apply RGW.on (i := 0) rfl
        · (simp only [gA, gB, gC] <;> rfl)
        · intro γ u W hcur hd
          clear hd
          (try dsimp only)
          refine ⟨rfl, ?_⟩
          go_simp <;> (try go_bits) <;> with_reducible rfl
        · exact fun _ _ _ => rfl
        · rfl
        dsimp only [nA, cA]
        apply RGW.on (i := 1) rfl
        · (simp only [gA, gB, gC] <;> rfl)
        · intro γ u W hcur hd
          obtain ⟨⟨h0, -, -⟩, -⟩ := hd
          dsimp only at h0
          (try simp only [h0])
          refine ⟨rfl, ?_⟩
          go_simp <;> (try go_bits) <;> with_reducible rfl
        · exact fun _ _ _ => rfl
        · rfl
        dsimp only [nA, cA]
        apply RGW.on (i := 2) rfl
        · (simp only [gA, gB, gC] <;> rfl)
        · intro γ u W hcur hd
          clear hd
          (try dsimp only)
          refine ⟨rfl, ?_⟩
          go_simp <;> (try go_bits) <;> with_reducible rfl
        · exact fun _ _ _ => rfl
        · rfl
        dsimp only [nA, cA]
        apply RGW.on (i := 3) rfl
        · (simp only [gA, gB, gC] <;> rfl)
        · intro γ u W hcur hd
          obtain ⟨⟨h2, -, -⟩, -⟩ := hd
          dsimp only at h2
          (try simp only [h2])
          refine ⟨rfl, ?_⟩
          go_simp <;> (try go_bits) <;> with_reducible rfl
        · exact fun _ _ _ => rfl
        · rfl
        dsimp only [nA, cA]
        apply RGW.on (i := 4) rfl
        · (simp only [gA, gB, gC] <;> rfl)
        · intro γ u W hcur hd
          obtain ⟨⟨h3, -, -⟩, -⟩ := hd
          dsimp only at h3
          (try simp only [h3])
          refine ⟨rfl, ?_⟩
          go_simp <;> (try go_bits) <;> with_reducible rfl
        · exact fun _ _ _ => rfl
        · rfl
        dsimp only [nA, cA]
        apply RGW.on (i := 5) rfl
        · (simp only [gA, gB, gC] <;> rfl)
        · intro γ u W hcur hd
          obtain ⟨⟨h4, -, -⟩, -⟩ := hd
          dsimp only at h4
          (try simp only [h4])
          refine ⟨rfl, ?_⟩
          go_simp <;> (try go_bits) <;> with_reducible rfl
        · exact fun _ _ _ => rfl
        · rfl
        dsimp only [nA, cA]
        apply RGW.on (i := 6) rfl
        · (simp only [gA, gB, gC] <;> rfl)
        · intro γ u W hcur hd
          clear hd
          (try dsimp only)
          refine ⟨rfl, ?_⟩
          go_simp <;> (try go_bits) <;> with_reducible rfl
        · exact fun _ _ _ => rfl
        · rfl
        dsimp only [nA, cA]
        apply RGW.on (i := 7) rfl
        · (simp only [gA, gB, gC] <;> rfl)
        · intro γ u W hcur hd
          obtain ⟨⟨h6, -, -⟩, -⟩ := hd
          dsimp only at h6
          (try simp only [h6])
          refine ⟨rfl, ?_⟩
          go_simp <;> (try go_bits) <;> with_reducible rfl
        · exact fun _ _ _ => rfl
        · rfl
        dsimp only [nA, cA]
        apply RGW.on (i := 8) rfl
        · (simp only [gA, gB, gC] <;> rfl)
        · intro γ u W hcur hd
          obtain ⟨⟨h7, -, -⟩, -⟩ := hd
          dsimp only at h7
          (try simp only [h7])
          refine ⟨rfl, ?_⟩
          go_simp <;> (try go_bits) <;> with_reducible rfl
        · exact fun _ _ _ => rfl
        · rfl
        dsimp only [nA, cA]
        apply RGW.on (i := 9) rfl
        · (simp only [gA, gB, gC] <;> rfl)
        · intro γ u W hcur hd
          obtain ⟨⟨h8, -, -⟩, -⟩ := hd
          dsimp only at h8
          (try simp only [h8])
          refine ⟨rfl, ?_⟩
          go_simp <;> (try go_bits) <;> with_reducible rfl
        · exact fun _ _ _ => rfl
        · rfl
        dsimp only [nA, cA]
        apply RGW.on (i := 10) rfl
        · (simp only [gA, gB, gC] <;> rfl)
        · intro γ u W hcur hd
          obtain ⟨⟨h5, -, -⟩, ⟨h9, -, -⟩, -⟩ := hd
          dsimp only at h5 h9
          (try simp only [h5, h9])
          refine ⟨rfl, ?_⟩
          go_simp <;> (try go_bits) <;> with_reducible rfl
        · exact fun _ _ _ => rfl
        · rfl
        dsimp only [nA, cA]
        apply RGW.on (i := 11) rfl
        · (simp only [gA, gB, gC] <;> rfl)
        · intro γ u W hcur hd
          obtain ⟨⟨h1, -, -⟩, -⟩ := hd
          dsimp only at h1
          (try simp only [h1])
          refine ⟨rfl, ?_⟩
          go_simp <;> (try go_bits) <;> with_reducible rfl
        · exact fun _ _ _ => rfl
        · rfl
        dsimp only [nA, cA]
        refine RGW.skip (i := 12) rfl rfl ?_
        dsimp only [nA, cA]
        refine RGW.fin (fun γ u wj hwj hd hdis => ?_)
        obtain ⟨⟨h0, -, -⟩, ⟨h1, -, -⟩, ⟨h2, -, -⟩, ⟨h3, -, -⟩, ⟨h4, -, -⟩, ⟨h5, -, -⟩, ⟨h6, -, -⟩, ⟨h7, -, -⟩, ⟨h8, -, -⟩, ⟨h9, -, -⟩, ⟨h10, -, -⟩, ⟨h11, -, -⟩, -⟩ := hd
        dsimp only at h0 h1 h2 h3 h4 h5 h6 h7 h8 h9 h10 h11
        clear hdis
        simp only [h0, h1, h2, h3, h4, h5, h6, h7, h8, h9, h10, h11]
        clear h11 h10 h9 h8 h7 h6 h5 h4 h3 h2 h1 h0
        clear u
        simp only [List.map_cons, List.map_nil]
        apply PlanW.step
        · (simp only [gA, gB, gC] <;> rfl)
        · rfl
        intro K hK
        first
        | refine wp_store_keep (X := [w7.heap.size]) (w0 := wj) rfl rfl rfl (by with_reducible first | exact bx_refl _ _ | assumption) (by with_reducible first | assumption | (apply Blk.below (hb := hwj); assumption)) (by simp) (by kernel_rfl) (by rfl) (by simp [Value.oneCell']) (fun hres1 hcur => ?_)
          refine hK.out _ _ hcur (fun _ => ?_)
        | go_simp
          refine hK.out _ _ (by (with_reducible (repeat' (first | assumption | apply jG | apply jH | apply jI | apply jJ | apply jK | apply hb3x | omega | (simp; done) | (simp; omega) | (dsimp only; omega))))) (fun hcur => ?_)
        clear hK K
        try simp only [Act.put, List.setIfInBounds_toArray, List.set_cons_zero, List.set_cons_succ]
        refine PlanW.done ?_
        have hb3 := bl_tt hwj
        have k5 := (k4.below hwj).set q (.int .i64 ((x ^^^ 2 ^ s : Nat) : Int))
        have hb5 : Below w.heap.size w (wj.setCell ⟨w7.heap.size, q, none⟩ (.int .i64 ((x ^^^ 2 ^ s : Nat) : Int))) := bl_set (by exact hq3) _ (bl_tr hb0 hwj)
        have e3 : (vL (g k)).setIfInBounds q (.int .i64 ((x ^^^ 2 ^ s : Nat) : Int)) = vL (g (k + 1)) := by
          rw [e1.out]
          simp [vL, List.map_set]
        rw [e3] at k5
        generalize wj.setCell ⟨w7.heap.size, q, none⟩ (.int .i64 ((x ^^^ 2 ^ s : Nat) : Int)) = w9 at *
        clear LC FC hb3 hcur hwj e3 e1 hxor hq2 hr2 hs2 hq8
        go_wp2
        go_roundw
        case rel => exact ⟨k + 1, by omega, by omega, by go_num, by rw [e2.out], hb5, k5⟩
        case measure => simp [intOf]; omega
    · have hend : g 8 = g k ∧ y 8 = y k := by
        by_cases h64 : 64 ≤ F + k
        · exact hgst.out k h64 hk
        · have : k = 8 := by omega
          subst this
          exact ⟨rfl, rfl⟩
      rw [← hend.1] at k4
      rw [← hend.2]
      have hc8 : decide ((k : Int) < 8) = false ∨ (decide ((k : Int) < 8) = true ∧ decide ((F : Int) + k < 64) = false) := by
        by_cases h : k < 8
        · right; simp; omega
        · left; simp; omega
      clear hend hgon hgoff hgst hys hy0 hglt
      have hlen8 := hglen.out 8
      have hfd' := hfd.out
      generalize y 8 = Y at *
      generalize g 8 = G at *
      rw [vL_fr hlen8] at k4
      have hdc := Lib.hid fun W : World => hde2.out (frN G) W
      clear hglen hfd hde2 hlen8
      generalize frN G = ch at *
      obtain ⟨c0, c1, c2, c3, c4, c5, c6, c7⟩ := ch
      generalize decS ⟨c0, c1, c2, c3, c4, c5, c6, c7⟩ = D at *
      obtain ⟨⟨d0, d1, d2, d3, d4, d5, d6⟩, di⟩ := D
      dsimp only at hfd' hdc
      replace hfd' := Lib.hid hfd'
      have L4 := k4.cell
      have hsz0 := hb0.size
      rcases hc8 with hc8 | ⟨hc8, hc9⟩
      all_goals
        go_wp2_with fail
        refine (hdc.out _).mono ?_
        rintro e w9 ⟨rfl, hb1⟩
        replace hb0 := bl_tr hb0 hb1
        clear hb1 hdc L4 k4 hc8
        go_upto_region 21 with fail
        have hY : Y = false ∨ (Y = true ∧ (di == 0) = false) := by
          cases Y
          · exact .inl rfl
          · exact .inr ⟨rfl, by have := hfd'.out rfl; simpa using this⟩
        clear hfd'
        have hszw := hb0.size
        rcases hY with rfl | ⟨rfl, hdi⟩
        all_goals
          go_wp2
          go_loopw [19, 20, 21, 22] (fun u v x i wr => ∃ k : Nat, k ≤ l.length ∧ i = .int .i64 k ∧ Below w.heap.size w wr ∧ Row3 w.heap.size u v x (ga k) (gb k) (gc k) wr) (fun _ _ _ i _ => l.length - (intOf i).toNat)
          case atStart => exact ⟨0, Nat.zero_le _, rfl, by (with_reducible (repeat' (first | assumption | apply jA | apply jB | apply jC | apply jD | apply jE | apply jF | apply hb3 | omega | (simp; done) | (simp; omega) | (dsimp only; omega)))), by rw [hga0.out.1, hga0.out.2.1, hga0.out.2.2]; exact Row3.nil (by simp; omega)⟩
          case round =>
            clear hb0
            obtain ⟨k, hk, rfl, hb0, hrow⟩ := hrel
            by_cases hkn : k < l.length
            · have hx : l[k]? = some l[k] := List.getElem?_eq_getElem _
              generalize l[k] = x at hx
              have hst := Lib.hid (hgs.out k x hx)
              have hle := hgl.out k
              obtain ⟨b, off, rfl, hc⟩ := Hs.out wr hb0 k x hx
              have C0 : ∀ W, Below wr.heap.size wr W → W.cell? ⟨b, off + k * 2, none⟩ = some (.int .i64 x.1) := later (hc 0 _ rfl)
              have C1 : ∀ W, Below wr.heap.size wr W → W.cell? ⟨b, off + k * 2 + 1, none⟩ = some (.int .i64 x.2) := later (hc 1 _ rfl)
              have hm1 := Lib.hid fun W : World => r_Mod x.1 256 W (by decide) (by decide)
              have hm2 := Lib.hid fun W : World => r_Mod x.2 256 W (by decide) (by decide)
              clear hc hx
              obtain ⟨x1, x2⟩ := x
              dsimp only at *
              obtain ⟨p, hp⟩ : ∃ p : Nat, x1 % 256 = p := ⟨(x1 % 256).toNat, by omega⟩
              obtain ⟨q, hq⟩ : ∃ q : Nat, x2 % 256 = q := ⟨(x2 % 256).toNat, by omega⟩
              have hxor := i64_xor p q (by omega) (by omega)
              rw [hp] at hm1 hst
              rw [hq] at hm2 hst
              simp only [Int.toNat_natCast] at hst
              clear hp hq
              replace hxor := Lib.hid hxor
              replace hst := Lib.hid hst.out
              go_upto_region 27 with fail
              refine wp_any (w0 := wr) ⟨[], [], [some 116, some 117, some 118, some 119, some 120, some 121, some 122, some 123, some 124, some 125, some 126, some 127, some 23, some 24], [[], [], [0, 1], [0, 1, 2], [0, 1, 2, 3], [0, 1, 2, 3, 4], [], [], [6, 7], [6, 7, 8], [6, 7, 8, 9], [0, 1, 2, 3, 4, 5, 6, 7, 8, 9, 10], [0, 1, 2, 3, 4, 5, 6, 7, 8, 9, 10, 11], [0, 1, 2, 3, 4, 5, 6, 7, 8, 9, 10, 11, 12]], [[], [], [0, 1], [2], [3], [4], [], [], [6, 7], [8], [9], [10], [5], [11]]⟩ (fun _ => []) (by kernel_rfl) (by kernel_rfl) (by (with_reducible (repeat' (first | assumption | apply jA | apply jB | apply jC | apply jD | apply jE | apply jF | apply hb3 | omega | (simp; done) | (simp; omega) | (dsimp only; omega))))) (fun u => by simp only [putD, Act.put, List.setIfInBounds_toArray, List.set_cons_zero, List.set_cons_succ, Nat.zero_add, Nat.reduceAdd]; rfl) ?_
              apply RGW.on (i := 0) rfl
              · (simp only [gA, gB, gC] <;> rfl)
              · intro γ u W hcur hd
                clear hd
                (try dsimp only)
                refine ⟨rfl, ?_⟩
                go_simp <;> (try go_bits) <;> with_reducible rfl
              · exact fun _ _ _ => rfl
              · rfl
              dsimp only [nA, cA]
              apply RGW.on (i := 1) rfl
              · (simp only [gA, gB, gC] <;> rfl)
              · intro γ u W hcur hd
                clear hd
                (try dsimp only)
                refine ⟨rfl, ?_⟩
                go_simp <;> (try go_bits) <;> with_reducible rfl
              · exact fun _ _ _ => rfl
              · rfl
              dsimp only [nA, cA]
              apply RGW.on (i := 2) rfl
              · (simp only [gA, gB, gC] <;> rfl)
              · intro γ u W hcur hd
                obtain ⟨⟨h0, -, -⟩, ⟨h1, -, -⟩, -⟩ := hd
                dsimp only at h0 h1
                (try simp only [h0, h1])
                refine ⟨rfl, ?_⟩
                go_simp <;> (try go_bits) <;> with_reducible rfl
              · exact fun _ _ _ => rfl
              · rfl
              dsimp only [nA, cA]
              apply RGW.on (i := 3) rfl
              · (simp only [gA, gB, gC] <;> rfl)
              · intro γ u W hcur hd
                obtain ⟨⟨h2, -, -⟩, -⟩ := hd
                dsimp only at h2
                (try simp only [h2])
                refine ⟨rfl, ?_⟩
                go_simp <;> (try go_bits) <;> with_reducible rfl
              · exact fun _ _ _ => rfl
              · rfl
              dsimp only [nA, cA]
              apply RGW.on (i := 4) rfl
              · (simp only [gA, gB, gC] <;> rfl)
              · intro γ u W hcur hd
                obtain ⟨⟨h3, -, -⟩, -⟩ := hd
                dsimp only at h3
                (try simp only [h3])
                refine ⟨rfl, ?_⟩
                go_simp <;> (try go_bits) <;> with_reducible rfl
              · exact fun _ _ _ => rfl
              · rfl
              dsimp only [nA, cA]
              apply RGW.call (i := 5) rfl
              · (simp only [gA, gB, gC] <;> rfl)
              · intro γ u W hcur hd
                obtain ⟨⟨h4, -, -⟩, -⟩ := hd
                dsimp only at h4
                (try simp only [h4])
                refine ⟨rfl, fun K hK => ?_⟩
                go_simp
                (go_at_call 31; (first | (with_reducible refine (hm1.out _).mono ?_) | (with_reducible refine (hm2.out _).mono ?_)); rintro e w3 ⟨rfl, rfl⟩)
                (try dsimp only)
                exact hK.out _ _ rfl (by (with_reducible (repeat' (first | assumption | apply jA | apply jB | apply jC | apply jD | apply jE | apply jF | apply hb3 | omega | (simp; done) | (simp; omega) | (dsimp only; omega)))))
              · exact fun _ _ _ => rfl
              · rfl
              dsimp only [nA, cA]
              apply RGW.on (i := 6) rfl
              · (simp only [gA, gB, gC] <;> rfl)
              · intro γ u W hcur hd
                clear hd
                (try dsimp only)
                refine ⟨rfl, ?_⟩
                go_simp <;> (try go_bits) <;> with_reducible rfl
              · exact fun _ _ _ => rfl
              · rfl
              dsimp only [nA, cA]
              apply RGW.on (i := 7) rfl
              · (simp only [gA, gB, gC] <;> rfl)
              · intro γ u W hcur hd
                clear hd
                (try dsimp only)
                refine ⟨rfl, ?_⟩
                go_simp <;> (try go_bits) <;> with_reducible rfl
              · exact fun _ _ _ => rfl
              · rfl
              dsimp only [nA, cA]
              apply RGW.on (i := 8) rfl
              · (simp only [gA, gB, gC] <;> rfl)
              · intro γ u W hcur hd
                obtain ⟨⟨h6, -, -⟩, ⟨h7, -, -⟩, -⟩ := hd
                dsimp only at h6 h7
                (try simp only [h6, h7])
                refine ⟨rfl, ?_⟩
                go_simp <;> (try go_bits) <;> with_reducible rfl
              · exact fun _ _ _ => rfl
              · rfl
              dsimp only [nA, cA]
              apply RGW.on (i := 9) rfl
              · (simp only [gA, gB, gC] <;> rfl)
              · intro γ u W hcur hd
                obtain ⟨⟨h8, -, -⟩, -⟩ := hd
                dsimp only at h8
                (try simp only [h8])
                refine ⟨rfl, ?_⟩
                go_simp <;> (try go_bits) <;> with_reducible rfl
              · exact fun _ _ _ => rfl
              · rfl
              dsimp only [nA, cA]
              apply RGW.on (i := 10) rfl
              · (simp only [gA, gB, gC] <;> rfl)
              · intro γ u W hcur hd
                obtain ⟨⟨h9, -, -⟩, -⟩ := hd
                dsimp only at h9
                (try simp only [h9])
                refine ⟨rfl, ?_⟩
                go_simp <;> (try go_bits) <;> with_reducible rfl
              · exact fun _ _ _ => rfl
              · rfl
              dsimp only [nA, cA]
              apply RGW.call (i := 11) rfl
              · (simp only [gA, gB, gC] <;> rfl)
              · intro γ u W hcur hd
                obtain ⟨⟨h10, -, -⟩, -⟩ := hd
                dsimp only at h10
                (try simp only [h10])
                refine ⟨rfl, fun K hK => ?_⟩
                go_simp
                (go_at_call 31; (first | (with_reducible refine (hm1.out _).mono ?_) | (with_reducible refine (hm2.out _).mono ?_)); rintro e w3 ⟨rfl, rfl⟩)
                (try dsimp only)
                exact hK.out _ _ rfl (by (with_reducible (repeat' (first | assumption | apply jA | apply jB | apply jC | apply jD | apply jE | apply jF | apply hb3 | omega | (simp; done) | (simp; omega) | (dsimp only; omega)))))
              · exact fun _ _ _ => rfl
              · rfl
              dsimp only [nA, cA]
              apply RGW.on (i := 12) rfl
              · (simp only [gA, gB, gC] <;> rfl)
              · intro γ u W hcur hd
                obtain ⟨⟨h5, -, -⟩, -⟩ := hd
                dsimp only at h5
                (try simp only [h5])
                refine ⟨rfl, ?_⟩
                go_simp <;> (try go_bits) <;> with_reducible rfl
              · exact fun _ _ _ => rfl
              · rfl
              dsimp only [nA, cA]
              apply RGW.on (i := 13) rfl
              · (simp only [gA, gB, gC] <;> rfl)
              · intro γ u W hcur hd
                obtain ⟨⟨h11, -, -⟩, -⟩ := hd
                dsimp only at h11
                (try simp only [h11])
                refine ⟨rfl, ?_⟩
                go_simp <;> (try go_bits) <;> with_reducible rfl
              · exact fun _ _ _ => rfl
              · rfl
              dsimp only [nA, cA]
              refine RGW.fin (fun γ u wj hwj hd hdis => ?_)
              obtain ⟨⟨h0, -, -⟩, ⟨h1, -, -⟩, ⟨h2, -, -⟩, ⟨h3, -, -⟩, ⟨h4, -, -⟩, ⟨h5, -, -⟩, ⟨h6, -, -⟩, ⟨h7, -, -⟩, ⟨h8, -, -⟩, ⟨h9, -, -⟩, ⟨h10, -, -⟩, ⟨h11, -, -⟩, ⟨h12, -, -⟩, ⟨h13, -, -⟩, -⟩ := hd
              dsimp only at h0 h1 h2 h3 h4 h5 h6 h7 h8 h9 h10 h11 h12 h13
              clear hdis
              simp only [h0, h1, h2, h3, h4, h5, h6, h7, h8, h9, h10, h11, h12, h13]
              clear h13 h12 h11 h10 h9 h8 h7 h6 h5 h4 h3 h2 h1 h0
              clear u
              simp only [List.map_nil]
              refine PlanW.done ?_
              have hb3 := bl_tt hwj
              replace hb0 := bl_tr hb0 hwj
              replace hrow := hrow.below hwj
              clear hwj hb3 C0 C1 hm1 hm2
              replace hrow := Lib.hid hrow
              have hxor2 := hxor.out
              obtain ⟨hle1, hle2, hle3⟩ := hle
              have hrow1 := Lib.hid (hrow.out.below (bl_al (.cells #[.int .i64 p] 3) (bl_refl _)))
              have hsz1 := hb0.size
              go_wp2_with (at_builtin; refine wpList_append_own2 rfl _ _ 22 rfl w.heap.size 3 i0 (.int .i64 0) 1 8 Tryd.underlying22 hi hz0 hz1 hz2 rfl (by decide) _ _ _ rfl (hrow1.out.a) ⟨_, 0, none⟩ 1 1 [.int .i64 p] rfl rfl ?c1 ?c2 ?c3 ?c4 ?c5 ?_)
              case c1 =>
                intro j u hj
                match j, hj with
                | 0, hj => simp at hj; subst hj; simp [Addr.add]
              case c2 => intro u hu; simp at hu; subst hu; rfl
              case c3 => unfold maxLen; omega
              case c4 => omega
              case c5 => exact hrow1.out.ge
              intro v1 wA1 ho hg hd
              replace hb0 := (bl_al (.cells #[.int .i64 p] 3) hb0).grown hg (by simp; omega) (own_ge hrow1.out.a)
              replace hrow := Lib.hid (hrow1.out.appA ho hg (by simpa using hd)).rot
              clear ho hg hd hrow1 hsz1
              have hrow2 := Lib.hid (hrow.out.below (bl_al (.cells #[.int .i64 q] 3) (bl_refl _)))
              have hsz2 := hb0.size
              go_wp2_with (at_builtin; refine wpList_append_own2 rfl _ _ 22 rfl w.heap.size 3 i0 (.int .i64 0) 1 8 Tryd.underlying22 hi hz0 hz1 hz2 rfl (by decide) _ _ _ rfl (hrow2.out.a) ⟨_, 0, none⟩ 1 1 [.int .i64 q] rfl rfl ?c1 ?c2 ?c3 ?c4 ?c5 ?_)
              case c1 =>
                intro j u hj
                match j, hj with
                | 0, hj => simp at hj; subst hj; simp [Addr.add]
              case c2 => intro u hu; simp at hu; subst hu; rfl
              case c3 => unfold maxLen; omega
              case c4 => omega
              case c5 => exact hrow2.out.ge
              intro v2 wA2 ho hg hd
              replace hb0 := (bl_al (.cells #[.int .i64 q] 3) hb0).grown hg (by simp; omega) (own_ge hrow2.out.a)
              replace hrow := Lib.hid (hrow2.out.appA ho hg (by simpa using hd)).rot
              clear ho hg hd hrow2 hsz2
              have hrow3 := Lib.hid (hrow.out.below (bl_al (.cells #[.int .i64 ((p ^^^ q : Nat) : Int)] 3) (bl_refl _)))
              have hsz3 := hb0.size
              go_wp2_with (at_builtin; refine wpList_append_own2 rfl _ _ 22 rfl w.heap.size 3 i0 (.int .i64 0) 1 8 Tryd.underlying22 hi hz0 hz1 hz2 rfl (by decide) _ _ _ rfl (hrow3.out.a) ⟨_, 0, none⟩ 1 1 [.int .i64 ((p ^^^ q : Nat) : Int)] rfl rfl ?c1 ?c2 ?c3 ?c4 ?c5 ?_)
              case c1 =>
                intro j u hj
                match j, hj with
                | 0, hj => simp at hj; subst hj; simp [Addr.add]
              case c2 => intro u hu; simp at hu; subst hu; rfl
              case c3 => unfold maxLen; omega
              case c4 => omega
              case c5 => exact hrow3.out.ge
              intro v3 wA3 ho hg hd
              replace hb0 := (bl_al (.cells #[.int .i64 ((p ^^^ q : Nat) : Int)] 3) hb0).grown hg (by simp; omega) (own_ge hrow3.out.a)
              replace hrow := Lib.hid (hrow3.out.appA ho hg (by simpa using hd)).rot
              clear ho hg hd hrow3 hsz3
              go_wp2
              go_roundw
              case rel => exact ⟨k + 1, by omega, by go_num, hb0, by rw [hst.out.1, hst.out.2.1, hst.out.2.2]; exact hrow.out⟩
              case measure => simp [intOf]; omega
            · have e : k = l.length := by omega
              rw [e, hgn.out.1, hgn.out.2.1, hgn.out.2.2] at hrow
              clear e hga0 hgs hgl hgn
              obtain ⟨A1, c1, rfl⟩ := own_slice hrow.a
              obtain ⟨A2, c2, rfl⟩ := own_slice hrow.b
              obtain ⟨A3, c3, rfl⟩ := own_slice hrow.c
              replace hrow := Lib.hid hrow
              go_wp2_with fail
              refine (hcpA.out _ _ _ (own_sl hrow.out.a)).mono ?_
              rintro e wA ⟨B1, k1, rfl, hb1, ho1⟩
              replace hb0 := bl_tr hb0 hb1
              replace hrow := Lib.hid (hrow.out.below hb1)
              clear hb1 hcpA
              go_wp2_with fail
              refine (hrmA.out _ _ _ (own_sl ho1)).mono ?_
              rintro e wB ⟨rfl, hb1⟩
              replace hb0 := bl_tr hb0 hb1
              replace hrow := Lib.hid (hrow.out.below hb1)
              clear hb1 hrmA ho1
              go_wp2_with fail
              refine (hcpB.out _ _ _ (own_sl hrow.out.b)).mono ?_
              rintro e wC ⟨B2, k2, rfl, hb1, ho1⟩
              replace hb0 := bl_tr hb0 hb1
              replace hrow := Lib.hid (hrow.out.below hb1)
              clear hb1 hcpB
              go_wp2_with fail
              refine (hrmB.out _ _ _ (own_sl ho1)).mono ?_
              rintro e wD ⟨rfl, hb1⟩
              replace hb0 := bl_tr hb0 hb1
              replace hrow := Lib.hid (hrow.out.below hb1)
              clear hb1 hrmB ho1
              go_wp2_with fail
              refine (hrmC.out _ _ _ (own_sl hrow.out.c)).mono ?_
              rintro e wE ⟨rfl, hb1⟩
              replace hb0 := bl_tr hb0 hb1
              replace hrow := Lib.hid (hrow.out.below hb1)
              clear hb1 hrmC
              have hxr : bits .xor .i64 (ra : Int) (rb : Int) = ((ra ^^^ rb : Nat) : Int) := i64_xor ra rb (by omega) (by omega)
              have hW : inR (ra : Int) 0 255 = true := inR_iff.2 (by omega)
              go_upto_region 34 with (go_at_call 21; (with_reducible refine (hW ▸ r_Within (ra : Int) 0 255 _).mono ?_); rintro e w3 ⟨rfl, rfl⟩)
              clear hxr
              have hrow4 := Lib.hid (hrow.out.below (bl_al (.cells #[.int .i64 ra] 3) (bl_refl _)))
              have hsz4 := hb0.size
              go_wp2_with (at_builtin; refine wpList_append_own2 rfl _ _ 22 rfl w.heap.size 3 i0 (.int .i64 0) 1 8 Tryd.underlying22 hi hz0 hz1 hz2 rfl (by decide) _ _ _ rfl (hrow4.out.a) ⟨_, 0, none⟩ 1 1 [.int .i64 ra] rfl rfl ?c1 ?c2 ?c3 ?c4 ?c5 ?_)
              case c1 =>
                intro j u hj
                match j, hj with
                | 0, hj => simp at hj; subst hj; simp [Addr.add]
              case c2 => intro u hu; simp at hu; subst hu; rfl
              case c3 => unfold maxLen; omega
              case c4 => omega
              case c5 => exact hrow4.out.ge
              intro v4 wA4 ho hg hd
              replace hb0 := (bl_al (.cells #[.int .i64 ra] 3) hb0).grown hg (by simp; omega) (own_ge hrow4.out.a)
              obtain ⟨A4, c4, rfl⟩ := own_slice ho
              have hsl : Hid (Sl cI 1 wA4 A4 (LA ++ [((ra : Nat) : Int)])) := Lib.hid (own_sl (L := LA ++ [((ra : Nat) : Int)]) (by simpa using ho))
              clear ho hg hd hrow4 hrow
              go_wp2_with fail
              refine (hrmZ.out _ _ _ hsl.out).mono ?_
              rintro e wF ⟨rfl, hb1⟩
              replace hb0 := bl_tr hb0 hb1
              go_wp2
              go_ret
              exact ⟨rfl, hb0⟩
end Go.Proofs.YtdlmkblmljhbfaaDoor
