/-
  Walk: the maximum responses, by the reference.
  Walk: the law on what is carried.
-/
import Derived.Test.YtdlmkblmljhbfaaDoorVCarried3
import Derived.Test.YtdlmkblmljhbfaaDoorU6
import Derived.Test.YtdlmkblmljhbfaaDoorVCarried1
import Derived.Test.YtdlmkblmljhbfaaDoorU5
namespace Go.Proofs.YtdlmkblmljhbfaaDoor
set_option linter.unusedSimpArgs false
set_option linter.unusedVariables false
open Go.RowKit Go.Shelf
attribute [local go_sem] bl_al bl_drew bl_drewN bl_refl bx_al bx_drew bx_drewN bx_refl
set_option maxRecDepth 20000
theorem mx_take (J : List Jb) (k : Nat) (x : Jb) (hx : J[k]? = some x) (i : Nat) : mxv (J.take (k + 1)) i = if i = x.st then max (mxv (J.take k) i) x.resp else mxv (J.take k) i := by
  rw [List.take_add_one, hx]
  unfold mxv
  rw [List.foldl_append]
  simp only [Option.toList, List.foldl_cons, List.foldl_nil]
  by_cases h : i = x.st
  · rw [if_pos h, if_pos h.symm]
  · rw [if_neg h, if_neg (fun e => h e.symm)]
/-- Numbers by their places, as cells. -/
def cLn (n : Nat) (f : Nat → Int) : Array Value := ((List.range n).map fun k => Value.int .i64 (f k)).toArray
theorem cLn_at {n i : Nat} (f : Nat → Int) (h : i < n) : (cLn n f)[i]? = some (.int .i64 (f i)) := by
  unfold cLn
  simp [h]
theorem cLn_set {n i : Nat} (f g : Nat → Int) (v : Int) (h : i < n) (hg : ∀ k, g k = if k = i then v else f k) : (cLn n f).setIfInBounds i (.int .i64 v) = cLn n g := by
  apply Array.ext_getElem?
  intro j
  by_cases e : i = j
  · subst e
    rw [Array.getElem?_setIfInBounds_self_of_lt (by simpa [cLn] using h), cLn_at _ h, hg, if_pos rfl]
  · have e' : ¬ j = i := fun h => e h.symm
    rw [Array.getElem?_setIfInBounds_ne e]
    by_cases hj : j < n
    · rw [cLn_at _ hj, cLn_at _ hj, hg, if_neg e']
    · unfold cLn
      simp [hj]
theorem JR.oth {D : Nat} {u v : Value} {O : List Int} {J : List Jb} {w : World} (h : JR D u v O J w) {g : Nat} (hg : g < D) (i : Nat) (x : Value) : JR D u v O J (w.setCell ⟨g, i, none⟩ x) :=
  ⟨own_set x h.a hg, own_set x h.b hg, h.d, by simpa using h.ge⟩
set_option maxHeartbeats 8000000 in
theorem r_Worst (l : List Sm) (st : List Int) (T : Nat) (Al As : Option Addr) (cl cs : Nat) (w : World) (ho : Opn l st) (hT : T ≤ 400) (hl : Sl cSm 4 w Al l) (hst : Sl cI 1 w As st) :
    Calls Tryd.prog 58 #[.slice Al l.length cl, .slice As st.length cs, .int .i64 T] w (fun ex w' => Below w.heap.size w w' ∧ ∃ g, ex = .returned (.slice (some ⟨g, 0, none⟩) l.length l.length) ∧
      Blk w' g 3 (cLn l.length fun i => mxv (jRun l st false T).2 i)) := by
  have hca := Lib.hid fun W (hb : Below w.heap.size w W) => r_Carried l st T false Al As cl cs W ho hT (hl.below hb) (hst.below hb)
  have hbd : Hid (∀ j ∈ (jRun l st false T).2, j.st < l.length ∧ 0 ≤ j.resp ∧ j.resp ≤ T) := fun j hj => by
    have := (jRun_sim (chs_prio l) ho T).2.bd j hj
    omega
  have hjl := jRun_len l st false T
  have hlen := ho.len
  have hTl : T * l.length ≤ 400 * 6 := Nat.mul_le_mul hT hlen
  have hmk : ∀ W : World, (Instr.makeSlice 22 (.int .i64 (l.length : Nat)) (.int .i64 (l.length : Nat))).run Tryd.prog W = .ok (.slice (some ⟨W.heap.size, 0, none⟩) l.length l.length) (W.alloc (.cells (cLn l.length fun _ => 0) 3)) := fun W => by
    have := mk_ints l.length hlen W
    exact this
  generalize jRun l st false T = R at *
  obtain ⟨O, J⟩ := R
  dsimp only at *
  have hM0 : (fun i => mxv (J.take 0) i) = fun _ => 0 := rfl
  have hM1 : mxv (J.take J.length) = mxv J := by rw [List.take_length]
  have hMs := Lib.hid fun (k : Nat) (x : Jb) (hx : J[k]? = some x) => mx_take J k x hx
  have hMb : Hid (∀ k i, 0 ≤ mxv (J.take k) i) := fun k i => mx_nonneg _ _
  clear ho hl hst
  generalize l.length = n at *
  generalize st.length = ms at *
  go_enter Tryd.func58, Tryd.ntmps58
  go_upto_region 2 with fail
  have k0 := Blk.new w 3 (cLn n fun _ => 0)
  have hb0 : Below w.heap.size w (w.alloc (.cells (cLn n fun _ => 0) 3)) := bl_al _ (bl_refl w)
  have hg : w.heap.size < (w.alloc (.cells (cLn n fun _ => 0) 3)).heap.size := by simp
  generalize w.alloc (.cells (cLn n fun _ => 0) 3) = wa at *
  rw [← hM0] at k0
  clear hmk hM0
  go_wp2_with fail
  refine (hca.out _ hb0).mono ?_
  rintro e w1 ⟨hb1, u, v, rfl, hj⟩
  replace hb0 := bl_tr hb0 hb1
  replace k0 := k0.below hb1
  clear hca hb1
  obtain ⟨A2, c2, rfl⟩ := own_slice hj.b
  replace hbd := Lib.hid hbd.out
  go_wp2
  go_loopw [10] (fun i wr => ∃ k : Nat, k ≤ J.length ∧ i = .int .i64 k ∧ Below w.heap.size w wr ∧ Blk wr w.heap.size 3 (cLn n (mxv (J.take k))) ∧ JR wa.heap.size u (.slice A2 J.length c2) O J wr) (fun i _ => J.length - (intOf i).toNat)
  case atStart => exact ⟨0, Nat.zero_le _, rfl, hb0, k0, hj⟩
  case round =>
    clear hj k0 hb0
    obtain ⟨k, hk, rfl, hb0, k0, hj⟩ := hrel
    by_cases hkn : k < J.length
    rotate_left
    · obtain rfl : k = J.length := by omega
      rw [hM1] at k0
      replace hM1 := Lib.hid hM1
      go_wp2
      go_ret
      exact ⟨hb0, _, rfl, k0⟩
    · obtain ⟨x, hx⟩ : ∃ x, J[k]? = some x := ⟨_, List.getElem?_eq_getElem hkn⟩
      have hxb := hbd.out x (List.mem_of_getElem? hx)
      have hs := Lib.hid (hMs.out k x hx)
      have hmb := hMb.out k x.st
      obtain ⟨g, cJ, hv, hgD, -, -, hgc⟩ := hj.at hx
      injection hv with hv e5 e6
      subst hv e6
      have LX0 := hgc 0 _ rfl
      have LX3 := hgc 3 _ rfl
      simp only [Nat.add_zero] at LX0
      have hkn2 : (k : Int) < J.length := by omega
      have hsn : x.st < n := hxb.1
      have hsn2 : (x.st : Int) < n := by omega
      have C0 : ∀ W, Below wr.heap.size wr W → W.cell? ⟨w.heap.size, x.st, none⟩ = some (.int .i64 (mxv (J.take k) x.st)) := fun W hb => by rw [(k0.below hb).cell]; exact cLn_at _ hsn
      have F0 : ∀ W, Below wr.heap.size wr W → W.frozen? ⟨w.heap.size, x.st, none⟩ = false := fun W hb => (k0.below hb).frozen _
      replace hj := Lib.hid hj
      clear hgc e5
      obtain ⟨M2, hM2⟩ : ∃ M2, mxv (J.take (k + 1)) = M2 := ⟨_, rfl⟩
      rw [hM2] at hs
      obtain ⟨M1, hM⟩ : ∃ M1, mxv (J.take k) = M1 := ⟨_, rfl⟩
      rw [hM] at hs hmb k0 C0
      go_upto_region 7 with fail
      refine wp_any (w0 := wr) ⟨[13], [], [some 33, some 34, some 35, some 36, some 37, some 38, some 39, some 40, some 41, some 42, some 43, some 44, some 45, none], [[], [], [], [], [2, 3], [2, 3, 4], [], [], [6, 7], [6, 7, 8], [6, 7, 8, 9], [2, 3, 4, 5, 6, 7, 8, 9, 10], [0, 1, 2, 3, 4, 5, 6, 7, 8, 9, 10, 11], [0, 1, 2, 3, 4, 5, 6, 7, 8, 9, 10, 11, 12]], [[], [], [], [], [2, 3], [4], [], [], [6, 7], [8], [9], [5, 10], [0, 1], []]⟩ (fun _ => [w.heap.size]) (by kernel_rfl) (by kernel_rfl) (by (with_reducible (repeat' (first | assumption | apply jA | apply jB | apply jC | apply jD | apply jE | apply jF | apply hb3 | omega | (simp; done) | (simp; omega) | (dsimp only; omega))))) (fun u => by simp only [putD, Act.put, List.setIfInBounds_toArray, List.set_cons_zero, List.set_cons_succ, Nat.zero_add, Nat.reduceAdd]; rfl) ?_
      apply RGW.on (i := 0) rfl
      · (simp only [gA, gB, gC] <;> rfl)
      · intro γ u W hcur hd
        clear hd
        (try dsimp only)
        refine ⟨rfl, ?_⟩
        go_simp <;> (try go_bits) <;> with_reducible rfl
      · exact fun _ _ _ => rfl
      · rfl
      dsimp only [nA, cA]
      apply RGW.on (i := 1) rfl
      · (simp only [gA, gB, gC] <;> rfl)
      · intro γ u W hcur hd
        clear hd
        (try dsimp only)
        refine ⟨rfl, ?_⟩
        go_simp <;> (try go_bits) <;> with_reducible rfl
      · exact fun _ _ _ => rfl
      · rfl
      dsimp only [nA, cA]
      apply RGW.on (i := 2) rfl
      · (simp only [gA, gB, gC] <;> rfl)
      · intro γ u W hcur hd
        clear hd
        (try dsimp only)
        refine ⟨rfl, ?_⟩
        go_simp <;> (try go_bits) <;> with_reducible rfl
      · exact fun _ _ _ => rfl
      · rfl
      dsimp only [nA, cA]
      apply RGW.on (i := 3) rfl
      · (simp only [gA, gB, gC] <;> rfl)
      · intro γ u W hcur hd
        clear hd
        (try dsimp only)
        refine ⟨rfl, ?_⟩
        go_simp <;> (try go_bits) <;> with_reducible rfl
      · exact fun _ _ _ => rfl
      · rfl
      dsimp only [nA, cA]
      apply RGW.on (i := 4) rfl
      · (simp only [gA, gB, gC] <;> rfl)
      · intro γ u W hcur hd
        obtain ⟨⟨h2, -, -⟩, ⟨h3, -, -⟩, -⟩ := hd
        dsimp only at h2 h3
        (try simp only [h2, h3])
        refine ⟨rfl, ?_⟩
        go_simp <;> (try go_bits) <;> with_reducible rfl
      · exact fun _ _ _ => rfl
      · rfl
      dsimp only [nA, cA]
      apply RGW.on (i := 5) rfl
      · (simp only [gA, gB, gC] <;> rfl)
      · intro γ u W hcur hd
        obtain ⟨⟨h4, -, -⟩, -⟩ := hd
        dsimp only at h4
        (try simp only [h4])
        refine ⟨rfl, ?_⟩
        go_simp <;> (try go_bits) <;> with_reducible rfl
      · exact fun _ _ _ => rfl
      · rfl
      dsimp only [nA, cA]
      apply RGW.on (i := 6) rfl
      · (simp only [gA, gB, gC] <;> rfl)
      · intro γ u W hcur hd
        clear hd
        (try dsimp only)
        refine ⟨rfl, ?_⟩
        go_simp <;> (try go_bits) <;> with_reducible rfl
      · exact fun _ _ _ => rfl
      · rfl
      dsimp only [nA, cA]
      apply RGW.on (i := 7) rfl
      · (simp only [gA, gB, gC] <;> rfl)
      · intro γ u W hcur hd
        clear hd
        (try dsimp only)
        refine ⟨rfl, ?_⟩
        go_simp <;> (try go_bits) <;> with_reducible rfl
      · exact fun _ _ _ => rfl
      · rfl
      dsimp only [nA, cA]
      apply RGW.on (i := 8) rfl
      · (simp only [gA, gB, gC] <;> rfl)
      · intro γ u W hcur hd
        obtain ⟨⟨h6, -, -⟩, ⟨h7, -, -⟩, -⟩ := hd
        dsimp only at h6 h7
        (try simp only [h6, h7])
        refine ⟨rfl, ?_⟩
        go_simp <;> (try go_bits) <;> with_reducible rfl
      · exact fun _ _ _ => rfl
      · rfl
      dsimp only [nA, cA]
      apply RGW.on (i := 9) rfl
      · (simp only [gA, gB, gC] <;> rfl)
      · intro γ u W hcur hd
        obtain ⟨⟨h8, -, -⟩, -⟩ := hd
        dsimp only at h8
        (try simp only [h8])
        refine ⟨rfl, ?_⟩
        go_simp <;> (try go_bits) <;> with_reducible rfl
      · exact fun _ _ _ => rfl
      · rfl
      dsimp only [nA, cA]
      apply RGW.on (i := 10) rfl
      · (simp only [gA, gB, gC] <;> rfl)
      · intro γ u W hcur hd
        obtain ⟨⟨h9, -, -⟩, -⟩ := hd
        dsimp only at h9
        (try simp only [h9])
        refine ⟨rfl, ?_⟩
        go_simp <;> (try go_bits) <;> with_reducible rfl
      · exact fun _ _ _ => rfl
      · rfl
      dsimp only [nA, cA]
      apply RGW.on (i := 11) rfl
      · (simp only [gA, gB, gC] <;> rfl)
      · intro γ u W hcur hd
        obtain ⟨⟨h5, -, -⟩, ⟨h10, -, -⟩, -⟩ := hd
        dsimp only at h5 h10
        (try simp only [h5, h10])
        refine ⟨rfl, ?_⟩
        go_simp <;> (try go_bits) <;> with_reducible rfl
      · exact fun _ _ _ => rfl
      · rfl
      dsimp only [nA, cA]
      apply RGW.on (i := 12) rfl
      · (simp only [gA, gB, gC] <;> rfl)
      · intro γ u W hcur hd
        obtain ⟨⟨h0, -, -⟩, ⟨h1, -, -⟩, -⟩ := hd
        dsimp only at h0 h1
        (try simp only [h0, h1])
        refine ⟨rfl, ?_⟩
        go_simp <;> (try go_bits) <;> with_reducible rfl
      · exact fun _ _ _ => rfl
      · rfl
      dsimp only [nA, cA]
      refine RGW.skip (i := 13) rfl rfl ?_
      dsimp only [nA, cA]
      refine RGW.fin (fun γ u w2 hw2 hd hdis => ?_)
      obtain ⟨⟨h0, -, -⟩, ⟨h1, -, -⟩, ⟨h2, -, -⟩, ⟨h3, -, -⟩, ⟨h4, -, -⟩, ⟨h5, -, -⟩, ⟨h6, -, -⟩, ⟨h7, -, -⟩, ⟨h8, -, -⟩, ⟨h9, -, -⟩, ⟨h10, -, -⟩, ⟨h11, -, -⟩, ⟨h12, -, -⟩, -⟩ := hd
      dsimp only at h0 h1 h2 h3 h4 h5 h6 h7 h8 h9 h10 h11 h12
      clear hdis
      simp only [h0, h1, h2, h3, h4, h5, h6, h7, h8, h9, h10, h11, h12]
      clear h12 h11 h10 h9 h8 h7 h6 h5 h4 h3 h2 h1 h0
      clear u
      simp only [List.map_cons, List.map_nil]
      apply PlanW.step
      · (simp only [gA, gB, gC] <;> rfl)
      · rfl
      intro K hK
      first
      | refine wp_store_keep (X := [w.heap.size]) (w0 := w2) rfl rfl rfl (by with_reducible first | exact bx_refl _ _ | assumption) (by with_reducible first | assumption | (apply Blk.below (hb := hw2); assumption)) (by simp) (by kernel_rfl) (by rfl) (by simp [Value.oneCell']) (fun hres1 hcur => ?_)
        refine hK.out _ _ hcur (fun _ => ?_)
      | go_simp
        refine hK.out _ _ (by (with_reducible (repeat' (first | assumption | apply jG | apply jH | apply jI | apply jJ | apply jK | apply hb3x | omega | (simp; done) | (simp; omega) | (dsimp only; omega))))) (fun hcur => ?_)
      clear hK K
      try simp only [Act.put, List.setIfInBounds_toArray, List.set_cons_zero, List.set_cons_succ]
      refine PlanW.done ?_
      have hb3 := bl_tt hw2
      have k1 := (k0.below hw2).set x.st (.int .i64 (max (M1 x.st) x.resp))
      rw [cLn_set M1 M2 _ hsn (fun i => by rw [hs.out]; by_cases e : i = x.st <;> simp [e])] at k1
      have hb2 := bl_set (p := ⟨w.heap.size, x.st, none⟩) (by simp) (.int .i64 (max (M1 x.st) x.resp)) (bl_tr hb0 hw2)
      have hj2 := Lib.hid ((hj.out.below hw2).oth (g := w.heap.size) hg x.st (.int .i64 (max (M1 x.st) x.resp)))
      generalize w2.setCell ⟨w.heap.size, x.st, none⟩ (.int .i64 (max (M1 x.st) x.resp)) = w3 at *
      clear hb3 hw2 LX0 LX3 C0 F0
      replace hM2 := Lib.hid hM2
      replace hM := Lib.hid hM
      go_wp2
      go_roundw
      case rel => exact ⟨k + 1, by omega, by go_num, hb2, by rw [hM2.out]; exact k1, hj2.out⟩
      case measure => simp [intOf]; omega
end Go.Proofs.YtdlmkblmljhbfaaDoor
namespace Go.Proofs.YtdlmkblmljhbfaaDoor
set_option linter.unusedSimpArgs false
set_option linter.unusedVariables false
open Go.RowKit Go.Shelf
attribute [local go_sem] bl_al bl_drew bl_drewN bl_refl bx_al bx_drew bx_drewN bx_refl
set_option maxRecDepth 20000
theorem few_ok3 {l : List Sm} (h : fewB l = true) : l.length ≤ 8 := by
  unfold fewB at h
  rw [Bool.and_eq_true, decide_eq_true_eq] at h
  omega
theorem stE_sms {l : List Sm} {st : List Int} {t : Int} (h : smsErr l ≠ 0) : stE l st t = smsErr l := by
  simp [stE, fstE, h]
theorem cLn_sl {W : World} {g n : Nat} {f : Nat → Int} (h : Blk W g 3 (cLn n f)) : Sl cI 1 W (some ⟨g, 0, none⟩) ((List.range n).map f) := fun k x hx => by
  refine ⟨g, 0, rfl, fun j v hv => ?_⟩
  match j, hv with
  | 0, hv =>
    have hk : k < n := by simpa using (List.getElem?_eq_some_iff.1 hx).1
    have hx2 : x = f k := by simp [hk] at hx; exact hx.symm
    subst hx2
    simp only [cI, List.getElem?_cons_zero] at hv
    injection hv with hv
    subst hv
    rw [h.cell]
    simpa using cLn_at f hk
  | j + 1, hv => simp [cI] at hv
/-- Numbers, or an error and none. -/
def CarP (w : World) (V : Int) (L : List Int) (e : Ending) (w' : World) : Prop :=
  Below w.heap.size w w' ∧ ∃ A3 n c3, e = .returned (.tuple #[.slice A3 (n : Nat) c3, .int .i64 V]) ∧ (V ≠ 0 → n = 0) ∧ (V = 0 → n = L.length ∧ Sl cI 1 w' A3 L)
theorem map_len {n : Nat} (f : Nat → Int) : ((List.range n).map f).length = n := by simp
set_option maxHeartbeats 0 in
theorem r_BusCarried (l : List Sm) (st : List Int) (t : Int) (A As : Option Addr) (c cs : Nat) (w : World) (hs : Sl cSm 4 w A l) (hc : l.length ≤ c) (hnm : ∀ s ∈ l, s.name.size ≤ maxLen) (hst : Sl cI 1 w As st) (hT : Tab w) :
    Calls Tryd.prog 9 #[.slice A l.length c, .slice As st.length cs, .int .i64 t] w (Ret (.bool true) w) := by
  have haw := Lib.hid fun W (hb : Below w.heap.size w W) => r_awake W (hT.below hb)
  have hfw := Lib.hid fun W (hb : Below w.heap.size w W) => r_fewStreams l A c W (hs.below hb)
  have hwn := Lib.hid fun W => r_Within t 61 400 W
  have hF8 := Lib.hid fun h : fewB l = true => few_ok3 h
  have hn0 := Lib.hid fun (h : fewB l = true) W (hb : Below w.heap.size w W) => (show SmIn l A c W from ⟨by have := few_ok3 h; omega, hc, hnm, hs.below hb⟩)
  have Hst := Lib.hid fun W (hb : Below w.heap.size w W) => hst.below hb
  have Hs := Lib.hid fun W (hb : Below w.heap.size w W) => hs.below hb
  clear hs hc hnm hst hT
  by_cases hq : fewB l = true ∧ st.length ≤ 8 ∧ inR t 61 400 = false
  rotate_left
  · clear hn0 hF8 Hst Hs
    have hsl0 : (0 : Int) ≤ st.length := by omega
    generalize l.length = n at *
    generalize st.length = m at *
    cases hF : fewB l
    · rw [hF] at hfw hq
      replace hq := Lib.hid hq
      go_enter Tryd.func9, Tryd.ntmps9
      go_wp2_with fail
      refine (haw.out w (bl_refl _)).mono ?_
      rintro e wa ⟨rfl, hb0⟩
      go_wp2_with fail
      refine (hfw.out wa hb0).mono ?_
      rintro e wb ⟨rfl, rfl⟩
      go_wp2
      go_ret
      exact ⟨rfl, hb0⟩
    · rw [hF] at hfw hq
      by_cases hm : m ≤ 8
      · have hR : inR t 61 400 = true := by
          cases h : inR t 61 400
          · exact absurd ⟨rfl, hm, h⟩ hq
          · rfl
        rw [hR] at hwn
        have hm2 : ¬ (8 : Int) < m := by omega
        clear hq hR
        go_enter Tryd.func9, Tryd.ntmps9
        go_wp2_with fail
        refine (haw.out w (bl_refl _)).mono ?_
        rintro e wa ⟨rfl, hb0⟩
        go_wp2_with fail
        refine (hfw.out wa hb0).mono ?_
        rintro e wb ⟨rfl, rfl⟩
        go_wp2_with fail
        refine (hwn.out _).mono ?_
        rintro e wb ⟨rfl, rfl⟩
        go_wp2
        go_ret
        exact ⟨rfl, hb0⟩
      · have hm2 : (8 : Int) < m := by omega
        clear hq
        go_enter Tryd.func9, Tryd.ntmps9
        go_wp2_with fail
        refine (haw.out w (bl_refl _)).mono ?_
        rintro e wa ⟨rfl, hb0⟩
        go_wp2_with fail
        refine (hfw.out wa hb0).mono ?_
        rintro e wb ⟨rfl, rfl⟩
        go_wp2
        go_ret
        exact ⟨rfl, hb0⟩
  obtain ⟨hF, hm8, hR⟩ := hq
  have hsl : st.length ≤ 100000 := by omega
  rw [hF] at hfw
  rw [hR] at hwn
  have hl8 := hF8.out hF
  have hn1 := Lib.hid (hn0.out hF)
  clear hF8 hn0 hF
  have hse := Lib.hid fun W (hb : Below w.heap.size w W) => r_StreamsErr l A c W (hn1.out W hb)
  have hsr := Lib.hid fun W (hb : Below w.heap.size w W) => r_StartsErr l st t A As c cs W (Hst.out W hb) hl8
  have hcp := Lib.hid fun W (hb : Below w.heap.size w W) => r_CopyStreams l A c W (hn1.out W hb)
  have hci := Lib.hid fun W (hb : Below w.heap.size w W) => r_CopyInts st As cs W (Hst.out W hb) (by omega)
  have hcb : Hid (∀ (A2 : Option Addr) (c2 : Nat) (A1 : Option Addr) (c1 : Nat) (W : World), SmIn l A2 c2 W → Sl cI 1 W A1 st → Calls Tryd.prog 46 #[.slice A2 l.length c2, .slice A1 st.length c1, .int .i64 t] W (CarP W (stE l st t) (runS prioS l st t.toNat).2)) := fun A2 c2 A1 c1 W h1 h2 =>
    (c_CarriedBy l st t A2 A1 c2 c1 W h1 h2 hsl).mono fun e w' ⟨hb, hh⟩ => by
      rcases hh with ⟨h0, e3⟩ | ⟨h0, A3, c3, e3, h3⟩
      · exact ⟨hb, none, 0, 0, e3, fun _ => rfl, fun h => absurd h h0⟩
      · have e4 : (runS prioS l st t.toNat).2.length = t.toNat := runS_len ..
        exact ⟨hb, A3, t.toNat, c3, by rw [h0]; exact e3, fun h => absurd h0 h, fun _ => ⟨e4.symm, own_sl (L := (runS prioS l st t.toNat).2) (by rw [e4]; exact h3)⟩⟩
  have hef : Hid (∀ (A2 : Option Addr) (c2 : Nat) (A1 : Option Addr) (c1 : Nat) (W : World), SmIn l A2 c2 W → Sl cI 1 W A1 st → Calls Tryd.prog 56 #[.slice A2 l.length c2, .slice A1 st.length c1, .int .i64 t] W (CarP W (stE l st t) (runS (dlS l) l st t.toNat).2)) := fun A2 c2 A1 c1 W h1 h2 =>
    (c_EarliestFirst l st t A2 A1 c2 c1 W h1 h2 hsl).mono fun e w' ⟨hb, hh⟩ => by
      rcases hh with ⟨h0, e3⟩ | ⟨h0, A3, c3, e3, h3⟩
      · exact ⟨hb, none, 0, 0, e3, fun _ => rfl, fun h => absurd h h0⟩
      · have e4 : (runS (dlS l) l st t.toNat).2.length = t.toNat := runS_len ..
        exact ⟨hb, A3, t.toNat, c3, by rw [h0]; exact e3, fun h => absurd h0 h, fun _ => ⟨e4.symm, own_sl (L := (runS (dlS l) l st t.toNat).2) (by rw [e4]; exact h3)⟩⟩
  have hwf : Hid (∀ (A2 : Option Addr) (c2 : Nat) (A1 : Option Addr) (c1 : Nat) (W : World), SmIn l A2 c2 W → Sl cI 1 W A1 st → Calls Tryd.prog 43 #[.slice A2 l.length c2, .slice A1 st.length c1, .int .i64 t] W (CarP W (stE l st t) ((List.range l.length).map (runS prioS l st t.toNat).1.wo))) := fun A2 c2 A1 c1 W h1 h2 =>
    (c_WorstFrom l st t A2 A1 c2 c1 W h1 h2 hsl).mono fun e w' ⟨hb, hh⟩ => by
      rcases hh with ⟨h0, e3⟩ | ⟨h0, A3, e3, h3⟩
      · exact ⟨hb, none, 0, 0, e3, fun _ => rfl, fun h => absurd h h0⟩
      · exact ⟨hb, A3, l.length, l.length, by rw [h0]; exact e3, fun h => absurd h0 h, fun _ => ⟨(map_len _).symm, h3⟩⟩
  have hVE := Lib.hid fun h : smsErr l ≠ 0 => stE_sms (st := st) (t := t) h
  have hVS := Lib.hid fun h : smsErr l = 0 => stE_eq0 (st := st) (t := t) h
  have hca := Lib.hid fun (e : Bool) (T : Nat) (hT : t = T) (h0 : stE l st t = 0) W (hb : Below w.heap.size w W) => r_Carried l st T e A As c cs W (stE_ok h0).1 (by have := (stE_ok h0).2; omega) (Hs.out W hb) (Hst.out W hb)
  have hwo := Lib.hid fun (T : Nat) (hT : t = T) (h0 : stE l st t = 0) W (hb : Below w.heap.size w W) => r_Worst l st T A As c cs W (stE_ok h0).1 (by have := (stE_ok h0).2; omega) (Hs.out W hb) (Hst.out W hb)
  have hok := Lib.hid fun h0 : stE l st t = 0 => (stE_ok h0).2
  have hj1 := Lib.hid fun (T : Nat) (hT : t = T) (h0 : stE l st t = 0) => (show (jRun l st false T).1 = (runS prioS l st t.toNat).2 from by rw [hT]; exact (jRun_sim (chs_prio l) (stE_ok h0).1 T).1)
  have hj2 := Lib.hid fun (T : Nat) (hT : t = T) (h0 : stE l st t = 0) => (show (jRun l st true T).1 = (runS (dlS l) l st t.toNat).2 from by rw [hT]; exact (jRun_sim (chs_dl l) (stE_ok h0).1 T).1)
  have hj3 := Lib.hid fun (T : Nat) (hT : t = T) (h0 : stE l st t = 0) => (show (fun i => mxv (jRun l st false T).2 i) = (runS prioS l st t.toNat).1.wo from by rw [hT]; funext i; exact (jRun_sim (chs_prio l) (stE_ok h0).1 T).2.wo i)
  have hl1 : Hid ((runS prioS l st t.toNat).2.length = t.toNat) := runS_len ..
  have hl2 : Hid ((runS (dlS l) l st t.toNat).2.length = t.toNat) := runS_len ..
  clear Hs Hst hn1
  generalize stE l st t = V at *
  generalize stE0 l st t = S at *
  generalize smsErr l = E at *
  generalize (runS prioS l st t.toNat).2 = L1 at *
  generalize (runS (dlS l) l st t.toNat).2 = L2 at *
  generalize (runS prioS l st t.toNat).1.wo = L3 at *
  have hl3 := Lib.hid (map_len (n := l.length) L3)
  generalize hL3 : (List.range l.length).map L3 = M3 at *
  have hm2 : ¬ (8 : Int) < st.length := by omega
  replace hL3 := Lib.hid hL3
  clear hR
  go_enter Tryd.func9, Tryd.ntmps9
  go_wp2_with fail
  refine (haw.out w (bl_refl _)).mono ?_
  rintro e wa ⟨rfl, hb0⟩
  go_wp2_with fail
  refine (hfw.out wa hb0).mono ?_
  rintro e wb ⟨rfl, rfl⟩
  go_wp2_with fail
  refine (hwn.out _).mono ?_
  rintro e wb ⟨rfl, rfl⟩
  go_wp2_with fail
  refine (hcp.out _ hb0).mono ?_
  rintro e v1 ⟨A1, c1, rfl, hb1, hm⟩
  replace hb0 := bl_tr hb0 hb1
  clear hb1 haw hfw hwn
  go_wp2_with fail
  refine (hci.out _ hb0).mono ?_
  rintro e v2 ⟨A2, c2, rfl, hb1, ho⟩
  replace hb0 := bl_tr hb0 hb1
  replace hm := hm.below hb1
  clear hb1
  go_wp2_with fail
  refine (hcb.out _ _ _ _ _ hm (own_sl ho)).mono ?_
  rintro e v3 ⟨hb1, B1, n1, k1, rfl, z1, q1⟩
  replace hb0 := bl_tr hb0 hb1
  clear hb1 hm ho hcb
  have m1 := Lib.hid fun h => (q1 h).1
  replace q1 := Lib.hid fun h => (q1 h).2
  replace z1 := Lib.hid z1
  go_wp2_with fail
  refine (hcp.out _ hb0).mono ?_
  rintro e v4 ⟨A1, c1, rfl, hb1, hm⟩
  replace hb0 := bl_tr hb0 hb1
  replace q1 := Lib.hid fun h => (q1.out h).below hb1
  clear hb1
  go_wp2_with fail
  refine (hci.out _ hb0).mono ?_
  rintro e v5 ⟨A2, c2, rfl, hb1, ho⟩
  replace hb0 := bl_tr hb0 hb1
  replace q1 := Lib.hid fun h => (q1.out h).below hb1
  replace hm := hm.below hb1
  clear hb1
  go_wp2_with fail
  refine (hef.out _ _ _ _ _ hm (own_sl ho)).mono ?_
  rintro e v6 ⟨hb1, B2, n2, k2, rfl, z2, q2⟩
  replace hb0 := bl_tr hb0 hb1
  replace q1 := Lib.hid fun h => (q1.out h).below hb1
  clear hb1 hm ho hef
  have m2 := Lib.hid fun h => (q2 h).1
  replace q2 := Lib.hid fun h => (q2 h).2
  replace z2 := Lib.hid z2
  go_wp2_with fail
  refine (hcp.out _ hb0).mono ?_
  rintro e v7 ⟨A1, c1, rfl, hb1, hm⟩
  replace hb0 := bl_tr hb0 hb1
  replace q1 := Lib.hid fun h => (q1.out h).below hb1
  replace q2 := Lib.hid fun h => (q2.out h).below hb1
  clear hb1
  go_wp2_with fail
  refine (hci.out _ hb0).mono ?_
  rintro e v8 ⟨A2, c2, rfl, hb1, ho⟩
  replace hb0 := bl_tr hb0 hb1
  replace q1 := Lib.hid fun h => (q1.out h).below hb1
  replace q2 := Lib.hid fun h => (q2.out h).below hb1
  replace hm := hm.below hb1
  clear hb1
  go_wp2_with fail
  refine (hwf.out _ _ _ _ _ hm (own_sl ho)).mono ?_
  rintro e v9 ⟨hb1, B3, n3, k3, rfl, z3, q3⟩
  replace hb0 := bl_tr hb0 hb1
  replace q1 := Lib.hid fun h => (q1.out h).below hb1
  replace q2 := Lib.hid fun h => (q2.out h).below hb1
  clear hb1 hm ho hwf
  have m3 := Lib.hid fun h => (q3 h).1
  replace q3 := Lib.hid fun h => (q3 h).2
  replace z3 := Lib.hid z3
  go_wp2_with fail
  refine (hse.out _ hb0).mono ?_
  rintro e v10 ⟨rfl, hb1⟩
  replace hb0 := bl_tr hb0 hb1
  replace q1 := Lib.hid fun h => (q1.out h).below hb1
  replace q2 := Lib.hid fun h => (q2.out h).below hb1
  replace q3 := Lib.hid fun h => (q3.out h).below hb1
  clear hb1 hcp hci hse
  by_cases hE : E = 0
  rotate_left
  · have e1 := hVE.out hE
    subst e1
    have e1 := z1.out hE
    have e2 := z2.out hE
    have e3 := z3.out hE
    subst e1 e2 e3
    have hE1 : (V == 0) = false := by simp [hE]
    have hE2 : (V != 0) = true := by simp [hE]
    replace hE := Lib.hid hE
    go_wp2
    go_ret
    exact ⟨rfl, hb0⟩
  have e1 := hVS.out hE
  subst e1
  subst hE
  clear hVE hVS
  go_wp2_with fail
  refine (hsr.out _ hb0).mono ?_
  rintro e w1 ⟨rfl, hb1⟩
  replace hb0 := bl_tr hb0 hb1
  replace q1 := Lib.hid fun h => (q1.out h).below hb1
  replace q2 := Lib.hid fun h => (q2.out h).below hb1
  replace q3 := Lib.hid fun h => (q3.out h).below hb1
  clear hb1 hsr
  by_cases hV : V = 0
  rotate_left
  · have e1 := z1.out hV
    have e2 := z2.out hV
    have e3 := z3.out hV
    subst e1 e2 e3
    have hE1 : (V == 0) = false := by simp [hV]
    have hE2 : (V != 0) = true := by simp [hV]
    replace hV := Lib.hid hV
    go_wp2
    go_ret
    exact ⟨rfl, hb0⟩
  obtain ⟨ht0, ht4⟩ := hok.out hV
  obtain ⟨T, hT⟩ : ∃ T : Nat, t = T := ⟨t.toNat, by omega⟩
  have f1 := Lib.hid (q1.out hV)
  have f2 := Lib.hid (q2.out hV)
  have f3 := Lib.hid (q3.out hV)
  have e1 := m1.out hV
  have e2 := m2.out hV
  have e3 := (m3.out hV).trans hl3.out
  subst e1 e2 e3
  have hc1 := Lib.hid fun e => hca.out e T hT hV
  have hw1 := Lib.hid (hwo.out T hT hV)
  have j1 := Lib.hid (hj1.out T hT hV)
  have j2 := Lib.hid (hj2.out T hT hV)
  have j3 := Lib.hid (hj3.out T hT hV)
  subst hT hV
  clear z1 z2 z3 q1 q2 q3 m1 m2 m3 hca hwo hj1 hj2 hj3 hok
  go_wp2_with fail
  refine ((hc1.out false) _ hb0).mono ?_
  rintro e w2 ⟨hb1, u1, x1, rfl, g1⟩
  replace hb0 := bl_tr hb0 hb1
  replace f1 := Lib.hid (f1.out.below hb1)
  replace f2 := Lib.hid (f2.out.below hb1)
  replace f3 := Lib.hid (f3.out.below hb1)
  rw [j1.out] at g1
  obtain ⟨U1, d1, rfl⟩ := own_slice g1.a
  have s1 := Lib.hid (own_sl g1.a)
  clear hb1 g1 j1
  go_wp2_with fail
  refine ((hc1.out true) _ hb0).mono ?_
  rintro e w3 ⟨hb1, u2, x2, rfl, g2⟩
  replace hb0 := bl_tr hb0 hb1
  replace s1 := Lib.hid (s1.out.below hb1)
  replace f1 := Lib.hid (f1.out.below hb1)
  replace f2 := Lib.hid (f2.out.below hb1)
  replace f3 := Lib.hid (f3.out.below hb1)
  rw [j2.out] at g2
  obtain ⟨U2, d2, rfl⟩ := own_slice g2.a
  have s2 := Lib.hid (own_sl g2.a)
  clear hb1 g2 j2 hc1
  have hin : Hid (∀ (L : List Int) (A B : Option Addr) (c d : Nat) W, L.length ≤ 1000 → Sl cI 1 W A L → Sl cI 1 W B L → Calls Tryd.prog 37 #[.slice A L.length c, .slice B L.length d] W (Ret (.bool true) W)) := fun L A B c d W hL h1 h2 => by
    have := r_Ints L L A B c d W h1 h2 hL hL
    have e : intsB L L = true := by simp [intsB]
    rw [e] at this
    exact this
  have hL1 : L1.length ≤ 1000 := by have := hl1.out; omega
  have hL2 : L2.length ≤ 1000 := by have := hl2.out; omega
  go_wp2_with fail
  refine (hin.out _ _ _ _ _ _ hL1 f1.out s1.out).mono ?_
  rintro e w4 ⟨rfl, hb1⟩
  replace hb0 := bl_tr hb0 hb1
  replace s2 := Lib.hid (s2.out.below hb1)
  replace f2 := Lib.hid (f2.out.below hb1)
  replace f3 := Lib.hid (f3.out.below hb1)
  clear hb1 f1 s1
  go_wp2_with fail
  refine (hin.out _ _ _ _ _ _ hL2 f2.out s2.out).mono ?_
  rintro e w5 ⟨rfl, hb1⟩
  replace hb0 := bl_tr hb0 hb1
  replace f3 := Lib.hid (f3.out.below hb1)
  clear hb1 f2 s2
  go_wp2_with fail
  refine (hw1.out _ hb0).mono ?_
  rintro e w6 ⟨hb1, g, rfl, kg⟩
  replace hb0 := bl_tr hb0 hb1
  replace f3 := Lib.hid (f3.out.below hb1)
  rw [j3.out] at kg
  have s3 := cLn_sl kg
  rw [hL3.out] at s3
  have hi3 := hin.out M3 B3 (some ⟨g, 0, none⟩) k3 l.length w6 (by have := hl3.out; omega) f3.out s3
  rw [hl3.out] at hi3
  clear hb1 kg
  go_wp2_with fail
  refine hi3.mono ?_
  rintro e w7 ⟨rfl, hb1⟩
  replace hb0 := bl_tr hb0 hb1
  clear hb1 f3 s3 hi3
  go_wp2
  go_ret
  exact ⟨rfl, hb0⟩
end Go.Proofs.YtdlmkblmljhbfaaDoor
