/-
  How the laws' arguments read, continued: steps with a path.
  Walks: boxes of ranges; the track; whether two lists of boxes are the same.
  Plain: rows of boxes, before and behind a store; the boxes between two rounds of smoothing.
  A loop over a closure that is an iterator: its body, walked once, goes on; a round may turn the caller's own blocks X alone.
  Walks: the smoothed boxes, by the library.
  Walks: the smoothed boxes by the reference.
  Walk: the law of tracks.
-/
import Derived.Test.YtephimmamkafoaaGreatUH1
import Derived.Test.YtephimmamkafoaaGreatUH5
import Derived.Test.YtephimmamkafoaaGreatUH4
import Derived.Test.YtephimmamkafoaaGreatU11
import Derived.Test.YtephimmamkafoaaGreatU3
import Derived.Test.YtephimmamkafoaaGreatU5
import Derived.Test.YtephimmamkafoaaGreatU12
import Derived.Test.YtephimmamkafoaaGreatU13
set_option linter.unusedSimpArgs false
set_option linter.unusedVariables false
namespace Go.Proofs.YtephimmamkafoaaGreat
open Go.ChangeShapes Go.WideShapes Go.ChangeAt Go.RowKit Go.Deep
set_option maxRecDepth 20000
section
variable {H : Type} {enc : TypeId × Value → H} {w : World} {base : Nat} {spare : Nat → Bool} {held : Bool} {fuel : Nat} {cs : List Value} {y : DataW H × List MemPlace}
theorem cWk2 : Tryz.prog.cellsOf 61 = 2 := by kernel_rfl
theorem cSts1 : Tryz.prog.cellsOf 29 = 1 := by kernel_rfl
theorem cPls1 : Tryz.prog.cellsOf 59 = 1 := by kernel_rfl
theorem rd_Pls (h : DataW.trod enc Tryz.prog w base spare held fuel 59 cs = some y) :
    ∃ (A : Option Addr) (c : Nat) (t : List Pl), cs = [.slice A t.length c] ∧ Sl cPl 3 w A t := by
  obtain ⟨A, c, l, e1, -, -, g2, -⟩ := rd_slice (c := cPl) (ok := fun _ : Pl => True) Tryz.underlying59 cPl3 (by decide) (fun _ => rfl) (fun _ _ _ hz => (rd_Pl hz).imp fun _ e => ⟨e, trivial⟩) h
  exact ⟨A, c, l, e1, g2⟩
theorem rd_Wk (h : DataW.trod enc Tryz.prog w base spare held fuel 61 cs = some y) :
    ∃ (l : List StA) (t : List Pl) (A : Option Addr) (c : Nat) (AP : Option Addr) (cp : Nat), cs = [.slice A l.length c, .slice AP t.length cp] ∧ StsIn l A w ∧ Sl cPl 3 w AP t := by
  obtain ⟨xs, n, -, -, hl, hlen, hf⟩ := DataW.trod_struct Tryz.underlying61 h
  rw [cWk2] at hl
  obtain ⟨c0, c1, rfl⟩ := len2 hl
  obtain ⟨x0, x1, rfl⟩ := len2 (show xs.length = 2 from hlen)
  have h0 := hf 0 _ rfl
  have h1 := hf 1 _ rfl
  simp [cSts1, cPls1] at h0 h1
  obtain ⟨A, c, l, e0, -, -, g0⟩ := rd_Sts h0
  obtain ⟨AP, cp, t, e1, g1⟩ := rd_Pls h1
  simp at e0 e1
  exact ⟨l, t, A, c, AP, cp, by rw [e0, e1], g0, g1⟩
end
end Go.Proofs.YtephimmamkafoaaGreat
namespace Go.Proofs.YtephimmamkafoaaGreat
open Go.RowKit Go.Shelf
attribute [local go_sem] bl_al bl_drew bl_drewN bl_refl bx_al bx_drew bx_drewN bx_refl
set_option maxRecDepth 20000
set_option maxHeartbeats 4000000 in
theorem c_boxes (l : List Bx) (A : Option Addr) (c : Nat) (w : World) (hl : Sl cBox 6 w A l) (hll : l.length ≤ 1000) :
    Calls Tryz.prog 64 #[.slice A l.length c] w (fun e w' => ∃ A2 c2, e = .returned (.slice A2 l.length c2) ∧ Below w.heap.size w w' ∧ w'.ownsRow w.heap.size 25 6 (.slice A2 l.length c2) l.length (l.flatMap cBox)) := by
  obtain ⟨i0, hi0, hy0, hy1, hy2⟩ := info_parts infoBx
  have Hl := Lib.hid hl
  clear hl
  obtain ⟨ll, Hn⟩ : ∃ k, Hid (l.length = k) := ⟨_, rfl⟩
  rw [Hn.out] at hll ⊢
  go_enter Tryz.func64, Tryz.ntmps64
  go_wp2
  go_loopw [3, 8] (fun v i wr => ∃ j : Nat, j ≤ ll ∧ i = .int .i64 j ∧ Below w.heap.size w wr ∧ wr.ownsRow w.heap.size 25 6 v j ((l.take j).flatMap cBox)) (fun _ i _ => ll - (intOf i).toNat)
  case atStart => exact ⟨0, Nat.zero_le _, rfl, Below.refl _ _, by rw [List.take_zero]; exact World.ownsRow_nil _ _ _ _⟩
  case round =>
    obtain ⟨j, hj, rfl, hbw, hown⟩ := hrel
    replace hown := Lib.hid hown
    by_cases hjt : j < ll
    · have hx : l[j]? = some (l[j]'(by rw [Hn.out]; exact hjt)) := List.getElem?_eq_getElem _
      generalize l[j]'(by rw [Hn.out]; exact hjt) = x at hx
      obtain ⟨bb, off, hA, hc⟩ := Hl.out j x hx
      replace hx := Lib.hid hx
      have c0 : ∀ W, Below _ _ W → W.cell? ⟨bb, off + j * 6, none⟩ = some (.int .i64 x.x.lo) := later (kcell hbw (hc 0 _ rfl))
      have c1 : ∀ W, Below _ _ W → W.cell? ⟨bb, off + j * 6 + 1, none⟩ = some (.int .i64 x.x.hi) := later (kcell hbw (hc 1 _ rfl))
      have c2 : ∀ W, Below _ _ W → W.cell? ⟨bb, off + j * 6 + 2, none⟩ = some (.int .i64 x.y.lo) := later (kcell hbw (hc 2 _ rfl))
      have c3 : ∀ W, Below _ _ W → W.cell? ⟨bb, off + j * 6 + 3, none⟩ = some (.int .i64 x.y.hi) := later (kcell hbw (hc 3 _ rfl))
      have c4 : ∀ W, Below _ _ W → W.cell? ⟨bb, off + j * 6 + 4, none⟩ = some (.int .i64 x.z.lo) := later (kcell hbw (hc 4 _ rfl))
      have c5 : ∀ W, Below _ _ W → W.cell? ⟨bb, off + j * 6 + 5, none⟩ = some (.int .i64 x.z.hi) := later (kcell hbw (hc 5 _ rfl))
      clear hc
      subst hA
      have hszr := hbw.size
      have hb0 := bl_refl wr
      go_upto_region 5 with fail
      apply absB1 (w0 := wr) (g0 := wr.heap.size)
      iterate 2 (focus exact zL)
      try clear hb3
      try clear hb0
      try clear k5
      intro we hb0 k5
      (try simp only [List.setIfInBounds_toArray, List.set_cons_zero, List.set_cons_succ] at k5)
      have Lk5 := k5.later
      have Fk5 := k5.laterF
      have Qk5 := k5.lt
      clear c0 c1 c2 c3 c4 c5
      go_wp2_with fail
      with_reducible refine Calls.mono (c_box x _) ?_
      rintro e w4 ⟨rfl, hb3⟩
      have hb4 := bl_tr hb0 hb3
      have hown3 := Lib.hid (own_below hown.out hb4)
      have hbg := bl_tr hbw hb4
      have hsz4 := hbg.size
      clear hown hb0 k5 Lk5 Fk5
      go_wp2_with (at_builtin; refine wpList_append_own _ rfl _ _ 53 rfl w.heap.size 25 i0 _ 6 48 Tryz.underlying53 hi0 hy0 hy1 hy2 rfl (by decide) _ _ _ rfl (hown3.out.alloc _) ⟨w4.heap.size, 0, none⟩ 1 1 (cBox x) rfl rfl ?c1 ?c2 ?c3 ?c4 ?c5 ?_)
      try case c1 =>
        intro j' u hj'
        have e : (⟨w4.heap.size, 0, none⟩ : Addr).add j' = ⟨w4.heap.size, j', none⟩ := by by_cases h : j' = 0 <;> simp [Addr.add, h]
        rw [e, (Blk.new w4 _ _).cell j', List.getElem?_toArray]
        exact hj'
      try case c2 =>
        intro u hu
        simp [cBox] at hu
        rcases hu with h | h | h | h | h | h <;> subst h <;> rfl
      try case c3 => unfold maxLen; omega
      try case c4 => omega
      try case c5 => simp; omega
      intro v' w1 hown4 hgrow _
      have hb5 : Below w.heap.size w w1 := (bl_al _ hbg).grown hgrow (by simp; omega) (own_ge hown3.out)
      clear hgrow hown3
      replace hown4 := Lib.hid hown4
      go_wp2
      go_roundw
      case rel => exact ⟨j + 1, by omega, by go_num, hb5, by rw [List.take_add_one, hx.out, List.flatMap_append]; simpa using hown4.out⟩
      case measure => simp [intOf]; omega
    · obtain rfl : j = ll := by omega
      go_wp2
      go_ret
      have ho := hown.out
      rw [List.take_of_length_le (by rw [Hn.out]; exact Nat.le_refl _)] at ho
      rcases ho.2 with ⟨ev, h0⟩ | ⟨g, cap, cur, ev, h1⟩
      · refine ⟨none, 0, by rw [ev, h0] <;> rfl, hbw, ?_⟩
        rw [ev] at ho
        rw [h0] at ho ⊢
        exact ho
      · refine ⟨some ⟨g, 0, none⟩, cap, by rw [ev] <;> rfl, hbw, ?_⟩
        rw [ev] at ho
        exact ho
theorem sl_tail {w : World} {g b c : Nat} {e : TypeId} {x : Bx} {l : List Bx} (h : w.ownsRow b e 6 (.slice (some ⟨g, 0, none⟩) (l.length + 1) c) (l.length + 1) ((x :: l).flatMap cBox)) : Sl cBox 6 w (some ⟨g, 6, none⟩) l := fun k y hy => by
  obtain ⟨g', off, e1, hc⟩ := own_slC (cs := cBox) (l := x :: l) (fun _ => rfl) (by decide) h (k + 1) y (by simpa using hy)
  injection e1 with e1
  injection e1 with e1 e2 _
  subst e1 e2
  refine ⟨g, 6, rfl, fun j v hv => ?_⟩
  have := hc j v hv
  rw [show 6 + k * 6 + j = 0 + (k + 1) * 6 + j by omega]
  exact this
theorem sl_any {w : World} {A : Option Addr} {l : List Bx} (h : l.length = 0) : Sl cBox 6 w A l := by
  rw [List.eq_nil_of_length_eq_zero h]
  exact Sl.nil
set_option maxHeartbeats 4000000 in
theorem c_TrackOf (n : Nt) (b : Bx) (l : List StA) (A A' : Option Addr) (c c' : Nat) (w : World) (hn : NtIn n A c w) (hl : StsIn l A' w) (hll : few1 l) (hlb : n.bs.length ≤ 1000) :
    Calls Tryz.prog 18 #[vNt n.world (.slice A n.bs.length c), vBx b, .slice A' l.length c'] w (fun e w' => Below w.heap.size w w' ∧ (trackE n b (l.map (·.s)) ≠ 0 → e = .returned (.tuple #[.slice none 0 0, .int .i64 (trackE n b (l.map (·.s)))]))
      ∧ (trackE n b (l.map (·.s)) = 0 → ∃ A2 c2, e = .returned (.tuple #[.slice A2 l.length c2, .int .i64 0]) ∧ w'.ownsRow w.heap.size 25 6 (.slice A2 l.length c2) l.length ((trk n b (l.map (·.s))).flatMap cBox))) := by
  have htr := Lib.hid fun (W : World) (hb : Below w.heap.size w W) => c_track n b l A A' c c' W (hn.below hb) (hl.below hb) hll hlb
  have hlen : (trk n b (l.map (·.s))).length = l.length := by rw [trk_len, List.length_map]
  have hl1 := hll.1
  clear hn hl hll
  generalize trackE n b (l.map (·.s)) = TE at *
  generalize trk n b (l.map (·.s)) = TR at *
  generalize n.bs.length = nl at *
  generalize l.length = ll at *
  go_enter Tryz.func18, Tryz.ntmps18
  go_upto_region 1 with fail
  apply absB2 (w0 := w) (g0 := w.heap.size) (g1 := w.heap.size + 1)
  iterate 3 (focus exact zL)
  try clear hb3
  try clear hb0
  try clear k0
  try clear k1
  intro wa hb0 k0 k1
  (try simp only [List.setIfInBounds_toArray, List.set_cons_zero, List.set_cons_succ] at k0 k1)
  have Lk0 := k0.later
  have Fk0 := k0.laterF
  have Qk0 := k0.lt
  have Lk1 := k1.later
  have Fk1 := k1.laterF
  have Qk1 := k1.lt
  go_wp2_with fail
  with_reducible refine Calls.mono (htr.out _ (bl_tr hb0 (by (exact zE)))) ?_
  rintro e w3 ⟨hb3, hne, heq⟩
  replace hb3 := bl_tt hb3
  have hbw := hb3 _ hb0
  have hsz := hb0.size
  by_cases h0 : TE = 0
  · obtain ⟨g, cap, rfl, hown⟩ := heq h0
    have hT := Lib.hid h0
    replace hown := Lib.hid hown
    clear hne heq h0
    have hcap : ll + 1 ≤ cap := by
      rcases hown.out.2 with ⟨h, -⟩ | ⟨_, _, _, e, _, _, h, _⟩
      · cases h
      · injection e with _ _ e
        omega
    by_cases h1 : cap = 1
    · subst h1
      have hl0 : ll = 0 := by omega
      subst hl0
      have hbx := Lib.hid fun (A : Option Addr) (c : Nat) (W : World) => c_boxes TR A c W (sl_any hlen) (by omega)
      rw [hlen] at hbx
      go_wp2_with fail
      with_reducible refine Calls.mono (hbx.out _ _ _) ?_
      rintro e w5 ⟨A2, c2, rfl, hb5, ho5⟩
      have hq := own_mono (Nat.le_trans hbw.size (by simp)) ho5
      have hb6 := hb5
      go_wp2
      go_ret2
      exact ⟨bl_tr hbw (bl_tr (bl_al _ (bl_refl w3)) hb5), fun h => absurd hT.out h, fun _ => ⟨A2, c2, rfl, hq⟩⟩
    · have hsl : Sl cBox 6 w3 (some ⟨g, 6, none⟩) TR := sl_tail (by rw [hlen]; exact hown.out)
      have hbx := Lib.hid fun (c : Nat) (W : World) (hb : Below w3.heap.size w3 W) => c_boxes TR (some ⟨g, 6, none⟩) c W (hsl.below hb) (by omega)
      rw [hlen] at hbx
      go_wp2_with fail
      with_reducible refine Calls.mono (hbx.out _ _ (bl_al _ (bl_refl w3))) ?_
      rintro e w5 ⟨A2, c2, rfl, hb5, ho5⟩
      have hq := own_mono (Nat.le_trans hbw.size (by simp)) ho5
      go_wp2
      go_ret2
      exact ⟨bl_tr hbw (bl_tr (bl_al _ (bl_refl w3)) hb5), fun h => absurd hT.out h, fun _ => ⟨A2, c2, rfl, hq⟩⟩
  · obtain rfl := hne h0
    have h0' : (TE != 0) = true := by simp [h0]
    have hT := Lib.hid h0
    clear heq h0 hne
    go_wp2
    go_ret2
    exact ⟨bl_al _ hbw, fun _ => rfl, fun h => absurd h hT.out⟩
end Go.Proofs.YtephimmamkafoaaGreat
namespace Go.Proofs.YtephimmamkafoaaGreat
open Go.RowKit Go.Shelf
attribute [local go_sem] bl_al bl_drew bl_drewN bl_refl bx_al bx_drew bx_drewN bx_refl Oper.semAt_some
set_option maxRecDepth 20000
/-- A block's cells are those of some boxes, one after the other. -/
def BRows (cur : Array Value) (m : List Bx) : Prop := ∀ k b, m[k]? = some b → ∀ (j : Nat) (v : Value), (cBox b)[j]? = some v → cur[k * 6 + j]? = some v
theorem own_blk {W : World} {b g cap n : Nat} {e : TypeId} {m : List Bx} (hn : 0 < n) (hm : n = m.length) (h : W.ownsRow b e 6 (.slice (some ⟨g, 0, none⟩) n cap) n (m.flatMap cBox)) : ∃ cur, Blk W g e cur ∧ b ≤ g ∧ BRows cur m := by
  rcases h.2 with ⟨_, e0⟩ | ⟨g', cap', cur, e1, e2, e3, _, _, _, e4⟩
  · omega
  · injection e1 with e1 _ _
    injection e1 with e1
    injection e1 with e1 _ _
    subst e1
    refine ⟨cur, e3, e2, fun k x hx j v hv => ?_⟩
    have h5 := flat_get (cs := cBox) (sz := 6) (fun _ => rfl) hx hv
    rw [← e4, List.getElem?_take] at h5
    split at h5
    · simpa using h5
    · simp at h5
theorem BRows.sl {W : World} {g : Nat} {e : TypeId} {cur : Array Value} {m : List Bx} (hk : Blk W g e cur) (h : BRows cur m) : Sl cBox 6 W (some ⟨g, 0, none⟩) m := fun k x hx =>
  ⟨g, 0, rfl, fun j v hv => by
    rw [hk.cell, Nat.zero_add]
    exact h k x hx j v hv⟩
theorem cBox_lt {b : Bx} {j : Nat} {v : Value} (h : (cBox b)[j]? = some v) : j < 6 := (List.getElem?_eq_some_iff.1 h).1
theorem BRows.lt {cur : Array Value} {m : List Bx} {k : Nat} (h : BRows cur m) (hk : k < m.length) : k * 6 + 5 < cur.size := by
  have h1 := h k m[k] (List.getElem?_eq_getElem hk) 5 (.int .i64 m[k].z.hi) rfl
  exact (Array.getElem?_eq_some_iff.1 h1).1
/-- The cells behind a store of six. -/
def set6 (cur : Array Value) (o : Nat) (v0 v1 v2 v3 v4 v5 : Value) : Array Value := (((((cur.setIfInBounds o v0).setIfInBounds (o + 1) v1).setIfInBounds (o + 2) v2).setIfInBounds (o + 3) v3).setIfInBounds (o + 4) v4).setIfInBounds (o + 5) v5
theorem set6_other {cur : Array Value} {o i : Nat} {v0 v1 v2 v3 v4 v5 : Value} (h : i < o ∨ o + 5 < i) : (set6 cur o v0 v1 v2 v3 v4 v5)[i]? = cur[i]? := by
  unfold set6
  rw [Array.getElem?_setIfInBounds_ne (show o + 5 ≠ i by omega), Array.getElem?_setIfInBounds_ne (show o + 4 ≠ i by omega), Array.getElem?_setIfInBounds_ne (show o + 3 ≠ i by omega), Array.getElem?_setIfInBounds_ne (show o + 2 ≠ i by omega), Array.getElem?_setIfInBounds_ne (show o + 1 ≠ i by omega), Array.getElem?_setIfInBounds_ne (show o ≠ i by omega)]
theorem set6_at {cur : Array Value} {o : Nat} {v0 v1 v2 v3 v4 v5 : Value} (h : o + 5 < cur.size) {j : Nat} {v : Value} (hv : [v0, v1, v2, v3, v4, v5][j]? = some v) : (set6 cur o v0 v1 v2 v3 v4 v5)[o + j]? = some v := by
  unfold set6
  match j, hv with
  | 0, hv =>
    rw [Array.getElem?_setIfInBounds_ne (by omega), Array.getElem?_setIfInBounds_ne (by omega), Array.getElem?_setIfInBounds_ne (by omega), Array.getElem?_setIfInBounds_ne (by omega), Array.getElem?_setIfInBounds_ne (by omega), Nat.add_zero, Array.getElem?_setIfInBounds_self_of_lt (by omega)]
    exact hv
  | 1, hv =>
    rw [Array.getElem?_setIfInBounds_ne (by omega), Array.getElem?_setIfInBounds_ne (by omega), Array.getElem?_setIfInBounds_ne (by omega), Array.getElem?_setIfInBounds_ne (by omega), Array.getElem?_setIfInBounds_self_of_lt (by simp only [Array.size_setIfInBounds]; omega)]
    exact hv
  | 2, hv =>
    rw [Array.getElem?_setIfInBounds_ne (by omega), Array.getElem?_setIfInBounds_ne (by omega), Array.getElem?_setIfInBounds_ne (by omega), Array.getElem?_setIfInBounds_self_of_lt (by simp only [Array.size_setIfInBounds]; omega)]
    exact hv
  | 3, hv =>
    rw [Array.getElem?_setIfInBounds_ne (by omega), Array.getElem?_setIfInBounds_ne (by omega), Array.getElem?_setIfInBounds_self_of_lt (by simp only [Array.size_setIfInBounds]; omega)]
    exact hv
  | 4, hv =>
    rw [Array.getElem?_setIfInBounds_ne (by omega), Array.getElem?_setIfInBounds_self_of_lt (by simp only [Array.size_setIfInBounds]; omega)]
    exact hv
  | 5, hv =>
    rw [Array.getElem?_setIfInBounds_self_of_lt (by simp only [Array.size_setIfInBounds]; omega)]
    exact hv
def put6 (cur : Array Value) (k : Nat) (b : Bx) : Array Value := set6 cur (k * 6) (.int .i64 b.x.lo) (.int .i64 b.x.hi) (.int .i64 b.y.lo) (.int .i64 b.y.hi) (.int .i64 b.z.lo) (.int .i64 b.z.hi)
theorem put6_rows {cur : Array Value} {m : List Bx} {k : Nat} {b : Bx} (h : BRows cur m) (hk : k < m.length) : BRows (put6 cur k b) (m.set k b) := by
  intro i x hx j v hv
  have hj := cBox_lt hv
  by_cases e : i = k
  · rw [e] at hx ⊢
    have e0 : (m.set k b)[k]? = some b := List.getElem?_set_self hk
    have e1 : b = x := Option.some.inj (e0.symm.trans hx)
    rw [← e1] at hv
    exact set6_at (h.lt hk) hv
  · rw [List.getElem?_set_ne (fun e' => e e'.symm)] at hx
    exact (set6_other (by omega)).trans (h i x hx j v hv)
theorem Blk.put {g : Nat} {t : TypeId} {cur : Array Value} {W : World} {k : Nat} {b : Bx} (h : Blk W g t cur) : Blk ((((((W.setCell ⟨g, k * 6, none⟩ (.int .i64 b.x.lo)).setCell ⟨g, k * 6 + 1, none⟩ (.int .i64 b.x.hi)).setCell ⟨g, k * 6 + 2, none⟩ (.int .i64 b.y.lo)).setCell ⟨g, k * 6 + 3, none⟩ (.int .i64 b.y.hi)).setCell ⟨g, k * 6 + 4, none⟩ (.int .i64 b.z.lo)).setCell ⟨g, k * 6 + 5, none⟩ (.int .i64 b.z.hi)) g t (put6 cur k b) :=
  (((((h.set _ _).set _ _).set _ _).set _ _).set _ _).set _ _
/-- The boxes between two rounds: those of the track below an index, the smoothed ones from it on. -/
structure Mix (bt sm m : List Bx) (j : Nat) : Prop where
  len : m.length = bt.length
  lo : ∀ i, i < j → m[i]? = bt[i]?
  hi : ∀ i, j ≤ i → m[i]? = sm[i]?
theorem Mix.start {n : Nt} {b : Bx} {l : List St} : Mix (b :: trk n b l) (smo n b l) (b :: trk n b l) l.length := by
  refine ⟨rfl, fun _ _ => rfl, fun i hi => ?_⟩
  have h1 := smo_len n l b
  have h2 : (b :: trk n b l).length = l.length + 1 := by rw [List.length_cons, trk_len]
  by_cases e : i = l.length
  · rw [e]
    exact (smo_last n l b).symm
  · rw [List.getElem?_eq_none (by omega), List.getElem?_eq_none (by omega)]
theorem Mix.step {bt sm m : List Bx} {k : Nat} {d : Bx} (h : Mix bt sm m (k + 1)) (hd : sm[k]? = some d) (hk : k < bt.length) : Mix bt sm (m.set k d) k := by
  refine ⟨by rw [List.length_set]; exact h.len, fun i hi => ?_, fun i hi => ?_⟩
  · rw [List.getElem?_set_ne (by omega)]
    exact h.lo i (by omega)
  · by_cases e : i = k
    · subst e
      rw [List.getElem?_set_self (by rw [h.len]; exact hk), hd]
    · rw [List.getElem?_set_ne (by omega)]
      exact h.hi i (by omega)
theorem Mix.fin {bt sm m : List Bx} (h : Mix bt sm m 0) : m = sm := List.ext_getElem? fun i => h.hi i (Nat.zero_le _)
theorem rng_at {n k : Nat} {pre rest : List Nat} (h : pre ++ [k] ++ rest = (List.range n).reverse) : pre.length + k + 1 = n := by
  have h1 : (pre ++ [k] ++ rest)[pre.length]? = some k := by simp
  have hl := congrArg List.length h
  simp at hl
  rw [h, List.getElem?_reverse (by simp; omega)] at h1
  obtain ⟨h3, h4⟩ := List.getElem?_eq_some_iff.1 h1
  rw [List.getElem_range] at h4
  simp at h3 h4
  omega
theorem rng_succ (n : Nat) : (List.range (n + 1)).reverse = n :: (List.range n).reverse := by rw [List.range_succ, List.reverse_append]; rfl
theorem smo_facts {n : Nt} {b : Bx} {l : List StA} (h : trackE n b (l.map (·.s)) = 0) (i : Nat) (x : StA) (q d : Bx) (hx : l[i]? = some x) (hq : (b :: trk n b (l.map (·.s)))[i]? = some q) (hd : (smo n b (l.map (·.s)))[i + 1]? = some d) :
    d.in 10000 ∧ x.s.mv.ok ∧ (back n.world d x.s.mv).ordered = true ∧ (q.meet (back n.world d x.s.mv)).ordered = true ∧ (smo n b (l.map (·.s)))[i]? = some (q.meet (back n.world d x.s.mv)) := by
  have hS : stepsErr n b (l.map (·.s)) = 0 := by
    by_cases h' : stepsErr n b (l.map (·.s)) = 0
    · exact h'
    · rw [trackE, if_neg h'] at h
      exact absurd h h'
  rw [trackE, if_pos hS] at h
  obtain ⟨h0, h1⟩ := steps_zero hS
  have hm : ∀ s ∈ l.map (·.s), mvErr s.mv = 0 := fun s hs => by
    obtain ⟨y, hy, e⟩ := List.mem_map.1 hs
    obtain ⟨j, hj, e'⟩ := List.getElem_of_mem hy
    rw [← e, ← e']
    exact (h1 j _ (List.getElem?_eq_getElem hj)).1
  obtain ⟨g1, g2, g3, g4⟩ := smo_at (s := x.s) h0 hm h (by simp [hx]) hq hd
  exact ⟨g1, mv_ok (h1 i x hx).1, g2, g3, g4⟩
end Go.Proofs.YtephimmamkafoaaGreat
namespace Go.Proofs.YtephimmamkafoaaGreat
open Go.RowKit
theorem wp_range2 {P : Program} {α : Type} {g : Operand} {ps : Array Tmp} {assign body : Code} {Q : Exit → Act → World → Prop} {a : Act} {w : World} {gf : Nat} {lb : Array Value}
    (hg : a.eval g = .func (.func gf) #[] lb) (eg : ∀ args w, (callFunc gf args).run P w = .ok (.enter gf args) w) {encs : α → Array Value} {xs : List α} (X : List Nat)
    (hseq : ∀ (l : Nat) (J : List α → World → Prop) (W : World), Below w.heap.size w W →
      (∀ pre x W1, J pre W1 → pre ++ [x] <+: xs → YieldAt Fence.wide 4 P l (encs x) W1 fun e W' => e = .returned (.bool true) ∧ J (pre ++ [x]) W' ∧ BX X W1 W') →
      J [] W → CallsIn Fence.wide 5 P gf (#[.func (.yield l) #[] #[]] ++ lb) W fun e W' => (∃ v, e = .returned v) ∧ J xs W')
    (hps : ∀ x, (encs x).size = ps.size) (hX : ∀ x ∈ X, x < w.heap.size)
    (I : List α → World → Prop) (hI : ∀ s A B, I s A → CK w.heap.size A B → I s B)
    (h0 : I [] w)
    (hround : ∀ l pre x W, I pre W → pre ++ [x] <+: xs → assign.wpIn (Fence.wide.inRound l) 4 P
      (Exit.then (fun a1 W1 => BX X W W1 ∧ ∀ W2, CK w.heap.size W1 W2 → body.wpIn (Fence.wide.inRound l) 4 P (Goes X I (pre ++ [x]) W2) a1 W2) (fun _ _ _ => False))
      { tmps := (ps.zip (encs x)).foldl (fun t (p, v) => t.setIfInBounds p v) a.tmps, defers := [] } W)
    (hdone : ∀ W, I xs W → W.heap[w.heap.size]? = some (.deferred (some [])) → Q .normal { a with defers := { target := .collected w.heap.size, args := #[] } :: a.defers } W) :
    (Code.rangeFunc g ps assign body).wp P Q a w := by
  refine (wpIn_wide (n := 6)).1 (wpIn_rangeFunc ?_)
  intro fn _
  rw [Fence.wide_round]
  obtain ⟨rec, hrec⟩ : ∃ rec : LoopState → Loop, rec = fun st => { state := st, pending := none, fn, tmps := a.tmps, params := ps, assign, body, defers := w.heap.size } := ⟨_, rfl⟩
  have hst : ∀ s, (rec s).state = s := fun s => by rw [hrec]
  have hpd : ∀ s, (rec s).pending = none := fun s => by rw [hrec]
  have hsp : ∀ s, (rec s).params = ps := fun s => by rw [hrec]
  have hup : ∀ s s' , { rec s with state := s' } = rec s' := fun s s' => by rw [hrec]
  have hen : ∀ s s', ({ rec s with state := s', pending := none } : Loop) = rec s' := fun s s' => by rw [hrec]
  have hrun := run_enterLoop_outer (P := P) (w := w) fn a.tmps ps assign body
  obtain ⟨W1, hW1⟩ : ∃ W1, (w.alloc (.deferred (some []))).alloc (.loop (rec .ready)) = W1 := ⟨_, rfl⟩
  have hb1 : Below w.heap.size w W1 := by
    rw [← hW1]; exact ((Below.refl _ w).alloc (Nat.le_refl _) _).alloc (by simp) _
  have hs1 : W1.heap.size = w.heap.size + 2 := by rw [← hW1]; simp
  have hL1 : W1.heap[w.heap.size + 1]? = some (.loop (rec .ready)) := by
    rw [← hW1]; have := World.alloc_heap_new (w.alloc (.deferred (some []))) (.loop (rec .ready)); rwa [World.size_alloc] at this
  have hK1 : W1.heap[w.heap.size]? = some (.deferred (some [])) := by
    rw [← hW1]; exact (Below.heap_alloc _ _ _ (by simp)).trans (World.alloc_heap_new w _)
  have hI1 : I [] W1 := hI _ _ _ h0 ⟨hb1.os, hb1.tape, hb1.output, hb1.size, fun k o hk _ => (hb1.block k (Array.getElem?_eq_some_iff.1 hk).1).trans hk⟩
  have hDX : ∀ i, w.heap.size ≤ i → i ∉ X := fun i hi hx => by have := hX i hx; omega
  refine ⟨w.heap.size + 1, [{ target := .collected w.heap.size, args := #[] }], W1, { target := .fn (.func gf) lb, args := #[.func (.yield (w.heap.size + 1)) #[] #[]] }, W1, gf,
    #[.func (.yield (w.heap.size + 1)) #[] #[]] ++ lb, W1, ?_, ?_, fun _ _ => trivial, ?_, fun h => (by simp [Fence.wide] at h), ?_⟩
  · rw [hrun, ← hW1, hrec]
  · simp only [resolve, hg]
    simp [go_sem]
  · simp [invoke, go_sem, eg]
  refine (hseq (w.heap.size + 1) (fun pre W => I pre W ∧ W.heap[w.heap.size + 1]? = some (.loop (rec .ready)) ∧ W.heap[w.heap.size]? = some (.deferred (some [])))
    W1 hb1 ?_ ⟨hI1, hL1, hK1⟩).mono ?_
  · rintro pre x W ⟨hi, hl, hk⟩ hpre
    have hy := run_yield (P := P) (args := encs x) hl (by rw [hsp]; exact hps x)
    rw [hrec] at hy
    refine ⟨fn, _, assign, body, hy, roundIn_of_wpIn trivial (wpIn_mono (hround _ pre x W hi hpre) ?_)⟩
    intro e a1 W2 hp
    cases e with
    | normal =>
      obtain ⟨hbx, hbody⟩ := hp
      have hl2 := (hbx.block (w.heap.size + 1) (Array.getElem?_eq_some_iff.1 hl).1 (hDX _ (by omega))).trans hl
      have hk2 := (hbx.block w.heap.size (Array.getElem?_eq_some_iff.1 hk).1 (hDX _ (by omega))).trans hk
      have hr := run_beginRound (P := P) hl2 (hst _)
      rw [hup] at hr
      have hlt2 := (Array.getElem?_eq_some_iff.1 hl2).1
      have hl3 := World.putObj_heap_same (w := W2) (o := .loop (rec .busy)) hlt2
      have hk3 := (World.putObj_heap_other (w := W2) (o := .loop (rec .busy)) (show w.heap.size ≠ w.heap.size + 1 by omega)).trans hk2
      refine ⟨_, hr, wpIn_mono (hbody _ (.put _ hl2 rfl (by omega))) ?_⟩
      intro e a3 W3 hp
      cases e with
      | normal =>
        obtain ⟨hb3, hi3⟩ := hp
        have hl4 := (hb3.block _ (Array.getElem?_eq_some_iff.1 hl3).1 (hDX _ (by omega))).trans hl3
        have hk4 := (hb3.block _ (Array.getElem?_eq_some_iff.1 hk3).1 (hDX _ (by omega))).trans hk3
        have he := run_endRound (P := P) none hl4
        simp only [Option.isNone_none, if_true] at he
        rw [hen] at he
        have hl5 := World.putObj_heap_same (w := W3) (o := .loop (rec .ready)) (Array.getElem?_eq_some_iff.1 hl4).1
        refine ⟨_, _, he, rfl, ⟨hI _ _ _ hi3 (.put _ hl4 rfl (by omega)), hl5, (World.putObj_heap_other (by omega)).trans hk4⟩, ?_⟩
        refine BX.drop (r := w.heap.size + 1) ?_ (hl5.trans hl.symm)
        exact (((hbx.wider _).trans (bx_loop _ hl2)).trans (hb3.wider _)).trans (bx_loop _ hl4)
      | _ => exact (hp : False).elim
    | _ => exact (hp : False).elim
  · rintro e W2 ⟨⟨v, rfl⟩, hi, hl, hk⟩
    have he := run_endLoop (P := P) hl (by rw [hst]; simp)
    rw [hpd] at he
    exact ⟨none, _, he, hdone _ (hI _ _ _ hi (.put _ hl rfl (by omega))) ((World.putObj_heap_other (by omega)).trans hk)⟩
end Go.Proofs.YtephimmamkafoaaGreat
namespace Go.Proofs.YtephimmamkafoaaGreat
open Go.RowKit Go.Shelf
attribute [local go_sem] bl_al bl_drew bl_drewN bl_refl bx_al bx_drew bx_drewN bx_refl Oper.semAt_some
set_option maxRecDepth 20000
def vStA (l : List StA) (k : Nat) : Value := match l[k]? with
  | some x => vSt x.s x.A x.c
  | none => undef
theorem vStA_at {l : List StA} {k : Nat} {x : StA} (h : l[k]? = some x) : vStA l k = vSt x.s x.A x.c := by rw [vStA, h]
set_option maxHeartbeats 4000000 in
theorem c_Backward (A : Option Addr) (n c : Nat) (w : World) : Calls Tryz.prog 65 #[.slice A n c] w
    (fun e w' => ∃ g, e = .returned (.func (.func 100) #[] #[.pointer (some ⟨g, 0, none⟩)]) ∧ Below w.heap.size w w' ∧ w.heap.size ≤ g ∧ Blk w' g 29 #[.slice A n c]) := by
  go_enter Tryz.func65, Tryz.ntmps65
  go_wp2
  go_ret
  exact ⟨w.heap.size, rfl, bl_al _ (bl_refl w), Nat.le_refl _, Blk.new _ _ _⟩
theorem bx_cell {X : List Nat} {a b : World} {k o : Nat} {v : Value} (h : BX X a b) (hc : a.cell? ⟨k, o, none⟩ = some v) (hk : k ∉ X) : b.cell? ⟨k, o, none⟩ = some v :=
  (World.cell?_of_block (h.block k (World.block_lt_of_cell? _ _ hc) hk)).trans hc
set_option maxHeartbeats 8000000 in
theorem back_iter (l : List StA) (A : Option Addr) (c g ln : Nat) (X : List Nat) (J : List Nat → World → Prop) (W : World) (hgX : g ∉ X) (hXA : ∀ b off, A = some ⟨b, off, none⟩ → 0 < l.length → b ∉ X) (hll : l.length ≤ 1000)
    (hY : ∀ pre k W1, J pre W1 → pre ++ [k] <+: (List.range l.length).reverse → YieldAt Fence.wide 4 Tryz.prog ln #[.int .i64 (k : Nat), vStA l k] W1 fun e W' => e = .returned (.bool true) ∧ J (pre ++ [k]) W' ∧ BX X W1 W')
    (h0 : J [] W) (hk : Blk W g 29 #[.slice A l.length c]) (hs : Sl cSp 9 W A l) :
    CallsIn Fence.wide 5 Tryz.prog 100 (#[.func (.yield ln) #[] #[]] ++ #[.pointer (some ⟨g, 0, none⟩)]) W fun e W' => (∃ v, e = .returned v) ∧ J (List.range l.length).reverse W' := by
  refine callsIn_of_wp Tryz.func100 rfl trivial ?_ rfl
  simp only [Tryz.ntmps100, List.size_toArray, List.length_cons, List.length_nil, Nat.reduceAdd, Nat.reduceSub, Array.replicate_succ, Array.replicate_zero, List.push_toArray, List.append_toArray, List.nil_append, List.cons_append]
  replace hY := Lib.hid hY
  replace h0 := Lib.hid h0
  have Hs := Lib.hid hs
  have HXA := Lib.hid hXA
  clear hs hXA
  obtain ⟨n, Hn⟩ : ∃ n, Hid (l.length = n) := ⟨_, rfl⟩
  rw [Hn.out] at hll hY hk ⊢
  have L := hk.cell
  gi_wp2
  gi_loopw [3] (fun p wr => ∃ (k : Nat) (pre : List Nat), p = .int .i64 ((k : Int) - 1) ∧ k ≤ n ∧ pre ++ (List.range k).reverse = (List.range n).reverse ∧ J pre wr ∧ BX X W wr) (fun p _ => (intOf p + 1).toNat)
  case atStart => exact ⟨n, [], by go_num, Nat.le_refl _, rfl, h0.out, bx_refl _ _⟩
  case round =>
    clear L
    obtain ⟨k, pre, rfl, hkn, hpre, hj, hbx⟩ := hrel
    have k2 := hk.keep hgX hbx
    have L := k2.cell
    cases k with
    | zero =>
      replace hj := Lib.hid hj
      gi_wp2
      go_end0
      exact ⟨⟨_, rfl⟩, by have := hpre; rw [List.range_zero, List.reverse_nil, List.append_nil] at this; rw [← this]; exact hj.out⟩
    | succ k =>
      have hx : l[k]? = some (l[k]'(by have := Hn.out; omega)) := List.getElem?_eq_getElem _
      generalize l[k]'(by have := Hn.out; omega) = x at hx
      obtain ⟨bb, off, hA, hc⟩ := Hs.out k x hx
      rw [rng_succ] at hpre
      obtain ⟨fn, tmps, assign, body, hy, hR⟩ := hY.out pre k wr hj ⟨(List.range k).reverse, by rw [← hpre]; simp⟩
      rw [vStA_at hx] at hy
      unfold vSt at hy
      have hbX := HXA.out bb off hA (by have := Hn.out; omega)
      subst hA
      have c0 : wr.cell? ⟨bb, off + k * 9, none⟩ = some (.int .i64 x.s.mv.ticks) := bx_cell hbx (hc 0 _ rfl) hbX
      have c1 : wr.cell? ⟨bb, off + k * 9 + 1, none⟩ = some (.int .i64 x.s.mv.speed.x.lo) := bx_cell hbx (hc 1 _ rfl) hbX
      have c2 : wr.cell? ⟨bb, off + k * 9 + 2, none⟩ = some (.int .i64 x.s.mv.speed.x.hi) := bx_cell hbx (hc 2 _ rfl) hbX
      have c3 : wr.cell? ⟨bb, off + k * 9 + 3, none⟩ = some (.int .i64 x.s.mv.speed.y.lo) := bx_cell hbx (hc 3 _ rfl) hbX
      have c4 : wr.cell? ⟨bb, off + k * 9 + 4, none⟩ = some (.int .i64 x.s.mv.speed.y.hi) := bx_cell hbx (hc 4 _ rfl) hbX
      have c5 : wr.cell? ⟨bb, off + k * 9 + 5, none⟩ = some (.int .i64 x.s.mv.speed.z.lo) := bx_cell hbx (hc 5 _ rfl) hbX
      have c6 : wr.cell? ⟨bb, off + k * 9 + 6, none⟩ = some (.int .i64 x.s.mv.speed.z.hi) := bx_cell hbx (hc 6 _ rfl) hbX
      have c7 : wr.cell? ⟨bb, off + k * 9 + 7, none⟩ = some (.slice x.A x.s.vt.rs.length x.c) := bx_cell hbx (hc 7 _ rfl) hbX
      have c8 : wr.cell? ⟨bb, off + k * 9 + 8, none⟩ = some (.int .i64 x.s.vt.wrong) := bx_cell hbx (hc 8 _ rfl) hbX
      clear hc
      replace hpre := Lib.hid hpre
      replace hj := Lib.hid hj
      replace hx := Lib.hid hx
      have ek : ((k + 1 : Nat) : Int) - 1 = (k : Int) := by omega
      rw [ek]
      clear ek
      gi_wp2
      refine hR.mono ?_
      rintro e W3 ⟨rfl, hj3, hx3⟩
      have hbx3 := hbx.trans hx3
      replace hj3 := Lib.hid hj3
      clear hx3 hR hj L k2 hbx
      clear c0 c1 c2 c3 c4 c5 c6 c7 c8
      gi_wp2
      go_roundw
      case rel => exact ⟨k, pre ++ [k], by go_num, by omega, by rw [← hpre.out] <;> simp, hj3.out, hbx3⟩
      case measure => simp [intOf] <;> omega
theorem BX.new {X Y : List Nat} {a b c : World} (h : BX X a b) (k : BX Y b c) (hY : ∀ y ∈ Y, a.heap.size ≤ y) : BX X a c :=
  ⟨k.os.trans h.os, k.tape.trans h.tape, k.output.trans h.output, Nat.le_trans h.size k.size,
   fun i hi hX => (k.block i (Nat.lt_of_lt_of_le hi h.size) fun e => by have := hY i e; omega).trans (h.block i hi hX),
   fun g hg t cs hk => by
    obtain ⟨c1, h1, h2⟩ := h.shape g hg t cs hk
    exact ⟨c1, h1.keep (fun e => by have := hY g e; have := hk.lt; omega) k, h2⟩⟩
set_option maxHeartbeats 16000000 in
theorem c_SmoothedOf (n : Nt) (b : Bx) (l : List StA) (A A' : Option Addr) (c c' : Nat) (w : World) (hn : NtIn n A c w) (hl : StsIn l A' w) (hll : few1 l) (h8 : l.length ≤ 8) (hlb : n.bs.length ≤ 1000) :
    Calls Tryz.prog 19 #[vNt n.world (.slice A n.bs.length c), vBx b, .slice A' l.length c'] w (fun e w' => Below w.heap.size w w' ∧ (trackE n b (l.map (·.s)) ≠ 0 → e = .returned (.tuple #[.slice none 0 0, .int .i64 (trackE n b (l.map (·.s)))]))
      ∧ (trackE n b (l.map (·.s)) = 0 → ∃ A2 c2, e = .returned (.tuple #[.slice A2 (l.length + 1) c2, .int .i64 0]) ∧ w'.ownsRow w.heap.size 25 6 (.slice A2 (l.length + 1) c2) (l.length + 1) ((smo n b (l.map (·.s))).flatMap cBox))) := by
  have htr := Lib.hid fun (W : World) (hb : Below w.heap.size w W) => c_track n b l A A' c c' W (hn.below hb) (hl.below hb) hll hlb
  have Hat : Hid (trackE n b (l.map (·.s)) = 0 → ∀ (i : Nat) (x : StA) (q d : Bx), l[i]? = some x → (b :: trk n b (l.map (·.s)))[i]? = some q → (smo n b (l.map (·.s)))[i + 1]? = some d →
      d.in 10000 ∧ x.s.mv.ok ∧ (back n.world d x.s.mv).ordered = true ∧ (q.meet (back n.world d x.s.mv)).ordered = true ∧ (smo n b (l.map (·.s)))[i]? = some (q.meet (back n.world d x.s.mv))) := fun h => smo_facts h
  have Hlen : Hid ((smo n b (l.map (·.s))).length = l.length + 1) := by rw [smo_len, List.length_map]; exact Lib.hid rfl
  have Hbl : Hid ((b :: trk n b (l.map (·.s))).length = l.length + 1) := by rw [List.length_cons, trk_len, List.length_map]; exact Lib.hid rfl
  have Hmx : Hid (Mix (b :: trk n b (l.map (·.s))) (smo n b (l.map (·.s))) (b :: trk n b (l.map (·.s))) l.length) := by have := Mix.start (n := n) (b := b) (l := l.map (·.s)); rw [List.length_map] at this; exact Lib.hid this
  have hl1 := hll.1
  have Hl := Lib.hid hl.sl
  clear hn hl hll
  generalize trackE n b (l.map (·.s)) = TE at *
  generalize hBT : b :: trk n b (l.map (·.s)) = BT at *
  clear hBT
  generalize smo n b (l.map (·.s)) = SM at *
  generalize n.bs.length = nl at *
  obtain ⟨ll, Hn⟩ : ∃ k, Hid (l.length = k) := ⟨_, rfl⟩
  rw [Hn.out] at hl1 h8 Hlen Hbl Hmx htr ⊢
  refine calls_marks Tryz.func19 rfl ?_
  simp only [Tryz.ntmps19, List.size_toArray, List.length_cons, List.length_nil, Nat.reduceAdd, Nat.reduceSub, Array.replicate_succ, Array.replicate_zero, List.push_toArray, List.append_toArray, List.nil_append, List.cons_append]
  go_upto_region 1 with fail
  apply absB4 (w0 := w) (g0 := w.heap.size) (g1 := w.heap.size + 1) (g2 := w.heap.size + 2) (g3 := w.heap.size + 3)
  iterate 5 (focus exact zL)
  try clear hb3
  try clear hb0
  try clear k0
  try clear k1
  try clear k2
  try clear k3
  intro wa hb0 k0 k1 k2 k3
  (try simp only [List.setIfInBounds_toArray, List.set_cons_zero, List.set_cons_succ] at k0 k1 k2 k3)
  have Lk0 := k0.later
  have Fk0 := k0.laterF
  have Qk0 := k0.lt
  have Lk1 := k1.later
  have Fk1 := k1.laterF
  have Qk1 := k1.lt
  have Lk2 := k2.later
  have Fk2 := k2.laterF
  have Qk2 := k2.lt
  have Lk3 := k3.later
  have Fk3 := k3.laterF
  have Qk3 := k3.lt
  go_wp2_with fail
  with_reducible refine Calls.mono (htr.out _ (bl_tr hb0 (by (exact zE)))) ?_
  rintro e w3 ⟨hb3, hne, heq⟩
  replace hb3 := bl_tt hb3
  by_cases h0 : TE = 0
  · obtain ⟨g, cap, rfl, hown⟩ := heq h0
    have Hat' := Lib.hid (Hat.out h0)
    have hT := Lib.hid h0
    obtain ⟨cur, kg, hgb, hrows⟩ := own_blk (m := BT) (by omega) Hbl.out.symm hown
    have hwa := k3.lt
    have hgb4 : w.heap.size + 4 ≤ g := by omega
    have hcap : ll + 1 ≤ cap := by
      rcases hown.2 with ⟨h, -⟩ | ⟨_, _, _, e, _, _, h, _⟩
      · cases h
      · injection e with _ _ e
        omega
    clear hne heq h0 hown Hat htr
    apply absX3 (w0 := w) (w := w3) (g0 := w.heap.size + 2) (g1 := w.heap.size + 3) (g2 := g)
    iterate 4 (focus exact zL)
    try clear hb3
    try clear Lk0
    try clear Fk0
    try clear Qk0
    try clear Lk1
    try clear Fk1
    try clear Qk1
    try clear Lk2
    try clear Fk2
    try clear Qk2
    try clear Lk3
    try clear Fk3
    try clear Qk3
    try clear hb0
    try clear k2
    try clear k3
    try clear kg
    intro wb hb0 k2 k3 kg
    (try simp only [List.setIfInBounds_toArray, List.set_cons_zero, List.set_cons_succ] at k2 k3 kg)
    have Lk2 := k2.later
    have Fk2 := k2.laterF
    have Qk2 := k2.lt
    have Lk3 := k3.later
    have Fk3 := k3.laterF
    have Qk3 := k3.lt
    have Lkg := kg.later
    have Fkg := kg.laterF
    have Qkg := kg.lt
    have hzb : w.heap.size + 4 ≤ wb.heap.size := by have := k3.lt; omega
    have hzg := kg.lt
    go_upto_region 2 with fail
    apply absB5 (w0 := w) (g0 := w.heap.size + 2) (g1 := w.heap.size + 3) (g2 := g) (g3 := wb.heap.size) (g4 := wb.heap.size + 1)
    iterate 6 (focus exact zL)
    try clear hb3
    try clear Lk2
    try clear Fk2
    try clear Qk2
    try clear Lk3
    try clear Fk3
    try clear Qk3
    try clear Lkg
    try clear Fkg
    try clear Qkg
    try clear hb0
    try clear k2
    try clear k3
    try clear kg
    try clear k4
    try clear k5
    intro wc hb0 k2 k3 kg k4 k5
    (try simp only [List.setIfInBounds_toArray, List.set_cons_zero, List.set_cons_succ] at k2 k3 kg k4 k5)
    have Lk2 := k2.later
    have Fk2 := k2.laterF
    have Qk2 := k2.lt
    have Lk3 := k3.later
    have Fk3 := k3.laterF
    have Qk3 := k3.lt
    have Lkg := kg.later
    have Fkg := kg.laterF
    have Qkg := kg.lt
    have Lk4 := k4.later
    have Fk4 := k4.laterF
    have Qk4 := k4.lt
    have Lk5 := k5.later
    have Fk5 := k5.laterF
    have Qk5 := k5.lt
    go_wp2_with fail
    with_reducible refine Calls.mono (c_Backward _ _ _ _) ?_
    rintro e w5 ⟨gw, rfl, hb3, hgw, kW⟩
    replace hb3 := bl_tt hb3
    have hzc := k5.lt
    apply absX6 (w0 := w) (w := w5) (g0 := w.heap.size + 2) (g1 := w.heap.size + 3) (g2 := g) (g3 := wb.heap.size) (g4 := wb.heap.size + 1) (g5 := gw)
    iterate 7 (focus exact zL)
    try clear hb3
    try clear Lk2
    try clear Fk2
    try clear Qk2
    try clear Lk3
    try clear Fk3
    try clear Qk3
    try clear Lkg
    try clear Fkg
    try clear Qkg
    try clear Lk4
    try clear Fk4
    try clear Qk4
    try clear Lk5
    try clear Fk5
    try clear Qk5
    try clear hb0
    try clear k2
    try clear k3
    try clear kg
    try clear k4
    try clear k5
    try clear kW
    intro wd hb0 k2 k3 kg k4 k5 kW
    (try simp only [List.setIfInBounds_toArray, List.set_cons_zero, List.set_cons_succ] at k2 k3 kg k4 k5 kW)
    have Lk2 := k2.later
    have Fk2 := k2.laterF
    have Qk2 := k2.lt
    have Lk3 := k3.later
    have Fk3 := k3.laterF
    have Qk3 := k3.lt
    have Lkg := kg.later
    have Fkg := kg.laterF
    have Qkg := kg.lt
    have Lk4 := k4.later
    have Fk4 := k4.laterF
    have Qk4 := k4.lt
    have Lk5 := k5.later
    have Fk5 := k5.laterF
    have Qk5 := k5.lt
    have LkW := kW.later
    have FkW := kW.laterF
    have QkW := kW.lt
    have hb3 := fun (w' : World) (h : Below w'.heap.size w' wd) => h
    go_wp2
    apply absB6 (w0 := w) (g0 := w.heap.size + 2) (g1 := w.heap.size + 3) (g2 := g) (g3 := wb.heap.size) (g4 := wb.heap.size + 1) (g5 := gw)
    iterate 7 (focus exact zL)
    try clear hb3
    try clear Lk2
    try clear Fk2
    try clear Qk2
    try clear Lk3
    try clear Fk3
    try clear Qk3
    try clear Lkg
    try clear Fkg
    try clear Qkg
    try clear Lk4
    try clear Fk4
    try clear Qk4
    try clear Lk5
    try clear Fk5
    try clear Qk5
    try clear LkW
    try clear FkW
    try clear QkW
    try clear hb0
    try clear k2
    try clear k3
    try clear kg
    try clear k4
    try clear k5
    try clear kW
    intro we hb0 k2 k3 kg k4 k5 kW
    (try simp only [List.setIfInBounds_toArray, List.set_cons_zero, List.set_cons_succ] at k2 k3 kg k4 k5 kW)
    have Lk2 := k2.later
    have Fk2 := k2.laterF
    have Qk2 := k2.lt
    have Lk3 := k3.later
    have Fk3 := k3.laterF
    have Qk3 := k3.lt
    have Lkg := kg.later
    have Fkg := kg.laterF
    have Qkg := kg.lt
    have Lk4 := k4.later
    have Fk4 := k4.laterF
    have Qk4 := k4.lt
    have Lk5 := k5.later
    have Fk5 := k5.laterF
    have Qk5 := k5.lt
    have LkW := kW.later
    have FkW := kW.laterF
    have QkW := kW.lt
    have hle := hb0.size
    have hgX : ∀ x ∈ [g], x < we.heap.size := by simp; exact kg.lt
    have HA : ∀ bb off, A' = some ⟨bb, off, none⟩ → 0 < ll → bb ∉ [g] := fun bb off e h => by
      obtain ⟨b', o', e', hc⟩ := Hl.out 0 (l[0]'(by rw [Hn.out]; exact h)) (List.getElem?_eq_getElem _)
      rw [e] at e'
      injection e' with e'
      injection e' with e' _ _
      have h1 := World.block_lt_of_cell? _ _ (hc 0 _ rfl)
      simp at h1 ⊢
      omega
    have HB : Hid (∀ bb off, A' = some ⟨bb, off, none⟩ → 0 < ll → bb ∉ [g]) := HA
    replace hrows := Lib.hid hrows
    clear HA hwa hcap
    refine wp_range2 (gf := 100) (lb := #[.pointer (some ⟨gw, 0, none⟩)]) ?hg (enters_of Tryz.func100 (by kernel_rfl) rfl) (encs := fun k => #[.int .i64 (k : Nat), vStA l k]) (xs := (List.range ll).reverse) [g] ?seq (fun _ => rfl) hgX
      (fun pre W => Below w.heap.size w W ∧ Blk W (w.heap.size + 2) 53 #[.slice none 0 0] ∧ Blk W (w.heap.size + 3) 33 #[.int .i64 0] ∧ Blk W wb.heap.size 94 (aON n.world (.slice A nl c)) ∧ Blk W (wb.heap.size + 1) 114 #[.slice (some ⟨g, 0, none⟩) (ll + 1) cap] ∧ ∃ cur m, Blk W g 92 cur ∧ BRows cur m ∧ Mix BT SM m (ll - pre.length))
      (fun s A B h hc => ⟨hc.belowOf hle h.1, hc.blk h.2.1, hc.blk h.2.2.1, hc.blk h.2.2.2.1, hc.blk h.2.2.2.2.1, (by obtain ⟨cur, m, h1, h2⟩ := h.2.2.2.2.2; exact ⟨cur, m, hc.blk h1, h2⟩)⟩)
      ⟨hb0, k2, k3, k4, k5, cur, BT, kg, hrows.out, Hmx.out⟩ ?round ?done
    case hg => rfl
    case seq =>
      intro ln J W hbW hY h0
      have := back_iter l A' c' gw ln [g] J W (by simp; omega) (fun bb off e h => HB.out bb off e (by have := Hn.out; omega)) (by rw [Hn.out]; exact hl1) (by rw [Hn.out]; exact hY) h0 (by rw [Hn.out]; exact kW.below hbW) (Hl.out.below (bl_tr hb0 hbW))
      rw [Hn.out] at this
      exact this
    case round =>
      clear k2 k3 k4 k5 kg kW hb0 Hmx hrows cur Lk2 Lk3 Lk4 Lk5 Lkg LkW Fk2 Fk3 Fk4 Fk5 Fkg FkW Qk2 Qk3 Qk4 Qk5 Qkg QkW
      rintro ln pre k W ⟨hb0, k2, k3, k4, k5, cur, m, kg, hrows, hmx⟩ ⟨rest, hrest⟩
      have hlen := rng_at hrest
      rw [show ll - pre.length = k + 1 by omega] at hmx
      have hkl : k < ll := by omega
      have hx : l[k]? = some (l[k]'(by rw [Hn.out]; exact hkl)) := List.getElem?_eq_getElem _
      generalize l[k]'(by rw [Hn.out]; exact hkl) = x at hx
      have hq : m[k]? = some (m[k]'(by rw [hmx.len, Hbl.out]; omega)) := List.getElem?_eq_getElem _
      generalize m[k]'(by rw [hmx.len, Hbl.out]; omega) = q at hq
      have hd : m[k + 1]? = some (m[k + 1]'(by rw [hmx.len, Hbl.out]; omega)) := List.getElem?_eq_getElem _
      generalize m[k + 1]'(by rw [hmx.len, Hbl.out]; omega) = d at hd
      obtain ⟨f1, f2, f3, f4, f5⟩ := Hat'.out k x q d hx ((hmx.lo k (by omega)).symm.trans hq) ((hmx.hi (k + 1) (by omega)).symm.trans hd)
      have hm2 : Hid (Mix BT SM (m.set k (q.meet (back n.world d x.s.mv))) k) := Lib.hid (hmx.step f5 (by rw [Hbl.out]; omega))
      have hr2 : Hid (BRows (put6 cur k (q.meet (back n.world d x.s.mv))) (m.set k (q.meet (back n.world d x.s.mv)))) := Lib.hid (put6_rows hrows (by rw [hmx.len, Hbl.out]; omega))
      have hcb := Lib.hid fun (W : World) => c_back n.world d x.s.mv (.slice A nl c) W f1 f2
      have hcm := Lib.hid fun (W : World) => c_meet q (back n.world d x.s.mv) W
      rw [f3] at hcb
      rw [f4] at hcm
      have hqr := Lib.hid (hrows k q hq)
      have hdr := Lib.hid (hrows (k + 1) d hd)
      rw [vStA_at hx]
      unfold vSt
      have hkn : ll - (pre ++ [k]).length = k := by simp; omega
      replace hkn := Lib.hid hkn
      have hgs := kg.lt
      clear hrest hmx hrows hx hq hd f1 f2 f3 f4 f5 hlen Hat'
      generalize back n.world d x.s.mv = e at *
      obtain ⟨f, hf⟩ : ∃ f, q.meet e = f := ⟨_, rfl⟩
      rw [hf] at hcm hm2 hr2
      clear hf
      gi_wp2
      apply midK6 (X := [g]) (w0 := w) (g0 := w.heap.size + 2) (g1 := w.heap.size + 3) (g2 := wb.heap.size) (g3 := wb.heap.size + 1) (g4 := g) (g5 := W.heap.size) (by omega)
      iterate 8 (focus exact zL)
      try clear hb3
      try clear hb0
      try clear k2
      try clear k3
      try clear k4
      try clear k5
      try clear kg
      try clear k9
      intro wb2 hb0 hck k2 k3 k4 k5 kg k9
      (try simp only [List.setIfInBounds_toArray, List.set_cons_zero, List.set_cons_succ] at k2 k3 k4 k5 kg k9)
      have hbw := hb0
      have hb0 := bx_refl [g] wb2
      have hgb2 : g < wb2.heap.size := kg.lt
      have hk9 : W.heap.size < wb2.heap.size := k9.lt
      have Lk2 := k2.later
      have Fk2 := k2.laterF
      have Qk2 := k2.lt
      have Lk3 := k3.later
      have Fk3 := k3.laterF
      have Qk3 := k3.lt
      have Lk4 := k4.later
      have Fk4 := k4.laterF
      have Qk4 := k4.lt
      have Lk5 := k5.later
      have Fk5 := k5.laterF
      have Qk5 := k5.lt
      have Lk9 := k9.later
      have Fk9 := k9.laterF
      have Qk9 := k9.lt
      have Fkg := kg.laterF
      have d0 : ∀ W, Below _ _ W → W.cell? ⟨g, (k + 1) * 6, none⟩ = some (.int .i64 d.x.lo) := later ((kg.cell _).trans (hdr.out 0 _ rfl))
      have d1 : ∀ W, Below _ _ W → W.cell? ⟨g, (k + 1) * 6 + 1, none⟩ = some (.int .i64 d.x.hi) := later ((kg.cell _).trans (hdr.out 1 _ rfl))
      have d2 : ∀ W, Below _ _ W → W.cell? ⟨g, (k + 1) * 6 + 2, none⟩ = some (.int .i64 d.y.lo) := later ((kg.cell _).trans (hdr.out 2 _ rfl))
      have d3 : ∀ W, Below _ _ W → W.cell? ⟨g, (k + 1) * 6 + 3, none⟩ = some (.int .i64 d.y.hi) := later ((kg.cell _).trans (hdr.out 3 _ rfl))
      have d4 : ∀ W, Below _ _ W → W.cell? ⟨g, (k + 1) * 6 + 4, none⟩ = some (.int .i64 d.z.lo) := later ((kg.cell _).trans (hdr.out 4 _ rfl))
      have d5 : ∀ W, Below _ _ W → W.cell? ⟨g, (k + 1) * 6 + 5, none⟩ = some (.int .i64 d.z.hi) := later ((kg.cell _).trans (hdr.out 5 _ rfl))
      have ek : (0 : Int) ≤ (k : Int) + 1 ∧ (k : Int) + 1 < (ll : Int) + 1 := by omega
      have ek0 : (k : Int) < (ll : Int) + 1 := by omega
      gi_wp2
      refine wpIn_any (w0 := wb2) ⟨[13, 14], [11], [some 31, some 32, some 33, some 34, some 35, some 36, some 37, some 38, some 39, some 30, some 40, some 41, some 13, none, none], [[], [], [], [2], [1, 2, 3], [1, 2, 3, 4], [], [6], [0, 1, 2, 3, 4, 5, 6, 7], [0, 1, 2, 3, 4, 5, 6, 7, 8], [0, 1, 2, 3, 4, 5, 6, 7, 8, 9], [0, 1, 2, 3, 4, 5, 6, 7, 8, 9], [], [0, 1, 2, 3, 4, 5, 6, 7, 8, 9, 10, 12], [0, 1, 2, 3, 4, 5, 6, 7, 8, 9, 10, 11, 12, 13]], [[], [], [], [2], [1, 3], [4], [], [6], [0, 5, 7], [8], [9], [9], [], [], []]⟩ (fun γ => [(γ 12).n]) (by kernel_rfl) (by kernel_rfl) (by kernel_rfl) (by (exact zE)) (fun u => by simp only [putD, Act.put, List.setIfInBounds_toArray, List.set_cons_zero, List.set_cons_succ, Nat.zero_add, Nat.reduceAdd]; rfl) ?_
      apply RGW.on (i := 0) rfl
      · exact zG
      · intro γ u W hcur hd
        clear hd
        (try dsimp only)
        exact ⟨rfl, zS⟩
      · exact zC
      · rfl
      dsimp only [nA, cA]
      apply RGW.on (i := 1) rfl
      · exact zG
      · intro γ u W hcur hd
        clear hd
        (try dsimp only)
        exact ⟨rfl, zS⟩
      · exact zC
      · rfl
      dsimp only [nA, cA]
      apply RGW.on (i := 2) rfl
      · exact zG
      · intro γ u W hcur hd
        clear hd
        (try dsimp only)
        exact ⟨rfl, zS⟩
      · exact zC
      · rfl
      dsimp only [nA, cA]
      apply RGW.on (i := 3) rfl
      · exact zG
      · intro γ u W hcur hd
        obtain ⟨⟨h2, -, -⟩, -⟩ := hd
        dsimp only at h2
        (try simp only [h2])
        exact ⟨rfl, zS⟩
      · exact zC
      · rfl
      dsimp only [nA, cA]
      apply RGW.on (i := 4) rfl
      · exact zG
      · intro γ u W hcur hd
        obtain ⟨⟨h1, -, -⟩, ⟨h3, -, -⟩, -⟩ := hd
        dsimp only at h1 h3
        (try simp only [h1, h3])
        exact ⟨rfl, zS⟩
      · exact zC
      · rfl
      dsimp only [nA, cA]
      apply RGW.on (i := 5) rfl
      · exact zG
      · intro γ u W hcur hd
        obtain ⟨⟨h4, -, -⟩, -⟩ := hd
        dsimp only at h4
        (try simp only [h4])
        exact ⟨rfl, zS⟩
      · exact zC
      · rfl
      dsimp only [nA, cA]
      apply RGW.on (i := 6) rfl
      · exact zG
      · intro γ u W hcur hd
        clear hd
        (try dsimp only)
        exact ⟨rfl, zS⟩
      · exact zC
      · rfl
      dsimp only [nA, cA]
      apply RGW.on (i := 7) rfl
      · exact zG
      · intro γ u W hcur hd
        obtain ⟨⟨h6, -, -⟩, -⟩ := hd
        dsimp only at h6
        (try simp only [h6])
        exact ⟨rfl, zS⟩
      · exact zC
      · rfl
      dsimp only [nA, cA]
      apply RGW.call (i := 8) rfl
      · exact zG
      · intro γ u W hcur hd
        obtain ⟨⟨h0, -, -⟩, ⟨h5, -, -⟩, ⟨h7, -, -⟩, -⟩ := hd
        dsimp only at h0 h5 h7
        (try simp only [h0, h5, h7])
        refine ⟨rfl, fun K hK => ?_⟩
        go_simp
        (go_at_call 66; (with_reducible refine (hcb.out _).mono ?_); rintro e w3 ⟨rfl, hb3⟩; replace hb3 := bl_tt hb3)
        (try dsimp only)
        exact hK.out _ _ rfl (by (exact zE))
      · exact zC
      · rfl
      dsimp only [nA, cA]
      apply RGW.on (i := 9) rfl
      · exact zG
      · intro γ u W hcur hd
        obtain ⟨⟨h8, -, -⟩, -⟩ := hd
        dsimp only at h8
        (try simp only [h8])
        exact ⟨rfl, zS⟩
      · exact zC
      · rfl
      dsimp only [nA, cA]
      apply RGW.on (i := 10) rfl
      · exact zG
      · intro γ u W hcur hd
        obtain ⟨⟨h9, -, -⟩, -⟩ := hd
        dsimp only at h9
        (try simp only [h9])
        exact ⟨rfl, zS⟩
      · exact zC
      · rfl
      dsimp only [nA, cA]
      apply RGW.onL (i := 11) rfl
      · exact zG
      · intro γ u Wm W hcur hd hX
        obtain ⟨⟨h9, -, -⟩, -⟩ := hd
        dsimp only at h9
        (try simp only [h9])
        exact ⟨rfl, zS⟩
      · exact zC
      dsimp only [nA, cA]
      apply RGW.alloc (i := 12) rfl
      · exact zG
      · intro γ u W hcur hd
        clear hd
        (try dsimp only)
        refine ⟨rfl, fun K hK => ?_⟩
        go_simp
        exact hK.out _ _ rfl rfl
      · exact zC
      · rfl
      · rfl
      dsimp only [nA, cA]
      refine RGW.skip (i := 13) rfl rfl ?_
      dsimp only [nA, cA]
      refine RGW.skip (i := 14) rfl rfl ?_
      dsimp only [nA, cA]
      refine RGW.fin (fun γ u wc2 hwc2 hd hdis => ?_)
      obtain ⟨⟨h0, -, -⟩, ⟨h1, -, -⟩, ⟨h2, -, -⟩, ⟨h3, -, -⟩, ⟨h4, -, -⟩, ⟨h5, -, -⟩, ⟨h6, -, -⟩, ⟨h7, -, -⟩, ⟨h8, -, -⟩, ⟨h9, -, -⟩, ⟨h10, -, -⟩, ⟨h11, -, -⟩, ⟨h12, r12, b12⟩, -⟩ := hd
      dsimp only at h0 h1 h2 h3 h4 h5 h6 h7 h8 h9 h10 h11 h12 r12 b12
      clear hdis
      simp only [h0, h1, h2, h3, h4, h5, h6, h7, h8, h9, h10, h11, h12]
      clear h12 h11 h10 h9 h8 h7 h6 h5 h4 h3 h2 h1 h0
      replace b12 := b12 _ (List.mem_singleton.2 rfl)
      generalize hγ12 : (γ 12).n = g12 at *
      clear hγ12
      clear u
      simp only [List.map_cons, List.map_nil]
      apply PlanW.step
      · exact zG
      · rfl
      intro K hK
      refine wp_store_keep (X := [g12]) (w0 := wc2) rfl rfl rfl (by with_reducible first | exact bx_refl _ _ | assumption) (by with_reducible first | assumption | (apply Blk.below (hb := hwc2); assumption)) (by simp) (by kernel_rfl) (by rfl) (by simp [Value.oneCell']) (fun hres1 hcur => ?_)
      refine hK.out _ _ hcur (fun _ => ?_)
      clear hK K
      try simp only [Act.put, List.setIfInBounds_toArray, List.set_cons_zero, List.set_cons_succ]
      apply PlanW.step
      · exact zG
      · rfl
      intro K hK
      go_simp
      refine hK.out _ _ (by (exact zX)) (fun hcur => ?_)
      clear hK K
      try simp only [Act.put, List.setIfInBounds_toArray, List.set_cons_zero, List.set_cons_succ]
      refine PlanW.done ?_
      refine only_done ?_
      have hb3x := bx_tt hwc2
      have hb3 := bl_tt hwc2
      clear d0 d1 d2 d3 d4 d5
      have hbn := BX.new (bx_tt hwc2 _ _ hb0) hcur (by simp; omega)
      replace k2 := (k2.below hwc2).keep (by simp; omega) hcur
      replace k3 := (k3.below hwc2).keep (by simp; omega) hcur
      replace k4 := (k4.below hwc2).keep (by simp; omega) hcur
      replace k5 := (k5.below hwc2).keep (by simp; omega) hcur
      replace kg := (kg.below hwc2).keep (by simp; omega) hcur
      have kb := hres1
      clear hb0 Lk2 Lk3 Lk4 Lk5 Lk9 Fk2 Fk3 Fk4 Fk5 Fk9 Fkg hcur hres1 k9
      have hb0 := hbn
      clear hbn
      apply absTK6 (X := [g]) (w0 := wb2) (g0 := w.heap.size + 2) (g1 := w.heap.size + 3) (g2 := wb.heap.size) (g3 := wb.heap.size + 1) (g4 := g12) (g5 := g)
      iterate 7 (focus exact zL)
      try clear hb3
      try clear hb3x
      try clear hb0
      try clear k2
      try clear k3
      try clear k4
      try clear k5
      try clear kb
      try clear kg
      intro wd2 hb0 k2 k3 k4 k5 kb kg
      (try simp only [List.setIfInBounds_toArray, List.set_cons_zero, List.set_cons_succ] at k2 k3 k4 k5 kb kg)
      have Lk2 := k2.later
      have Fk2 := k2.laterF
      have Qk2 := k2.lt
      have Lk3 := k3.later
      have Fk3 := k3.laterF
      have Qk3 := k3.lt
      have Lk4 := k4.later
      have Fk4 := k4.laterF
      have Qk4 := k4.lt
      have Lk5 := k5.later
      have Fk5 := k5.laterF
      have Qk5 := k5.lt
      have Lkb := kb.later
      have Fkb := kb.laterF
      have Qkb := kb.lt
      have Fkg := kg.laterF
      have q0 : ∀ W, Below _ _ W → W.cell? ⟨g, k * 6, none⟩ = some (.int .i64 q.x.lo) := later ((kg.cell _).trans (hqr.out 0 _ rfl))
      have q1 : ∀ W, Below _ _ W → W.cell? ⟨g, k * 6 + 1, none⟩ = some (.int .i64 q.x.hi) := later ((kg.cell _).trans (hqr.out 1 _ rfl))
      have q2 : ∀ W, Below _ _ W → W.cell? ⟨g, k * 6 + 2, none⟩ = some (.int .i64 q.y.lo) := later ((kg.cell _).trans (hqr.out 2 _ rfl))
      have q3 : ∀ W, Below _ _ W → W.cell? ⟨g, k * 6 + 3, none⟩ = some (.int .i64 q.y.hi) := later ((kg.cell _).trans (hqr.out 3 _ rfl))
      have q4 : ∀ W, Below _ _ W → W.cell? ⟨g, k * 6 + 4, none⟩ = some (.int .i64 q.z.lo) := later ((kg.cell _).trans (hqr.out 4 _ rfl))
      have q5 : ∀ W, Below _ _ W → W.cell? ⟨g, k * 6 + 5, none⟩ = some (.int .i64 q.z.hi) := later ((kg.cell _).trans (hqr.out 5 _ rfl))
      gi_wp2
      refine wpIn_any (w0 := wd2) ⟨[12, 13], [10], [some 44, some 45, some 46, some 47, some 48, some 49, some 50, some 51, some 43, some 52, some 53, some 54, none, none], [[], [], [], [], [2, 3], [2, 3, 4], [], [2, 3, 4, 5, 6], [2, 3, 4, 5, 6, 7], [2, 3, 4, 5, 6, 7, 8], [2, 3, 4, 5, 6, 7, 8], [0, 1, 2, 3, 4, 5, 6, 7, 8, 9], [0, 1, 2, 3, 4, 5, 6, 7, 8, 9, 11], [0, 1, 2, 3, 4, 5, 6, 7, 8, 9, 10, 11, 12]], [[], [], [], [], [2, 3], [4], [], [5, 6], [7], [8], [8], [0, 1], [], []]⟩ (fun _ => [g]) (by kernel_rfl) (by kernel_rfl) (by kernel_rfl) (by (exact zE)) (fun u => by simp only [putD, Act.put, List.setIfInBounds_toArray, List.set_cons_zero, List.set_cons_succ, Nat.zero_add, Nat.reduceAdd]; rfl) ?_
      apply RGW.on (i := 0) rfl
      · exact zG
      · intro γ u W hcur hd
        clear hd
        (try dsimp only)
        exact ⟨rfl, zS⟩
      · exact zC
      · rfl
      dsimp only [nA, cA]
      apply RGW.on (i := 1) rfl
      · exact zG
      · intro γ u W hcur hd
        clear hd
        (try dsimp only)
        exact ⟨rfl, zS⟩
      · exact zC
      · rfl
      dsimp only [nA, cA]
      apply RGW.on (i := 2) rfl
      · exact zG
      · intro γ u W hcur hd
        clear hd
        (try dsimp only)
        exact ⟨rfl, zS⟩
      · exact zC
      · rfl
      dsimp only [nA, cA]
      apply RGW.on (i := 3) rfl
      · exact zG
      · intro γ u W hcur hd
        clear hd
        (try dsimp only)
        exact ⟨rfl, zS⟩
      · exact zC
      · rfl
      dsimp only [nA, cA]
      apply RGW.on (i := 4) rfl
      · exact zG
      · intro γ u W hcur hd
        obtain ⟨⟨h2, -, -⟩, ⟨h3, -, -⟩, -⟩ := hd
        dsimp only at h2 h3
        (try simp only [h2, h3])
        exact ⟨rfl, zS⟩
      · exact zC
      · rfl
      dsimp only [nA, cA]
      apply RGW.on (i := 5) rfl
      · exact zG
      · intro γ u W hcur hd
        obtain ⟨⟨h4, -, -⟩, -⟩ := hd
        dsimp only at h4
        (try simp only [h4])
        exact ⟨rfl, zS⟩
      · exact zC
      · rfl
      dsimp only [nA, cA]
      apply RGW.on (i := 6) rfl
      · exact zG
      · intro γ u W hcur hd
        clear hd
        (try dsimp only)
        exact ⟨rfl, zS⟩
      · exact zC
      · rfl
      dsimp only [nA, cA]
      apply RGW.call (i := 7) rfl
      · exact zG
      · intro γ u W hcur hd
        obtain ⟨⟨h5, -, -⟩, ⟨h6, -, -⟩, -⟩ := hd
        dsimp only at h5 h6
        (try simp only [h5, h6])
        refine ⟨rfl, fun K hK => ?_⟩
        go_simp
        (go_at_call 67; (with_reducible refine (hcm.out _).mono ?_); rintro e w3 ⟨rfl, hb3⟩; replace hb3 := bl_tt hb3)
        (try dsimp only)
        exact hK.out _ _ rfl (by (exact zE))
      · exact zC
      · rfl
      dsimp only [nA, cA]
      apply RGW.on (i := 8) rfl
      · exact zG
      · intro γ u W hcur hd
        obtain ⟨⟨h7, -, -⟩, -⟩ := hd
        dsimp only at h7
        (try simp only [h7])
        exact ⟨rfl, zS⟩
      · exact zC
      · rfl
      dsimp only [nA, cA]
      apply RGW.on (i := 9) rfl
      · exact zG
      · intro γ u W hcur hd
        obtain ⟨⟨h8, -, -⟩, -⟩ := hd
        dsimp only at h8
        (try simp only [h8])
        exact ⟨rfl, zS⟩
      · exact zC
      · rfl
      dsimp only [nA, cA]
      apply RGW.onL (i := 10) rfl
      · exact zG
      · intro γ u Wm W hcur hd hX
        obtain ⟨⟨h8, -, -⟩, -⟩ := hd
        dsimp only at h8
        (try simp only [h8])
        exact ⟨rfl, zS⟩
      · exact zC
      dsimp only [nA, cA]
      apply RGW.on (i := 11) rfl
      · exact zG
      · intro γ u W hcur hd
        obtain ⟨⟨h0, -, -⟩, ⟨h1, -, -⟩, -⟩ := hd
        dsimp only at h0 h1
        (try simp only [h0, h1])
        exact ⟨rfl, zS⟩
      · exact zC
      · rfl
      dsimp only [nA, cA]
      refine RGW.skip (i := 12) rfl rfl ?_
      dsimp only [nA, cA]
      refine RGW.skip (i := 13) rfl rfl ?_
      dsimp only [nA, cA]
      refine RGW.fin (fun γ u we2 hwe2 hd hdis => ?_)
      obtain ⟨⟨h0, -, -⟩, ⟨h1, -, -⟩, ⟨h2, -, -⟩, ⟨h3, -, -⟩, ⟨h4, -, -⟩, ⟨h5, -, -⟩, ⟨h6, -, -⟩, ⟨h7, -, -⟩, ⟨h8, -, -⟩, ⟨h9, -, -⟩, ⟨h10, -, -⟩, ⟨h11, -, -⟩, -⟩ := hd
      dsimp only at h0 h1 h2 h3 h4 h5 h6 h7 h8 h9 h10 h11
      clear hdis
      simp only [h0, h1, h2, h3, h4, h5, h6, h7, h8, h9, h10, h11]
      clear h11 h10 h9 h8 h7 h6 h5 h4 h3 h2 h1 h0
      clear u
      simp only [List.map_cons, List.map_nil]
      apply PlanW.step
      · exact zG
      · rfl
      intro K hK
      go_simp
      refine hK.out _ _ (by (exact zX)) (fun hcur => ?_)
      clear hK K
      try simp only [Act.put, List.setIfInBounds_toArray, List.set_cons_zero, List.set_cons_succ]
      apply PlanW.step
      · exact zG
      · rfl
      intro K hK
      go_simp
      refine hK.out _ _ (by (exact zX)) (fun hcur => ?_)
      clear hK K
      try simp only [Act.put, List.setIfInBounds_toArray, List.set_cons_zero, List.set_cons_succ]
      refine PlanW.done ?_
      refine only_done ?_
      have hb3x := bx_tt hwe2
      have hb3 := bl_tt hwe2
      clear q0 q1 q2 q3 q4 q5
      have hbn2 := (bx_tt hwe2 _ _ hb0).trans hcur
      replace k2 := (k2.below hwe2).keep (by simp; omega) hcur
      replace k3 := (k3.below hwe2).keep (by simp; omega) hcur
      replace k4 := (k4.below hwe2).keep (by simp; omega) hcur
      replace k5 := (k5.below hwe2).keep (by simp; omega) hcur
      replace kg := Blk.put (k := k) (b := f) (kg.below hwe2)
      clear hb0 Lk2 Lk3 Lk4 Lk5 Lkb Fk2 Fk3 Fk4 Fk5 Fkb Fkg hcur kb
      gi_wp2
      exact ⟨hbn2, bx_below hbw hbn2 (by simp; omega), k2, k3, k4, k5, _, _, kg, hr2.out, by rw [hkn.out]; exact hm2.out⟩
    case done =>
      clear k2 k3 k4 k5 kg kW hb0 Hmx hrows cur Lk2 Lk3 Lk4 Lk5 Lkg LkW Fk2 Fk3 Fk4 Fk5 Fkg FkW Qk2 Qk3 Qk4 Qk5 Qkg QkW
      rintro W ⟨hb0, k2, k3, k4, k5, cur, m, kg, hrows, hmx⟩ hK
      rw [List.length_reverse, List.length_range, Nat.sub_self] at hmx
      obtain rfl := hmx.fin
      have hbx := Lib.hid fun (W' : World) (hb : Below W.heap.size W W') => c_boxes m (some ⟨g, 0, none⟩) cap W' ((BRows.sl kg hrows).below hb) (by rw [Hlen.out]; omega)
      rw [Hlen.out] at hbx
      clear hrows hmx
      have Lk2 := k2.later
      have Fk2 := k2.laterF
      have Qk2 := k2.lt
      have Lk3 := k3.later
      have Fk3 := k3.laterF
      have Qk3 := k3.lt
      have Lk5 := k5.later
      have Fk5 := k5.laterF
      have Qk5 := k5.lt
      go_wp2_with fail
      with_reducible refine Calls.mono (hbx.out _ (by (exact zE))) ?_
      rintro e w7 ⟨A2, c2, rfl, hb7, ho7⟩
      have hbe := bl_tr hb0 hb7
      have hk3 := k3.lt
      have hWs := hb0.size
      have hge := hgX g (by simp)
      have hK2 := (hb7.block _ (Array.getElem?_eq_some_iff.1 hK).1).trans hK
      replace k2 := k2.below hb7
      replace k3 := k3.below hb7
      clear Lk2 Lk3 Lk5 Fk2 Fk3 Fk5 hb0
      have hb0 := bl_refl w7
      have hsz7 := hbe.size
      have Lk2 := k2.later
      have Fk2 := k2.laterF
      have Qk2 := k2.lt
      have Lk3 := k3.later
      have Fk3 := k3.laterF
      have Qk3 := k3.lt
      go_wp2
      have hx : BX [w.heap.size + 2, w.heap.size + 3] w7 ((w7.setCell ⟨w.heap.size + 2, 0, none⟩ (.slice A2 (ll + 1) c2)).setCell ⟨w.heap.size + 3, 0, none⟩ (.int .i64 0)) := bx_set (.inl (by simp)) _ (bx_set (.inl (by simp)) _ (bx_refl _ _))
      have e2 : Blk ((w7.setCell ⟨w.heap.size + 2, 0, none⟩ (.slice A2 (ll + 1) c2)).setCell ⟨w.heap.size + 3, 0, none⟩ (.int .i64 0)) (w.heap.size + 2) 53 #[.slice A2 (ll + 1) c2] := (k2.set 0 _).other (by simp) _
      have e3 : Blk ((w7.setCell ⟨w.heap.size + 2, 0, none⟩ (.slice A2 (ll + 1) c2)).setCell ⟨w.heap.size + 3, 0, none⟩ (.int .i64 0)) (w.heap.size + 3) 33 #[.int .i64 0] := (k3.other (by simp) _).set 0 _
      have hK3 := (hx.block we.heap.size (Array.getElem?_eq_some_iff.1 hK2).1 (by simp; omega)).trans hK2
      have hck := CK.put (D := w.heap.size) (.deferred none) hK3 rfl hle
      have hr2 := (hck.blk e2).cell
      have hr3 := (hck.blk e3).cell
      have hbf := hck.belowOf (Nat.le_refl _) (bx_below hbe hx (by simp))
      exact postM_taken hK3 (v := .tuple #[.slice A2 (ll + 1) c2, .int .i64 0]) (by simp [results, Tryz.results19, go_sem, hr2, hr3]) ⟨hbf, fun h => absurd hT.out h, fun _ => ⟨A2, c2, rfl, own_mono hWs (own_ck (own_bx ho7 hx (by simp; omega)) hck)⟩⟩
  · obtain rfl := hne h0
    have h0' : (TE != 0) = true := by simp [h0]
    have hT := Lib.hid h0
    clear heq hne h0 htr Hat Hlen Hbl Hmx
    apply absX2 (w0 := w) (w := w3) (g0 := w.heap.size + 2) (g1 := w.heap.size + 3)
    iterate 3 (focus exact zL)
    try clear hb3
    try clear hb0
    try clear k2
    try clear k3
    intro wb hb0 k2 k3
    (try simp only [List.setIfInBounds_toArray, List.set_cons_zero, List.set_cons_succ] at k2 k3)
    have Lk2 := k2.later
    have Fk2 := k2.laterF
    have Qk2 := k2.lt
    have Lk3 := k3.later
    have Fk3 := k3.laterF
    have Qk3 := k3.lt
    go_upto_region 2 with fail
    apply absB2 (w0 := w) (g0 := w.heap.size + 2) (g1 := w.heap.size + 3)
    iterate 3 (focus exact zL)
    try clear hb3
    try clear Lk2
    try clear Fk2
    try clear Qk2
    try clear Lk3
    try clear Fk3
    try clear Qk3
    try clear hb0
    try clear k2
    try clear k3
    intro wc hb0 k2 k3
    (try simp only [List.setIfInBounds_toArray, List.set_cons_zero, List.set_cons_succ] at k2 k3)
    have Lk2 := k2.later
    have Fk2 := k2.laterF
    have Qk2 := k2.lt
    have Lk3 := k3.later
    have Fk3 := k3.laterF
    have Qk3 := k3.lt
    go_wp2
    apply absPMB2 (w0 := w) (g0 := w.heap.size + 2) (g1 := w.heap.size + 3)
    iterate 3 (focus exact zL)
    try clear hb3
    try clear Lk2
    try clear Fk2
    try clear Qk2
    try clear Lk3
    try clear Fk3
    try clear Qk3
    try clear hb0
    try clear k2
    try clear k3
    intro wz hb0 k2 k3
    (try simp only [List.setIfInBounds_toArray, List.set_cons_zero, List.set_cons_succ] at k2 k3)
    have hr2 := k2.cell
    have hr3 := k3.cell
    refine postM_ret (v := .tuple #[.slice none 0 0, .int .i64 TE]) (by simp [results, Tryz.results19, go_sem, hr2, hr3]) ⟨hb0, fun _ => rfl, fun h => absurd h hT.out⟩
end Go.Proofs.YtephimmamkafoaaGreat
namespace Go.Proofs.YtephimmamkafoaaGreat
open Go.RowKit Go.Shelf
attribute [local go_sem] bl_al bl_drew bl_drewN bl_refl bx_al bx_drew bx_drewN bx_refl
set_option maxRecDepth 20000
section
variable {P : Program} {α : Type} {cs : α → List Value} {w : World} {t e g size bytes : Nat} {i : TypeInfo} {z : Value} {A : Option Addr} {l : List α} {c : Nat} {b : α}
end
end Go.Proofs.YtephimmamkafoaaGreat
namespace Go.Proofs.YtephimmamkafoaaGreat
open Go.RowKit Go.Shelf
attribute [local go_sem] bl_al bl_drew bl_drewN bl_refl bx_al bx_drew bx_drewN bx_refl
set_option maxRecDepth 20000
/-- Steps in memory, whatever their readings' places. -/
def StsAs (L : List St) (A : Option Addr) (W : World) : Prop := ∃ l2 : List StA, l2.map (·.s) = L ∧ StsIn l2 A W
theorem StsAs.below {L : List St} {A : Option Addr} {w w' : World} (h : StsAs L A w) (hb : Below w.heap.size w w') : StsAs L A w' := by
  obtain ⟨l2, h1, h2⟩ := h
  exact ⟨l2, h1, h2.below hb⟩
theorem few_as {l l2 : List StA} (h : l2.map (·.s) = l.map (·.s)) (hf : few2 l) : few1 l2 ∧ l2.length = l.length := by
  have hlen : l2.length = l.length := by
    have := congrArg List.length h
    simpa using this
  refine ⟨⟨by rw [hlen]; exact hf.few1.1, fun x hx => ?_⟩, hlen⟩
  have h1 : x.s ∈ l2.map (·.s) := List.mem_map_of_mem hx
  rw [h] at h1
  obtain ⟨y, hy, e⟩ := List.mem_map.1 h1
  rw [← e]
  exact hf.few1.2 y hy
theorem trackOf_as1 {n : Nt} {b : Bx} {l : List StA} (hlb : n.bs.length ≤ 1000) (hf : few2 l) (h0 : trackE n b (l.map (·.s)) = 0) (W : World) (A A' : Option Addr) (c c' : Nat) (h : NtIn n A c W) (h' : StsAs (l.map (·.s)) A' W) :
    Calls Tryz.prog 18 #[vNt n.world (.slice A n.bs.length c), vBx b, .slice A' l.length c'] W (fun e w' => ∃ A2 c2, e = .returned (.tuple #[.slice A2 l.length c2, .int .i64 0]) ∧ Below W.heap.size W w' ∧ Sl cBox 6 w' A2 (trk n b (l.map (·.s)))) := by
  obtain ⟨l2, h1, h2⟩ := h'
  obtain ⟨h3, h4⟩ := few_as h1 hf
  have := c_TrackOf n b l2 A A' c c' W h h2 h3 hlb
  rw [h1, h4] at this
  refine this.mono fun e w' hp => ?_
  obtain ⟨A2, c2, e1, ho⟩ := hp.2.2 h0
  refine ⟨A2, c2, e1, hp.1, ?_⟩
  have hl : (trk n b (l.map (·.s))).length = l.length := by rw [trk_len, List.length_map]
  rw [← hl] at ho
  exact own_slC (cs := cBox) (fun _ => rfl) (by decide) ho
theorem smoothedOf_as1 {n : Nt} {b : Bx} {l : List StA} (hlb : n.bs.length ≤ 1000) (hf : few2 l) (h0 : trackE n b (l.map (·.s)) = 0) (W : World) (A A' : Option Addr) (c c' : Nat) (h : NtIn n A c W) (h' : StsAs (l.map (·.s)) A' W) :
    Calls Tryz.prog 19 #[vNt n.world (.slice A n.bs.length c), vBx b, .slice A' l.length c'] W (fun e w' => ∃ A2 c2, e = .returned (.tuple #[.slice A2 (l.length + 1) c2, .int .i64 0]) ∧ Below W.heap.size W w' ∧ Sl cBox 6 w' A2 (smo n b (l.map (·.s)))) := by
  obtain ⟨l2, h1, h2⟩ := h'
  obtain ⟨h3, h4⟩ := few_as h1 hf
  have := c_SmoothedOf n b l2 A A' c c' W h h2 h3 (by rw [h4]; exact hf.1) hlb
  rw [h1, h4] at this
  refine this.mono fun e w' hp => ?_
  obtain ⟨A2, c2, e1, ho⟩ := hp.2.2 h0
  refine ⟨A2, c2, e1, hp.1, ?_⟩
  have hl : (smo n b (l.map (·.s))).length = l.length + 1 := by rw [smo_len, List.length_map]
  rw [← hl] at ho
  exact own_slC (cs := cBox) (fun _ => rfl) (by decide) ho
theorem copySteps_as {l : List StA} {A' : Option Addr} {c' : Nat} (hf : few2 l) {W : World} (hl : StsIn l A' W) :
    Calls Tryz.prog 11 #[.slice A' l.length c'] W (fun e w' => ∃ A2 c2, e = .returned (.slice A2 l.length c2) ∧ Below W.heap.size W w' ∧ StsAs (l.map (·.s)) A2 w') :=
  (r_CopySteps l A' c' W hl hf.few1).mono fun e w' ⟨l2, A2, c2, e1, e2, h1, h2⟩ => ⟨A2, c2, e1, h1, l2, e2, h2⟩
end Go.Proofs.YtephimmamkafoaaGreat
