/-
  Walks: the reference's tracks: their errors, their boxes; whether two lists of boxes are the same.
-/
import Derived.Test.YtephimmamkafoaaGreatTH1
import Derived.Test.YtephimmamkafoaaGreatTH3
set_option linter.unusedSimpArgs false
set_option linter.unusedVariables false
namespace Go.Proofs.YtephimmamkafoaaGreat
open Go.RowKit Go.Shelf
attribute [local go_sem] bl_al bl_drew bl_drewN bl_refl bx_al bx_drew bx_drewN bx_refl
set_option maxRecDepth 20000
/-- The boxes after each of some steps, and the first error of them. -/
def trk (n : Nt) : Bx → List St → List Bx
  | _, [] => []
  | b, s :: l => (afterV n b s).1 :: trk n (afterV n b s).1 l
def trkE (n : Nt) : Bx → List St → Int
  | _, [] => 0
  | b, s :: l => if afterX n b s = 0 then trkE n (afterV n b s).1 l else afterX n b s
def trackE (n : Nt) (b : Bx) (l : List St) : Int := if stepsErr n b l = 0 then trkE n b l else stepsErr n b l
theorem trk_len (n : Nt) : ∀ (l : List St) (b : Bx), (trk n b l).length = l.length
  | [], b => rfl
  | s :: l, b => by rw [trk, List.length_cons, List.length_cons, trk_len n l]
theorem map_at {l : List StA} {j : Nat} {x : StA} (h : l[j]? = some x) : (l.map (·.s)).drop j = x.s :: (l.map (·.s)).drop (j + 1) := by
  have h1 : (l.map (·.s))[j]? = some x.s := by simp [h]
  have hk := (List.getElem?_eq_some_iff.1 h1).1
  rw [List.drop_eq_getElem_cons hk, (List.getElem?_eq_some_iff.1 h1).2]
theorem trkE_at {n : Nt} {b : Bx} {l : List StA} {j : Nat} {x : StA} (h : l[j]? = some x) :
    trkE n b ((l.map (·.s)).drop j) = if afterX n b x.s = 0 then trkE n (afterV n b x.s).1 ((l.map (·.s)).drop (j + 1)) else afterX n b x.s := by
  rw [map_at h, trkE]
theorem trk_at {n : Nt} {b : Bx} {l : List StA} {j : Nat} {x : StA} (h : l[j]? = some x) :
    trk n b ((l.map (·.s)).drop j) = (afterV n b x.s).1 :: trk n (afterV n b x.s).1 ((l.map (·.s)).drop (j + 1)) := by
  rw [map_at h, trk]
set_option maxHeartbeats 8000000 in
theorem r_TrackErr (n : Nt) (b : Bx) (l : List StA) (A A' : Option Addr) (c c' : Nat) (w : World) (hn : NtIn n A c w) (hl : StsIn l A' w) (hll : few1 l) (hlb : n.bs.length ≤ 1000) :
    Calls Tryz.prog 20 #[vNt n.world (.slice A n.bs.length c), vBx b, .slice A' l.length c'] w (Ret (.int .i64 (trackE n b (l.map (·.s)))) w) := by
  have hse := Lib.hid fun (W : World) (hb : Below w.heap.size w W) => r_StepsErr n b l A A' c c' W (hn.below hb) (hl.below hb) hll hlb
  have hte := Lib.hid fun (b' : Bx) (x : StA) (hx : x ∈ l) (h : afterE n b' x.s = 0) (W : World) (hb : Below w.heap.size w W) => r_StepErr n b' x.s A x.A c x.c W (hn.below hb) ((hl.rd x hx).below hb) h
  have haf := Lib.hid fun (b' : Bx) (x : StA) (hx : x ∈ l) (h : afterE n b' x.s = 0) (h' : afterX n b' x.s = 0) (W : World) (hb : Below w.heap.size w W) => r_After n b' x.s A x.A c x.c W (hn.below hb) ((hl.rd x hx).below hb) h h'
  have hz := Lib.hid fun h : stepsErr n b (l.map (·.s)) = 0 => steps_zero h
  have hT0 : Hid (stepsErr n b (l.map (·.s)) = 0 → trackE n b (l.map (·.s)) = trkE n b ((l.map (·.s)).drop 0)) := fun h => by rw [trackE, if_pos h, List.drop_zero]
  have hT1 : Hid (stepsErr n b (l.map (·.s)) ≠ 0 → trackE n b (l.map (·.s)) = stepsErr n b (l.map (·.s))) := fun h => by rw [trackE, if_neg h]
  have hE0 : Hid (∀ b' : Bx, trkE n b' ((l.map (·.s)).drop l.length) = 0) := fun b' => by rw [← show (l.map (fun x : StA => x.s)).length = l.length from List.length_map _, List.drop_length]; rfl
  have hat : Hid (∀ (b' : Bx) (j : Nat) (x : StA), l[j]? = some x → trkE n b' ((l.map (·.s)).drop j) = if afterX n b' x.s = 0 then trkE n (afterV n b' x.s).1 ((l.map (·.s)).drop (j + 1)) else afterX n b' x.s) := fun b' j x h => trkE_at h
  have Hl := Lib.hid hl
  have hl1 := hll.1
  clear hn hl hll
  generalize stepsErr n b (l.map (·.s)) = SE at *
  generalize trackE n b (l.map (·.s)) = TE at *
  generalize l.map (·.s) = L at *
  generalize n.bs.length = nl at *
  obtain ⟨ll, Hn⟩ : ∃ k, Hid (l.length = k) := ⟨_, rfl⟩
  rw [Hn.out] at hl1 hse hE0 ⊢
  go_enter Tryz.func20, Tryz.ntmps20
  go_upto_region 1 with fail
  apply absB2 (w0 := w) (g0 := w.heap.size) (g1 := w.heap.size + 1)
  iterate 3 (focus ((with_reducible (repeat' (first | assumption | apply jA | apply jB | apply jC | apply jD | apply jE | apply jF | apply hb3 | apply jG | apply jH | apply jI | apply jJ | apply jK | apply hb3x | (apply jL; first | (simp; done) | rfl) | apply jM | apply jN | apply jO | apply jP | apply jQ | apply jR | apply jS | apply jT (hb := hb3 _ (jA _)) | omega | (simp; done) | (simp; omega) | (dsimp only; omega)))); done))
  intro wa hb0' k0' k1'
  (try simp only [List.setIfInBounds_toArray, List.set_cons_zero, List.set_cons_succ] at k0' k1')
  try clear hb3
  try clear hb0
  try clear k0
  try clear k1
  have hb0 := hb0'; clear hb0'
  have k0 := k0'; clear k0'
  have k1 := k1'; clear k1'
  have Lk0 := k0.later
  have Fk0 := k0.laterF
  have Qk0 := k0.lt
  have Lk1 := k1.later
  have Fk1 := k1.laterF
  have Qk1 := k1.lt
  go_upto_region 2 with (go_at_call 26; (with_reducible refine (hse.out _ (bl_tr hb0 (by (with_reducible (repeat' (first | assumption | apply jA | apply jB | apply jC | apply jD | apply jE | apply jF | apply hb3 | omega | (simp; done) | (simp; omega) | (dsimp only; omega))))))).mono ?_); rintro e w3 ⟨rfl, hb3⟩; replace hb3 := bl_tt hb3)
  apply absB2 (w0 := w) (g0 := w.heap.size) (g1 := w.heap.size + 1)
  iterate 3 (focus ((with_reducible (repeat' (first | assumption | apply jA | apply jB | apply jC | apply jD | apply jE | apply jF | apply hb3 | apply jG | apply jH | apply jI | apply jJ | apply jK | apply hb3x | (apply jL; first | (simp; done) | rfl) | apply jM | apply jN | apply jO | apply jP | apply jQ | apply jR | apply jS | apply jT (hb := hb3 _ (jA _)) | omega | (simp; done) | (simp; omega) | (dsimp only; omega)))); done))
  intro wb hb0' k0' k1'
  (try simp only [List.setIfInBounds_toArray, List.set_cons_zero, List.set_cons_succ] at k0' k1')
  try clear hb3
  try clear Lk0
  try clear Fk0
  try clear Qk0
  try clear Lk1
  try clear Fk1
  try clear Qk1
  try clear hb0
  try clear k0
  try clear k1
  have hb0 := hb0'; clear hb0'
  have k0 := k0'; clear k0'
  have k1 := k1'; clear k1'
  have Lk0 := k0.later
  have Fk0 := k0.laterF
  have Qk0 := k0.lt
  have Lk1 := k1.later
  have Fk1 := k1.laterF
  have Qk1 := k1.lt
  by_cases hS : SE = 0
  case neg =>
    have hS' : (SE != 0) = true := by simp [hS]
    have hT := Lib.hid (hT1.out hS)
    replace hS := Lib.hid hS
    go_wp2
    go_ret
    exact ⟨by rw [hT.out] <;> rfl, hb0⟩
  subst hS
  obtain ⟨hz0, hz1⟩ := hz.out (by simp)
  replace hz1 := Lib.hid hz1
  have hT := Lib.hid (hT0.out (by simp))
  clear hz hse hT0 hT1 Lk0 Lk1 Fk0 Fk1
  go_wp2
  go_loopw [8] (fun i wr => ∃ (j : Nat) (b' : Bx), j ≤ ll ∧ i = .int .i64 j ∧ Below w.heap.size w wr ∧ Blk wr w.heap.size 28 (aNt n.world (.slice A nl c)) ∧ Blk wr (w.heap.size + 1) 25 (aBx b') ∧ boxErr n b' = 0 ∧ TE = trkE n b' (L.drop j)) (fun i _ => ll - (intOf i).toNat)
  case atStart => exact ⟨0, b, Nat.zero_le _, rfl, hb0, k0, k1, hz0, hT.out⟩
  case round =>
    clear k0 k1 hb0
    obtain ⟨j, b', hj, rfl, hb0, k0, k1, hbe, hT⟩ := hrel
    replace hT := Lib.hid hT
    have Lk0 := k0.later
    have Fk0 := k0.laterF
    have Qk0 := k0.lt
    have Lk1 := k1.later
    have Fk1 := k1.laterF
    have Qk1 := k1.lt
    by_cases hjt : j < ll
    · have hx : l[j]? = some (l[j]'(by rw [Hn.out]; exact hjt)) := List.getElem?_eq_getElem _
      generalize l[j]'(by rw [Hn.out]; exact hjt) = x at hx
      have hm : x ∈ l := List.mem_of_getElem? hx
      obtain ⟨bb, off, hA, hc⟩ := Hl.out.sl j x hx
      obtain ⟨hm1, hv1⟩ := hz1.out j x hx
      have haE := afterE_zero hbe hm1 hv1
      have hte := Lib.hid (hte.out b' x hm haE)
      have haf := Lib.hid (haf.out b' x hm haE)
      have hnb := Lib.hid (after_box (n := n) (b := b') (s := x.s) (box_zero hbe).1)
      have hst := Lib.hid (hat.out b' j x hx)
      unfold vSt at hte haf
      clear hm hm1 hv1 haE hbe
      replace hx := Lib.hid hx
      generalize afterV n b' x.s = V at *
      generalize afterX n b' x.s = X at *
      subst hA
      go_upto_region 7 with fail
      have c0 : ∀ W, Below _ _ W → W.cell? ⟨bb, off + j * 9, none⟩ = some (.int .i64 x.s.mv.ticks) := later (kcell hb0 (hc 0 _ rfl))
      have c1 : ∀ W, Below _ _ W → W.cell? ⟨bb, off + j * 9 + 1, none⟩ = some (.int .i64 x.s.mv.speed.x.lo) := later (kcell hb0 (hc 1 _ rfl))
      have c2 : ∀ W, Below _ _ W → W.cell? ⟨bb, off + j * 9 + 2, none⟩ = some (.int .i64 x.s.mv.speed.x.hi) := later (kcell hb0 (hc 2 _ rfl))
      have c3 : ∀ W, Below _ _ W → W.cell? ⟨bb, off + j * 9 + 3, none⟩ = some (.int .i64 x.s.mv.speed.y.lo) := later (kcell hb0 (hc 3 _ rfl))
      have c4 : ∀ W, Below _ _ W → W.cell? ⟨bb, off + j * 9 + 4, none⟩ = some (.int .i64 x.s.mv.speed.y.hi) := later (kcell hb0 (hc 4 _ rfl))
      have c5 : ∀ W, Below _ _ W → W.cell? ⟨bb, off + j * 9 + 5, none⟩ = some (.int .i64 x.s.mv.speed.z.lo) := later (kcell hb0 (hc 5 _ rfl))
      have c6 : ∀ W, Below _ _ W → W.cell? ⟨bb, off + j * 9 + 6, none⟩ = some (.int .i64 x.s.mv.speed.z.hi) := later (kcell hb0 (hc 6 _ rfl))
      have c7 : ∀ W, Below _ _ W → W.cell? ⟨bb, off + j * 9 + 7, none⟩ = some (.slice x.A x.s.vt.rs.length x.c) := later (kcell hb0 (hc 7 _ rfl))
      have c8 : ∀ W, Below _ _ W → W.cell? ⟨bb, off + j * 9 + 8, none⟩ = some (.int .i64 x.s.vt.wrong) := later (kcell hb0 (hc 8 _ rfl))
      refine wp_any (w0 := wr) ⟨[], [], [some 23, some 24, some 25, some 26, some 27, some 28, some 29, some 9], [[], [], [], [], [2, 3], [2, 3, 4], [0, 1, 2, 3, 4, 5], [0, 1, 2, 3, 4, 5, 6]], [[], [], [], [], [2, 3], [4], [0, 1, 5], [6]]⟩ (fun _ => []) (by kernel_rfl) (by kernel_rfl) (by (with_reducible (repeat' (first | assumption | apply jA | apply jB | apply jC | apply jD | apply jE | apply jF | apply hb3 | omega | (simp; done) | (simp; omega) | (dsimp only; omega))))) (fun u => by simp only [putD, Act.put, List.setIfInBounds_toArray, List.set_cons_zero, List.set_cons_succ, Nat.zero_add, Nat.reduceAdd]; rfl) ?_
      apply RGW.on (i := 0) rfl
      · (simp only [gA, gB, gC] <;> rfl)
      · intro γ u W hcur hd
        clear hd
        (try dsimp only)
        refine ⟨rfl, ?_⟩
        go_simp <;> (try go_bits) <;> with_reducible rfl
      · exact fun _ _ _ => rfl
      · rfl
      dsimp only [nA, cA]
      apply RGW.on (i := 1) rfl
      · (simp only [gA, gB, gC] <;> rfl)
      · intro γ u W hcur hd
        clear hd
        (try dsimp only)
        refine ⟨rfl, ?_⟩
        go_simp <;> (try go_bits) <;> with_reducible rfl
      · exact fun _ _ _ => rfl
      · rfl
      dsimp only [nA, cA]
      apply RGW.on (i := 2) rfl
      · (simp only [gA, gB, gC] <;> rfl)
      · intro γ u W hcur hd
        clear hd
        (try dsimp only)
        refine ⟨rfl, ?_⟩
        go_simp <;> (try go_bits) <;> with_reducible rfl
      · exact fun _ _ _ => rfl
      · rfl
      dsimp only [nA, cA]
      apply RGW.on (i := 3) rfl
      · (simp only [gA, gB, gC] <;> rfl)
      · intro γ u W hcur hd
        clear hd
        (try dsimp only)
        refine ⟨rfl, ?_⟩
        go_simp <;> (try go_bits) <;> with_reducible rfl
      · exact fun _ _ _ => rfl
      · rfl
      dsimp only [nA, cA]
      apply RGW.on (i := 4) rfl
      · (simp only [gA, gB, gC] <;> rfl)
      · intro γ u W hcur hd
        obtain ⟨⟨h2, -, -⟩, ⟨h3, -, -⟩, -⟩ := hd
        dsimp only at h2 h3
        (try simp only [h2, h3])
        refine ⟨rfl, ?_⟩
        go_simp <;> (try go_bits) <;> with_reducible rfl
      · exact fun _ _ _ => rfl
      · rfl
      dsimp only [nA, cA]
      apply RGW.on (i := 5) rfl
      · (simp only [gA, gB, gC] <;> rfl)
      · intro γ u W hcur hd
        obtain ⟨⟨h4, -, -⟩, -⟩ := hd
        dsimp only at h4
        (try simp only [h4])
        refine ⟨rfl, ?_⟩
        go_simp <;> (try go_bits) <;> with_reducible rfl
      · exact fun _ _ _ => rfl
      · rfl
      dsimp only [nA, cA]
      apply RGW.call (i := 6) rfl
      · (simp only [gA, gB, gC] <;> rfl)
      · intro γ u W hcur hd
        obtain ⟨⟨h0, -, -⟩, ⟨h1, -, -⟩, ⟨h5, -, -⟩, -⟩ := hd
        dsimp only at h0 h1 h5
        (try simp only [h0, h1, h5])
        refine ⟨rfl, fun K hK => ?_⟩
        go_simp
        (go_at_call 46; (with_reducible refine (hte.out _ (bl_tr hb0 (by (with_reducible (repeat' (first | assumption | apply jA | apply jB | apply jC | apply jD | apply jE | apply jF | apply hb3 | omega | (simp; done) | (simp; omega) | (dsimp only; omega))))))).mono ?_); rintro e w3 ⟨rfl, hb3⟩; replace hb3 := bl_tt hb3)
        (try dsimp only)
        exact hK.out _ _ rfl (by (with_reducible (repeat' (first | assumption | apply jA | apply jB | apply jC | apply jD | apply jE | apply jF | apply hb3 | omega | (simp; done) | (simp; omega) | (dsimp only; omega)))))
      · exact fun _ _ _ => rfl
      · rfl
      dsimp only [nA, cA]
      apply RGW.on (i := 7) rfl
      · (simp only [gA, gB, gC] <;> rfl)
      · intro γ u W hcur hd
        obtain ⟨⟨h6, -, -⟩, -⟩ := hd
        dsimp only at h6
        (try simp only [h6])
        refine ⟨rfl, ?_⟩
        go_simp <;> (try go_bits) <;> with_reducible rfl
      · exact fun _ _ _ => rfl
      · rfl
      dsimp only [nA, cA]
      refine RGW.fin (fun γ u wf hwf hd hdis => ?_)
      obtain ⟨⟨h0, -, -⟩, ⟨h1, -, -⟩, ⟨h2, -, -⟩, ⟨h3, -, -⟩, ⟨h4, -, -⟩, ⟨h5, -, -⟩, ⟨h6, -, -⟩, ⟨h7, -, -⟩, -⟩ := hd
      dsimp only at h0 h1 h2 h3 h4 h5 h6 h7
      clear hdis
      simp only [h0, h1, h2, h3, h4, h5, h6, h7]
      clear h7 h6 h5 h4 h3 h2 h1 h0
      clear u
      simp only [List.map_nil]
      refine PlanW.done ?_
      have hb3 := bl_tt hwf
      clear c0 c1 c2 c3 c4 c5 c6 c7 c8
      apply absTB2 (w0 := w) (g0 := w.heap.size) (g1 := w.heap.size + 1)
      iterate 3 (focus ((with_reducible (repeat' (first | assumption | apply jA | apply jB | apply jC | apply jD | apply jE | apply jF | apply hb3 | apply jG | apply jH | apply jI | apply jJ | apply jK | apply hb3x | (apply jL; first | (simp; done) | rfl) | apply jM | apply jN | apply jO | apply jP | apply jQ | apply jR | apply jS | apply jT (hb := hb3 _ (jA _)) | omega | (simp; done) | (simp; omega) | (dsimp only; omega)))); done))
      intro wg hb0' k0' k1'
      (try simp only [List.setIfInBounds_toArray, List.set_cons_zero, List.set_cons_succ] at k0' k1')
      try clear hb3
      try clear Lk0
      try clear Fk0
      try clear Qk0
      try clear Lk1
      try clear Fk1
      try clear Qk1
      try clear hb0
      try clear k0
      try clear k1
      have hb0 := hb0'; clear hb0'
      have k0 := k0'; clear k0'
      have k1 := k1'; clear k1'
      have Lk0 := k0.later
      have Fk0 := k0.laterF
      have Qk0 := k0.lt
      have Lk1 := k1.later
      have Fk1 := k1.laterF
      have Qk1 := k1.lt
      by_cases hX : X = 0
      · subst hX
        replace haf := Lib.hid (haf.out (by simp))
        replace hnb := Lib.hid (hnb.out (by simp))
        rw [if_pos rfl] at hst
        have c0 : ∀ W, Below _ _ W → W.cell? ⟨bb, off + j * 9, none⟩ = some (.int .i64 x.s.mv.ticks) := later (kcell hb0 (hc 0 _ rfl))
        have c1 : ∀ W, Below _ _ W → W.cell? ⟨bb, off + j * 9 + 1, none⟩ = some (.int .i64 x.s.mv.speed.x.lo) := later (kcell hb0 (hc 1 _ rfl))
        have c2 : ∀ W, Below _ _ W → W.cell? ⟨bb, off + j * 9 + 2, none⟩ = some (.int .i64 x.s.mv.speed.x.hi) := later (kcell hb0 (hc 2 _ rfl))
        have c3 : ∀ W, Below _ _ W → W.cell? ⟨bb, off + j * 9 + 3, none⟩ = some (.int .i64 x.s.mv.speed.y.lo) := later (kcell hb0 (hc 3 _ rfl))
        have c4 : ∀ W, Below _ _ W → W.cell? ⟨bb, off + j * 9 + 4, none⟩ = some (.int .i64 x.s.mv.speed.y.hi) := later (kcell hb0 (hc 4 _ rfl))
        have c5 : ∀ W, Below _ _ W → W.cell? ⟨bb, off + j * 9 + 5, none⟩ = some (.int .i64 x.s.mv.speed.z.lo) := later (kcell hb0 (hc 5 _ rfl))
        have c6 : ∀ W, Below _ _ W → W.cell? ⟨bb, off + j * 9 + 6, none⟩ = some (.int .i64 x.s.mv.speed.z.hi) := later (kcell hb0 (hc 6 _ rfl))
        have c7 : ∀ W, Below _ _ W → W.cell? ⟨bb, off + j * 9 + 7, none⟩ = some (.slice x.A x.s.vt.rs.length x.c) := later (kcell hb0 (hc 7 _ rfl))
        have c8 : ∀ W, Below _ _ W → W.cell? ⟨bb, off + j * 9 + 8, none⟩ = some (.int .i64 x.s.vt.wrong) := later (kcell hb0 (hc 8 _ rfl))
        go_upto_region 10 with fail
        have hq1 := k1.lt
        refine wp_any (w0 := wg) ⟨[7], [], [some 33, some 34, some 35, some 36, some 37, some 38, some 39, none], [[], [], [], [], [2, 3], [2, 3, 4], [0, 1, 2, 3, 4, 5], [0, 1, 2, 3, 4, 5, 6]], [[], [], [], [], [2, 3], [4], [0, 1, 5], []]⟩ (fun _ => [w.heap.size + 1]) (by kernel_rfl) (by kernel_rfl) (by (with_reducible (repeat' (first | assumption | apply jA | apply jB | apply jC | apply jD | apply jE | apply jF | apply hb3 | omega | (simp; done) | (simp; omega) | (dsimp only; omega))))) (fun u => by simp only [putD, Act.put, List.setIfInBounds_toArray, List.set_cons_zero, List.set_cons_succ, Nat.zero_add, Nat.reduceAdd]; rfl) ?_
        apply RGW.on (i := 0) rfl
        · (simp only [gA, gB, gC] <;> rfl)
        · intro γ u W hcur hd
          clear hd
          (try dsimp only)
          refine ⟨rfl, ?_⟩
          go_simp <;> (try go_bits) <;> with_reducible rfl
        · exact fun _ _ _ => rfl
        · rfl
        dsimp only [nA, cA]
        apply RGW.on (i := 1) rfl
        · (simp only [gA, gB, gC] <;> rfl)
        · intro γ u W hcur hd
          clear hd
          (try dsimp only)
          refine ⟨rfl, ?_⟩
          go_simp <;> (try go_bits) <;> with_reducible rfl
        · exact fun _ _ _ => rfl
        · rfl
        dsimp only [nA, cA]
        apply RGW.on (i := 2) rfl
        · (simp only [gA, gB, gC] <;> rfl)
        · intro γ u W hcur hd
          clear hd
          (try dsimp only)
          refine ⟨rfl, ?_⟩
          go_simp <;> (try go_bits) <;> with_reducible rfl
        · exact fun _ _ _ => rfl
        · rfl
        dsimp only [nA, cA]
        apply RGW.on (i := 3) rfl
        · (simp only [gA, gB, gC] <;> rfl)
        · intro γ u W hcur hd
          clear hd
          (try dsimp only)
          refine ⟨rfl, ?_⟩
          go_simp <;> (try go_bits) <;> with_reducible rfl
        · exact fun _ _ _ => rfl
        · rfl
        dsimp only [nA, cA]
        apply RGW.on (i := 4) rfl
        · (simp only [gA, gB, gC] <;> rfl)
        · intro γ u W hcur hd
          obtain ⟨⟨h2, -, -⟩, ⟨h3, -, -⟩, -⟩ := hd
          dsimp only at h2 h3
          (try simp only [h2, h3])
          refine ⟨rfl, ?_⟩
          go_simp <;> (try go_bits) <;> with_reducible rfl
        · exact fun _ _ _ => rfl
        · rfl
        dsimp only [nA, cA]
        apply RGW.on (i := 5) rfl
        · (simp only [gA, gB, gC] <;> rfl)
        · intro γ u W hcur hd
          obtain ⟨⟨h4, -, -⟩, -⟩ := hd
          dsimp only at h4
          (try simp only [h4])
          refine ⟨rfl, ?_⟩
          go_simp <;> (try go_bits) <;> with_reducible rfl
        · exact fun _ _ _ => rfl
        · rfl
        dsimp only [nA, cA]
        apply RGW.call (i := 6) rfl
        · (simp only [gA, gB, gC] <;> rfl)
        · intro γ u W hcur hd
          obtain ⟨⟨h0, -, -⟩, ⟨h1, -, -⟩, ⟨h5, -, -⟩, -⟩ := hd
          dsimp only at h0 h1 h5
          (try simp only [h0, h1, h5])
          refine ⟨rfl, fun K hK => ?_⟩
          go_simp
          (go_at_call 17; (with_reducible refine (haf.out _ (bl_tr hb0 (by (with_reducible (repeat' (first | assumption | apply jA | apply jB | apply jC | apply jD | apply jE | apply jF | apply hb3 | omega | (simp; done) | (simp; omega) | (dsimp only; omega))))))).mono ?_); rintro e w3 ⟨rfl, hb3⟩; replace hb3 := bl_tt hb3)
          (try dsimp only)
          exact hK.out _ _ rfl (by (with_reducible (repeat' (first | assumption | apply jA | apply jB | apply jC | apply jD | apply jE | apply jF | apply hb3 | omega | (simp; done) | (simp; omega) | (dsimp only; omega)))))
        · exact fun _ _ _ => rfl
        · rfl
        dsimp only [nA, cA]
        refine RGW.skip (i := 7) rfl rfl ?_
        dsimp only [nA, cA]
        refine RGW.fin (fun γ u wh hwh hd hdis => ?_)
        obtain ⟨⟨h0, -, -⟩, ⟨h1, -, -⟩, ⟨h2, -, -⟩, ⟨h3, -, -⟩, ⟨h4, -, -⟩, ⟨h5, -, -⟩, ⟨h6, -, -⟩, -⟩ := hd
        dsimp only at h0 h1 h2 h3 h4 h5 h6
        clear hdis
        simp only [h0, h1, h2, h3, h4, h5, h6]
        clear h6 h5 h4 h3 h2 h1 h0
        clear u
        simp only [List.map_cons, List.map_nil]
        apply PlanW.step
        · (simp only [gA, gB, gC] <;> rfl)
        · rfl
        intro K hK
        refine wp_store_keep (X := [w.heap.size + 1]) (w0 := wh) rfl rfl rfl (by with_reducible first | exact bx_refl _ _ | assumption) (by with_reducible first | assumption | (apply Blk.below (hb := hwh); assumption)) (by simp) (by kernel_rfl) (by rfl) (by simp [Value.oneCell']) (fun hres1 hcur => ?_)
        refine hK.out _ _ hcur (fun _ => ?_)
        clear hK K
        try simp only [Act.put, List.setIfInBounds_toArray, List.set_cons_zero, List.set_cons_succ]
        refine PlanW.done ?_
        have hb3 := bl_tt hwh
        clear c0 c1 c2 c3 c4 c5 c6 c7 c8
        go_wp2
        go_roundw
        case rel => exact ⟨j + 1, V.1, by omega, by go_num, by (with_reducible (repeat' (first | assumption | apply jA | apply jB | apply jC | apply jD | apply jE | apply jF | apply hb3 | omega | (simp; done) | (simp; omega) | (dsimp only; omega)))), by (with_reducible (repeat' (first | assumption | (apply jL; first | (simp; done) | rfl) | apply jM | apply jN | apply jO | apply jP | apply jQ | apply jR | apply jS | apply jT (hb := hb3 _ (jA _)) | omega | (simp; done) | (simp; omega) | (dsimp only; omega)))), by (with_reducible (repeat' (first | assumption | (apply jL; first | (simp; done) | rfl) | apply jM | apply jN | apply jO | apply jP | apply jQ | apply jR | apply jS | apply jT (hb := hb3 _ (jA _)) | omega | (simp; done) | (simp; omega) | (dsimp only; omega)))), hnb.out, by rw [hT.out, hst.out]⟩
        case measure => simp [intOf]; omega
      · have hX' : (X != 0) = true := by simp [hX]
        rw [if_neg hX] at hst
        replace hX := Lib.hid hX
        go_wp2
        go_ret
        exact ⟨by rw [hT.out, hst.out] <;> rfl, hb0⟩
    · obtain rfl : j = ll := by omega
      go_wp2
      go_ret
      exact ⟨by rw [hT.out, hE0.out] <;> rfl, hb0⟩
def cBox (x : Bx) : List Value := [.int .i64 x.x.lo, .int .i64 x.x.hi, .int .i64 x.y.lo, .int .i64 x.y.hi, .int .i64 x.z.lo, .int .i64 x.z.hi]
theorem infoBx : (Tryz.prog.info? 25).map (fun i => (i.zero, i.size, i.bytes)) = some (some (.agg #[.int .i64 0, .int .i64 0, .int .i64 0, .int .i64 0, .int .i64 0, .int .i64 0]), 6, 48) := by kernel_rfl
theorem Blk.grown {W W' : World} {g B n sz : Nat} {t e : TypeId} {cs : Array Value} {v : Value} {xs : List Value} (h : Blk W g t cs) (ho : W.ownsRow B e sz v n xs) (hg : W.grownBy W' v.ownBlock) (hlt : g < B) : Blk W' g t cs := by
  have h1 : W.heap[g]? = some _ := h
  exact (hg.block g (Array.getElem?_eq_some_iff.1 h1).1 fun e => by have := own_ge ho g e.symm; omega).trans h1
set_option maxHeartbeats 8000000 in
theorem r_Track (n : Nt) (b : Bx) (l : List StA) (A A' : Option Addr) (c c' : Nat) (w : World) (hn : NtIn n A c w) (hl : StsIn l A' w) (hll : few1 l) (h0 : trackE n b (l.map (·.s)) = 0) :
    Calls Tryz.prog 22 #[vNt n.world (.slice A n.bs.length c), vBx b, .slice A' l.length c'] w (fun e w' => ∃ A2 c2, e = .returned (.slice A2 l.length c2) ∧ Below w.heap.size w w' ∧ w'.ownsRow w.heap.size 25 6 (.slice A2 l.length c2) l.length ((trk n b (l.map (·.s))).flatMap cBox)) := by
  obtain ⟨i0, hi0, hy0, hy1, hy2⟩ := info_parts infoBx
  have haf := Lib.hid fun (b' : Bx) (x : StA) (hx : x ∈ l) (h : afterE n b' x.s = 0) (h' : afterX n b' x.s = 0) (W : World) (hb : Below w.heap.size w W) => r_After n b' x.s A x.A c x.c W (hn.below hb) ((hl.rd x hx).below hb) h h'
  have hS : stepsErr n b (l.map (·.s)) = 0 := by
    by_cases h : stepsErr n b (l.map (·.s)) = 0
    · exact h
    · rw [trackE, if_neg h] at h0
      exact absurd h0 h
  have hE : trkE n b ((l.map (·.s)).drop 0) = 0 := by rw [trackE, if_pos hS] at h0; rw [List.drop_zero]; exact h0
  obtain ⟨hz0, hz1⟩ := steps_zero hS
  replace hz1 := Lib.hid hz1
  have hat : Hid (∀ (b' : Bx) (j : Nat) (x : StA), l[j]? = some x → trkE n b' ((l.map (·.s)).drop j) = if afterX n b' x.s = 0 then trkE n (afterV n b' x.s).1 ((l.map (·.s)).drop (j + 1)) else afterX n b' x.s) := fun b' j x h => trkE_at h
  have hal : Hid (∀ (b' : Bx) (j : Nat) (x : StA), l[j]? = some x → trk n b' ((l.map (·.s)).drop j) = (afterV n b' x.s).1 :: trk n (afterV n b' x.s).1 ((l.map (·.s)).drop (j + 1))) := fun b' j x h => trk_at h
  have hE0 : Hid (∀ b' : Bx, trk n b' ((l.map (·.s)).drop l.length) = []) := fun b' => by rw [← show (l.map (fun x : StA => x.s)).length = l.length from List.length_map _, List.drop_length]; rfl
  have hR : Hid (trk n b (l.map (·.s)) = trk n b ((l.map (·.s)).drop 0)) := by rw [List.drop_zero]; exact Lib.hid rfl
  have Hl := Lib.hid hl
  have hl1 := hll.1
  clear hn hl hll h0 hS
  generalize trk n b (l.map (·.s)) = TR at *
  generalize l.map (·.s) = L at *
  generalize n.bs.length = nl at *
  obtain ⟨ll, Hn⟩ : ∃ k, Hid (l.length = k) := ⟨_, rfl⟩
  rw [Hn.out] at hl1 hE0 ⊢
  go_enter Tryz.func22, Tryz.ntmps22
  go_upto_region 1 with fail
  apply absB2 (w0 := w) (g0 := w.heap.size) (g1 := w.heap.size + 1)
  iterate 3 (focus ((with_reducible (repeat' (first | assumption | apply jA | apply jB | apply jC | apply jD | apply jE | apply jF | apply hb3 | apply jG | apply jH | apply jI | apply jJ | apply jK | apply hb3x | (apply jL; first | (simp; done) | rfl) | apply jM | apply jN | apply jO | apply jP | apply jQ | apply jR | apply jS | apply jT (hb := hb3 _ (jA _)) | omega | (simp; done) | (simp; omega) | (dsimp only; omega)))); done))
  intro wa hb0' k0' k1'
  (try simp only [List.setIfInBounds_toArray, List.set_cons_zero, List.set_cons_succ] at k0' k1')
  try clear hb3
  try clear hb0
  try clear k0
  try clear k1
  have hb0 := hb0'; clear hb0'
  have k0 := k0'; clear k0'
  have k1 := k1'; clear k1'
  have hq := k1.lt
  go_wp2
  go_loopw [7, 8] (fun v i wr => ∃ (j : Nat) (b' : Bx) (pre : List Bx), j ≤ ll ∧ i = .int .i64 j ∧ Below w.heap.size w wr ∧ Blk wr w.heap.size 28 (aNt n.world (.slice A nl c)) ∧ Blk wr (w.heap.size + 1) 25 (aBx b') ∧ boxErr n b' = 0 ∧ trkE n b' (L.drop j) = 0 ∧ pre ++ trk n b' (L.drop j) = TR ∧ wr.ownsRow (w.heap.size + 2) 25 6 v j (pre.flatMap cBox)) (fun _ i _ => ll - (intOf i).toNat)
  case atStart => exact ⟨0, b, [], Nat.zero_le _, rfl, hb0, k0, k1, hz0, hE, by rw [hR.out]; rfl, World.ownsRow_nil _ _ _ _⟩
  case round =>
    clear k0 k1 hb0 hE
    obtain ⟨j, b', pre, hj, rfl, hb0, k0, k1, hbe, hE, hpre, hown⟩ := hrel
    replace hown := Lib.hid hown
    replace hpre := Lib.hid hpre
    have Lk0 := k0.later
    have Fk0 := k0.laterF
    have Qk0 := k0.lt
    have Lk1 := k1.later
    have Fk1 := k1.laterF
    have Qk1 := k1.lt
    by_cases hjt : j < ll
    · have hx : l[j]? = some (l[j]'(by rw [Hn.out]; exact hjt)) := List.getElem?_eq_getElem _
      generalize l[j]'(by rw [Hn.out]; exact hjt) = x at hx
      have hm : x ∈ l := List.mem_of_getElem? hx
      obtain ⟨bb, off, hA, hc⟩ := Hl.out.sl j x hx
      obtain ⟨hm1, hv1⟩ := hz1.out j x hx
      have haE := afterE_zero hbe hm1 hv1
      have hst := hat.out b' j x hx
      have hX : afterX n b' x.s = 0 := by
        by_cases h : afterX n b' x.s = 0
        · exact h
        · rw [if_neg h, hE] at hst
          exact absurd hst.symm h
      rw [if_pos hX, hE] at hst
      have hE' := Lib.hid hst.symm
      have haf := Lib.hid (haf.out b' x hm haE hX)
      have hnb := Lib.hid (after_box (n := n) (b := b') (s := x.s) (box_zero hbe).1 hX)
      have hln := Lib.hid (hal.out b' j x hx)
      unfold vSt at haf
      clear hm hm1 hv1 haE hbe hX hst hE
      replace hx := Lib.hid hx
      generalize afterV n b' x.s = V at *
      subst hA
      go_upto_region 5 with fail
      have hq1 := k1.lt
      have c0 : ∀ W, Below _ _ W → W.cell? ⟨bb, off + j * 9, none⟩ = some (.int .i64 x.s.mv.ticks) := later (kcell hb0 (hc 0 _ rfl))
      have c1 : ∀ W, Below _ _ W → W.cell? ⟨bb, off + j * 9 + 1, none⟩ = some (.int .i64 x.s.mv.speed.x.lo) := later (kcell hb0 (hc 1 _ rfl))
      have c2 : ∀ W, Below _ _ W → W.cell? ⟨bb, off + j * 9 + 2, none⟩ = some (.int .i64 x.s.mv.speed.x.hi) := later (kcell hb0 (hc 2 _ rfl))
      have c3 : ∀ W, Below _ _ W → W.cell? ⟨bb, off + j * 9 + 3, none⟩ = some (.int .i64 x.s.mv.speed.y.lo) := later (kcell hb0 (hc 3 _ rfl))
      have c4 : ∀ W, Below _ _ W → W.cell? ⟨bb, off + j * 9 + 4, none⟩ = some (.int .i64 x.s.mv.speed.y.hi) := later (kcell hb0 (hc 4 _ rfl))
      have c5 : ∀ W, Below _ _ W → W.cell? ⟨bb, off + j * 9 + 5, none⟩ = some (.int .i64 x.s.mv.speed.z.lo) := later (kcell hb0 (hc 5 _ rfl))
      have c6 : ∀ W, Below _ _ W → W.cell? ⟨bb, off + j * 9 + 6, none⟩ = some (.int .i64 x.s.mv.speed.z.hi) := later (kcell hb0 (hc 6 _ rfl))
      have c7 : ∀ W, Below _ _ W → W.cell? ⟨bb, off + j * 9 + 7, none⟩ = some (.slice x.A x.s.vt.rs.length x.c) := later (kcell hb0 (hc 7 _ rfl))
      have c8 : ∀ W, Below _ _ W → W.cell? ⟨bb, off + j * 9 + 8, none⟩ = some (.int .i64 x.s.vt.wrong) := later (kcell hb0 (hc 8 _ rfl))
      refine wp_any (w0 := wr) ⟨[7], [], [some 15, some 16, some 17, some 18, some 19, some 20, some 21, none], [[], [], [], [], [2, 3], [2, 3, 4], [0, 1, 2, 3, 4, 5], [0, 1, 2, 3, 4, 5, 6]], [[], [], [], [], [2, 3], [4], [0, 1, 5], []]⟩ (fun _ => [w.heap.size + 1]) (by kernel_rfl) (by kernel_rfl) (by (with_reducible (repeat' (first | assumption | apply jA | apply jB | apply jC | apply jD | apply jE | apply jF | apply hb3 | omega | (simp; done) | (simp; omega) | (dsimp only; omega))))) (fun u => by simp only [putD, Act.put, List.setIfInBounds_toArray, List.set_cons_zero, List.set_cons_succ, Nat.zero_add, Nat.reduceAdd]; rfl) ?_
      apply RGW.on (i := 0) rfl
      · (simp only [gA, gB, gC] <;> rfl)
      · intro γ u W hcur hd
        clear hd
        (try dsimp only)
        refine ⟨rfl, ?_⟩
        go_simp <;> (try go_bits) <;> with_reducible rfl
      · exact fun _ _ _ => rfl
      · rfl
      dsimp only [nA, cA]
      apply RGW.on (i := 1) rfl
      · (simp only [gA, gB, gC] <;> rfl)
      · intro γ u W hcur hd
        clear hd
        (try dsimp only)
        refine ⟨rfl, ?_⟩
        go_simp <;> (try go_bits) <;> with_reducible rfl
      · exact fun _ _ _ => rfl
      · rfl
      dsimp only [nA, cA]
      apply RGW.on (i := 2) rfl
      · (simp only [gA, gB, gC] <;> rfl)
      · intro γ u W hcur hd
        clear hd
        (try dsimp only)
        refine ⟨rfl, ?_⟩
        go_simp <;> (try go_bits) <;> with_reducible rfl
      · exact fun _ _ _ => rfl
      · rfl
      dsimp only [nA, cA]
      apply RGW.on (i := 3) rfl
      · (simp only [gA, gB, gC] <;> rfl)
      · intro γ u W hcur hd
        clear hd
        (try dsimp only)
        refine ⟨rfl, ?_⟩
        go_simp <;> (try go_bits) <;> with_reducible rfl
      · exact fun _ _ _ => rfl
      · rfl
      dsimp only [nA, cA]
      apply RGW.on (i := 4) rfl
      · (simp only [gA, gB, gC] <;> rfl)
      · intro γ u W hcur hd
        obtain ⟨⟨h2, -, -⟩, ⟨h3, -, -⟩, -⟩ := hd
        dsimp only at h2 h3
        (try simp only [h2, h3])
        refine ⟨rfl, ?_⟩
        go_simp <;> (try go_bits) <;> with_reducible rfl
      · exact fun _ _ _ => rfl
      · rfl
      dsimp only [nA, cA]
      apply RGW.on (i := 5) rfl
      · (simp only [gA, gB, gC] <;> rfl)
      · intro γ u W hcur hd
        obtain ⟨⟨h4, -, -⟩, -⟩ := hd
        dsimp only at h4
        (try simp only [h4])
        refine ⟨rfl, ?_⟩
        go_simp <;> (try go_bits) <;> with_reducible rfl
      · exact fun _ _ _ => rfl
      · rfl
      dsimp only [nA, cA]
      apply RGW.call (i := 6) rfl
      · (simp only [gA, gB, gC] <;> rfl)
      · intro γ u W hcur hd
        obtain ⟨⟨h0, -, -⟩, ⟨h1, -, -⟩, ⟨h5, -, -⟩, -⟩ := hd
        dsimp only at h0 h1 h5
        (try simp only [h0, h1, h5])
        refine ⟨rfl, fun K hK => ?_⟩
        go_simp
        (go_at_call 17; (with_reducible refine (haf.out _ (bl_tr hb0 (by (with_reducible (repeat' (first | assumption | apply jA | apply jB | apply jC | apply jD | apply jE | apply jF | apply hb3 | omega | (simp; done) | (simp; omega) | (dsimp only; omega))))))).mono ?_); rintro e w3 ⟨rfl, hb3⟩; replace hb3 := bl_tt hb3)
        (try dsimp only)
        exact hK.out _ _ rfl (by (with_reducible (repeat' (first | assumption | apply jA | apply jB | apply jC | apply jD | apply jE | apply jF | apply hb3 | omega | (simp; done) | (simp; omega) | (dsimp only; omega)))))
      · exact fun _ _ _ => rfl
      · rfl
      dsimp only [nA, cA]
      refine RGW.skip (i := 7) rfl rfl ?_
      dsimp only [nA, cA]
      refine RGW.fin (fun γ u wd hwd hd hdis => ?_)
      obtain ⟨⟨h0, -, -⟩, ⟨h1, -, -⟩, ⟨h2, -, -⟩, ⟨h3, -, -⟩, ⟨h4, -, -⟩, ⟨h5, -, -⟩, ⟨h6, -, -⟩, -⟩ := hd
      dsimp only at h0 h1 h2 h3 h4 h5 h6
      clear hdis
      simp only [h0, h1, h2, h3, h4, h5, h6]
      clear h6 h5 h4 h3 h2 h1 h0
      clear u
      simp only [List.map_cons, List.map_nil]
      apply PlanW.step
      · (simp only [gA, gB, gC] <;> rfl)
      · rfl
      intro K hK
      refine wp_store_keep (X := [w.heap.size + 1]) (w0 := wd) rfl rfl rfl (by with_reducible first | exact bx_refl _ _ | assumption) (by with_reducible first | assumption | (apply Blk.below (hb := hwd); assumption)) (by simp) (by kernel_rfl) (by rfl) (by simp [Value.oneCell']) (fun hres1 hcur => ?_)
      refine hK.out _ _ hcur (fun _ => ?_)
      clear hK K
      try simp only [Act.put, List.setIfInBounds_toArray, List.set_cons_zero, List.set_cons_succ]
      refine PlanW.done ?_
      have hb3 := bl_tt hwd
      clear c0 c1 c2 c3 c4 c5 c6 c7 c8
      have hown2 := Lib.hid (own_below hown.out hwd)
      replace k0 := k0.below hwd
      replace k1 := k1.below hwd
      have hbw := bl_tr hb0 hwd
      clear Lk0 Lk1 Fk0 Fk1 hb3 hb0 hown
      apply absTK2 (X := [w.heap.size + 1]) (w0 := wd) (g0 := w.heap.size) (g1 := w.heap.size + 1)
      iterate 3 (focus ((with_reducible (repeat' (first | assumption | apply jA | apply jB | apply jC | apply jD | apply jE | apply jF | apply hb3 | apply jG | apply jH | apply jI | apply jJ | apply jK | apply hb3x | (apply jL; first | (simp; done) | rfl) | apply jM | apply jN | apply jO | apply jP | apply jQ | apply jR | apply jS | apply jT (hb := hb3 _ (jA _)) | omega | (simp; done) | (simp; omega) | (dsimp only; omega)))); done))
      intro we hb0' k0' k1'
      (try simp only [List.setIfInBounds_toArray, List.set_cons_zero, List.set_cons_succ] at k0' k1')
      try clear hb3
      try clear hb3x
      try clear hb0
      try clear k0
      try clear k1
      have hb0 := hb0'; clear hb0'
      have k0 := k0'; clear k0'
      have k1 := k1'; clear k1'
      have hown3 := Lib.hid (own_bx hown2.out hb0 (by simp))
      replace hbw := bx_below hbw hb0 (by simp)
      clear hb0 hown2
      have hb0 := hbw
      have Lk0 := k0.later
      have Fk0 := k0.laterF
      have Qk0 := k0.lt
      have Lk1 := k1.later
      have Fk1 := k1.laterF
      have Qk1 := k1.lt
      have hq2 := k1.lt
      go_wp2_with (at_builtin; refine wpList_append_own _ rfl _ _ 53 rfl (w.heap.size + 2) 25 i0 _ 6 48 Tryz.underlying53 hi0 hy0 hy1 hy2 rfl (by decide) _ _ _ rfl (hown3.out.alloc _) ⟨we.heap.size, 0, none⟩ 1 1 (cBox V.1) rfl rfl ?c1 ?c2 ?c3 ?c4 ?c5 ?_)
      try case c1 =>
        intro j' u hj'
        have e : (⟨we.heap.size, 0, none⟩ : Addr).add j' = ⟨we.heap.size, j', none⟩ := by by_cases h : j' = 0 <;> simp [Addr.add, h]
        rw [e, (Blk.new we _ _).cell j', List.getElem?_toArray]
        exact hj'
      try case c2 =>
        intro u hu
        simp [cBox] at hu
        rcases hu with h | h | h | h | h | h <;> subst h <;> rfl
      try case c3 => unfold maxLen; omega
      try case c4 => omega
      try case c5 => simp; omega
      intro v' w1 hown4 hgrow _
      have hb5 : Below w.heap.size w w1 := (bl_al _ hbw).grown hgrow (by simp; omega) (fun k hk => by have := own_ge hown3.out k hk; omega)
      have k0' := (k0.alloc (.cells (cBox V.1).toArray 25)).grown (hown3.out.alloc _) hgrow (by omega)
      have k1' := (k1.alloc (.cells (cBox V.1).toArray 25)).grown (hown3.out.alloc _) hgrow (by omega)
      clear hgrow hown3
      replace hown4 := Lib.hid hown4
      go_wp2
      go_roundw
      case rel => exact ⟨j + 1, V.1, pre ++ [V.1], by omega, by go_num, hb5, k0', k1', hnb.out, hE'.out, by rw [← hpre.out, hln.out]; simp, by rw [List.flatMap_append]; simpa using hown4.out⟩
      case measure => simp [intOf]; omega
    · obtain rfl : j = ll := by omega
      go_wp2
      go_ret
      rw [hE0.out, List.append_nil] at hpre
      have ho := own_mono (show w.heap.size ≤ w.heap.size + 2 by omega) hown.out
      rw [hpre.out] at ho
      rcases ho.2 with ⟨ev, h0⟩ | ⟨g, cap, cur, ev, h1⟩
      · refine ⟨none, 0, by rw [ev, h0] <;> rfl, hb0, ?_⟩
        rw [ev] at ho
        rw [h0] at ho ⊢
        exact ho
      · refine ⟨some ⟨g, 0, none⟩, cap, by rw [ev] <;> rfl, hb0, ?_⟩
        rw [ev] at ho
        exact ho
end Go.Proofs.YtephimmamkafoaaGreat
