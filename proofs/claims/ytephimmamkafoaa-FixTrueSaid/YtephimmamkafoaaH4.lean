/-
  How the laws' arguments read, continued: votes, readings, moves, reckonings.
  Walks: the reference's small functions: ranges, boxes, what two boxes have in common, division, the depth.
  Walks: the reference's division, the depth and its errors, the error of a move.
-/
import Derived.Test.YtephimmamkafoaaG15
import Derived.Test.YtephimmamkafoaaG9
import Derived.Test.YtephimmamkafoaaG3
import Derived.Test.YtephimmamkafoaaG14
import Derived.Test.YtephimmamkafoaaG7
namespace Go.Proofs.Ytephimmamkafoaa
set_option linter.unusedSimpArgs false
set_option linter.unusedVariables false
open Go.ChangeShapes Go.WideShapes Go.ChangeAt Go.RowKit Go.Deep
set_option maxRecDepth 20000
section
variable {H : Type} {enc : TypeId × Value → H} {w : World} {base : Nat} {spare : Nat → Bool} {held : Bool} {fuel : Nat} {cs : List Value} {y : DataW H × List MemPlace}
theorem cRd4 : Try.prog.cellsOf 110 = 4 := by kernel_rfl
theorem cRds : Try.prog.cellsOf 45 = 1 := by kernel_rfl
theorem cMv7 : Try.prog.cellsOf 60 = 7 := by kernel_rfl
theorem cVt2 : Try.prog.cellsOf 47 = 2 := by kernel_rfl
theorem cRe4 : Try.prog.cellsOf 77 = 4 := by kernel_rfl
theorem cCg8 : Try.prog.cellsOf 94 = 8 := by kernel_rfl
theorem cI3 : Try.prog.cellsOf 63 = 3 := by kernel_rfl
theorem cRk13 : Try.prog.cellsOf 65 = 13 := by kernel_rfl
theorem len8 {α : Type} {l : List α} (h : l.length = 8) : ∃ a b c d e f g i, l = [a, b, c, d, e, f, g, i] := by
  match l, h with
  | [a, b, c, d, e, f, g, i], _ => exact ⟨a, b, c, d, e, f, g, i, rfl⟩
theorem len13 {α : Type} {l : List α} (h : l.length = 13) : ∃ a b c d e f g i j k m n o, l = [a, b, c, d, e, f, g, i, j, k, m, n, o] := by
  match l, h with
  | [a, b, c, d, e, f, g, i, j, k, m, n, o], _ => exact ⟨a, b, c, d, e, f, g, i, j, k, m, n, o, rfl⟩
theorem rd_Rd (h : DataW.trod enc Try.prog w base spare held fuel 110 cs = some y) : ∃ r : Rd, cs = cRd r := by
  obtain ⟨xs, n, -, -, hl, hlen, hf⟩ := DataW.trod_struct Try.underlying110 h
  rw [cRd4] at hl
  obtain ⟨c0, c1, c2, c3, rfl⟩ := len4 hl
  obtain ⟨x0, x1, x2, rfl⟩ := len3 (show xs.length = 3 from hlen)
  have h0 := hf 0 _ rfl
  have h1 := hf 1 _ rfl
  have h2 := hf 2 _ rfl
  simp [ci, cRg2] at h0 h1 h2
  obtain ⟨a, e0⟩ := rd_int h0
  obtain ⟨b, e1⟩ := rd_int h1
  obtain ⟨c, e2⟩ := rd_Rg h2
  simp [cRg] at e0 e1 e2
  exact ⟨⟨a, b, c⟩, by rw [e0, e1, e2.1, e2.2]; rfl⟩
theorem rd_Rds (h : DataW.trod enc Try.prog w base spare held fuel 45 cs = some y) :
    ∃ (A : Option Addr) (c : Nat) (l : List Rd), cs = [.slice A l.length c] ∧ Sl cRd 4 w A l := by
  obtain ⟨A, c, l, e1, -, -, g2, -⟩ := rd_slice (c := cRd) (ok := fun _ : Rd => True) Try.underlying45 cRd4 (by decide) (fun _ => rfl) (fun _ _ _ hz => (rd_Rd hz).imp fun _ e => ⟨e, trivial⟩) h
  exact ⟨A, c, l, e1, g2⟩
theorem rd_Vt (h : DataW.trod enc Try.prog w base spare held fuel 47 cs = some y) :
    ∃ (v : Vt) (A : Option Addr) (c : Nat), cs = [.slice A v.rs.length c, .int .i64 v.wrong] ∧ Sl cRd 4 w A v.rs := by
  obtain ⟨xs, n, -, -, hl, hlen, hf⟩ := DataW.trod_struct Try.underlying47 h
  rw [cVt2] at hl
  obtain ⟨c0, c1, rfl⟩ := len2 hl
  obtain ⟨x0, x1, rfl⟩ := len2 (show xs.length = 2 from hlen)
  have h0 := hf 0 _ rfl
  have h1 := hf 1 _ rfl
  simp [ci, cRds] at h0 h1
  obtain ⟨A, c, l, e0, g⟩ := rd_Rds h0
  obtain ⟨k, e1⟩ := rd_int h1
  simp at e0 e1
  exact ⟨⟨l, k⟩, A, c, by rw [e0, e1], g⟩
theorem rd_Re (h : DataW.trod enc Try.prog w base spare held fuel 77 cs = some y) :
    ∃ (l : List Rd) (p : Pl) (A : Option Addr) (c : Nat), cs = [.slice A l.length c, .int .i64 p.x, .int .i64 p.y, .int .i64 p.z] ∧ Sl cRd 4 w A l := by
  obtain ⟨xs, n, -, -, hl, hlen, hf⟩ := DataW.trod_struct Try.underlying77 h
  rw [cRe4] at hl
  obtain ⟨c0, c1, c2, c3, rfl⟩ := len4 hl
  obtain ⟨x0, x1, rfl⟩ := len2 (show xs.length = 2 from hlen)
  have h0 := hf 0 _ rfl
  have h1 := hf 1 _ rfl
  simp [cPl3, cRds] at h0 h1
  obtain ⟨A, c, l, e0, g⟩ := rd_Rds h0
  obtain ⟨p, e1⟩ := rd_Pl h1
  simp at e0 e1
  exact ⟨l, p, A, c, by rw [e0, e1.1, e1.2.1, e1.2.2], g⟩
theorem rd_Mv (h : DataW.trod enc Try.prog w base spare held fuel 60 cs = some y) : ∃ m : Mv, cs = [.int .i64 m.ticks, .int .i64 m.speed.x.lo, .int .i64 m.speed.x.hi, .int .i64 m.speed.y.lo, .int .i64 m.speed.y.hi, .int .i64 m.speed.z.lo, .int .i64 m.speed.z.hi] := by
  obtain ⟨xs, n, -, -, hl, hlen, hf⟩ := DataW.trod_struct Try.underlying60 h
  rw [cMv7] at hl
  obtain ⟨c0, c1, c2, c3, c4, c5, c6, rfl⟩ := len7 hl
  obtain ⟨x0, x1, rfl⟩ := len2 (show xs.length = 2 from hlen)
  have h0 := hf 0 _ rfl
  have h1 := hf 1 _ rfl
  simp [ci, cBx6] at h0 h1
  obtain ⟨t, e0⟩ := rd_int h0
  obtain ⟨b, e1⟩ := rd_Bx h1
  simp at e0 e1
  exact ⟨⟨t, b⟩, by rw [e0, e1.1, e1.2.1, e1.2.2.1, e1.2.2.2.1, e1.2.2.2.2.1, e1.2.2.2.2.2]⟩
theorem rd_Cg (h : DataW.trod enc Try.prog w base spare held fuel 94 cs = some y) : ∃ (m : Mv) (i : Int), cs = [.int .i64 m.ticks, .int .i64 m.speed.x.lo, .int .i64 m.speed.x.hi, .int .i64 m.speed.y.lo, .int .i64 m.speed.y.hi, .int .i64 m.speed.z.lo, .int .i64 m.speed.z.hi, .int .i64 i] := by
  obtain ⟨xs, n, -, -, hl, hlen, hf⟩ := DataW.trod_struct Try.underlying94 h
  rw [cCg8] at hl
  obtain ⟨c0, c1, c2, c3, c4, c5, c6, c7, rfl⟩ := len8 hl
  obtain ⟨x0, x1, rfl⟩ := len2 (show xs.length = 2 from hlen)
  have h0 := hf 0 _ rfl
  have h1 := hf 1 _ rfl
  simp [ci, cMv7] at h0 h1
  obtain ⟨m, e0⟩ := rd_Mv h0
  obtain ⟨i, e1⟩ := rd_int h1
  simp at e0 e1
  exact ⟨m, i, by rw [e0.1, e0.2.1, e0.2.2.1, e0.2.2.2.1, e0.2.2.2.2.1, e0.2.2.2.2.2.1, e0.2.2.2.2.2.2, e1]⟩
theorem rd_I3 (h : DataW.trod enc Try.prog w base spare held fuel 63 cs = some y) : ∃ a b c : Int, cs = [.int .i64 a, .int .i64 b, .int .i64 c] := by
  obtain ⟨xs, n, -, -, hl, hlen, hf⟩ := DataW.trod_array Try.underlying63 h
  rw [cI3] at hl
  obtain ⟨c0, c1, c2, rfl⟩ := len3 hl
  obtain ⟨x0, x1, x2, rfl⟩ := len3 hlen
  have h0 := hf 0 (by decide)
  have h1 := hf 1 (by decide)
  have h2 := hf 2 (by decide)
  simp [ci] at h0 h1 h2
  obtain ⟨a, e0⟩ := rd_int h0
  obtain ⟨b, e1⟩ := rd_int h1
  obtain ⟨c, e2⟩ := rd_int h2
  simp at e0 e1 e2
  exact ⟨a, b, c, by rw [e0, e1, e2]⟩
theorem rd_Rk (h : DataW.trod enc Try.prog w base spare held fuel 65 cs = some y) : ∃ (m : Mv) (p : Pl) (a b c : Int), cs = [.int .i64 m.ticks, .int .i64 m.speed.x.lo, .int .i64 m.speed.x.hi, .int .i64 m.speed.y.lo, .int .i64 m.speed.y.hi, .int .i64 m.speed.z.lo, .int .i64 m.speed.z.hi, .int .i64 p.x, .int .i64 p.y, .int .i64 p.z, .int .i64 a, .int .i64 b, .int .i64 c] := by
  obtain ⟨xs, n, -, -, hl, hlen, hf⟩ := DataW.trod_struct Try.underlying65 h
  rw [cRk13] at hl
  obtain ⟨c0, c1, c2, c3, c4, c5, c6, c7, c8, c9, c10, c11, c12, rfl⟩ := len13 hl
  obtain ⟨x0, x1, x2, rfl⟩ := len3 (show xs.length = 3 from hlen)
  have h0 := hf 0 _ rfl
  have h1 := hf 1 _ rfl
  have h2 := hf 2 _ rfl
  simp [cMv7, cPl3, cI3] at h0 h1 h2
  obtain ⟨m, e0⟩ := rd_Mv h0
  obtain ⟨p, e1⟩ := rd_Pl h1
  obtain ⟨a, b, c, e2⟩ := rd_I3 h2
  simp at e0 e1 e2
  exact ⟨m, p, a, b, c, by rw [e0.1, e0.2.1, e0.2.2.1, e0.2.2.2.1, e0.2.2.2.2.1, e0.2.2.2.2.2.1, e0.2.2.2.2.2.2, e1.1, e1.2.1, e1.2.2, e2.1, e2.2.1, e2.2.2]⟩
end
end Go.Proofs.Ytephimmamkafoaa
namespace Go.Proofs.Ytephimmamkafoaa
set_option linter.unusedSimpArgs false
set_option linter.unusedVariables false
open Go.RowKit Go.Shelf
attribute [local go_sem] bl_al bl_drew bl_drewN bl_refl bx_al bx_drew bx_drewN bx_refl
set_option maxRecDepth 20000
theorem r_Within (n lo hi : Int) (w : World) : Calls Try.prog 47 #[.int .i64 n, .int .i64 lo, .int .i64 hi] w (Same (.bool (inR n lo hi)) w) := by
  go_enter Try.func47, Try.ntmps47
  go_wp2
  all_goals (go_ret; exact ⟨by first | (simp [inR, *]; done) | (simp [inR]; intros; omega), rfl⟩)
theorem r_Sides (b : Bx) (w : World) : Calls Try.prog 32 #[vBx b] w (Ret (vBx b) w) := by
  go_enter Try.func32, Try.ntmps32
  go_wp2
  exact bodyPost_ret (v := vBx b) (by simp [results, Try.results32, go_sem]) rfl ⟨rfl, by (with_reducible (repeat' (first | assumption | apply jA | apply jB | apply jC | apply jD | apply jE | apply jF | apply hb3 | omega | (simp; done) | (simp; omega) | (dsimp only; omega))))⟩
theorem r_Coord (p : Pl) (w : World) : Calls Try.prog 31 #[vPl p] w (Ret (vPl p) w) := by
  go_enter Try.func31, Try.ntmps31
  go_wp2
  exact bodyPost_ret (v := vPl p) (by simp [results, Try.results31, go_sem]) rfl ⟨rfl, by (with_reducible (repeat' (first | assumption | apply jA | apply jB | apply jC | apply jD | apply jE | apply jF | apply hb3 | omega | (simp; done) | (simp; omega) | (dsimp only; omega))))⟩
theorem r_box (b : Bx) (w : World) : Calls Try.prog 108 #[vBx b] w (Ret (vBx b) w) := by
  go_enter Try.func108, Try.ntmps108
  go_wp2
  exact bodyPost_ret (v := vBx b) (by simp [results, Try.results108, go_sem]) rfl ⟨rfl, by (with_reducible (repeat' (first | assumption | apply jA | apply jB | apply jC | apply jD | apply jE | apply jF | apply hb3 | omega | (simp; done) | (simp; omega) | (dsimp only; omega))))⟩
theorem r_place (p : Pl) (w : World) : Calls Try.prog 107 #[vPl p] w (Ret (vPl p) w) := by
  go_enter Try.func107, Try.ntmps107
  go_wp2
  exact bodyPost_ret (v := vPl p) (by simp [results, Try.results107, go_sem]) rfl ⟨rfl, by (with_reducible (repeat' (first | assumption | apply jA | apply jB | apply jC | apply jD | apply jE | apply jF | apply hb3 | omega | (simp; done) | (simp; omega) | (dsimp only; omega))))⟩
theorem r_common (a b : Rg) (w : World) : Calls Try.prog 109 #[vRg a, vRg b] w (Ret (vRg (a.meet b)) w) := by
  go_enter Try.func109, Try.ntmps109
  go_wp2
  exact bodyPost_ret (v := vRg (a.meet b)) (by simp [results, Try.results109, go_sem, Rg.meet]) rfl ⟨rfl, by (with_reducible (repeat' (first | assumption | apply jA | apply jB | apply jC | apply jD | apply jE | apply jF | apply hb3 | omega | (simp; done) | (simp; omega) | (dsimp only; omega))))⟩
set_option maxHeartbeats 1000000 in
theorem r_IsEmpty (b : Bx) (w : World) : Calls Try.prog 75 #[vBx b] w (Ret (.bool (!b.ordered)) w) := by
  cases h0 : decide (b.x.hi < b.x.lo)
  all_goals cases h1 : decide (b.y.hi < b.y.lo)
  all_goals cases h2 : decide (b.z.hi < b.z.lo)
  all_goals
    go_enter Try.func75, Try.ntmps75
    go_upto_region 2 with ((go_at_call 32; (with_reducible refine (r_Sides b _).mono ?_); rintro e w3 ⟨rfl, hb3⟩; replace hb3 := bl_tt hb3))
    apply absB1 (w0 := w) (g0 := w3.heap.size)
    iterate 2 (focus ((with_reducible (repeat' (first | assumption | apply jA | apply jB | apply jC | apply jD | apply jE | apply jF | apply hb3 | apply jG | apply jH | apply jI | apply jJ | apply jK | apply hb3x | (apply jL; first | (simp; done) | rfl) | apply jM | apply jN | apply jO | apply jP | apply jQ | apply jR | apply jS | apply jT (hb := hb3 _ (jA _)) | omega | (simp; done) | (simp; omega) | (dsimp only; omega)))); done))
    intro wa hb0' k1'
    (try simp only [List.setIfInBounds_toArray, List.set_cons_zero, List.set_cons_succ] at k1')
    try clear hb3
    try clear hb0
    try clear k1
    have hb0 := hb0'; clear hb0'
    have k1 := k1'; clear k1'
    have Lk1 := k1.later
    have Fk1 := k1.laterF
    have Qk1 := k1.lt
    go_wp2
    go_ret
    exact ⟨by simp [Bx.ordered, Bx.sides, h0, h1, h2], hb0⟩
set_option maxHeartbeats 1000000 in
theorem r_IsIn (b : Bx) (p : Pl) (w : World) : Calls Try.prog 30 #[vBx b, vPl p] w (Ret (.bool (b.has p)) w) := by
  have hr : Hid (b.has p = (inR p.x b.x.lo b.x.hi && inR p.y b.y.lo b.y.hi && inR p.z b.z.lo b.z.hi)) := rfl
  obtain ⟨bA, hA⟩ : ∃ b', inR p.x b.x.lo b.x.hi = b' := ⟨_, rfl⟩
  obtain ⟨bB, hB⟩ : ∃ b', inR p.y b.y.lo b.y.hi = b' := ⟨_, rfl⟩
  have hcA := Lib.hid fun W : World => hA ▸ r_Within p.x b.x.lo b.x.hi W
  have hcB := Lib.hid fun W : World => hB ▸ r_Within p.y b.y.lo b.y.hi W
  rw [hA, hB] at hr
  clear hA hB
  go_enter Try.func30, Try.ntmps30
  go_wp2
  apply absB2 (w0 := w) (g0 := w.heap.size) (g1 := w.heap.size + 1)
  iterate 3 (focus ((with_reducible (repeat' (first | assumption | apply jA | apply jB | apply jC | apply jD | apply jE | apply jF | apply hb3 | apply jG | apply jH | apply jI | apply jJ | apply jK | apply hb3x | (apply jL; first | (simp; done) | rfl) | apply jM | apply jN | apply jO | apply jP | apply jQ | apply jR | apply jS | apply jT (hb := hb3 _ (jA _)) | omega | (simp; done) | (simp; omega) | (dsimp only; omega)))); done))
  intro wa hb0' k0' k1'
  (try simp only [List.setIfInBounds_toArray, List.set_cons_zero, List.set_cons_succ] at k0' k1')
  try clear hb3
  try clear hb0
  try clear k0
  try clear k1
  have hb0 := hb0'; clear hb0'
  have k0 := k0'; clear k0'
  have k1 := k1'; clear k1'
  have Lk0 := k0.later
  have Fk0 := k0.laterF
  have Qk0 := k0.lt
  have Lk1 := k1.later
  have Fk1 := k1.laterF
  have Qk1 := k1.lt
  refine wp_any (w0 := wa) ⟨[6, 7], [], [some 7, some 8, some 9, some 10, some 5, some 6, none, none], [[], [0], [], [0, 1, 2], [], [], [0, 1, 2, 3, 4, 5], [0, 1, 2, 3, 4, 5, 6]], [[], [0], [], [2], [], [], [], []]⟩ (fun γ => [(γ 4).n, (γ 5).n]) (by kernel_rfl) (by kernel_rfl) (by (with_reducible (repeat' (first | assumption | apply jA | apply jB | apply jC | apply jD | apply jE | apply jF | apply hb3 | omega | (simp; done) | (simp; omega) | (dsimp only; omega))))) (fun u => by simp only [putD, Act.put, List.setIfInBounds_toArray, List.set_cons_zero, List.set_cons_succ, Nat.zero_add, Nat.reduceAdd]; rfl) ?_
  apply RGW.on (i := 0) rfl
  · (simp only [gA, gB, gC] <;> rfl)
  · intro γ u W hcur hd
    clear hd
    (try dsimp only)
    refine ⟨rfl, ?_⟩
    go_simp <;> (try go_bits) <;> with_reducible rfl
  · exact fun _ _ _ => rfl
  · rfl
  dsimp only [nA, cA]
  apply RGW.call (i := 1) rfl
  · (simp only [gA, gB, gC] <;> rfl)
  · intro γ u W hcur hd
    obtain ⟨⟨h0, -, -⟩, -⟩ := hd
    dsimp only at h0
    (try simp only [h0])
    refine ⟨rfl, fun K hK => ?_⟩
    go_simp
    (go_at_call 32; (with_reducible refine (r_Sides b _).mono ?_); rintro e w3 ⟨rfl, hb3⟩; replace hb3 := bl_tt hb3)
    (try dsimp only)
    exact hK.out _ _ rfl (by (with_reducible (repeat' (first | assumption | apply jA | apply jB | apply jC | apply jD | apply jE | apply jF | apply hb3 | omega | (simp; done) | (simp; omega) | (dsimp only; omega)))))
  · exact fun _ _ _ => rfl
  · rfl
  dsimp only [nA, cA]
  apply RGW.on (i := 2) rfl
  · (simp only [gA, gB, gC] <;> rfl)
  · intro γ u W hcur hd
    clear hd
    (try dsimp only)
    refine ⟨rfl, ?_⟩
    go_simp <;> (try go_bits) <;> with_reducible rfl
  · exact fun _ _ _ => rfl
  · rfl
  dsimp only [nA, cA]
  apply RGW.call (i := 3) rfl
  · (simp only [gA, gB, gC] <;> rfl)
  · intro γ u W hcur hd
    obtain ⟨⟨h2, -, -⟩, -⟩ := hd
    dsimp only at h2
    (try simp only [h2])
    refine ⟨rfl, fun K hK => ?_⟩
    go_simp
    (go_at_call 31; (with_reducible refine (r_Coord p _).mono ?_); rintro e w3 ⟨rfl, hb3⟩; replace hb3 := bl_tt hb3)
    (try dsimp only)
    exact hK.out _ _ rfl (by (with_reducible (repeat' (first | assumption | apply jA | apply jB | apply jC | apply jD | apply jE | apply jF | apply hb3 | omega | (simp; done) | (simp; omega) | (dsimp only; omega)))))
  · exact fun _ _ _ => rfl
  · rfl
  dsimp only [nA, cA]
  apply RGW.alloc (i := 4) rfl
  · (simp only [gA, gB, gC] <;> rfl)
  · intro γ u W hcur hd
    clear hd
    (try dsimp only)
    refine ⟨rfl, fun K hK => ?_⟩
    go_simp
    exact hK.out _ _ rfl rfl
  · exact fun _ _ _ => rfl
  · rfl
  · rfl
  dsimp only [nA, cA]
  apply RGW.alloc (i := 5) rfl
  · (simp only [gA, gB, gC] <;> rfl)
  · intro γ u W hcur hd
    clear hd
    (try dsimp only)
    refine ⟨rfl, fun K hK => ?_⟩
    go_simp
    exact hK.out _ _ rfl rfl
  · exact fun _ _ _ => rfl
  · rfl
  · rfl
  dsimp only [nA, cA]
  refine RGW.skip (i := 6) rfl rfl ?_
  dsimp only [nA, cA]
  refine RGW.skip (i := 7) rfl rfl ?_
  dsimp only [nA, cA]
  refine RGW.fin (fun γ u wb hwb hd hdis => ?_)
  obtain ⟨⟨h0, -, -⟩, ⟨h1, -, -⟩, ⟨h2, -, -⟩, ⟨h3, -, -⟩, ⟨h4, r4, b4⟩, ⟨h5, r5, b5⟩, -⟩ := hd
  dsimp only at h0 h1 h2 h3 h4 h5 r4 r5 b4 b5
  have n4_5 := hdis 4 5 rfl rfl (Nat.lt_of_lt_of_eq (by decide : 4 < 8) (by kernel_rfl)) (Nat.lt_of_lt_of_eq (by decide : 5 < 8) (by kernel_rfl)) (by decide) _ (List.mem_singleton.2 rfl) _ (List.mem_singleton.2 rfl)
  clear hdis
  simp only [h0, h1, h2, h3, h4, h5]
  clear h5 h4 h3 h2 h1 h0
  replace b4 := b4 _ (List.mem_singleton.2 rfl)
  generalize hγ4 : (γ 4).n = g4 at *
  clear hγ4
  replace b5 := b5 _ (List.mem_singleton.2 rfl)
  generalize hγ5 : (γ 5).n = g5 at *
  clear hγ5
  clear u
  simp only [List.map_cons, List.map_nil]
  apply PlanW.step
  · (simp only [gA, gB, gC] <;> rfl)
  · rfl
  intro K hK
  refine wp_store_keep (X := [g4, g5]) (w0 := wb) rfl rfl rfl (by with_reducible first | exact bx_refl _ _ | assumption) (by with_reducible first | assumption | (apply Blk.below (hb := hwb); assumption)) (by simp) (by kernel_rfl) (by rfl) (by simp [Value.oneCell']) (fun hres1 hcur => ?_)
  refine hK.out _ _ hcur (fun _ => ?_)
  clear hK K
  try simp only [Act.put, List.setIfInBounds_toArray, List.set_cons_zero, List.set_cons_succ]
  apply PlanW.step
  · (simp only [gA, gB, gC] <;> rfl)
  · rfl
  intro K hK
  refine wp_store_keep (X := [g4, g5]) (w0 := wb) rfl rfl rfl (by with_reducible first | exact bx_refl _ _ | assumption) (by with_reducible first | assumption | (apply Blk.below (hb := hwb); assumption)) (by simp) (by kernel_rfl) (by rfl) (by simp [Value.oneCell']) (fun hres2 hcur => ?_)
  refine hK.out _ _ hcur (fun _ => ?_)
  clear hK K
  try simp only [Act.put, List.setIfInBounds_toArray, List.set_cons_zero, List.set_cons_succ]
  refine PlanW.done ?_
  have hb3 := bl_tt hwb
  apply absTB4 (w0 := w) (g0 := w.heap.size) (g1 := w.heap.size + 1) (g2 := g4) (g3 := g5)
  iterate 5 (focus ((with_reducible (repeat' (first | assumption | apply jA | apply jB | apply jC | apply jD | apply jE | apply jF | apply hb3 | apply jG | apply jH | apply jI | apply jJ | apply jK | apply hb3x | (apply jL; first | (simp; done) | rfl) | apply jM | apply jN | apply jO | apply jP | apply jQ | apply jR | apply jS | apply jT (hb := hb3 _ (jA _)) | omega | (simp; done) | (simp; omega) | (dsimp only; omega)))); done))
  intro wc hb0' k0' k1' k4' k5'
  (try simp only [List.setIfInBounds_toArray, List.set_cons_zero, List.set_cons_succ] at k0' k1' k4' k5')
  try clear hb3
  try clear Lk0
  try clear Fk0
  try clear Qk0
  try clear Lk1
  try clear Fk1
  try clear Qk1
  try clear hb0
  try clear k0
  try clear k1
  try clear k4
  try clear k5
  have hb0 := hb0'; clear hb0'
  have k0 := k0'; clear k0'
  have k1 := k1'; clear k1'
  have k4 := k4'; clear k4'
  have k5 := k5'; clear k5'
  have Lk0 := k0.later
  have Fk0 := k0.laterF
  have Qk0 := k0.lt
  have Lk1 := k1.later
  have Fk1 := k1.laterF
  have Qk1 := k1.lt
  have Lk4 := k4.later
  have Fk4 := k4.laterF
  have Qk4 := k4.lt
  have Lk5 := k5.later
  have Fk5 := k5.laterF
  have Qk5 := k5.lt
  cases bA
  all_goals cases bB
  all_goals
    simp only [Bool.false_and, Bool.true_and] at hr
    go_wp2_with (go_at_call 47; (first | (with_reducible refine (hcA.out _).mono ?_) | (with_reducible refine (hcB.out _).mono ?_) | (with_reducible refine (r_Within p.z b.z.lo b.z.hi _).mono ?_)); rintro e w3 ⟨rfl, rfl⟩)
    go_ret
    exact ⟨by rw [hr.out] <;> rfl, hb0⟩
set_option maxHeartbeats 1000000 in
theorem r_Common (a b : Bx) (w : World) : Calls Try.prog 53 #[vBx a, vBx b] w (Ret (vBx (a.meet b)) w) := by
  go_enter Try.func53, Try.ntmps53
  go_wp2
  apply absB3 (w0 := w) (g0 := w.heap.size) (g1 := w.heap.size + 1) (g2 := w.heap.size + 2)
  iterate 4 (focus ((with_reducible (repeat' (first | assumption | apply jA | apply jB | apply jC | apply jD | apply jE | apply jF | apply hb3 | apply jG | apply jH | apply jI | apply jJ | apply jK | apply hb3x | (apply jL; first | (simp; done) | rfl) | apply jM | apply jN | apply jO | apply jP | apply jQ | apply jR | apply jS | apply jT (hb := hb3 _ (jA _)) | omega | (simp; done) | (simp; omega) | (dsimp only; omega)))); done))
  intro wa hb0' k0' k1' k2'
  (try simp only [List.setIfInBounds_toArray, List.set_cons_zero, List.set_cons_succ] at k0' k1' k2')
  try clear hb3
  try clear hb0
  try clear k0
  try clear k1
  try clear k2
  have hb0 := hb0'; clear hb0'
  have k0 := k0'; clear k0'
  have k1 := k1'; clear k1'
  have k2 := k2'; clear k2'
  have Lk0 := k0.later
  have Fk0 := k0.laterF
  have Qk0 := k0.lt
  have Lk1 := k1.later
  have Fk1 := k1.laterF
  have Qk1 := k1.lt
  have Lk2 := k2.later
  have Fk2 := k2.laterF
  have Qk2 := k2.lt
  refine wp_any (w0 := wa) ⟨[6, 7], [], [some 7, some 8, some 9, some 10, some 5, some 6, none, none], [[], [0], [], [0, 1, 2], [], [], [0, 1, 2, 3, 4, 5], [0, 1, 2, 3, 4, 5, 6]], [[], [0], [], [2], [], [], [], []]⟩ (fun γ => [(γ 4).n, (γ 5).n]) (by kernel_rfl) (by kernel_rfl) (by (with_reducible (repeat' (first | assumption | apply jA | apply jB | apply jC | apply jD | apply jE | apply jF | apply hb3 | omega | (simp; done) | (simp; omega) | (dsimp only; omega))))) (fun u => by simp only [putD, Act.put, List.setIfInBounds_toArray, List.set_cons_zero, List.set_cons_succ, Nat.zero_add, Nat.reduceAdd]; rfl) ?_
  apply RGW.on (i := 0) rfl
  · (simp only [gA, gB, gC] <;> rfl)
  · intro γ u W hcur hd
    clear hd
    (try dsimp only)
    refine ⟨rfl, ?_⟩
    go_simp <;> (try go_bits) <;> with_reducible rfl
  · exact fun _ _ _ => rfl
  · rfl
  dsimp only [nA, cA]
  apply RGW.call (i := 1) rfl
  · (simp only [gA, gB, gC] <;> rfl)
  · intro γ u W hcur hd
    obtain ⟨⟨h0, -, -⟩, -⟩ := hd
    dsimp only at h0
    (try simp only [h0])
    refine ⟨rfl, fun K hK => ?_⟩
    go_simp
    (go_at_call 32; (with_reducible refine (r_Sides a _).mono ?_); rintro e w3 ⟨rfl, hb3⟩; replace hb3 := bl_tt hb3)
    (try dsimp only)
    exact hK.out _ _ rfl (by (with_reducible (repeat' (first | assumption | apply jA | apply jB | apply jC | apply jD | apply jE | apply jF | apply hb3 | omega | (simp; done) | (simp; omega) | (dsimp only; omega)))))
  · exact fun _ _ _ => rfl
  · rfl
  dsimp only [nA, cA]
  apply RGW.on (i := 2) rfl
  · (simp only [gA, gB, gC] <;> rfl)
  · intro γ u W hcur hd
    clear hd
    (try dsimp only)
    refine ⟨rfl, ?_⟩
    go_simp <;> (try go_bits) <;> with_reducible rfl
  · exact fun _ _ _ => rfl
  · rfl
  dsimp only [nA, cA]
  apply RGW.call (i := 3) rfl
  · (simp only [gA, gB, gC] <;> rfl)
  · intro γ u W hcur hd
    obtain ⟨⟨h2, -, -⟩, -⟩ := hd
    dsimp only at h2
    (try simp only [h2])
    refine ⟨rfl, fun K hK => ?_⟩
    go_simp
    (go_at_call 32; (with_reducible refine (r_Sides b _).mono ?_); rintro e w3 ⟨rfl, hb3⟩; replace hb3 := bl_tt hb3)
    (try dsimp only)
    exact hK.out _ _ rfl (by (with_reducible (repeat' (first | assumption | apply jA | apply jB | apply jC | apply jD | apply jE | apply jF | apply hb3 | omega | (simp; done) | (simp; omega) | (dsimp only; omega)))))
  · exact fun _ _ _ => rfl
  · rfl
  dsimp only [nA, cA]
  apply RGW.alloc (i := 4) rfl
  · (simp only [gA, gB, gC] <;> rfl)
  · intro γ u W hcur hd
    clear hd
    (try dsimp only)
    refine ⟨rfl, fun K hK => ?_⟩
    go_simp
    exact hK.out _ _ rfl rfl
  · exact fun _ _ _ => rfl
  · rfl
  · rfl
  dsimp only [nA, cA]
  apply RGW.alloc (i := 5) rfl
  · (simp only [gA, gB, gC] <;> rfl)
  · intro γ u W hcur hd
    clear hd
    (try dsimp only)
    refine ⟨rfl, fun K hK => ?_⟩
    go_simp
    exact hK.out _ _ rfl rfl
  · exact fun _ _ _ => rfl
  · rfl
  · rfl
  dsimp only [nA, cA]
  refine RGW.skip (i := 6) rfl rfl ?_
  dsimp only [nA, cA]
  refine RGW.skip (i := 7) rfl rfl ?_
  dsimp only [nA, cA]
  refine RGW.fin (fun γ u wb hwb hd hdis => ?_)
  obtain ⟨⟨h0, -, -⟩, ⟨h1, -, -⟩, ⟨h2, -, -⟩, ⟨h3, -, -⟩, ⟨h4, r4, b4⟩, ⟨h5, r5, b5⟩, -⟩ := hd
  dsimp only at h0 h1 h2 h3 h4 h5 r4 r5 b4 b5
  have n4_5 := hdis 4 5 rfl rfl (Nat.lt_of_lt_of_eq (by decide : 4 < 8) (by kernel_rfl)) (Nat.lt_of_lt_of_eq (by decide : 5 < 8) (by kernel_rfl)) (by decide) _ (List.mem_singleton.2 rfl) _ (List.mem_singleton.2 rfl)
  clear hdis
  simp only [h0, h1, h2, h3, h4, h5]
  clear h5 h4 h3 h2 h1 h0
  replace b4 := b4 _ (List.mem_singleton.2 rfl)
  generalize hγ4 : (γ 4).n = g4 at *
  clear hγ4
  replace b5 := b5 _ (List.mem_singleton.2 rfl)
  generalize hγ5 : (γ 5).n = g5 at *
  clear hγ5
  clear u
  simp only [List.map_cons, List.map_nil]
  apply PlanW.step
  · (simp only [gA, gB, gC] <;> rfl)
  · rfl
  intro K hK
  refine wp_store_keep (X := [g4, g5]) (w0 := wb) rfl rfl rfl (by with_reducible first | exact bx_refl _ _ | assumption) (by with_reducible first | assumption | (apply Blk.below (hb := hwb); assumption)) (by simp) (by kernel_rfl) (by rfl) (by simp [Value.oneCell']) (fun hres1 hcur => ?_)
  refine hK.out _ _ hcur (fun _ => ?_)
  clear hK K
  try simp only [Act.put, List.setIfInBounds_toArray, List.set_cons_zero, List.set_cons_succ]
  apply PlanW.step
  · (simp only [gA, gB, gC] <;> rfl)
  · rfl
  intro K hK
  refine wp_store_keep (X := [g4, g5]) (w0 := wb) rfl rfl rfl (by with_reducible first | exact bx_refl _ _ | assumption) (by with_reducible first | assumption | (apply Blk.below (hb := hwb); assumption)) (by simp) (by kernel_rfl) (by rfl) (by simp [Value.oneCell']) (fun hres2 hcur => ?_)
  refine hK.out _ _ hcur (fun _ => ?_)
  clear hK K
  try simp only [Act.put, List.setIfInBounds_toArray, List.set_cons_zero, List.set_cons_succ]
  refine PlanW.done ?_
  have hb3 := bl_tt hwb
  apply absTB5 (w0 := w) (g0 := w.heap.size) (g1 := w.heap.size + 1) (g2 := w.heap.size + 2) (g3 := g4) (g4 := g5)
  iterate 6 (focus ((with_reducible (repeat' (first | assumption | apply jA | apply jB | apply jC | apply jD | apply jE | apply jF | apply hb3 | apply jG | apply jH | apply jI | apply jJ | apply jK | apply hb3x | (apply jL; first | (simp; done) | rfl) | apply jM | apply jN | apply jO | apply jP | apply jQ | apply jR | apply jS | apply jT (hb := hb3 _ (jA _)) | omega | (simp; done) | (simp; omega) | (dsimp only; omega)))); done))
  intro wc hb0' k0' k1' k2' k4' k5'
  (try simp only [List.setIfInBounds_toArray, List.set_cons_zero, List.set_cons_succ] at k0' k1' k2' k4' k5')
  try clear hb3
  try clear Lk0
  try clear Fk0
  try clear Qk0
  try clear Lk1
  try clear Fk1
  try clear Qk1
  try clear Lk2
  try clear Fk2
  try clear Qk2
  try clear hb0
  try clear k0
  try clear k1
  try clear k2
  try clear k4
  try clear k5
  have hb0 := hb0'; clear hb0'
  have k0 := k0'; clear k0'
  have k1 := k1'; clear k1'
  have k2 := k2'; clear k2'
  have k4 := k4'; clear k4'
  have k5 := k5'; clear k5'
  have Lk0 := k0.later
  have Fk0 := k0.laterF
  have Qk0 := k0.lt
  have Lk1 := k1.later
  have Fk1 := k1.laterF
  have Qk1 := k1.lt
  have Lk2 := k2.later
  have Fk2 := k2.laterF
  have Qk2 := k2.lt
  have Lk4 := k4.later
  have Fk4 := k4.laterF
  have Qk4 := k4.lt
  have Lk5 := k5.later
  have Fk5 := k5.laterF
  have Qk5 := k5.lt
  go_wp2
  refine wp_any (w0 := wc) ⟨[17], [], [some 11, some 12, some 13, some 14, some 15, some 16, some 17, some 18, some 19, some 20, some 21, some 22, some 23, some 24, some 25, some 26, some 27, none], [[], [0], [], [2], [0, 1, 2, 3], [], [5], [], [7], [0, 1, 2, 3, 4, 5, 6, 7, 8], [], [10], [], [12], [0, 1, 2, 3, 4, 5, 6, 7, 8, 9, 10, 11, 12, 13], [0, 1, 2, 3, 4, 5, 6, 7, 8, 9, 10, 11, 12, 13, 14], [0, 1, 2, 3, 4, 5, 6, 7, 8, 9, 10, 11, 12, 13, 14, 15], [0, 1, 2, 3, 4, 5, 6, 7, 8, 9, 10, 11, 12, 13, 14, 15, 16]], [[], [0], [], [2], [1, 3], [], [5], [], [7], [6, 8], [], [10], [], [12], [11, 13], [4, 9, 14], [15], []]⟩ (fun _ => [w.heap.size + 2]) (by kernel_rfl) (by kernel_rfl) (by (with_reducible (repeat' (first | assumption | apply jA | apply jB | apply jC | apply jD | apply jE | apply jF | apply hb3 | omega | (simp; done) | (simp; omega) | (dsimp only; omega))))) (fun u => by simp only [putD, Act.put, List.setIfInBounds_toArray, List.set_cons_zero, List.set_cons_succ, Nat.zero_add, Nat.reduceAdd]; rfl) ?_
  apply RGW.on (i := 0) rfl
  · (simp only [gA, gB, gC] <;> rfl)
  · intro γ u W hcur hd
    clear hd
    (try dsimp only)
    refine ⟨rfl, ?_⟩
    go_simp <;> (try go_bits) <;> with_reducible rfl
  · exact fun _ _ _ => rfl
  · rfl
  dsimp only [nA, cA]
  apply RGW.on (i := 1) rfl
  · (simp only [gA, gB, gC] <;> rfl)
  · intro γ u W hcur hd
    obtain ⟨⟨h0, -, -⟩, -⟩ := hd
    dsimp only at h0
    (try simp only [h0])
    refine ⟨rfl, ?_⟩
    go_simp <;> (try go_bits) <;> with_reducible rfl
  · exact fun _ _ _ => rfl
  · rfl
  dsimp only [nA, cA]
  apply RGW.on (i := 2) rfl
  · (simp only [gA, gB, gC] <;> rfl)
  · intro γ u W hcur hd
    clear hd
    (try dsimp only)
    refine ⟨rfl, ?_⟩
    go_simp <;> (try go_bits) <;> with_reducible rfl
  · exact fun _ _ _ => rfl
  · rfl
  dsimp only [nA, cA]
  apply RGW.on (i := 3) rfl
  · (simp only [gA, gB, gC] <;> rfl)
  · intro γ u W hcur hd
    obtain ⟨⟨h2, -, -⟩, -⟩ := hd
    dsimp only at h2
    (try simp only [h2])
    refine ⟨rfl, ?_⟩
    go_simp <;> (try go_bits) <;> with_reducible rfl
  · exact fun _ _ _ => rfl
  · rfl
  dsimp only [nA, cA]
  apply RGW.call (i := 4) rfl
  · (simp only [gA, gB, gC] <;> rfl)
  · intro γ u W hcur hd
    obtain ⟨⟨h1, -, -⟩, ⟨h3, -, -⟩, -⟩ := hd
    dsimp only at h1 h3
    (try simp only [h1, h3])
    refine ⟨rfl, fun K hK => ?_⟩
    go_simp
    (go_at_call 109; (with_reducible refine (r_common a.x b.x _).mono ?_); rintro e w3 ⟨rfl, hb3⟩; replace hb3 := bl_tt hb3)
    (try dsimp only)
    exact hK.out _ _ rfl (by (with_reducible (repeat' (first | assumption | apply jA | apply jB | apply jC | apply jD | apply jE | apply jF | apply hb3 | omega | (simp; done) | (simp; omega) | (dsimp only; omega)))))
  · exact fun _ _ _ => rfl
  · rfl
  dsimp only [nA, cA]
  apply RGW.on (i := 5) rfl
  · (simp only [gA, gB, gC] <;> rfl)
  · intro γ u W hcur hd
    clear hd
    (try dsimp only)
    refine ⟨rfl, ?_⟩
    go_simp <;> (try go_bits) <;> with_reducible rfl
  · exact fun _ _ _ => rfl
  · rfl
  dsimp only [nA, cA]
  apply RGW.on (i := 6) rfl
  · (simp only [gA, gB, gC] <;> rfl)
  · intro γ u W hcur hd
    obtain ⟨⟨h5, -, -⟩, -⟩ := hd
    dsimp only at h5
    (try simp only [h5])
    refine ⟨rfl, ?_⟩
    go_simp <;> (try go_bits) <;> with_reducible rfl
  · exact fun _ _ _ => rfl
  · rfl
  dsimp only [nA, cA]
  apply RGW.on (i := 7) rfl
  · (simp only [gA, gB, gC] <;> rfl)
  · intro γ u W hcur hd
    clear hd
    (try dsimp only)
    refine ⟨rfl, ?_⟩
    go_simp <;> (try go_bits) <;> with_reducible rfl
  · exact fun _ _ _ => rfl
  · rfl
  dsimp only [nA, cA]
  apply RGW.on (i := 8) rfl
  · (simp only [gA, gB, gC] <;> rfl)
  · intro γ u W hcur hd
    obtain ⟨⟨h7, -, -⟩, -⟩ := hd
    dsimp only at h7
    (try simp only [h7])
    refine ⟨rfl, ?_⟩
    go_simp <;> (try go_bits) <;> with_reducible rfl
  · exact fun _ _ _ => rfl
  · rfl
  dsimp only [nA, cA]
  apply RGW.call (i := 9) rfl
  · (simp only [gA, gB, gC] <;> rfl)
  · intro γ u W hcur hd
    obtain ⟨⟨h6, -, -⟩, ⟨h8, -, -⟩, -⟩ := hd
    dsimp only at h6 h8
    (try simp only [h6, h8])
    refine ⟨rfl, fun K hK => ?_⟩
    go_simp
    (go_at_call 109; (with_reducible refine (r_common a.y b.y _).mono ?_); rintro e w3 ⟨rfl, hb3⟩; replace hb3 := bl_tt hb3)
    (try dsimp only)
    exact hK.out _ _ rfl (by (with_reducible (repeat' (first | assumption | apply jA | apply jB | apply jC | apply jD | apply jE | apply jF | apply hb3 | omega | (simp; done) | (simp; omega) | (dsimp only; omega)))))
  · exact fun _ _ _ => rfl
  · rfl
  dsimp only [nA, cA]
  apply RGW.on (i := 10) rfl
  · (simp only [gA, gB, gC] <;> rfl)
  · intro γ u W hcur hd
    clear hd
    (try dsimp only)
    refine ⟨rfl, ?_⟩
    go_simp <;> (try go_bits) <;> with_reducible rfl
  · exact fun _ _ _ => rfl
  · rfl
  dsimp only [nA, cA]
  apply RGW.on (i := 11) rfl
  · (simp only [gA, gB, gC] <;> rfl)
  · intro γ u W hcur hd
    obtain ⟨⟨h10, -, -⟩, -⟩ := hd
    dsimp only at h10
    (try simp only [h10])
    refine ⟨rfl, ?_⟩
    go_simp <;> (try go_bits) <;> with_reducible rfl
  · exact fun _ _ _ => rfl
  · rfl
  dsimp only [nA, cA]
  apply RGW.on (i := 12) rfl
  · (simp only [gA, gB, gC] <;> rfl)
  · intro γ u W hcur hd
    clear hd
    (try dsimp only)
    refine ⟨rfl, ?_⟩
    go_simp <;> (try go_bits) <;> with_reducible rfl
  · exact fun _ _ _ => rfl
  · rfl
  dsimp only [nA, cA]
  apply RGW.on (i := 13) rfl
  · (simp only [gA, gB, gC] <;> rfl)
  · intro γ u W hcur hd
    obtain ⟨⟨h12, -, -⟩, -⟩ := hd
    dsimp only at h12
    (try simp only [h12])
    refine ⟨rfl, ?_⟩
    go_simp <;> (try go_bits) <;> with_reducible rfl
  · exact fun _ _ _ => rfl
  · rfl
  dsimp only [nA, cA]
  apply RGW.call (i := 14) rfl
  · (simp only [gA, gB, gC] <;> rfl)
  · intro γ u W hcur hd
    obtain ⟨⟨h11, -, -⟩, ⟨h13, -, -⟩, -⟩ := hd
    dsimp only at h11 h13
    (try simp only [h11, h13])
    refine ⟨rfl, fun K hK => ?_⟩
    go_simp
    (go_at_call 109; (with_reducible refine (r_common a.z b.z _).mono ?_); rintro e w3 ⟨rfl, hb3⟩; replace hb3 := bl_tt hb3)
    (try dsimp only)
    exact hK.out _ _ rfl (by (with_reducible (repeat' (first | assumption | apply jA | apply jB | apply jC | apply jD | apply jE | apply jF | apply hb3 | omega | (simp; done) | (simp; omega) | (dsimp only; omega)))))
  · exact fun _ _ _ => rfl
  · rfl
  dsimp only [nA, cA]
  apply RGW.on (i := 15) rfl
  · (simp only [gA, gB, gC] <;> rfl)
  · intro γ u W hcur hd
    obtain ⟨⟨h4, -, -⟩, ⟨h9, -, -⟩, ⟨h14, -, -⟩, -⟩ := hd
    dsimp only at h4 h9 h14
    (try simp only [h4, h9, h14])
    refine ⟨rfl, ?_⟩
    go_simp <;> (try go_bits) <;> with_reducible rfl
  · exact fun _ _ _ => rfl
  · rfl
  dsimp only [nA, cA]
  apply RGW.call (i := 16) rfl
  · (simp only [gA, gB, gC] <;> rfl)
  · intro γ u W hcur hd
    obtain ⟨⟨h15, -, -⟩, -⟩ := hd
    dsimp only at h15
    (try simp only [h15])
    refine ⟨rfl, fun K hK => ?_⟩
    go_simp
    (go_at_call 108; (with_reducible refine (r_box ⟨a.x.meet b.x, a.y.meet b.y, a.z.meet b.z⟩ _).mono ?_); rintro e w3 ⟨rfl, hb3⟩; replace hb3 := bl_tt hb3)
    (try dsimp only)
    exact hK.out _ _ rfl (by (with_reducible (repeat' (first | assumption | apply jA | apply jB | apply jC | apply jD | apply jE | apply jF | apply hb3 | omega | (simp; done) | (simp; omega) | (dsimp only; omega)))))
  · exact fun _ _ _ => rfl
  · rfl
  dsimp only [nA, cA]
  refine RGW.skip (i := 17) rfl rfl ?_
  dsimp only [nA, cA]
  refine RGW.fin (fun γ u wd hwd hd hdis => ?_)
  obtain ⟨⟨h0, -, -⟩, ⟨h1, -, -⟩, ⟨h2, -, -⟩, ⟨h3, -, -⟩, ⟨h4, -, -⟩, ⟨h5, -, -⟩, ⟨h6, -, -⟩, ⟨h7, -, -⟩, ⟨h8, -, -⟩, ⟨h9, -, -⟩, ⟨h10, -, -⟩, ⟨h11, -, -⟩, ⟨h12, -, -⟩, ⟨h13, -, -⟩, ⟨h14, -, -⟩, ⟨h15, -, -⟩, ⟨h16, -, -⟩, -⟩ := hd
  dsimp only at h0 h1 h2 h3 h4 h5 h6 h7 h8 h9 h10 h11 h12 h13 h14 h15 h16
  clear hdis
  simp only [h0, h1, h2, h3, h4, h5, h6, h7, h8, h9, h10, h11, h12, h13, h14, h15, h16]
  clear h16 h15 h14 h13 h12 h11 h10 h9 h8 h7 h6 h5 h4 h3 h2 h1 h0
  clear u
  simp only [List.map_cons, List.map_nil]
  apply PlanW.step
  · (simp only [gA, gB, gC] <;> rfl)
  · rfl
  intro K hK
  refine wp_store_keep (X := [w.heap.size + 2]) (w0 := wd) rfl rfl rfl (by with_reducible first | exact bx_refl _ _ | assumption) (by with_reducible first | assumption | (apply Blk.below (hb := hwd); assumption)) (by simp) (by kernel_rfl) (by rfl) (by simp [Value.oneCell']) (fun hres1 hcur => ?_)
  refine hK.out _ _ hcur (fun _ => ?_)
  clear hK K
  try simp only [Act.put, List.setIfInBounds_toArray, List.set_cons_zero, List.set_cons_succ]
  refine PlanW.done ?_
  have hb3 := bl_tt hwd
  go_wp2
  apply absPB3 (w0 := w) (g0 := w.heap.size) (g1 := w.heap.size + 1) (g2 := w.heap.size + 2)
  iterate 4 (focus ((with_reducible (repeat' (first | assumption | apply jA | apply jB | apply jC | apply jD | apply jE | apply jF | apply hb3 | apply jG | apply jH | apply jI | apply jJ | apply jK | apply hb3x | (apply jL; first | (simp; done) | rfl) | apply jM | apply jN | apply jO | apply jP | apply jQ | apply jR | apply jS | apply jT (hb := hb3 _ (jA _)) | omega | (simp; done) | (simp; omega) | (dsimp only; omega)))); done))
  intro wf hb0' k0' k1' k2'
  (try simp only [List.setIfInBounds_toArray, List.set_cons_zero, List.set_cons_succ] at k0' k1' k2')
  try clear hb3
  try clear Lk0
  try clear Fk0
  try clear Qk0
  try clear Lk1
  try clear Fk1
  try clear Qk1
  try clear Lk2
  try clear Fk2
  try clear Qk2
  try clear Lk4
  try clear Fk4
  try clear Qk4
  try clear Lk5
  try clear Fk5
  try clear Qk5
  try clear hb0
  try clear k0
  try clear k1
  try clear k2
  have hb0 := hb0'; clear hb0'
  have k0 := k0'; clear k0'
  have k1 := k1'; clear k1'
  have k2 := k2'; clear k2'
  have hr := k2.cell
  refine bodyPost_ret (v := vBx (a.meet b)) (by simp [results, Try.results53, go_sem, hr, Bx.meet]) rfl ⟨rfl, hb0⟩
theorem fl_neg {n d : Int} (hd : 0 < d) (h : n.tmod d < 0) : n.tdiv d - 1 = n / d := by
  have h1 := Int.mul_tdiv_add_tmod n d
  have h2 : (n.tmod d).natAbs < d.natAbs := by
    have := Int.lt_tmod_of_pos n hd
    have := Int.tmod_lt_of_pos n hd
    omega
  have h3 := (Int.ediv_emod_unique (a := n) (b := d) (r := n.tmod d + d) (q := n.tdiv d - 1) hd).2 ⟨by rw [Int.mul_sub]; omega, by omega, by omega⟩
  exact h3.1.symm
theorem fl_pos {n d : Int} (hd : 0 < d) (h : ¬ n.tmod d < 0) : n.tdiv d = n / d := by
  have h1 := Int.mul_tdiv_add_tmod n d
  have h2 := Int.tmod_lt_of_pos n hd
  have h3 := (Int.ediv_emod_unique (a := n) (b := d) (r := n.tmod d) (q := n.tdiv d) hd).2 ⟨by omega, by omega, h2⟩
  exact h3.1.symm
end Go.Proofs.Ytephimmamkafoaa
namespace Go.Proofs.Ytephimmamkafoaa
set_option linter.unusedSimpArgs false
set_option linter.unusedVariables false
open Go.RowKit Go.Shelf
attribute [local go_sem] bl_al bl_drew bl_drewN bl_refl bx_al bx_drew bx_drewN bx_refl index_b0 index_b1 index_b2
set_option maxRecDepth 20000
theorem tdiv_bd (n d : Int) : -(n.natAbs : Int) ≤ n.tdiv d ∧ n.tdiv d ≤ n.natAbs := by
  have h : (n.tdiv d).natAbs ≤ n.natAbs := by
    rw [Int.natAbs_tdiv]
    exact Nat.div_le_self _ _
  omega
theorem r_Floor (n d : Int) (w : World) (h1 : -1000000000000 ≤ n) (h2 : n ≤ 1000000000000) (h3 : 0 < d) (h4 : d ≤ 1000000000000) : Calls Try.prog 79 #[.int .i64 n, .int .i64 d] w (Same (.int .i64 (n / d)) w) := by
  obtain ⟨q1, q2⟩ := tdiv_bd n d
  have q3 := Int.lt_tmod_of_pos n h3
  have q4 := Int.tmod_lt_of_pos n h3
  have hd : d ≠ 0 := by omega
  by_cases hT : n.tmod d < 0
  · have e := Lib.hid (fl_neg h3 hT)
    have hT' : decide (n.tmod d < 0) = true := by simp [hT]
    go_enter Try.func79, Try.ntmps79
    go_wp2
    all_goals (go_ret; exact ⟨by rw [← e.out] <;> rfl, rfl⟩)
  · have e := Lib.hid (fl_pos h3 hT)
    have hT' : decide (n.tmod d < 0) = false := by simp [hT]
    go_enter Try.func79, Try.ntmps79
    go_wp2
    all_goals (go_ret; exact ⟨by rw [← e.out] <;> rfl, rfl⟩)
theorem r_Ceil (n d : Int) (w : World) (h1 : -1000000000000 ≤ n) (h2 : n ≤ 1000000000000) (h3 : 0 < d) (h4 : d ≤ 1000000000000) : Calls Try.prog 80 #[.int .i64 n, .int .i64 d] w (Same (.int .i64 (-(-n / d))) w) := by
  have hb : -1000000000000 ≤ -n / d ∧ -n / d ≤ 1000000000000 := by
    have e1 := Int.mul_ediv_add_emod (-n) d
    have e2 := Int.emod_nonneg (-n) (show d ≠ 0 by omega)
    have e3 := Int.emod_lt_of_pos (-n) h3
    by_cases hn : 0 ≤ -n
    · exact ⟨by have := Int.ediv_nonneg hn (by omega : 0 ≤ d); omega, by have := Int.ediv_le_self d hn; omega⟩
    · refine ⟨?_, by have := Int.ediv_neg_of_neg_of_pos (by omega : -n < 0) h3; omega⟩
      have := Int.le_ediv_of_mul_le h3 (a := -1000000000000) (b := -n) (by have := Int.mul_le_mul_of_nonneg_left (show (1 : Int) ≤ d by omega) (show (0 : Int) ≤ 1000000000000 by omega); omega)
      exact this
  go_enter Try.func80, Try.ntmps80
  go_wp2_with (go_at_call 79; (with_reducible refine (r_Floor (-n) d _ (by omega) (by omega) h3 h4).mono ?_); rintro e w3 ⟨rfl, rfl⟩)
  go_ret
  exact ⟨rfl, rfl⟩
theorem r_Size (n : Int) (w : World) (h1 : -1000000000000 ≤ n) (h2 : n ≤ 1000000000000) : Calls Try.prog 105 #[.int .i64 n] w (Same (.int .i64 (max n (-n))) w) := by
  go_enter Try.func105, Try.ntmps105
  go_wp2
  go_ret
  exact ⟨rfl, rfl⟩
theorem ceil_eq {n d : Int} (hd : 0 < d) : -(-n / d) = (n + d - 1) / d := by
  have e1 := Int.mul_ediv_add_emod (-n) d
  have e2 := Int.emod_nonneg (-n) (show d ≠ 0 by omega)
  have e3 := Int.emod_lt_of_pos (-n) hd
  have h := (Int.ediv_emod_unique (a := n + d - 1) (b := d) (r := d - 1 - (-n) % d) (q := -(-n / d)) hd).2 ⟨by rw [Int.mul_neg]; omega, by omega, by omega⟩
  exact h.1.symm
set_option maxHeartbeats 1000000 in
theorem r_Depth (p d : Rg) (w : World) (h1 : insd p 0 1000000 = true) (h2 : insd d 1 2000 = true) : Calls Try.prog 19 #[vRg p, vRg d] w (Ret (vRg (depth p d)) w) := by
  simp only [insd, Bool.and_eq_true, inR_iff] at h1 h2
  obtain ⟨⟨a1, a2⟩, a3, a4⟩ := h1
  obtain ⟨⟨c1, c2⟩, c3, c4⟩ := h2
  have e := Lib.hid (ceil_eq (n := p.hi * 1000) (d := d.lo) (by omega))
  go_enter Try.func19, Try.ntmps19
  go_wp2
  apply absB3 (w0 := w) (g0 := w.heap.size) (g1 := w.heap.size + 1) (g2 := w.heap.size + 2)
  iterate 4 (focus ((with_reducible (repeat' (first | assumption | apply jA | apply jB | apply jC | apply jD | apply jE | apply jF | apply hb3 | apply jG | apply jH | apply jI | apply jJ | apply jK | apply hb3x | (apply jL; first | (simp; done) | rfl) | apply jM | apply jN | apply jO | apply jP | apply jQ | apply jR | apply jS | apply jT (hb := hb3 _ (jA _)) | omega | (simp; done) | (simp; omega) | (dsimp only; omega)))); done))
  intro wa hb0' k0' k1' k2'
  (try simp only [List.setIfInBounds_toArray, List.set_cons_zero, List.set_cons_succ] at k0' k1' k2')
  try clear hb3
  try clear hb0
  try clear k0
  try clear k1
  try clear k2
  have hb0 := hb0'; clear hb0'
  have k0 := k0'; clear k0'
  have k1 := k1'; clear k1'
  have k2 := k2'; clear k2'
  have Lk0 := k0.later
  have Fk0 := k0.laterF
  have Qk0 := k0.lt
  have Lk1 := k1.later
  have Fk1 := k1.laterF
  have Qk1 := k1.lt
  have Lk2 := k2.later
  have Fk2 := k2.laterF
  have Qk2 := k2.lt
  refine wp_any (w0 := wa) ⟨[13], [], [some 5, some 6, some 7, some 8, some 9, some 10, some 11, some 12, some 13, some 14, some 15, some 16, some 17, none], [[], [0], [0, 1], [], [3], [0, 1, 2, 3, 4], [], [6], [6, 7], [], [9], [0, 1, 2, 3, 4, 5, 6, 7, 8, 9, 10], [0, 1, 2, 3, 4, 5, 6, 7, 8, 9, 10, 11], [0, 1, 2, 3, 4, 5, 6, 7, 8, 9, 10, 11, 12]], [[], [0], [1], [], [3], [2, 4], [], [6], [7], [], [9], [8, 10], [5, 11], []]⟩ (fun _ => [w.heap.size + 2]) (by kernel_rfl) (by kernel_rfl) (by (with_reducible (repeat' (first | assumption | apply jA | apply jB | apply jC | apply jD | apply jE | apply jF | apply hb3 | omega | (simp; done) | (simp; omega) | (dsimp only; omega))))) (fun u => by simp only [putD, Act.put, List.setIfInBounds_toArray, List.set_cons_zero, List.set_cons_succ, Nat.zero_add, Nat.reduceAdd]; rfl) ?_
  apply RGW.on (i := 0) rfl
  · (simp only [gA, gB, gC] <;> rfl)
  · intro γ u W hcur hd
    clear hd
    (try dsimp only)
    refine ⟨rfl, ?_⟩
    go_simp <;> (try go_bits) <;> with_reducible rfl
  · exact fun _ _ _ => rfl
  · rfl
  dsimp only [nA, cA]
  apply RGW.on (i := 1) rfl
  · (simp only [gA, gB, gC] <;> rfl)
  · intro γ u W hcur hd
    obtain ⟨⟨h0, -, -⟩, -⟩ := hd
    dsimp only at h0
    (try simp only [h0])
    refine ⟨rfl, ?_⟩
    go_simp <;> (try go_bits) <;> with_reducible rfl
  · exact fun _ _ _ => rfl
  · rfl
  dsimp only [nA, cA]
  apply RGW.on (i := 2) rfl
  · (simp only [gA, gB, gC] <;> rfl)
  · intro γ u W hcur hd
    obtain ⟨⟨h1, -, -⟩, -⟩ := hd
    dsimp only at h1
    (try simp only [h1])
    refine ⟨rfl, ?_⟩
    go_simp <;> (try go_bits) <;> with_reducible rfl
  · exact fun _ _ _ => rfl
  · rfl
  dsimp only [nA, cA]
  apply RGW.on (i := 3) rfl
  · (simp only [gA, gB, gC] <;> rfl)
  · intro γ u W hcur hd
    clear hd
    (try dsimp only)
    refine ⟨rfl, ?_⟩
    go_simp <;> (try go_bits) <;> with_reducible rfl
  · exact fun _ _ _ => rfl
  · rfl
  dsimp only [nA, cA]
  apply RGW.on (i := 4) rfl
  · (simp only [gA, gB, gC] <;> rfl)
  · intro γ u W hcur hd
    obtain ⟨⟨h3, -, -⟩, -⟩ := hd
    dsimp only at h3
    (try simp only [h3])
    refine ⟨rfl, ?_⟩
    go_simp <;> (try go_bits) <;> with_reducible rfl
  · exact fun _ _ _ => rfl
  · rfl
  dsimp only [nA, cA]
  apply RGW.call (i := 5) rfl
  · (simp only [gA, gB, gC] <;> rfl)
  · intro γ u W hcur hd
    obtain ⟨⟨h2, -, -⟩, ⟨h4, -, -⟩, -⟩ := hd
    dsimp only at h2 h4
    (try simp only [h2, h4])
    refine ⟨rfl, fun K hK => ?_⟩
    go_simp
    (go_at_call 79; (with_reducible refine (r_Floor (p.lo * 1000) d.hi _ (by omega) (by omega) (by omega) (by omega)).mono ?_); rintro e w3 ⟨rfl, rfl⟩)
    (try dsimp only)
    exact hK.out _ _ rfl (by (with_reducible (repeat' (first | assumption | apply jA | apply jB | apply jC | apply jD | apply jE | apply jF | apply hb3 | omega | (simp; done) | (simp; omega) | (dsimp only; omega)))))
  · exact fun _ _ _ => rfl
  · rfl
  dsimp only [nA, cA]
  apply RGW.on (i := 6) rfl
  · (simp only [gA, gB, gC] <;> rfl)
  · intro γ u W hcur hd
    clear hd
    (try dsimp only)
    refine ⟨rfl, ?_⟩
    go_simp <;> (try go_bits) <;> with_reducible rfl
  · exact fun _ _ _ => rfl
  · rfl
  dsimp only [nA, cA]
  apply RGW.on (i := 7) rfl
  · (simp only [gA, gB, gC] <;> rfl)
  · intro γ u W hcur hd
    obtain ⟨⟨h6, -, -⟩, -⟩ := hd
    dsimp only at h6
    (try simp only [h6])
    refine ⟨rfl, ?_⟩
    go_simp <;> (try go_bits) <;> with_reducible rfl
  · exact fun _ _ _ => rfl
  · rfl
  dsimp only [nA, cA]
  apply RGW.on (i := 8) rfl
  · (simp only [gA, gB, gC] <;> rfl)
  · intro γ u W hcur hd
    obtain ⟨⟨h7, -, -⟩, -⟩ := hd
    dsimp only at h7
    (try simp only [h7])
    refine ⟨rfl, ?_⟩
    go_simp <;> (try go_bits) <;> with_reducible rfl
  · exact fun _ _ _ => rfl
  · rfl
  dsimp only [nA, cA]
  apply RGW.on (i := 9) rfl
  · (simp only [gA, gB, gC] <;> rfl)
  · intro γ u W hcur hd
    clear hd
    (try dsimp only)
    refine ⟨rfl, ?_⟩
    go_simp <;> (try go_bits) <;> with_reducible rfl
  · exact fun _ _ _ => rfl
  · rfl
  dsimp only [nA, cA]
  apply RGW.on (i := 10) rfl
  · (simp only [gA, gB, gC] <;> rfl)
  · intro γ u W hcur hd
    obtain ⟨⟨h9, -, -⟩, -⟩ := hd
    dsimp only at h9
    (try simp only [h9])
    refine ⟨rfl, ?_⟩
    go_simp <;> (try go_bits) <;> with_reducible rfl
  · exact fun _ _ _ => rfl
  · rfl
  dsimp only [nA, cA]
  apply RGW.call (i := 11) rfl
  · (simp only [gA, gB, gC] <;> rfl)
  · intro γ u W hcur hd
    obtain ⟨⟨h8, -, -⟩, ⟨h10, -, -⟩, -⟩ := hd
    dsimp only at h8 h10
    (try simp only [h8, h10])
    refine ⟨rfl, fun K hK => ?_⟩
    go_simp
    (go_at_call 80; (with_reducible refine (r_Ceil (p.hi * 1000) d.lo _ (by omega) (by omega) (by omega) (by omega)).mono ?_); rintro e w3 ⟨rfl, rfl⟩)
    (try dsimp only)
    exact hK.out _ _ rfl (by (with_reducible (repeat' (first | assumption | apply jA | apply jB | apply jC | apply jD | apply jE | apply jF | apply hb3 | omega | (simp; done) | (simp; omega) | (dsimp only; omega)))))
  · exact fun _ _ _ => rfl
  · rfl
  dsimp only [nA, cA]
  apply RGW.on (i := 12) rfl
  · (simp only [gA, gB, gC] <;> rfl)
  · intro γ u W hcur hd
    obtain ⟨⟨h5, -, -⟩, ⟨h11, -, -⟩, -⟩ := hd
    dsimp only at h5 h11
    (try simp only [h5, h11])
    refine ⟨rfl, ?_⟩
    go_simp <;> (try go_bits) <;> with_reducible rfl
  · exact fun _ _ _ => rfl
  · rfl
  dsimp only [nA, cA]
  refine RGW.skip (i := 13) rfl rfl ?_
  dsimp only [nA, cA]
  refine RGW.fin (fun γ u wb hwb hd hdis => ?_)
  obtain ⟨⟨h0, -, -⟩, ⟨h1, -, -⟩, ⟨h2, -, -⟩, ⟨h3, -, -⟩, ⟨h4, -, -⟩, ⟨h5, -, -⟩, ⟨h6, -, -⟩, ⟨h7, -, -⟩, ⟨h8, -, -⟩, ⟨h9, -, -⟩, ⟨h10, -, -⟩, ⟨h11, -, -⟩, ⟨h12, -, -⟩, -⟩ := hd
  dsimp only at h0 h1 h2 h3 h4 h5 h6 h7 h8 h9 h10 h11 h12
  clear hdis
  simp only [h0, h1, h2, h3, h4, h5, h6, h7, h8, h9, h10, h11, h12]
  clear h12 h11 h10 h9 h8 h7 h6 h5 h4 h3 h2 h1 h0
  clear u
  simp only [List.map_cons, List.map_nil]
  apply PlanW.step
  · (simp only [gA, gB, gC] <;> rfl)
  · rfl
  intro K hK
  refine wp_store_keep (X := [w.heap.size + 2]) (w0 := wb) rfl rfl rfl (by with_reducible first | exact bx_refl _ _ | assumption) (by with_reducible first | assumption | (apply Blk.below (hb := hwb); assumption)) (by simp) (by kernel_rfl) (by rfl) (by simp [Value.oneCell']) (fun hres1 hcur => ?_)
  refine hK.out _ _ hcur (fun _ => ?_)
  clear hK K
  try simp only [Act.put, List.setIfInBounds_toArray, List.set_cons_zero, List.set_cons_succ]
  refine PlanW.done ?_
  have hb3 := bl_tt hwb
  go_wp2
  apply absPB3 (w0 := w) (g0 := w.heap.size) (g1 := w.heap.size + 1) (g2 := w.heap.size + 2)
  iterate 4 (focus ((with_reducible (repeat' (first | assumption | apply jA | apply jB | apply jC | apply jD | apply jE | apply jF | apply hb3 | apply jG | apply jH | apply jI | apply jJ | apply jK | apply hb3x | (apply jL; first | (simp; done) | rfl) | apply jM | apply jN | apply jO | apply jP | apply jQ | apply jR | apply jS | apply jT (hb := hb3 _ (jA _)) | omega | (simp; done) | (simp; omega) | (dsimp only; omega)))); done))
  intro wf hb0' k0' k1' k2'
  (try simp only [List.setIfInBounds_toArray, List.set_cons_zero, List.set_cons_succ] at k0' k1' k2')
  try clear hb3
  try clear Lk0
  try clear Fk0
  try clear Qk0
  try clear Lk1
  try clear Fk1
  try clear Qk1
  try clear Lk2
  try clear Fk2
  try clear Qk2
  try clear hb0
  try clear k0
  try clear k1
  try clear k2
  have hb0 := hb0'; clear hb0'
  have k0 := k0'; clear k0'
  have k1 := k1'; clear k1'
  have k2 := k2'; clear k2'
  have hr := k2.cell
  refine bodyPost_ret (v := vRg (depth p d)) (by simp [results, Try.results19, go_sem, hr, depth]; exact e.out) rfl ⟨rfl, hb0⟩
set_option maxHeartbeats 1000000 in
theorem r_DepthErr (p d : Rg) (w : World) : Calls Try.prog 18 #[vRg p, vRg d] w (Ret (.int .i64 (depthErr p d)) w) := by
  have hr : Hid (depthErr p d = fstE [unl ((inR p.lo 0 1000000 && inR p.hi 0 1000000) && (inR d.lo 1 2000 && inR d.hi 1 2000)) 2, unl (decide (p.lo ≤ p.hi) && decide (d.lo ≤ d.hi)) 9]) := rfl
  obtain ⟨b1, h1⟩ : ∃ b', inR p.lo 0 1000000 = b' := ⟨_, rfl⟩
  obtain ⟨b2, h2⟩ : ∃ b', inR p.hi 0 1000000 = b' := ⟨_, rfl⟩
  obtain ⟨b3, h3⟩ : ∃ b', inR d.lo 1 2000 = b' := ⟨_, rfl⟩
  obtain ⟨b4, h4⟩ : ∃ b', inR d.hi 1 2000 = b' := ⟨_, rfl⟩
  have hc1 := Lib.hid fun W : World => h1 ▸ r_Within p.lo 0 1000000 W
  have hc2 := Lib.hid fun W : World => h2 ▸ r_Within p.hi 0 1000000 W
  have hc3 := Lib.hid fun W : World => h3 ▸ r_Within d.lo 1 2000 W
  have hc4 := Lib.hid fun W : World => h4 ▸ r_Within d.hi 1 2000 W
  rw [h1, h2, h3, h4] at hr
  clear h1 h2 h3 h4
  have e1 : decide (p.hi < p.lo) = !decide (p.lo ≤ p.hi) := by by_cases h : p.lo ≤ p.hi <;> simp [h] <;> omega
  have e2 : decide (d.hi < d.lo) = !decide (d.lo ≤ d.hi) := by by_cases h : d.lo ≤ d.hi <;> simp [h] <;> omega
  cases hB : decide (p.lo ≤ p.hi)
  all_goals cases hC : decide (d.lo ≤ d.hi)
  all_goals
    rw [hB, hC] at hr
    rw [hB] at e1
    rw [hC] at e2
    simp only [Bool.not_true, Bool.not_false] at e1 e2
    clear hB hC
    cases b1
    all_goals cases b2
    all_goals cases b3
    all_goals cases b4
    all_goals
      replace hr : Hid (depthErr p d = _) := Lib.hid hr.out
      simp [fstE, unl] at hr
      go_enter Try.func18, Try.ntmps18
      go_wp2_with (go_at_call 47; (first | (with_reducible refine (hc1.out _).mono ?_) | (with_reducible refine (hc2.out _).mono ?_) | (with_reducible refine (hc3.out _).mono ?_) | (with_reducible refine (hc4.out _).mono ?_)); rintro e w3 ⟨rfl, rfl⟩)
      go_ret
      exact ⟨by rw [hr.out] <;> rfl, by (with_reducible (repeat' (first | assumption | apply jA | apply jB | apply jC | apply jD | apply jE | apply jF | apply hb3 | omega | (simp; done) | (simp; omega) | (dsimp only; omega))))⟩
end Go.Proofs.Ytephimmamkafoaa
