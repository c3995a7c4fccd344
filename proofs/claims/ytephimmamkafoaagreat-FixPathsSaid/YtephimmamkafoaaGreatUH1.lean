/-
  How the laws' arguments read, continued: votes, readings, moves, reckonings.
  Walks: which steps are valid; the box after a step.
  How the laws' arguments read, continued: steps.
  Walks: copies of steps.
-/
import Derived.Test.YtephimmamkafoaaGreatU13
import Derived.Test.YtephimmamkafoaaGreatU8
import Derived.Test.YtephimmamkafoaaGreatU10
import Derived.Test.YtephimmamkafoaaGreatU5
set_option linter.unusedSimpArgs false
set_option linter.unusedVariables false
namespace Go.Proofs.YtephimmamkafoaaGreat
open Go.ChangeShapes Go.WideShapes Go.ChangeAt Go.RowKit Go.Deep
set_option maxRecDepth 20000
section
variable {H : Type} {enc : TypeId × Value → H} {w : World} {base : Nat} {spare : Nat → Bool} {held : Bool} {fuel : Nat} {cs : List Value} {y : DataW H × List MemPlace}
theorem cRd4 : Tryz.prog.cellsOf 87 = 4 := by kernel_rfl
theorem cRds : Tryz.prog.cellsOf 45 = 1 := by kernel_rfl
theorem cMv7 : Tryz.prog.cellsOf 44 = 7 := by kernel_rfl
theorem cVt2 : Tryz.prog.cellsOf 47 = 2 := by kernel_rfl
theorem rd_Rd (h : DataW.trod enc Tryz.prog w base spare held fuel 87 cs = some y) : ∃ r : Rd, cs = cRd r := by
  obtain ⟨xs, n, -, -, hl, hlen, hf⟩ := DataW.trod_struct Tryz.underlying87 h
  rw [cRd4] at hl
  obtain ⟨c0, c1, c2, c3, rfl⟩ := len4 hl
  obtain ⟨x0, x1, x2, rfl⟩ := len3 (show xs.length = 3 from hlen)
  have h0 := hf 0 _ rfl
  have h1 := hf 1 _ rfl
  have h2 := hf 2 _ rfl
  simp [ci, cRg2] at h0 h1 h2
  obtain ⟨a, e0⟩ := rd_int h0
  obtain ⟨b, e1⟩ := rd_int h1
  obtain ⟨c, e2⟩ := rd_Rg h2
  simp [cRg] at e0 e1 e2
  exact ⟨⟨a, b, c⟩, by rw [e0, e1, e2.1, e2.2]; rfl⟩
theorem rd_Rds (h : DataW.trod enc Tryz.prog w base spare held fuel 45 cs = some y) :
    ∃ (A : Option Addr) (c : Nat) (l : List Rd), cs = [.slice A l.length c] ∧ Sl cRd 4 w A l := by
  obtain ⟨A, c, l, e1, -, -, g2, -⟩ := rd_slice (c := cRd) (ok := fun _ : Rd => True) Tryz.underlying45 cRd4 (by decide) (fun _ => rfl) (fun _ _ _ hz => (rd_Rd hz).imp fun _ e => ⟨e, trivial⟩) h
  exact ⟨A, c, l, e1, g2⟩
theorem rd_Vt (h : DataW.trod enc Tryz.prog w base spare held fuel 47 cs = some y) :
    ∃ (v : Vt) (A : Option Addr) (c : Nat), cs = [.slice A v.rs.length c, .int .i64 v.wrong] ∧ Sl cRd 4 w A v.rs := by
  obtain ⟨xs, n, -, -, hl, hlen, hf⟩ := DataW.trod_struct Tryz.underlying47 h
  rw [cVt2] at hl
  obtain ⟨c0, c1, rfl⟩ := len2 hl
  obtain ⟨x0, x1, rfl⟩ := len2 (show xs.length = 2 from hlen)
  have h0 := hf 0 _ rfl
  have h1 := hf 1 _ rfl
  simp [ci, cRds] at h0 h1
  obtain ⟨A, c, l, e0, g⟩ := rd_Rds h0
  obtain ⟨k, e1⟩ := rd_int h1
  simp at e0 e1
  exact ⟨⟨l, k⟩, A, c, by rw [e0, e1], g⟩
theorem rd_Mv (h : DataW.trod enc Tryz.prog w base spare held fuel 44 cs = some y) : ∃ m : Mv, cs = [.int .i64 m.ticks, .int .i64 m.speed.x.lo, .int .i64 m.speed.x.hi, .int .i64 m.speed.y.lo, .int .i64 m.speed.y.hi, .int .i64 m.speed.z.lo, .int .i64 m.speed.z.hi] := by
  obtain ⟨xs, n, -, -, hl, hlen, hf⟩ := DataW.trod_struct Tryz.underlying44 h
  rw [cMv7] at hl
  obtain ⟨c0, c1, c2, c3, c4, c5, c6, rfl⟩ := len7 hl
  obtain ⟨x0, x1, rfl⟩ := len2 (show xs.length = 2 from hlen)
  have h0 := hf 0 _ rfl
  have h1 := hf 1 _ rfl
  simp [ci, cBx6] at h0 h1
  obtain ⟨t, e0⟩ := rd_int h0
  obtain ⟨b, e1⟩ := rd_Bx h1
  simp at e0 e1
  exact ⟨⟨t, b⟩, by rw [e0, e1.1, e1.2.1, e1.2.2.1, e1.2.2.2.1, e1.2.2.2.2.1, e1.2.2.2.2.2]⟩
end
end Go.Proofs.YtephimmamkafoaaGreat
namespace Go.Proofs.YtephimmamkafoaaGreat
open Go.RowKit Go.Shelf
attribute [local go_sem] bl_al bl_drew bl_drewN bl_refl bx_al bx_drew bx_drewN bx_refl
set_option maxRecDepth 20000
/-- A step, and where its readings lie. -/
structure StA where
  s : St
  A : Option Addr
  c : Nat
abbrev vSt (s : St) (A : Option Addr) (c : Nat) : Value := .agg #[.int .i64 s.mv.ticks, .int .i64 s.mv.speed.x.lo, .int .i64 s.mv.speed.x.hi, .int .i64 s.mv.speed.y.lo, .int .i64 s.mv.speed.y.hi, .int .i64 s.mv.speed.z.lo, .int .i64 s.mv.speed.z.hi, .slice A s.vt.rs.length c, .int .i64 s.vt.wrong]
def cSp (x : StA) : List Value := [.int .i64 x.s.mv.ticks, .int .i64 x.s.mv.speed.x.lo, .int .i64 x.s.mv.speed.x.hi, .int .i64 x.s.mv.speed.y.lo, .int .i64 x.s.mv.speed.y.hi, .int .i64 x.s.mv.speed.z.lo, .int .i64 x.s.mv.speed.z.hi, .slice x.A x.s.vt.rs.length x.c, .int .i64 x.s.vt.wrong]
/-- Steps in memory, with their readings. -/
structure StsIn (l : List StA) (A : Option Addr) (w : World) : Prop where
  sl : Sl cSp 9 w A l
  rd : ∀ x ∈ l, Sl cRd 4 w x.A x.s.vt.rs
theorem StsIn.below {l : List StA} {A : Option Addr} {w w' : World} (h : StsIn l A w) (hb : Below w.heap.size w w') : StsIn l A w' := ⟨h.sl.below hb, fun x hx => (h.rd x hx).below hb⟩
def few1 (l : List StA) : Prop := l.length ≤ 1000 ∧ ∀ x ∈ l, x.s.vt.rs.length ≤ 1000
def stErr (n : Nt) (s : St) : Int := fstE [mvErr s.mv, voteE n s.vt]
set_option maxHeartbeats 4000000 in
theorem c_stErr (n : Nt) (s : St) (A A' : Option Addr) (c c' : Nat) (k : Int) (g : Nat) (t : TypeId) (w : World) (hk : Blk w g t (aNt n.world (.slice A n.bs.length c))) (hn : NtIn n A c w) (hl : Sl cRd 4 w A' s.vt.rs) (hll : s.vt.rs.length ≤ 1000) (hlb : n.bs.length ≤ 1000) :
    Calls Tryz.prog 51 #[.int .i64 k, vSt s A' c', .pointer (some ⟨g, 0, none⟩)] w (Ret (.int .i64 (stErr n s)) w) := by
  have hcv := Lib.hid fun (W : World) (hb : Below w.heap.size w W) => c_voteErr n s.vt A A' c c' W (hn.below hb) (hl.below hb) hll hlb
  have hme : Hid (stErr n s = fstE [mvErr s.mv, voteE n s.vt]) := rfl
  clear hn hl
  generalize n.bs.length = nl at *
  unfold vSt
  generalize s.vt.rs.length = rl at *
  go_enter Tryz.func51, Tryz.ntmps51
  have k0 := hk
  have hb0 := bl_refl w
  have Q0 := k0.lt
  go_upto_region 1 with fail
  apply absB2 (w0 := w) (g0 := g) (g1 := w.heap.size)
  iterate 3 (focus exact zL)
  try clear hb3
  try clear hb0
  try clear k0
  try clear k1
  intro wa hb0 k0 k1
  (try simp only [List.setIfInBounds_toArray, List.set_cons_zero, List.set_cons_succ] at k0 k1)
  have Lk0 := k0.later
  have Fk0 := k0.laterF
  have Qk0 := k0.lt
  have Lk1 := k1.later
  have Fk1 := k1.laterF
  have Qk1 := k1.lt
  refine wp_any (w0 := wa) ⟨[], [], [some 6, some 7, some 8, some 9, some 10, some 11, some 12, some 13, some 14, some 5], [[], [0], [0, 1], [], [], [4], [0, 1, 2, 3, 4, 5], [0, 1, 2, 3, 4, 5, 6], [0, 1, 2, 3, 4, 5, 6, 7], [0, 1, 2, 3, 4, 5, 6, 7, 8]], [[], [0], [1], [], [], [4], [3, 5], [2, 6], [7], [7, 8]]⟩ (fun _ => []) (by kernel_rfl) (by kernel_rfl) (by (exact zE)) (fun u => by simp only [putD, Act.put, List.setIfInBounds_toArray, List.set_cons_zero, List.set_cons_succ, Nat.zero_add, Nat.reduceAdd]; rfl) ?_
  apply RGW.on (i := 0) rfl
  · exact zG
  · intro γ u W hcur hd
    clear hd
    (try dsimp only)
    exact ⟨rfl, zS⟩
  · exact zC
  · rfl
  dsimp only [nA, cA]
  apply RGW.on (i := 1) rfl
  · exact zG
  · intro γ u W hcur hd
    obtain ⟨⟨h0, -, -⟩, -⟩ := hd
    dsimp only at h0
    (try simp only [h0])
    exact ⟨rfl, zS⟩
  · exact zC
  · rfl
  dsimp only [nA, cA]
  apply RGW.call (i := 2) rfl
  · exact zG
  · intro γ u W hcur hd
    obtain ⟨⟨h1, -, -⟩, -⟩ := hd
    dsimp only at h1
    (try simp only [h1])
    refine ⟨rfl, fun K hK => ?_⟩
    go_simp
    (go_at_call 52; (with_reducible refine (c_moveErr s.mv _).mono ?_); rintro e w3 ⟨rfl, hb3⟩; replace hb3 := bl_tt hb3)
    (try dsimp only)
    exact hK.out _ _ rfl (by (exact zE))
  · exact zC
  · rfl
  dsimp only [nA, cA]
  apply RGW.on (i := 3) rfl
  · exact zG
  · intro γ u W hcur hd
    clear hd
    (try dsimp only)
    exact ⟨rfl, zS⟩
  · exact zC
  · rfl
  dsimp only [nA, cA]
  apply RGW.on (i := 4) rfl
  · exact zG
  · intro γ u W hcur hd
    clear hd
    (try dsimp only)
    exact ⟨rfl, zS⟩
  · exact zC
  · rfl
  dsimp only [nA, cA]
  apply RGW.on (i := 5) rfl
  · exact zG
  · intro γ u W hcur hd
    obtain ⟨⟨h4, -, -⟩, -⟩ := hd
    dsimp only at h4
    (try simp only [h4])
    exact ⟨rfl, zS⟩
  · exact zC
  · rfl
  dsimp only [nA, cA]
  apply RGW.call (i := 6) rfl
  · exact zG
  · intro γ u W hcur hd
    obtain ⟨⟨h3, -, -⟩, ⟨h5, -, -⟩, -⟩ := hd
    dsimp only at h3 h5
    (try simp only [h3, h5])
    refine ⟨rfl, fun K hK => ?_⟩
    go_simp
    (go_at_call 53; (with_reducible refine (hcv.out _ (bl_tr hb0 (by (exact zE)))).mono ?_); rintro e w3 ⟨rfl, hb3⟩; replace hb3 := bl_tt hb3)
    (try dsimp only)
    exact hK.out _ _ rfl (by (exact zE))
  · exact zC
  · rfl
  dsimp only [nA, cA]
  apply RGW.bslice (i := 7) rfl
  · exact zG
  · intro γ u W hcur hd
    obtain ⟨⟨h2, -, -⟩, ⟨h6, -, -⟩, -⟩ := hd
    dsimp only at h2 h6
    (try simp only [h2, h6])
    refine ⟨rfl, fun K hK => ?_⟩
    go_simp
    exact hK.out _ _ rfl rfl
  · exact zC
  · rfl
  · rfl
  dsimp only [nA, cA]
  apply RGW.call (i := 8) rfl
  · exact zG
  · intro γ u W hcur hd
    obtain ⟨⟨h7, r7, -⟩, -⟩ := hd
    dsimp only at h7 r7
    have L7 := r7.cell
    (try simp only [h7])
    refine ⟨rfl, fun K hK => ?_⟩
    go_simp
    (go_at_call 48; (with_reducible refine (c_first2 (by assumption)).mono ?_); rintro e w3 ⟨rfl, rfl⟩)
    (try dsimp only)
    exact hK.out _ _ rfl (by (exact zE))
  · exact zC
  · rfl
  dsimp only [nA, cA]
  apply RGW.on (i := 9) rfl
  · exact zG
  · intro γ u W hcur hd
    obtain ⟨⟨h7, r7, -⟩, ⟨h8, -, -⟩, -⟩ := hd
    dsimp only at h7 h8 r7
    have L7 := r7.cell
    (try simp only [h7, h8])
    exact ⟨rfl, zS⟩
  · exact zC
  · rfl
  dsimp only [nA, cA]
  refine RGW.fin (fun γ u wb hwb hd hdis => ?_)
  obtain ⟨⟨h0, -, -⟩, ⟨h1, -, -⟩, ⟨h2, -, -⟩, ⟨h3, -, -⟩, ⟨h4, -, -⟩, ⟨h5, -, -⟩, ⟨h6, -, -⟩, ⟨h7, r7, b7⟩, ⟨h8, -, -⟩, ⟨h9, -, -⟩, -⟩ := hd
  dsimp only at h0 h1 h2 h3 h4 h5 h6 h7 h8 h9 r7 b7
  clear hdis
  simp only [h0, h1, h2, h3, h4, h5, h6, h7, h8, h9]
  clear h9 h8 h7 h6 h5 h4 h3 h2 h1 h0
  replace b7 := b7 _ (List.mem_singleton.2 rfl)
  generalize hγ7 : (γ 7).n = g7 at *
  clear hγ7
  clear u
  simp only [List.map_nil]
  refine PlanW.done ?_
  have hb3 := bl_tt hwb
  have hb1 := hb3 _ hb0
  clear hcv
  go_wp2
  go_ret
  exact ⟨by rw [hme.out] <;> rfl, hb1⟩

set_option maxHeartbeats 800000 in
set_option maxRecDepth 20000 in
theorem c_eachS (f : FuncId) (lb : Array Value) (err : Nat → StA → Int) (A : Option Addr) (l : List StA) (c : Nat) (w : World) (hl : l.length ≤ 1000000)
    (he : Enters Tryz.prog f) (hp : ∀ k x, l[k]? = some x → ∀ W : World, Below w.heap.size w W → Calls Tryz.prog f (#[.int .i64 (k : Nat), .agg #[.int .i64 x.s.mv.ticks, .int .i64 x.s.mv.speed.x.lo, .int .i64 x.s.mv.speed.x.hi, .int .i64 x.s.mv.speed.y.lo, .int .i64 x.s.mv.speed.y.hi, .int .i64 x.s.mv.speed.z.lo, .int .i64 x.s.mv.speed.z.hi, .slice x.A x.s.vt.rs.length x.c, .int .i64 x.s.vt.wrong]] ++ lb) W (Ret (.int .i64 (err k x)) W))
    (hr : Sl cSp 9 w A l) :
    Calls Tryz.prog 50 #[.slice A l.length c, .func (.func f) #[] lb] w (Ret (.tuple #[.int .i64 (eachS err l 0).1, .int .i64 (eachS err l 0).2]) w) := by
  have he' : ∀ args w, (callFunc f args).run Tryz.prog w = .ok (.enter f args) w := he
  clear he
  have Hp := Lib.hid hp
  have Hr := Lib.hid hr
  clear hp hr
  obtain ⟨n, Hn⟩ : ∃ n, Hid (l.length = n) := ⟨_, rfl⟩
  rw [Hn.out] at hl ⊢
  go_enter Tryz.func50, Tryz.ntmps50
  go_wp2
  go_loopw [11] (fun i wr => ∃ k : Nat, k ≤ n ∧ i = .int .i64 k ∧ Below w.heap.size w wr ∧ eachS err l 0 = eachS err (l.drop k) k) (fun i _ => n - (intOf i).toNat)
  case atStart => exact ⟨0, Nat.zero_le _, rfl, Below.refl _ _, rfl⟩
  case round =>
    obtain ⟨k, hk, rfl, hb, hi⟩ := hrel
    replace hi := Lib.hid hi
    by_cases hlt : k < n
    · have hx : l[k]? = some (l[k]'(by rw [Hn.out]; exact hlt)) := List.getElem?_eq_getElem _
      generalize l[k]'(by rw [Hn.out]; exact hlt) = x at hx
      replace hx := Lib.hid hx
      obtain ⟨b, off, rfl, hc⟩ := Hr.out k x hx.out
      have c0 : wr.cell? ⟨b, off + k * 9, none⟩ = some (.int .i64 x.s.mv.ticks) := kcell hb (hc 0 _ rfl)
      have c1 : wr.cell? ⟨b, off + k * 9 + 1, none⟩ = some (.int .i64 x.s.mv.speed.x.lo) := kcell hb (hc 1 _ rfl)
      have c2 : wr.cell? ⟨b, off + k * 9 + 2, none⟩ = some (.int .i64 x.s.mv.speed.x.hi) := kcell hb (hc 2 _ rfl)
      have c3 : wr.cell? ⟨b, off + k * 9 + 3, none⟩ = some (.int .i64 x.s.mv.speed.y.lo) := kcell hb (hc 3 _ rfl)
      have c4 : wr.cell? ⟨b, off + k * 9 + 4, none⟩ = some (.int .i64 x.s.mv.speed.y.hi) := kcell hb (hc 4 _ rfl)
      have c5 : wr.cell? ⟨b, off + k * 9 + 5, none⟩ = some (.int .i64 x.s.mv.speed.z.lo) := kcell hb (hc 5 _ rfl)
      have c6 : wr.cell? ⟨b, off + k * 9 + 6, none⟩ = some (.int .i64 x.s.mv.speed.z.hi) := kcell hb (hc 6 _ rfl)
      have c7 : wr.cell? ⟨b, off + k * 9 + 7, none⟩ = some (.slice x.A x.s.vt.rs.length x.c) := kcell hb (hc 7 _ rfl)
      have c8 : wr.cell? ⟨b, off + k * 9 + 8, none⟩ = some (.int .i64 x.s.vt.wrong) := kcell hb (hc 8 _ rfl)
      have hd := Lib.hid (eachS_drop err l k x hx.out)
      have hcall := Lib.hid (Hp.out k x hx.out)
      clear hc
      go_wp2_with fail
      refine (hcall.out _ (bl_al _ hb)).mono ?_
      rintro e w3 ⟨rfl, hb3⟩
      have hb4 := bl_tr (bl_al _ hb) hb3
      clear hb3
      generalize err k x = ex at *
      by_cases h0 : ex = 0
      · have h0' : (ex != 0) = false := by simp [h0]
        replace h0 := Lib.hid h0
        go_wp2
        go_roundw
        case rel => exact ⟨k + 1, by omega, by go_num, hb4, by rw [hi.out, hd.out, if_pos h0.out]⟩
        case measure => simp [intOf]; omega
      · have h0' : (ex != 0) = true := by simp [h0]
        replace h0 := Lib.hid h0
        go_wp2
        go_ret2
        exact ⟨by rw [hi.out, hd.out, if_neg h0.out] <;> rfl, hb4⟩
    · go_wp2
      go_ret2
      have : k = l.length := by have := Hn.out; omega
      exact ⟨by rw [hi.out, this]; simp [eachS], hb⟩

def stepsE (n : Nt) (k : Nat) : Int := fstE [netErr n, unl (decide ((k : Int) ≤ 6)) 8]
def stepsChk (n : Nt) (l : List St) : Int × Int := if stepsE n l.length = 0 then eachS (fun _ s => stErr n s) l 0 else (0, stepsE n l.length)
theorem eachS_map {α β : Type} (err : Nat → β → Int) (f : α → β) : ∀ (l : List α) (k : Nat), eachS err (l.map f) k = eachS (fun i x => err i (f x)) l k
  | [], k => rfl
  | x :: l, k => by
    rw [List.map_cons, eachS, eachS, eachS_map err f l]
set_option maxHeartbeats 4000000 in
theorem c_CheckSteps (n : Nt) (l : List StA) (A A' : Option Addr) (c c' : Nat) (w : World) (hn : NtIn n A c w) (hl : StsIn l A' w) (hll : few1 l) (hlb : n.bs.length ≤ 1000) :
    Calls Tryz.prog 9 #[vNt n.world (.slice A n.bs.length c), .slice A' l.length c'] w (Ret (.tuple #[.int .i64 (stepsChk n (l.map (·.s))).1, .int .i64 (stepsChk n (l.map (·.s))).2]) w) := by
  have hco := Lib.hid fun (W : World) (hb : Below w.heap.size w W) => c_open n A c W (hn.below hb)
  have hme : Hid (stepsE n l.length = fstE [netErr n, unl (decide ((l.length : Int) ≤ 6)) 8]) := rfl
  have hs1 : Hid (stepsE n l.length = 0 → stepsChk n (l.map (·.s)) = eachS (fun _ x => stErr n x.s) l 0) := fun h => by rw [stepsChk, List.length_map, if_pos h, eachS_map]
  have hs3 : Hid (stepsE n l.length ≠ 0 → stepsChk n (l.map (·.s)) = (0, stepsE n l.length)) := fun h => by rw [stepsChk, List.length_map, if_neg h]
  have hev := Lib.hid fun (W : World) (hb : Below w.heap.size w W) (g : Nat) (t : TypeId) (hk : Blk W g t (aNt n.world (.slice A n.bs.length c))) =>
    c_eachS 51 #[.pointer (some ⟨g, 0, none⟩)] (fun _ x => stErr n x.s) A' l c' W (by have := hll.1; omega) (enters_of Tryz.func51 (by kernel_rfl) rfl)
      (fun k x hx W' hb' => c_stErr n x.s A x.A c x.c k g t W' (hk.below hb') (hn.below (bl_tr hb hb')) ((hl.rd x (List.mem_of_getElem? hx)).below (bl_tr hb hb')) (hll.2 x (List.mem_of_getElem? hx)) hlb) (hl.sl.below hb)
  clear hn hl
  have hl1 := hll.1
  clear hll
  generalize n.bs.length = nl at *
  generalize stepsChk n (l.map (·.s)) = R at *
  generalize l.length = ll at *
  go_enter Tryz.func9, Tryz.ntmps9
  go_wp2_with fail
  refine Calls.mono (hco.out _ ?_) ?_
  · solve_by_elim (maxDepth := 60) only [bl_al, bl_drew, bl_drewN, bl_refl, *]
  rintro e w3 ⟨rfl, hb3⟩
  replace hb3 := bl_tt hb3
  apply absX1 (w0 := w) (w := w3) (g0 := w.heap.size)
  iterate 2 (focus exact zL)
  try clear hb3
  try clear hb0
  try clear k0
  intro wa hb0 k0
  (try simp only [List.setIfInBounds_toArray, List.set_cons_zero, List.set_cons_succ] at k0)
  have Lk0 := k0.later
  have Fk0 := k0.laterF
  have Qk0 := k0.lt
  go_upto_region 2 with fail
  apply absB2 (w0 := w) (g0 := w.heap.size) (g1 := wa.heap.size)
  iterate 3 (focus exact zL)
  try clear hb3
  try clear Lk0
  try clear Fk0
  try clear Qk0
  try clear hb0
  try clear k0
  try clear k4
  intro wb hb0 k0 k4
  (try simp only [List.setIfInBounds_toArray, List.set_cons_zero, List.set_cons_succ] at k0 k4)
  have Lk0 := k0.later
  have Fk0 := k0.laterF
  have Qk0 := k0.lt
  have Lk4 := k4.later
  have Fk4 := k4.laterF
  have Qk4 := k4.lt
  go_upto_region 3 with (first | (go_at_call 49; (with_reducible refine (c_unless _ _ _).mono ?_); rintro e w3 ⟨rfl, rfl⟩) | (go_at_call 48; (with_reducible refine (c_first2 (Blk.new _ _ _)).mono ?_); rintro e w3 ⟨rfl, rfl⟩))
  apply absB2 (w0 := w) (g0 := w.heap.size) (g1 := wa.heap.size)
  iterate 3 (focus exact zL)
  try clear hb3
  try clear Lk0
  try clear Fk0
  try clear Qk0
  try clear Lk4
  try clear Fk4
  try clear Qk4
  try clear hb0
  try clear k0
  try clear k4
  intro wc hb0 k0 k4
  (try simp only [List.setIfInBounds_toArray, List.set_cons_zero, List.set_cons_succ] at k0 k4)
  have Lk0 := k0.later
  have Fk0 := k0.laterF
  have Qk0 := k0.lt
  have Lk4 := k4.later
  have Fk4 := k4.laterF
  have Qk4 := k4.lt
  rw [← hme.out]
  by_cases h0 : stepsE n ll = 0
  · have h0' : (stepsE n ll != 0) = false := by simp [h0]
    replace h0 := Lib.hid h0
    go_wp2_with fail
    refine Calls.mono (hev.out _ hb0 _ _ k0) ?_
    rintro e w3 ⟨rfl, hb3⟩
    replace hb3 := bl_tt hb3
    have hb1 := hb3 _ hb0
    go_wp2
    go_ret2
    exact ⟨by rw [hs1.out h0.out] <;> rfl, hb1⟩
  · have h0' : (stepsE n ll != 0) = true := by simp [h0]
    replace h0 := Lib.hid h0
    go_wp2
    go_ret2
    exact ⟨by rw [hs3.out h0.out] <;> rfl, hb0⟩
/-- The box after a step, or its error. -/
def afterV (n : Nt) (a : Bx) (s : St) : Bx × Nat := votesB n (carried n.world a s.mv) s.vt
def afterX (n : Nt) (a : Bx) (s : St) : Int := if (carried n.world a s.mv).ordered then (if (carried n.world a s.mv).size ≤ 20000 then (if (afterV n a s).2 = 0 then 12 else 0) else 8) else 12
theorem carried_ok {w a : Bx} (hw : w.ok) (m : Mv) (h : (carried w a m).ordered = true) : (carried w a m).ok := by
  rw [Bx.ordered_iff] at h
  obtain ⟨⟨x1, x2, x3⟩, ⟨y1, y2, y3⟩, ⟨z1, z2, z3⟩⟩ := hw
  have hh : ∀ (l m' wl wh : Int), wl ≤ max l wl ∧ min m' wh ≤ wh := fun l m' wl wh => ⟨Int.le_max_right _ _, Int.min_le_right _ _⟩
  have a1 := hh (a.carry m).x.lo (a.carry m).x.hi w.x.lo w.x.hi
  have a2 := hh (a.carry m).y.lo (a.carry m).y.hi w.y.lo w.y.hi
  have a3 := hh (a.carry m).z.lo (a.carry m).z.hi w.z.lo w.z.hi
  unfold carried Bx.meet Rg.meet at h ⊢
  unfold Bx.ok Rg.ok
  dsimp only at h ⊢
  omega
set_option maxHeartbeats 8000000 in
theorem c_after (n : Nt) (a : Bx) (s : St) (A A' : Option Addr) (c c' : Nat) (w : World) (hs : Sl cBc 4 w A n.bs) (hlb : n.bs.length ≤ 1000) (hl : Sl cRd 4 w A' s.vt.rs) (hll : s.vt.rs.length ≤ 8) (hw : n.world.ok) (ha : a.in 10000) (hm : s.mv.ok) (hr : ∀ r ∈ s.vt.rs, r.ok n.bs) :
    Calls Tryz.prog 58 #[vON n.world (.slice A n.bs.length c), vBx a, vSt s A' c'] w (fun e w' => ∃ o : Bx, e = .returned (.tuple #[vBx o, .int .i64 (afterX n a s)]) ∧ Below w.heap.size w w' ∧ (afterX n a s = 0 → o = (afterV n a s).1)) := by
  have hca := Lib.hid fun (W : World) => c_carried n.world a s.mv (.slice A n.bs.length c) W ha hm
  have hcs := Lib.hid fun (h : (carried n.world a s.mv).ordered = true) (W : World) => c_search (carried n.world a s.mv) W (carried_ok hw s.mv h)
  have hcv := Lib.hid fun (h : (carried n.world a s.mv).ordered = true) (hz : (carried n.world a s.mv).size ≤ 20000) (W : World) (hb : Below w.heap.size w W) => c_vote n.world (carried n.world a s.mv) n.bs A A' c c' s.vt W (hs.below hb) hlb (hl.below hb) hll (carried_ok hw s.mv h) hz hr
  change Hid (_ → _ → ∀ W, _ → Calls Tryz.prog 90 _ W (Ret (.tuple #[vBx (afterV n a s).1, .int .i64 (afterV n a s).2]) W)) at hcv
  have hX : Hid (afterX n a s = if (carried n.world a s.mv).ordered then (if (carried n.world a s.mv).size ≤ 20000 then (if (afterV n a s).2 = 0 then 12 else 0) else 8) else 12) := rfl
  have hle : (afterV n a s).2 ≤ (carried n.world a s.mv).pts.length := votesOf_le _ _
  have hps := Lib.hid fun h : (carried n.world a s.mv).ordered = true => pts_size (carried_ok hw s.mv h)
  clear hs hl ha hm hr hw
  generalize afterV n a s = V at *
  generalize afterX n a s = X at *
  generalize carried n.world a s.mv = g at *
  obtain ⟨vb, vk⟩ := V
  dsimp only at hcv hX hle
  have f1 : Hid (g.ordered = false → X = 12) := fun h => by rw [hX.out, h]; rfl
  have f2 : Hid (g.ordered = true → ¬ g.size ≤ 20000 → X = 8) := fun h h' => by rw [hX.out, if_pos h, if_neg h']
  have f3 : Hid (g.ordered = true → g.size ≤ 20000 → X = if vk = 0 then 12 else 0) := fun h h' => by rw [hX.out, if_pos h, if_pos h']
  clear hX
  generalize n.bs.length = nl at *
  unfold vSt
  generalize s.vt.rs.length = rl at *
  go_enter Tryz.func58, Tryz.ntmps58
  go_upto_region 1 with fail
  apply absB4 (w0 := w) (g0 := w.heap.size) (g1 := w.heap.size + 1) (g2 := w.heap.size + 2) (g3 := w.heap.size + 3)
  iterate 5 (focus exact zL)
  try clear hb3
  try clear hb0
  try clear k0
  try clear k1
  try clear k2
  try clear k3
  intro wa hb0 k0 k1 k2 k3
  (try simp only [List.setIfInBounds_toArray, List.set_cons_zero, List.set_cons_succ] at k0 k1 k2 k3)
  have Lk0 := k0.later
  have Fk0 := k0.laterF
  have Qk0 := k0.lt
  have Lk1 := k1.later
  have Fk1 := k1.laterF
  have Qk1 := k1.lt
  have Lk2 := k2.later
  have Fk2 := k2.laterF
  have Qk2 := k2.lt
  have Lk3 := k3.later
  have Fk3 := k3.laterF
  have Qk3 := k3.lt
  cases ho : g.ordered
  · rw [ho] at hca
    have hX := Lib.hid (f1.out ho)
    go_wp2_with ((go_at_call 83; (with_reducible refine (hca.out _).mono ?_); rintro e w3 ⟨rfl, hb3⟩; replace hb3 := bl_tt hb3))
    apply absPB4 (w0 := w) (g0 := w.heap.size) (g1 := w.heap.size + 1) (g2 := w.heap.size + 2) (g3 := w.heap.size + 3)
    iterate 5 (focus exact zL)
    try clear hb3
    try clear Lk0
    try clear Fk0
    try clear Qk0
    try clear Lk1
    try clear Fk1
    try clear Qk1
    try clear Lk2
    try clear Fk2
    try clear Qk2
    try clear Lk3
    try clear Fk3
    try clear Qk3
    try clear hb0
    try clear k0
    try clear k1
    try clear k2
    try clear k3
    intro wf hb0 k0 k1 k2 k3
    (try simp only [List.setIfInBounds_toArray, List.set_cons_zero, List.set_cons_succ] at k0 k1 k2 k3)
    have hr := k3.cell
    refine bodyPost_ret (v := .tuple #[vBx bx0, .int .i64 12]) (by simp [results, Tryz.results58, go_sem, hr, bx0]) rfl ⟨bx0, by rw [hX.out], hb0, fun h => by rw [hX.out] at h; cases h⟩
  · rw [ho] at hca
    replace hcs := Lib.hid (hcs.out ho)
    replace hps := hps.out ho
    by_cases hz : g.size ≤ 20000
    · have hz' : Hid (unl (decide (g.size ≤ 20000)) 8 = 0) := by simp [unl, hz]; exact Lib.hid trivial
      rw [hz'.out] at hcs
      replace hcv := Lib.hid (hcv.out ho hz)
      have hvk : vk ≤ 20000 := by omega
      have hX := Lib.hid (f3.out ho hz)
      go_upto_region 4 with ((go_at_call 83; (with_reducible refine (hca.out _).mono ?_); rintro e w3 ⟨rfl, hb3⟩; replace hb3 := bl_tt hb3))
      apply absB4 (w0 := w) (g0 := w.heap.size) (g1 := w.heap.size + 1) (g2 := w.heap.size + 2) (g3 := w.heap.size + 3)
      iterate 5 (focus exact zL)
      try clear hb3
      try clear hb0
      try clear k0
      try clear k1
      try clear k2
      try clear k3
      intro wb hb0 k0 k1 k2 k3
      (try simp only [List.setIfInBounds_toArray, List.set_cons_zero, List.set_cons_succ] at k0 k1 k2 k3)
      have Lk0 := k0.later
      have Fk0 := k0.laterF
      have Qk0 := k0.lt
      have Lk1 := k1.later
      have Fk1 := k1.laterF
      have Qk1 := k1.lt
      have Lk2 := k2.later
      have Fk2 := k2.laterF
      have Qk2 := k2.lt
      have Lk3 := k3.later
      have Fk3 := k3.laterF
      have Qk3 := k3.lt
      go_upto_region 7 with ((go_at_call 86; (with_reducible refine (hcs.out _).mono ?_); rintro e w3 ⟨rfl, hb3⟩; replace hb3 := bl_tt hb3))
      apply absB4 (w0 := w) (g0 := w.heap.size) (g1 := w.heap.size + 1) (g2 := w.heap.size + 2) (g3 := w.heap.size + 3)
      iterate 5 (focus exact zL)
      try clear hb3
      try clear Lk0
      try clear Fk0
      try clear Qk0
      try clear Lk1
      try clear Fk1
      try clear Qk1
      try clear Lk2
      try clear Fk2
      try clear Qk2
      try clear Lk3
      try clear Fk3
      try clear Qk3
      try clear hb0
      try clear k0
      try clear k1
      try clear k2
      try clear k3
      intro wc hb0 k0 k1 k2 k3
      (try simp only [List.setIfInBounds_toArray, List.set_cons_zero, List.set_cons_succ] at k0 k1 k2 k3)
      have Lk0 := k0.later
      have Fk0 := k0.laterF
      have Qk0 := k0.lt
      have Lk1 := k1.later
      have Fk1 := k1.laterF
      have Qk1 := k1.lt
      have Lk2 := k2.later
      have Fk2 := k2.laterF
      have Qk2 := k2.lt
      have Lk3 := k3.later
      have Fk3 := k3.laterF
      have Qk3 := k3.lt
      go_upto_region 8 with (go_at_call 90; (with_reducible refine (hcv.out _ (bl_tr hb0 (by (exact zE)))).mono ?_); rintro e w3 ⟨rfl, hb3⟩; replace hb3 := bl_tt hb3)
      apply absB4 (w0 := w) (g0 := w.heap.size) (g1 := w.heap.size + 1) (g2 := w.heap.size + 2) (g3 := w.heap.size + 3)
      iterate 5 (focus exact zL)
      try clear hb3
      try clear Lk0
      try clear Fk0
      try clear Qk0
      try clear Lk1
      try clear Fk1
      try clear Qk1
      try clear Lk2
      try clear Fk2
      try clear Qk2
      try clear Lk3
      try clear Fk3
      try clear Qk3
      try clear hb0
      try clear k0
      try clear k1
      try clear k2
      try clear k3
      intro wd hb0 k0 k1 k2 k3
      (try simp only [List.setIfInBounds_toArray, List.set_cons_zero, List.set_cons_succ] at k0 k1 k2 k3)
      have Lk0 := k0.later
      have Fk0 := k0.laterF
      have Qk0 := k0.lt
      have Lk1 := k1.later
      have Fk1 := k1.laterF
      have Qk1 := k1.lt
      have Lk2 := k2.later
      have Fk2 := k2.laterF
      have Qk2 := k2.lt
      have Lk3 := k3.later
      have Fk3 := k3.laterF
      have Qk3 := k3.lt
      refine wp_any (w0 := wd) ⟨[4, 5], [], [some 36, some 37, some 38, some 39, none, none], [[], [], [1], [1, 2], [0, 1, 2, 3], [0, 1, 2, 3, 4]], [[], [], [1], [2], [], []]⟩ (fun _ => [w.heap.size + 3]) (by kernel_rfl) (by kernel_rfl) (by (exact zE)) (fun u => by simp only [putD, Act.put, List.setIfInBounds_toArray, List.set_cons_zero, List.set_cons_succ, Nat.zero_add, Nat.reduceAdd]; rfl) ?_
      apply RGW.on (i := 0) rfl
      · exact zG
      · intro γ u W hcur hd
        clear hd
        (try dsimp only)
        exact ⟨rfl, zS⟩
      · exact zC
      · rfl
      dsimp only [nA, cA]
      apply RGW.on (i := 1) rfl
      · exact zG
      · intro γ u W hcur hd
        clear hd
        (try dsimp only)
        exact ⟨rfl, zS⟩
      · exact zC
      · rfl
      dsimp only [nA, cA]
      apply RGW.on (i := 2) rfl
      · exact zG
      · intro γ u W hcur hd
        obtain ⟨⟨h1, -, -⟩, -⟩ := hd
        dsimp only at h1
        (try simp only [h1])
        exact ⟨rfl, zS⟩
      · exact zC
      · rfl
      dsimp only [nA, cA]
      apply RGW.call (i := 3) rfl
      · exact zG
      · intro γ u W hcur hd
        obtain ⟨⟨h2, -, -⟩, -⟩ := hd
        dsimp only at h2
        (try simp only [h2])
        refine ⟨rfl, fun K hK => ?_⟩
        go_simp
        (go_at_call 49; (with_reducible refine (c_unless _ _ _).mono ?_); rintro e w3 ⟨rfl, rfl⟩)
        (try dsimp only)
        exact hK.out _ _ rfl (by (exact zE))
      · exact zC
      · rfl
      dsimp only [nA, cA]
      refine RGW.skip (i := 4) rfl rfl ?_
      dsimp only [nA, cA]
      refine RGW.skip (i := 5) rfl rfl ?_
      dsimp only [nA, cA]
      refine RGW.fin (fun γ u we hwe hd hdis => ?_)
      obtain ⟨⟨h0, -, -⟩, ⟨h1, -, -⟩, ⟨h2, -, -⟩, ⟨h3, -, -⟩, -⟩ := hd
      dsimp only at h0 h1 h2 h3
      clear hdis
      simp only [h0, h1, h2, h3]
      clear h3 h2 h1 h0
      clear u
      simp only [List.map_cons, List.map_nil]
      apply PlanW.step
      · exact zG
      · rfl
      intro K hK
      refine wp_store_keep (X := [w.heap.size + 3]) (w0 := we) rfl rfl rfl (by with_reducible first | exact bx_refl _ _ | assumption) (by with_reducible first | assumption | (apply Blk.below (hb := hwe); assumption)) (by simp) (by kernel_rfl) (by rfl) (by simp [Value.oneCell']) (fun hres1 hcur => ?_)
      refine hK.out _ _ hcur (fun _ => ?_)
      clear hK K
      try simp only [Act.put, List.setIfInBounds_toArray, List.set_cons_zero, List.set_cons_succ]
      apply PlanW.step
      · exact zG
      · rfl
      intro K hK
      go_simp
      refine hK.out _ _ (by (exact zX)) (fun hcur => ?_)
      clear hK K
      try simp only [Act.put, List.setIfInBounds_toArray, List.set_cons_zero, List.set_cons_succ]
      refine PlanW.done ?_
      have hb3 := bl_tt hwe
      go_wp2
      apply absPB4 (w0 := w) (g0 := w.heap.size) (g1 := w.heap.size + 1) (g2 := w.heap.size + 2) (g3 := w.heap.size + 3)
      iterate 5 (focus exact zL)
      try clear hb3
      try clear Lk0
      try clear Fk0
      try clear Qk0
      try clear Lk1
      try clear Fk1
      try clear Qk1
      try clear Lk2
      try clear Fk2
      try clear Qk2
      try clear Lk3
      try clear Fk3
      try clear Qk3
      try clear hb0
      try clear k0
      try clear k1
      try clear k2
      try clear k3
      intro wf hb0 k0 k1 k2 k3
      (try simp only [List.setIfInBounds_toArray, List.set_cons_zero, List.set_cons_succ] at k0 k1 k2 k3)
      have hr := k3.cell
      refine bodyPost_ret (v := .tuple #[vBx vb, .int .i64 (unl (decide ((0 : Int) < vk)) 12)]) (by simp [results, Tryz.results58, go_sem, hr]) rfl ⟨vb, ?_, hb0, fun _ => rfl⟩
      rw [hX.out]
      by_cases h : vk = 0
      · subst h
        rfl
      · rw [if_neg h, unl, if_pos (by simp; omega)]
    · have hz' : Hid (unl (decide (g.size ≤ 20000)) 8 = 8) := by simp [unl, hz]; exact Lib.hid trivial
      rw [hz'.out] at hcs
      have hX := Lib.hid (f2.out ho hz)
      go_upto_region 4 with ((go_at_call 83; (with_reducible refine (hca.out _).mono ?_); rintro e w3 ⟨rfl, hb3⟩; replace hb3 := bl_tt hb3))
      apply absB4 (w0 := w) (g0 := w.heap.size) (g1 := w.heap.size + 1) (g2 := w.heap.size + 2) (g3 := w.heap.size + 3)
      iterate 5 (focus exact zL)
      try clear hb3
      try clear hb0
      try clear k0
      try clear k1
      try clear k2
      try clear k3
      intro wb hb0 k0 k1 k2 k3
      (try simp only [List.setIfInBounds_toArray, List.set_cons_zero, List.set_cons_succ] at k0 k1 k2 k3)
      have Lk0 := k0.later
      have Fk0 := k0.laterF
      have Qk0 := k0.lt
      have Lk1 := k1.later
      have Fk1 := k1.laterF
      have Qk1 := k1.lt
      have Lk2 := k2.later
      have Fk2 := k2.laterF
      have Qk2 := k2.lt
      have Lk3 := k3.later
      have Fk3 := k3.laterF
      have Qk3 := k3.lt
      go_wp2_with ((go_at_call 86; (with_reducible refine (hcs.out _).mono ?_); rintro e w3 ⟨rfl, hb3⟩; replace hb3 := bl_tt hb3))
      apply absPB4 (w0 := w) (g0 := w.heap.size) (g1 := w.heap.size + 1) (g2 := w.heap.size + 2) (g3 := w.heap.size + 3)
      iterate 5 (focus exact zL)
      try clear hb3
      try clear Lk0
      try clear Fk0
      try clear Qk0
      try clear Lk1
      try clear Fk1
      try clear Qk1
      try clear Lk2
      try clear Fk2
      try clear Qk2
      try clear Lk3
      try clear Fk3
      try clear Qk3
      try clear hb0
      try clear k0
      try clear k1
      try clear k2
      try clear k3
      intro wf hb0 k0 k1 k2 k3
      (try simp only [List.setIfInBounds_toArray, List.set_cons_zero, List.set_cons_succ] at k0 k1 k2 k3)
      have hr := k3.cell
      refine bodyPost_ret (v := .tuple #[vBx bx0, .int .i64 8]) (by simp [results, Tryz.results58, go_sem, hr, bx0]) rfl ⟨bx0, by rw [hX.out], hb0, fun h => by rw [hX.out] at h; cases h⟩
def afterE (n : Nt) (b : Bx) (s : St) : Int := fstE [boxErr n b, mvErr s.mv, voteE n s.vt]
theorem after_ok {n : Nt} {b : Bx} {s : St} (h : afterE n b s = 0) : boxErr n b = 0 ∧ mvErr s.mv = 0 ∧ s.vt.rs.length ≤ 8 ∧ ∀ r ∈ s.vt.rs, r.ok n.bs := by
  unfold afterE voteE at h
  simp only [fst_cons] at h
  obtain ⟨h1, h2, ⟨h3, -⟩, -⟩ := h
  obtain ⟨-, h5, h6⟩ := reads_ok h3
  exact ⟨h1, h2, h5, h6⟩
end Go.Proofs.YtephimmamkafoaaGreat
namespace Go.Proofs.YtephimmamkafoaaGreat
open Go.ChangeShapes Go.WideShapes Go.ChangeAt Go.RowKit Go.Deep
set_option maxRecDepth 20000
section
variable {H : Type} {enc : TypeId × Value → H} {w : World} {base : Nat} {spare : Nat → Bool} {held : Bool} {fuel : Nat} {cs : List Value} {y : DataW H × List MemPlace}
theorem cSt9 : Tryz.prog.cellsOf 49 = 9 := by kernel_rfl
theorem len9 {α : Type} {l : List α} (h : l.length = 9) : ∃ a b c d e f g i j, l = [a, b, c, d, e, f, g, i, j] := by
  match l, h with
  | [a, b, c, d, e, f, g, i, j], _ => exact ⟨a, b, c, d, e, f, g, i, j, rfl⟩
theorem rd_St (h : DataW.trod enc Tryz.prog w base spare held fuel 49 cs = some y) : ∃ x : StA, cs = cSp x ∧ Sl cRd 4 w x.A x.s.vt.rs := by
  obtain ⟨xs, n, -, -, hl, hlen, hf⟩ := DataW.trod_struct Tryz.underlying49 h
  rw [cSt9] at hl
  obtain ⟨c0, c1, c2, c3, c4, c5, c6, c7, c8, rfl⟩ := len9 hl
  obtain ⟨x0, x1, rfl⟩ := len2 (show xs.length = 2 from hlen)
  have h0 := hf 0 _ rfl
  have h1 := hf 1 _ rfl
  simp [cMv7, cVt2] at h0 h1
  obtain ⟨m, e0⟩ := rd_Mv h0
  obtain ⟨v, A, c, e1, g⟩ := rd_Vt h1
  simp at e0 e1
  exact ⟨⟨⟨m, v⟩, A, c⟩, by rw [cSp, e0.1, e0.2.1, e0.2.2.1, e0.2.2.2.1, e0.2.2.2.2.1, e0.2.2.2.2.2.1, e0.2.2.2.2.2.2, e1.1, e1.2], g⟩
theorem rd_Sts (h : DataW.trod enc Tryz.prog w base spare held fuel 29 cs = some y) :
    ∃ (A : Option Addr) (c : Nat) (l : List StA), cs = [.slice A l.length c] ∧ l.length ≤ c ∧ c ≤ maxLen ∧ StsIn l A w := by
  obtain ⟨A, c, l, e1, h1, h2, g2, g3⟩ := rd_slice (c := cSp) (ok := fun x : StA => Sl cRd 4 w x.A x.s.vt.rs) Tryz.underlying29 cSt9 (by decide) (fun _ => rfl) (fun _ _ _ hz => rd_St hz) h
  exact ⟨A, c, l, e1, h1, h2, g2, g3⟩
end
end Go.Proofs.YtephimmamkafoaaGreat
namespace Go.Proofs.YtephimmamkafoaaGreat
open Go.RowKit Go.Shelf
attribute [local go_sem] bl_al bl_drew bl_drewN bl_refl bx_al bx_drew bx_drewN bx_refl
set_option maxRecDepth 20000
theorem infoSt : (Tryz.prog.info? 49).map (fun i => (i.zero, i.size, i.bytes)) = some (some (.agg #[.int .i64 0, .int .i64 0, .int .i64 0, .int .i64 0, .int .i64 0, .int .i64 0, .int .i64 0, .slice none 0 0, .int .i64 0]), 9, 88) := by kernel_rfl
set_option maxHeartbeats 4000000 in
theorem r_CopyVote2 (v : Vt) (A : Option Addr) (c : Nat) (w : World) (hl : Sl cRd 4 w A v.rs) (hll : v.rs.length ≤ 1000) :
    Calls Tryz.prog 60 #[vVt A v.rs.length c v.wrong] w (fun x w' => ∃ A2 c2, x = .returned (vVt A2 v.rs.length c2 v.wrong) ∧ Below w.heap.size w w' ∧ w'.ownsRow w.heap.size 87 4 (.slice A2 v.rs.length c2) v.rs.length (v.rs.flatMap cRd)) := by
  have hcr := Lib.hid fun (W : World) (hb : Below w.heap.size w W) => r_CopyReadings v.rs A c W (hl.below hb) hll
  clear hl
  go_enter Tryz.func60, Tryz.ntmps60
  go_wp2
  apply absB2 (w0 := w) (g0 := w.heap.size) (g1 := w.heap.size + 1)
  iterate 3 (focus exact zL)
  try clear hb3
  try clear hb0
  try clear k0
  try clear k1
  intro wa hb0 k0 k1
  (try simp only [List.setIfInBounds_toArray, List.set_cons_zero, List.set_cons_succ] at k0 k1)
  have Lk0 := k0.later
  have Fk0 := k0.laterF
  have Qk0 := k0.lt
  have Lk1 := k1.later
  have Fk1 := k1.laterF
  have Qk1 := k1.lt
  refine wp_any (w0 := wa) ⟨[6], [], [some 3, some 4, some 5, some 6, some 7, some 8, none], [[], [0], [0, 1], [], [3], [0, 1, 2, 3, 4], [0, 1, 2, 3, 4, 5]], [[], [0], [1], [], [3], [2, 4], []]⟩ (fun _ => [w.heap.size + 1]) (by kernel_rfl) (by kernel_rfl) (by (exact zE)) (fun u => by simp only [putD, Act.put, List.setIfInBounds_toArray, List.set_cons_zero, List.set_cons_succ, Nat.zero_add, Nat.reduceAdd]; rfl) ?_
  apply RGW.on (i := 0) rfl
  · exact zG
  · intro γ u W hcur hd
    clear hd
    (try dsimp only)
    exact ⟨rfl, zS⟩
  · exact zC
  · rfl
  dsimp only [nA, cA]
  apply RGW.on (i := 1) rfl
  · exact zG
  · intro γ u W hcur hd
    obtain ⟨⟨h0, -, -⟩, -⟩ := hd
    dsimp only at h0
    (try simp only [h0])
    exact ⟨rfl, zS⟩
  · exact zC
  · rfl
  dsimp only [nA, cA]
  apply RGW.gh (⟨fun γ => .slice (γ 2).A v.rs.length (γ 2).c, fun γ W => W.ownsRow (w.heap.size + 2) 87 4 (.slice (γ 2).A v.rs.length (γ 2).c) v.rs.length (v.rs.flatMap cRd), fun _ => []⟩) (i := 2) rfl
  · exact zG
  · intro γ u W hcur hd
    obtain ⟨⟨h1, -, -⟩, -⟩ := hd
    dsimp only at h1
    (try simp only [h1])
    refine ⟨rfl, fun K hK => ?_⟩
    go_simp
    (go_at_call 98; (with_reducible refine (hcr.out _ (bl_tr hb0 (by (exact zE)))).mono ?_); rintro e w3 ⟨Ax, cx, rfl, hb3, hox⟩; dsimp only; exact hK.out ⟨0, undef, Ax, cx⟩ _ _ (by simp [up]) hb3 (by simpa [up] using own_mono (Nat.le_trans Qk1 hcur.size) hox) (by simp))
  · intro γ γ' hg
    try dsimp only
    have e2 := hg 2 (by decide)
    simp only [e2]
    try exact ⟨trivial, fun _ h => h⟩
  · intro γ W W' hbl hR
    first | exact hR.below hbl | exact own_below hR hbl | exact trivial | exact ⟨hR.1.below hbl, hR.2⟩
  · rfl
  dsimp only [nA, cA]
  apply RGW.on (i := 3) rfl
  · exact zG
  · intro γ u W hcur hd
    clear hd
    (try dsimp only)
    exact ⟨rfl, zS⟩
  · exact zC
  · rfl
  dsimp only [nA, cA]
  apply RGW.on (i := 4) rfl
  · exact zG
  · intro γ u W hcur hd
    obtain ⟨⟨h3, -, -⟩, -⟩ := hd
    dsimp only at h3
    (try simp only [h3])
    exact ⟨rfl, zS⟩
  · exact zC
  · rfl
  dsimp only [nA, cA]
  apply RGW.on (i := 5) rfl
  · exact zG
  · intro γ u W hcur hd
    obtain ⟨⟨h2, r2, -⟩, ⟨h4, -, -⟩, -⟩ := hd
    dsimp only at h2 h4 r2
    (try simp only [h2, h4])
    exact ⟨rfl, zS⟩
  · intro γ γ' hg
    try dsimp only
    have e2 := hg 2 (by decide)
    simp only [e2]
  · rfl
  dsimp only [nA, cA]
  refine RGW.skip (i := 6) rfl rfl ?_
  dsimp only [nA, cA]
  refine RGW.fin (fun γ u wb hwb hd hdis => ?_)
  obtain ⟨⟨h0, -, -⟩, ⟨h1, -, -⟩, ⟨h2, r2, b2⟩, ⟨h3, -, -⟩, ⟨h4, -, -⟩, ⟨h5, -, -⟩, -⟩ := hd
  dsimp only at h0 h1 h2 h3 h4 h5 r2 b2
  clear hdis
  simp only [h0, h1, h2, h3, h4, h5]
  clear h5 h4 h3 h2 h1 h0
  clear u
  simp only [List.map_cons, List.map_nil]
  apply PlanW.step
  · exact zG
  · rfl
  intro K hK
  refine wp_store_keep (X := [w.heap.size + 1]) (w0 := wb) rfl rfl rfl (by with_reducible first | exact bx_refl _ _ | assumption) (by with_reducible first | assumption | (apply Blk.below (hb := hwb); assumption)) (by simp) (by kernel_rfl) (by rfl) (by simp [Value.oneCell']) (fun hres1 hcur => ?_)
  refine hK.out _ _ hcur (fun _ => ?_)
  clear hK K
  try simp only [Act.put, List.setIfInBounds_toArray, List.set_cons_zero, List.set_cons_succ]
  refine PlanW.done ?_
  have hb3 := bl_tt hwb
  have hox := Lib.hid r2
  clear r2
  generalize (γ 2).A = A2 at *
  generalize (γ 2).c = c2 at *
  have hb1 := hb3 _ hb0
  go_wp2
  have hr := hres1.cell
  have hbe := bx_below hb1 hcur (by simp)
  refine bodyPost_ret (v := vVt A2 v.rs.length c2 v.wrong) (by simp [results, Tryz.results60, go_sem, hr]) rfl ⟨A2, c2, rfl, hbe, ?_⟩
  exact own_mono (by omega) (own_bx hox.out hcur (by simp))
set_option maxHeartbeats 4000000 in
theorem r_CopyStep (s : St) (A : Option Addr) (c : Nat) (w : World) (hl : Sl cRd 4 w A s.vt.rs) (hll : s.vt.rs.length ≤ 1000) :
    Calls Tryz.prog 15 #[vSt s A c] w (fun x w' => ∃ A2 c2, x = .returned (vSt s A2 c2) ∧ Below w.heap.size w w' ∧ w'.ownsRow w.heap.size 87 4 (.slice A2 s.vt.rs.length c2) s.vt.rs.length (s.vt.rs.flatMap cRd)) := by
  have hcr := Lib.hid fun (W : World) (hb : Below w.heap.size w W) => r_CopyVote2 s.vt A c W (hl.below hb) hll
  clear hl
  go_enter Tryz.func15, Tryz.ntmps15
  go_wp2
  apply absB2 (w0 := w) (g0 := w.heap.size) (g1 := w.heap.size + 1)
  iterate 3 (focus exact zL)
  try clear hb3
  try clear hb0
  try clear k0
  try clear k1
  intro wa hb0 k0 k1
  (try simp only [List.setIfInBounds_toArray, List.set_cons_zero, List.set_cons_succ] at k0 k1)
  have Lk0 := k0.later
  have Fk0 := k0.laterF
  have Qk0 := k0.lt
  have Lk1 := k1.later
  have Fk1 := k1.laterF
  have Qk1 := k1.lt
  refine wp_any (w0 := wa) ⟨[6], [], [some 3, some 4, some 5, some 6, some 7, some 8, none], [[], [0], [], [2], [2, 3], [0, 1, 2, 3, 4], [0, 1, 2, 3, 4, 5]], [[], [0], [], [2], [3], [1, 4], []]⟩ (fun _ => [w.heap.size + 1]) (by kernel_rfl) (by kernel_rfl) (by (exact zE)) (fun u => by simp only [putD, Act.put, List.setIfInBounds_toArray, List.set_cons_zero, List.set_cons_succ, Nat.zero_add, Nat.reduceAdd]; rfl) ?_
  apply RGW.on (i := 0) rfl
  · exact zG
  · intro γ u W hcur hd
    clear hd
    (try dsimp only)
    exact ⟨rfl, zS⟩
  · exact zC
  · rfl
  dsimp only [nA, cA]
  apply RGW.on (i := 1) rfl
  · exact zG
  · intro γ u W hcur hd
    obtain ⟨⟨h0, -, -⟩, -⟩ := hd
    dsimp only at h0
    (try simp only [h0])
    exact ⟨rfl, zS⟩
  · exact zC
  · rfl
  dsimp only [nA, cA]
  apply RGW.on (i := 2) rfl
  · exact zG
  · intro γ u W hcur hd
    clear hd
    (try dsimp only)
    exact ⟨rfl, zS⟩
  · exact zC
  · rfl
  dsimp only [nA, cA]
  apply RGW.on (i := 3) rfl
  · exact zG
  · intro γ u W hcur hd
    obtain ⟨⟨h2, -, -⟩, -⟩ := hd
    dsimp only at h2
    (try simp only [h2])
    exact ⟨rfl, zS⟩
  · exact zC
  · rfl
  dsimp only [nA, cA]
  apply RGW.gh (⟨fun γ => vVt (γ 4).A s.vt.rs.length (γ 4).c s.vt.wrong, fun γ W => W.ownsRow (w.heap.size + 2) 87 4 (.slice (γ 4).A s.vt.rs.length (γ 4).c) s.vt.rs.length (s.vt.rs.flatMap cRd), fun _ => []⟩) (i := 4) rfl
  · exact zG
  · intro γ u W hcur hd
    obtain ⟨⟨h3, -, -⟩, -⟩ := hd
    dsimp only at h3
    (try simp only [h3])
    refine ⟨rfl, fun K hK => ?_⟩
    go_simp
    (go_at_call 60; (with_reducible refine (hcr.out _ (bl_tr hb0 (by (exact zE)))).mono ?_); rintro e w3 ⟨Ax, cx, rfl, hb3, hox⟩; dsimp only; exact hK.out ⟨0, undef, Ax, cx⟩ _ _ (by simp [up]) hb3 (by simpa [up] using own_mono (Nat.le_trans Qk1 hcur.size) hox) (by simp))
  · intro γ γ' hg
    try dsimp only
    have e4 := hg 4 (by decide)
    simp only [e4]
    try exact ⟨trivial, fun _ h => h⟩
  · intro γ W W' hbl hR
    first | exact hR.below hbl | exact own_below hR hbl | exact trivial | exact ⟨hR.1.below hbl, hR.2⟩
  · rfl
  dsimp only [nA, cA]
  apply RGW.on (i := 5) rfl
  · exact zG
  · intro γ u W hcur hd
    obtain ⟨⟨h1, -, -⟩, ⟨h4, r4, -⟩, -⟩ := hd
    dsimp only at h1 h4 r4
    (try simp only [h1, h4])
    exact ⟨rfl, zS⟩
  · intro γ γ' hg
    try dsimp only
    have e4 := hg 4 (by decide)
    simp only [e4]
  · rfl
  dsimp only [nA, cA]
  refine RGW.skip (i := 6) rfl rfl ?_
  dsimp only [nA, cA]
  refine RGW.fin (fun γ u wb hwb hd hdis => ?_)
  obtain ⟨⟨h0, -, -⟩, ⟨h1, -, -⟩, ⟨h2, -, -⟩, ⟨h3, -, -⟩, ⟨h4, r4, b4⟩, ⟨h5, -, -⟩, -⟩ := hd
  dsimp only at h0 h1 h2 h3 h4 h5 r4 b4
  clear hdis
  simp only [h0, h1, h2, h3, h4, h5]
  clear h5 h4 h3 h2 h1 h0
  clear u
  simp only [List.map_cons, List.map_nil]
  apply PlanW.step
  · exact zG
  · rfl
  intro K hK
  refine wp_store_keep (X := [w.heap.size + 1]) (w0 := wb) rfl rfl rfl (by with_reducible first | exact bx_refl _ _ | assumption) (by with_reducible first | assumption | (apply Blk.below (hb := hwb); assumption)) (by simp) (by kernel_rfl) (by rfl) (by simp [Value.oneCell']) (fun hres1 hcur => ?_)
  refine hK.out _ _ hcur (fun _ => ?_)
  clear hK K
  try simp only [Act.put, List.setIfInBounds_toArray, List.set_cons_zero, List.set_cons_succ]
  refine PlanW.done ?_
  have hb3 := bl_tt hwb
  have hox := Lib.hid r4
  clear r4
  generalize (γ 4).A = A2 at *
  generalize (γ 4).c = c2 at *
  have hb1 := hb3 _ hb0
  go_wp2
  have hr := hres1.cell
  have hbe := bx_below hb1 hcur (by simp)
  refine bodyPost_ret (v := vSt s A2 c2) (by simp [results, Tryz.results15, go_sem, hr]) rfl ⟨A2, c2, rfl, hbe, ?_⟩
  exact own_mono (by omega) (own_bx hox.out hcur (by simp))
/-- A step whose readings lie in a row of the call's own. -/
def RdOwn (x : StA) (W : World) : Prop := ∃ b, W.ownsRow b 87 4 (.slice x.A x.s.vt.rs.length x.c) x.s.vt.rs.length (x.s.vt.rs.flatMap cRd)
theorem RdOwn.sl {x : StA} {W : World} (h : RdOwn x W) : Sl cRd 4 W x.A x.s.vt.rs := by
  obtain ⟨b, h⟩ := h
  exact own_slC (cs := cRd) (fun _ => rfl) (by decide) h
theorem RdOwn.below {x : StA} {W W' : World} (h : RdOwn x W) (hb : Below W.heap.size W W') : RdOwn x W' := by
  obtain ⟨b, h⟩ := h
  exact ⟨b, own_below h hb⟩
theorem RdOwn.grown {x : StA} {W W' : World} {b n : Nat} {v : Value} {xs : List Value} (h : RdOwn x W) (ho : W.ownsRow b 49 9 v n xs) (hg : W.grownBy W' v.ownBlock) : RdOwn x W' := by
  obtain ⟨b', h⟩ := h
  refine ⟨b', h.1, ?_⟩
  rcases h.2 with h2 | ⟨g, cap, cur, e1, e2, e3, e4⟩
  · exact .inl h2
  · refine .inr ⟨g, cap, cur, e1, e2, (hg.block g (Array.getElem?_eq_some_iff.1 e3).1 fun e => ?_).trans e3, e4⟩
    rcases ho.2 with ⟨h3, -⟩ | ⟨g', cap', cur', d1, -, d3, -⟩
    · rw [h3] at e
      simp [Value.ownBlock] at e
    · rw [d1] at e
      simp [Value.ownBlock] at e
      subst e
      rw [e3] at d3
      simp at d3
set_option maxHeartbeats 8000000 in
theorem r_CopySteps (l : List StA) (A : Option Addr) (c : Nat) (w : World) (hl : StsIn l A w) (hll : few1 l) :
    Calls Tryz.prog 11 #[.slice A l.length c] w (fun x w' => ∃ (l2 : List StA) (A2 : Option Addr) (c2 : Nat), x = .returned (.slice A2 l.length c2) ∧ l2.map (·.s) = l.map (·.s) ∧ Below w.heap.size w w' ∧ StsIn l2 A2 w') := by
  obtain ⟨i0, hi0, hz0, hz1, hz2⟩ := info_parts infoSt
  have hcp := Lib.hid fun (W : World) (hb : Below w.heap.size w W) (x : StA) (hx : x ∈ l) => r_CopyStep x.s x.A x.c W ((hl.rd x hx).below hb) (hll.2 x hx)
  have Hl := Lib.hid hl
  have hl1 := hll.1
  clear hl hll
  obtain ⟨ll, Hn⟩ : ∃ k, Hid (l.length = k) := ⟨_, rfl⟩
  rw [Hn.out] at hl1 ⊢
  go_enter Tryz.func11, Tryz.ntmps11
  go_wp2
  go_loopw [3, 4] (fun v i wr => ∃ (k : Nat) (l2 : List StA), k ≤ ll ∧ i = .int .i64 k ∧ l2.map (·.s) = (l.take k).map (·.s) ∧ Below w.heap.size w wr ∧ wr.ownsRow w.heap.size 49 9 v k (l2.flatMap cSp) ∧ ∀ x ∈ l2, RdOwn x wr) (fun _ i _ => ll - (intOf i).toNat)
  case atStart => exact ⟨0, [], Nat.zero_le _, rfl, rfl, Below.refl _ _, World.ownsRow_nil _ _ _ _, fun x hx => by cases hx⟩
  case round =>
    obtain ⟨k, l2, hk, rfl, hm2, hb, hown, hrd⟩ := hrel
    replace hm2 := Lib.hid hm2
    replace hown := Lib.hid hown
    replace hrd := Lib.hid hrd
    by_cases hlt : k < ll
    · have hx : l[k]? = some (l[k]'(by rw [Hn.out]; exact hlt)) := List.getElem?_eq_getElem _
      generalize l[k]'(by rw [Hn.out]; exact hlt) = x at hx
      have hm : x ∈ l := List.mem_of_getElem? hx
      obtain ⟨bb, off, hA, hc⟩ := Hl.out.sl k x hx
      have c0 : wr.cell? ⟨bb, off + k * 9, none⟩ = some (.int .i64 x.s.mv.ticks) := kcell hb (hc 0 _ rfl)
      have c1 : wr.cell? ⟨bb, off + k * 9 + 1, none⟩ = some (.int .i64 x.s.mv.speed.x.lo) := kcell hb (hc 1 _ rfl)
      have c2 : wr.cell? ⟨bb, off + k * 9 + 2, none⟩ = some (.int .i64 x.s.mv.speed.x.hi) := kcell hb (hc 2 _ rfl)
      have c3 : wr.cell? ⟨bb, off + k * 9 + 3, none⟩ = some (.int .i64 x.s.mv.speed.y.lo) := kcell hb (hc 3 _ rfl)
      have c4 : wr.cell? ⟨bb, off + k * 9 + 4, none⟩ = some (.int .i64 x.s.mv.speed.y.hi) := kcell hb (hc 4 _ rfl)
      have c5 : wr.cell? ⟨bb, off + k * 9 + 5, none⟩ = some (.int .i64 x.s.mv.speed.z.lo) := kcell hb (hc 5 _ rfl)
      have c6 : wr.cell? ⟨bb, off + k * 9 + 6, none⟩ = some (.int .i64 x.s.mv.speed.z.hi) := kcell hb (hc 6 _ rfl)
      have c7 : wr.cell? ⟨bb, off + k * 9 + 7, none⟩ = some (.slice x.A x.s.vt.rs.length x.c) := kcell hb (hc 7 _ rfl)
      have c8 : wr.cell? ⟨bb, off + k * 9 + 8, none⟩ = some (.int .i64 x.s.vt.wrong) := kcell hb (hc 8 _ rfl)
      clear hc
      subst hA
      have hcp2 := Lib.hid (hcp.out wr hb x hm)
      replace hx := Lib.hid hx
      clear hm
      have hsz := hb.size
      go_wp2_with fail
      with_reducible refine Calls.mono hcp2.out ?_
      rintro e w4 ⟨Ax, cx, rfl, hb4, hox⟩
      have hsz4 := hb4.size
      have hown4 := Lib.hid (own_below hown.out hb4)
      replace hox := Lib.hid hox
      clear c0 c1 c2 c3 c4 c5 c6 c7 c8 hcp2
      go_wp2_with (at_builtin; refine wpList_append_own _ rfl _ _ 29 rfl w.heap.size 49 i0 _ 9 88 Tryz.underlying29 hi0 hz0 hz1 hz2 rfl (by decide) _ _ _ rfl (hown4.out.alloc _) ⟨w4.heap.size, 0, none⟩ 1 1 (cSp ⟨x.s, Ax, cx⟩) rfl rfl ?c1 ?c2 ?c3 ?c4 ?c5 ?_)
      try case c1 =>
        intro j u hj
        have e : (⟨w4.heap.size, 0, none⟩ : Addr).add j = ⟨w4.heap.size, j, none⟩ := by by_cases h : j = 0 <;> simp [Addr.add, h]
        rw [e, (Blk.new w4 _ _).cell j, List.getElem?_toArray]
        exact hj
      try case c2 =>
        intro u hu
        simp [cSp] at hu
        rcases hu with h | h | h | h | h | h | h | h | h <;> subst h <;> rfl
      try case c3 => unfold maxLen; omega
      try case c4 => omega
      try case c5 => simp; omega
      intro v' w1 hown2 hgrow _
      have hb5 : Below w.heap.size w w1 := (bl_al _ (bl_tr hb hb4)).grown hgrow (by simp; omega) (own_ge hown4.out)
      have hrd2 : ∀ y ∈ l2 ++ [⟨x.s, Ax, cx⟩], RdOwn y w1 := fun y hy => by
        have h1 : RdOwn y w4 := by
          rcases List.mem_append.1 hy with h | h
          · exact (hrd.out y h).below hb4
          · rw [List.mem_singleton.1 h]
            exact ⟨_, hox.out⟩
        exact (h1.below (bl_al _ (bl_refl w4))).grown (hown4.out.alloc _) hgrow
      clear hgrow hown hrd hox hown4
      replace hown2 := Lib.hid hown2
      replace hrd2 := Lib.hid hrd2
      go_wp2
      go_roundw
      case rel => exact ⟨k + 1, l2 ++ [⟨x.s, Ax, cx⟩], by omega, by go_num, by rw [List.map_append, hm2.out, List.take_add_one, hx.out]; simp, hb5, by rw [List.flatMap_append]; simpa using hown2.out, hrd2.out⟩
      case measure => simp [intOf]; omega
    · go_wp2
      go_ret
      obtain rfl : k = ll := by omega
      have e2 : l2.map (·.s) = l.map (·.s) := by rw [hm2.out, List.take_of_length_le (by rw [Hn.out]; exact Nat.le_refl _)]
      have e3 : l2.length = k := by
        have := congrArg List.length e2
        rw [List.length_map, List.length_map, Hn.out] at this
        exact this
      have ho := hown.out
      rcases ho.2 with ⟨ev, h0⟩ | ⟨g, cap, cur, ev, h1⟩
      · refine ⟨l2, none, ⟨0, by rw [ev, h0] <;> rfl⟩, e2, hb, ?_, fun y hy => (hrd.out y hy).sl⟩
        have : l2 = [] := List.eq_nil_of_length_eq_zero (by omega)
        rw [this]
        exact Sl.nil
      · refine ⟨l2, some ⟨g, 0, none⟩, ⟨cap, by rw [ev] <;> rfl⟩, e2, hb, ?_, fun y hy => (hrd.out y hy).sl⟩
        rw [ev, ← e3] at ho
        exact own_slC (cs := cSp) (fun _ => rfl) (by decide) ho
end Go.Proofs.YtephimmamkafoaaGreat
