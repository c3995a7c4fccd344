/-
  Walks: whether a box is sized, and the error of one beacon of a net.
  Walk: which nets are valid.
  Walks over the three sides of a box: its size, whether it holds another one.
  Walk: what two boxes have in common.
  Walk: a net opened.
  Walks: whether a position lies in a box, whether there is a beacon with an index.
-/
import Derived.Test.YtephimmamkafoaaGreatU3
import Derived.Test.YtephimmamkafoaaGreatU1
import Derived.Lib.MinMax
set_option linter.unusedSimpArgs false
set_option linter.unusedVariables false
namespace Go.Proofs.YtephimmamkafoaaGreat
open Go.RowKit Go.Shelf
attribute [local go_sem] bl_al bl_drew bl_drewN bl_refl
set_option maxRecDepth 20000

theorem c_sizedB (b : Bx) (l : Int) (w : World) (h1 : -1000000 ≤ l) (h2 : l ≤ 1000000) : Calls Tryz.prog 93 #[vBx b, .int .i64 l] w (Ret (.bool (b.sized l)) w) := by
  have hcall := Lib.hid fun (W : World) (hr : Sl cRg 2 W (some ⟨w.heap.size, 0, none⟩) b.sides) (hl : W.cell? ⟨w.heap.size + 1, 0, none⟩ = some (.int .i64 l)) =>
    c_ContainsFuncR 117 #[.pointer (some ⟨w.heap.size + 1, 0, none⟩)] (fun r => !szd r.lo l || !szd r.hi l) (some ⟨w.heap.size, 0, none⟩) b.sides 3 W (by simp [Bx.sides])
    (enters_of Tryz.func117 (by kernel_rfl) rfl) (fun x _ W' hb => c_szd1 x l _ W' h1 h2 (kcell hb hl)) hr
  go_enter Tryz.func93, Tryz.ntmps93
  go_wp2_with fail
  refine (hcall.out _ (Blk.ranges ((Blk.new w _ _).alloc _)) (by simp [go_sem])).mono ?_
  rintro e w3 ⟨rfl, hb3⟩
  replace hb3 := bl_tt hb3
  go_wp2
  go_ret
  exact ⟨rfl, by solve_by_elim (maxDepth := 60) only [bl_al, bl_drew, bl_drewN, bl_refl, *]⟩

theorem c_nm1 (x : Bc) (nm : ByteArray) (B : Nat) (w : World) (hB : w.cell? ⟨B, 0, none⟩ = some (.string nm)) :
    Calls Tryz.prog 111 #[vBc x, .pointer (some ⟨B, 0, none⟩)] w (Ret (.bool (x.name.toList == nm.toList)) w) := by
  have hB' := later hB
  have hlt := World.block_lt_of_cell? w _ hB
  clear hB
  have hn : B ≠ w.heap.size := Nat.ne_of_lt hlt
  go_enter Tryz.func111, Tryz.ntmps111
  go_wp2
  go_ret
  exact ⟨rfl, by solve_by_elim (maxDepth := 60) only [bl_al, bl_drew, bl_drewN, bl_refl, *]⟩
theorem c_nm2 (x : Int) (w : World) : Calls Tryz.prog 113 #[.int .i64 x] w (Ret (.bool (!szd x 10000)) w) := by
  go_enter Tryz.func113, Tryz.ntmps113
  go_wp2_with (go_at_call 114; (with_reducible refine (c_sized _ _ _ (by omega) (by omega)).mono ?_); rintro e w3 ⟨rfl, rfl⟩)
  go_ret
  exact ⟨rfl, by solve_by_elim (maxDepth := 60) only [bl_al, bl_drew, bl_drewN, bl_refl, *]⟩

set_option maxHeartbeats 1000000 in
theorem c_bcErr (n : Nt) (A : Option Addr) (c : Nat) (B : Nat) (i : Nat) (x : Bc) (w : World) (hi : n.bs[i]? = some x) (hl : n.bs.length ≤ 1000000) (hcap : n.bs.length ≤ c) (hx : x.name.size ≤ maxLen)
    (hc6 : w.cell? ⟨B, 6, none⟩ = some (.slice A n.bs.length c)) (hs : Sl cBc 4 w A n.bs) :
    Calls Tryz.prog 109 #[.int .i64 (i : Nat), vBc x, .pointer (some ⟨B, 0, none⟩)] w (Ret (.int .i64 (bcErr n.bs i x)) w) := by
  have hlt := World.block_lt_of_cell? w _ hc6
  have hc6' := later hc6
  have hn : B ≠ w.heap.size := Nat.ne_of_lt hlt
  have hil : i < n.bs.length := (List.getElem?_eq_some_iff.1 hi).1
  clear hc6
  have Hs := Lib.hid hs
  clear hs
  generalize hnl : n.bs.length = nl at *
  have Hnl := Lib.hid hnl
  clear hnl
  have htake : Hid ((n.bs.take i).length = i) := by rw [List.length_take, Hnl.out]; exact Nat.min_eq_left (by omega)
  have hc1 : Hid (∀ W : World, Below w.heap.size w W → W.cell? ⟨w.heap.size, 0, none⟩ = some (.string x.name) →
      Calls Tryz.prog 110 #[.slice A i c, .func (.func 111) #[] #[.pointer (some ⟨w.heap.size, 0, none⟩)]] W (Ret (.bool (known (n.bs.take i) x.name)) W)) := by
    intro W hW hcl
    have := c_ContainsFuncB 111 #[.pointer (some ⟨w.heap.size, 0, none⟩)] (fun o => o.name.toList == x.name.toList) A (n.bs.take i) c W (by rw [htake.out]; omega)
      (enters_of Tryz.func111 (by kernel_rfl) rfl) (fun y _ W' hb => c_nm1 y _ _ W' (kcell hb hcl)) ((Hs.out.below hW).take i)
    rwa [htake.out] at this
  have hc2 : Hid (∀ (g : Nat) (W : World), Blk W g 127 #[.int .i64 x.pl.x, .int .i64 x.pl.y, .int .i64 x.pl.z] →
      Calls Tryz.prog 112 #[.slice (some ⟨g, 0, none⟩) 3 3, .func (.func 113) #[] #[]] W (Ret (.bool (x.pl.co.any fun c => !szd c 10000)) W)) := fun g W hb =>
    c_ContainsFuncI 113 #[] (fun c => !szd c 10000) (some ⟨g, 0, none⟩) x.pl.co 3 W (by simp [Pl.co])
      (enters_of Tryz.func113 (by kernel_rfl) rfl) (fun y _ W' _ => c_nm2 y W') hb.coords
  go_enter Tryz.func109, Tryz.ntmps109
  go_wp2_with fail
  refine (hc1.out _ (bl_al _ (bl_refl _)) (by simp [go_sem])).mono ?_
  rintro e wb ⟨rfl, hb3⟩
  have k0 := ((Blk.new w 142 #[.string x.name, .int .i64 x.pl.x, .int .i64 x.pl.y, .int .i64 x.pl.z]).below hb3).later
  replace hb3 := bl_tt hb3
  go_wp2_with ((go_at_call 71; (with_reducible refine (c_at x.pl _).mono ?_); rintro e w3 ⟨rfl, hb3⟩; replace hb3 := bl_tt hb3; have hcur := hb3 wb (by solve_by_elim (maxDepth := 60) only [bl_al, bl_drew, bl_drewN, bl_refl, *])))
  refine (hc2.out _ _ (Blk.new _ _ _)).mono ?_
  rintro e w4 ⟨rfl, hb4⟩
  replace hb4 := bl_tt hb4
  have hcur := hb4 wb (by solve_by_elim (maxDepth := 60) only [bl_al, bl_drew, bl_drewN, bl_refl, *])
  go_wp2_with (first | (go_at_call 115; (with_reducible refine (c_isName x.name _ hx).mono ?_); rintro e w3 ⟨rfl, hb3⟩; replace hb3 := bl_tt hb3; have hcur := hb3 wb (by solve_by_elim (maxDepth := 60) only [bl_al, bl_drew, bl_drewN, bl_refl, *])) | (go_at_call 49; (with_reducible refine (c_unless _ _ _).mono ?_); rintro e w3 ⟨rfl, rfl⟩) | (go_at_call 48; (with_reducible refine (c_first3 (Blk.new _ _ _)).mono ?_); rintro e w3 ⟨rfl, rfl⟩))
  go_ret
  exact ⟨rfl, by solve_by_elim (maxDepth := 60) only [bl_al, bl_drew, bl_drewN, bl_refl, *]⟩
end Go.Proofs.YtephimmamkafoaaGreat
namespace Go.Proofs.YtephimmamkafoaaGreat
open Go.RowKit Go.Shelf
attribute [local go_sem] bl_al bl_drew bl_drewN bl_refl
set_option maxRecDepth 20000
/-- A net's beacons lie where the header of its slice says; so many at most. -/
structure NtIn (n : Nt) (A : Option Addr) (c : Nat) (w : World) : Prop where
  len : n.bs.length ≤ 1000
  cap : n.bs.length ≤ c
  nm : ∀ b ∈ n.bs, b.name.size ≤ maxLen
  sl : Sl cBc 4 w A n.bs
theorem NtIn.below {n : Nt} {A : Option Addr} {c : Nat} {w w' : World} (h : NtIn n A c w) (hb : Below w.heap.size w w') : NtIn n A c w' := ⟨h.len, h.cap, h.nm, h.sl.below hb⟩
set_option maxHeartbeats 4000000 in
theorem c_CheckNet (n : Nt) (A : Option Addr) (c : Nat) (w : World) (hn : NtIn n A c w) :
    Calls Tryz.prog 92 #[vNt n.world (.slice A n.bs.length c)] w (Ret (.tuple #[.int .i64 (netChk n).1, .int .i64 (netChk n).2]) w) := by
  have Hn := Lib.hid hn
  have hlen := hn.len
  clear hn
  have hev := Lib.hid fun (W : World) (hb : Below w.heap.size w W) (hB : W.cell? ⟨w.heap.size, 6, none⟩ = some (.slice A n.bs.length c)) =>
    c_eachB 109 #[.pointer (some ⟨w.heap.size, 0, none⟩)] (bcErr n.bs) A n.bs c W (by have := Hn.out.len; omega) (enters_of Tryz.func109 (by kernel_rfl) rfl)
      (fun k x hx W' hb' => c_bcErr n A c _ k x W' hx (by have := Hn.out.len; omega) Hn.out.cap (Hn.out.nm x (List.mem_of_getElem? hx)) (kcell hb' hB) ((Hn.out.sl.below hb).below hb'))
      (Hn.out.sl.below hb)
  have hres : Hid ((worldErr n.world n.bs.length = 0 → netChk n = eachS (bcErr n.bs) n.bs 0) ∧ (worldErr n.world n.bs.length ≠ 0 → netChk n = (0, worldErr n.world n.bs.length))) := ⟨fun h => by rw [netChk, if_pos h], fun h => by rw [netChk, if_neg h]⟩
  have hwe : Hid (worldErr n.world n.bs.length = fstE [unl (n.world.sized 10000 && (decide (0 ≤ n.world.z.lo) && decide (0 ≤ n.world.z.hi))) 2, unl n.world.ordered 9, unl (decide ((n.bs.length : Int) ≤ 6)) 8]) := rfl
  generalize n.bs.length = nl at *
  cases hA : n.world.sized 10000
  all_goals cases hB : decide (0 ≤ n.world.z.lo)
  all_goals
    go_enter Tryz.func92, Tryz.ntmps92
    go_wp2_with ((go_at_call 74; (with_reducible refine (c_of n.world _).mono ?_); rintro e w3 ⟨rfl, hb3⟩; replace hb3 := bl_tt hb3))
    have k0 := (Blk.new w 28 (aNt n.world (.slice A nl c))).below (hb3 _ (bl_refl _))
    refine abs1 (fun wb hb k1 => ?_)
    replace hb := bl_tt hb
    have L0 := (k0.below (hb _ (bl_refl _))).later
    have L1 := k1.later
    clear k0 k1
    refine wp_plan [(0, true), (17, true), (20, true), (21, true), (22, true), (23, true), (1, false), (2, true), (3, true), (4, true), (5, true), (6, true), (7, true), (8, true), (9, true), (10, true), (11, true), (12, true), (13, true), (14, true), (15, true), (16, false), (18, false), (19, false), (24, false), (25, false), (26, false), (27, true)] (fun W => Below wb.heap.size wb W) (by kernel_rfl) (by kernel_rfl) (by kernel_rfl) (by solve_by_elim (maxDepth := 60) only [bl_al, bl_drew, bl_drewN, bl_refl, *]) ?_
    apply PlanW.on
    · (simp only [gA, gB, gC] <;> rfl)
    · rfl
    · (intro W hS; (try dsimp only at hS); go_simp <;> with_reducible rfl)
    try simp only [Act.put, List.setIfInBounds_toArray, List.set_cons_zero, List.set_cons_succ]
    apply PlanW.on
    · (simp only [gA, gB, gC] <;> rfl)
    · rfl
    · (intro W hS; (try dsimp only at hS); go_simp <;> with_reducible rfl)
    try simp only [Act.put, List.setIfInBounds_toArray, List.set_cons_zero, List.set_cons_succ]
    apply PlanW.on
    · (simp only [gA, gB, gC] <;> rfl)
    · rfl
    · (intro W hS; (try dsimp only at hS); go_simp <;> with_reducible rfl)
    try simp only [Act.put, List.setIfInBounds_toArray, List.set_cons_zero, List.set_cons_succ]
    apply PlanW.on
    · (simp only [gA, gB, gC] <;> rfl)
    · rfl
    · (intro W hS; (try dsimp only at hS); go_simp <;> with_reducible rfl)
    try simp only [Act.put, List.setIfInBounds_toArray, List.set_cons_zero, List.set_cons_succ]
    apply PlanW.on
    · (simp only [gA, gB, gC] <;> rfl)
    · rfl
    · (intro W hS; (try dsimp only at hS); go_simp <;> with_reducible rfl)
    try simp only [Act.put, List.setIfInBounds_toArray, List.set_cons_zero, List.set_cons_succ]
    apply PlanW.on
    · (simp only [gA, gB, gC] <;> rfl)
    · rfl
    · (intro W hS; (try dsimp only at hS); go_simp <;> with_reducible rfl)
    try simp only [Act.put, List.setIfInBounds_toArray, List.set_cons_zero, List.set_cons_succ]
    apply PlanW.step
    · (simp only [gA, gB, gC] <;> rfl)
    · rfl
    intro K hK
    go_simp
    (first | (go_at_call 93; (with_reducible refine (c_sizedB n.world _ _ (by omega) (by omega)).mono ?_); rintro e w3 ⟨rfl, hb3⟩; replace hb3 := bl_tt hb3) | (go_at_call 49; (with_reducible refine (c_unless _ _ _).mono ?_); rintro e w3 ⟨rfl, rfl⟩) | (go_at_call 94; (with_reducible refine (c_ordered n.world _).mono ?_); rintro e w3 ⟨rfl, hb3⟩; replace hb3 := bl_tt hb3) | (go_at_call 48; (with_reducible refine (c_first3 (Blk.new _ _ _)).mono ?_); rintro e w3 ⟨rfl, rfl⟩))
    (try dsimp only)
    refine hK.out _ _ (by solve_by_elim (maxDepth := 60) only [bl_al, bl_drew, bl_drewN, bl_refl, *]) (fun hcur => ?_)
    clear hK K
    (try dsimp only at hcur)
    try simp only [Act.put, List.setIfInBounds_toArray, List.set_cons_zero, List.set_cons_succ]
    apply PlanW.on
    · (simp only [gA, gB, gC] <;> rfl)
    · rfl
    · (intro W hS; (try dsimp only at hS); go_simp <;> with_reducible rfl)
    try simp only [Act.put, List.setIfInBounds_toArray, List.set_cons_zero, List.set_cons_succ]
    first
    | apply PlanW.on
      · (simp only [gA, gB, gC] <;> rfl)
      · (simp [Region.wanted, yielded]; done)
      · (intro W hS; (try dsimp only at hS); go_simp <;> with_reducible rfl)
    | apply PlanW.off
      · (simp only [gA, gB, gC] <;> rfl)
      · (simp [Region.wanted, yielded]; done)
    try simp only [Act.put, List.setIfInBounds_toArray, List.set_cons_zero, List.set_cons_succ]
    first
    | apply PlanW.on
      · (simp only [gA, gB, gC] <;> rfl)
      · (simp [Region.wanted, yielded]; done)
      · (intro W hS; (try dsimp only at hS); go_simp <;> with_reducible rfl)
    | apply PlanW.off
      · (simp only [gA, gB, gC] <;> rfl)
      · (simp [Region.wanted, yielded]; done)
    try simp only [Act.put, List.setIfInBounds_toArray, List.set_cons_zero, List.set_cons_succ]
    first
    | apply PlanW.on
      · (simp only [gA, gB, gC] <;> rfl)
      · (simp [Region.wanted, yielded]; done)
      · (intro W hS; (try dsimp only at hS); go_simp <;> with_reducible rfl)
    | apply PlanW.off
      · (simp only [gA, gB, gC] <;> rfl)
      · (simp [Region.wanted, yielded]; done)
    try simp only [Act.put, List.setIfInBounds_toArray, List.set_cons_zero, List.set_cons_succ]
    first
    | apply PlanW.on
      · (simp only [gA, gB, gC] <;> rfl)
      · (simp [Region.wanted, yielded]; done)
      · (intro W hS; (try dsimp only at hS); go_simp <;> with_reducible rfl)
    | apply PlanW.off
      · (simp only [gA, gB, gC] <;> rfl)
      · (simp [Region.wanted, yielded]; done)
    try simp only [Act.put, List.setIfInBounds_toArray, List.set_cons_zero, List.set_cons_succ]
    first
    | apply PlanW.on
      · (simp only [gA, gB, gC] <;> rfl)
      · (simp [Region.wanted, yielded]; done)
      · (intro W hS; (try dsimp only at hS); go_simp <;> with_reducible rfl)
    | apply PlanW.off
      · (simp only [gA, gB, gC] <;> rfl)
      · (simp [Region.wanted, yielded]; done)
    try simp only [Act.put, List.setIfInBounds_toArray, List.set_cons_zero, List.set_cons_succ]
    apply PlanW.on
    · (simp only [gA, gB, gC] <;> rfl)
    · rfl
    · (intro W hS; (try dsimp only at hS); go_simp <;> with_reducible rfl)
    try simp only [Act.put, List.setIfInBounds_toArray, List.set_cons_zero, List.set_cons_succ]
    apply PlanW.on
    · (simp only [gA, gB, gC] <;> rfl)
    · rfl
    · (intro W hS; (try dsimp only at hS); go_simp <;> with_reducible rfl)
    try simp only [Act.put, List.setIfInBounds_toArray, List.set_cons_zero, List.set_cons_succ]
    first
    | apply PlanW.on
      · (simp only [gA, gB, gC] <;> rfl)
      · (simp [Region.wanted, yielded]; done)
      · (intro W hS; (try dsimp only at hS); go_simp <;> with_reducible rfl)
    | apply PlanW.off
      · (simp only [gA, gB, gC] <;> rfl)
      · (simp [Region.wanted, yielded]; done)
    try simp only [Act.put, List.setIfInBounds_toArray, List.set_cons_zero, List.set_cons_succ]
    first
    | apply PlanW.on
      · (simp only [gA, gB, gC] <;> rfl)
      · (simp [Region.wanted, yielded]; done)
      · (intro W hS; (try dsimp only at hS); go_simp <;> with_reducible rfl)
    | apply PlanW.off
      · (simp only [gA, gB, gC] <;> rfl)
      · (simp [Region.wanted, yielded]; done)
    try simp only [Act.put, List.setIfInBounds_toArray, List.set_cons_zero, List.set_cons_succ]
    first
    | apply PlanW.on
      · (simp only [gA, gB, gC] <;> rfl)
      · (simp [Region.wanted, yielded]; done)
      · (intro W hS; (try dsimp only at hS); go_simp <;> with_reducible rfl)
    | apply PlanW.off
      · (simp only [gA, gB, gC] <;> rfl)
      · (simp [Region.wanted, yielded]; done)
    try simp only [Act.put, List.setIfInBounds_toArray, List.set_cons_zero, List.set_cons_succ]
    first
    | apply PlanW.on
      · (simp only [gA, gB, gC] <;> rfl)
      · (simp [Region.wanted, yielded]; done)
      · (intro W hS; (try dsimp only at hS); go_simp <;> with_reducible rfl)
    | apply PlanW.off
      · (simp only [gA, gB, gC] <;> rfl)
      · (simp [Region.wanted, yielded]; done)
    try simp only [Act.put, List.setIfInBounds_toArray, List.set_cons_zero, List.set_cons_succ]
    first
    | apply PlanW.on
      · (simp only [gA, gB, gC] <;> rfl)
      · (simp [Region.wanted, yielded]; done)
      · (intro W hS; (try dsimp only at hS); go_simp <;> with_reducible rfl)
    | apply PlanW.off
      · (simp only [gA, gB, gC] <;> rfl)
      · (simp [Region.wanted, yielded]; done)
    try simp only [Act.put, List.setIfInBounds_toArray, List.set_cons_zero, List.set_cons_succ]
    apply PlanW.on
    · (simp only [gA, gB, gC] <;> rfl)
    · rfl
    · (intro W hS; (try dsimp only at hS); go_simp <;> with_reducible rfl)
    try simp only [Act.put, List.setIfInBounds_toArray, List.set_cons_zero, List.set_cons_succ]
    apply PlanW.step
    · (simp only [gA, gB, gC] <;> rfl)
    · rfl
    intro K hK
    go_simp
    (first | (go_at_call 93; (with_reducible refine (c_sizedB n.world _ _ (by omega) (by omega)).mono ?_); rintro e w3 ⟨rfl, hb3⟩; replace hb3 := bl_tt hb3) | (go_at_call 49; (with_reducible refine (c_unless _ _ _).mono ?_); rintro e w3 ⟨rfl, rfl⟩) | (go_at_call 94; (with_reducible refine (c_ordered n.world _).mono ?_); rintro e w3 ⟨rfl, hb3⟩; replace hb3 := bl_tt hb3) | (go_at_call 48; (with_reducible refine (c_first3 (Blk.new _ _ _)).mono ?_); rintro e w3 ⟨rfl, rfl⟩))
    (try dsimp only)
    refine hK.out _ _ (by solve_by_elim (maxDepth := 60) only [bl_al, bl_drew, bl_drewN, bl_refl, *]) (fun hcur => ?_)
    clear hK K
    (try dsimp only at hcur)
    try simp only [Act.put, List.setIfInBounds_toArray, List.set_cons_zero, List.set_cons_succ]
    apply PlanW.step
    · (simp only [gA, gB, gC] <;> rfl)
    · rfl
    intro K hK
    go_simp
    (first | (go_at_call 93; (with_reducible refine (c_sizedB n.world _ _ (by omega) (by omega)).mono ?_); rintro e w3 ⟨rfl, hb3⟩; replace hb3 := bl_tt hb3) | (go_at_call 49; (with_reducible refine (c_unless _ _ _).mono ?_); rintro e w3 ⟨rfl, rfl⟩) | (go_at_call 94; (with_reducible refine (c_ordered n.world _).mono ?_); rintro e w3 ⟨rfl, hb3⟩; replace hb3 := bl_tt hb3) | (go_at_call 48; (with_reducible refine (c_first3 (Blk.new _ _ _)).mono ?_); rintro e w3 ⟨rfl, rfl⟩))
    (try dsimp only)
    refine hK.out _ _ (by solve_by_elim (maxDepth := 60) only [bl_al, bl_drew, bl_drewN, bl_refl, *]) (fun hcur => ?_)
    clear hK K
    (try dsimp only at hcur)
    try simp only [Act.put, List.setIfInBounds_toArray, List.set_cons_zero, List.set_cons_succ]
    apply PlanW.step
    · (simp only [gA, gB, gC] <;> rfl)
    · rfl
    intro K hK
    go_simp
    (first | (go_at_call 93; (with_reducible refine (c_sizedB n.world _ _ (by omega) (by omega)).mono ?_); rintro e w3 ⟨rfl, hb3⟩; replace hb3 := bl_tt hb3) | (go_at_call 49; (with_reducible refine (c_unless _ _ _).mono ?_); rintro e w3 ⟨rfl, rfl⟩) | (go_at_call 94; (with_reducible refine (c_ordered n.world _).mono ?_); rintro e w3 ⟨rfl, hb3⟩; replace hb3 := bl_tt hb3) | (go_at_call 48; (with_reducible refine (c_first3 (Blk.new _ _ _)).mono ?_); rintro e w3 ⟨rfl, rfl⟩))
    (try dsimp only)
    refine hK.out _ _ (by solve_by_elim (maxDepth := 60) only [bl_al, bl_drew, bl_drewN, bl_refl, *]) (fun hcur => ?_)
    clear hK K
    (try dsimp only at hcur)
    try simp only [Act.put, List.setIfInBounds_toArray, List.set_cons_zero, List.set_cons_succ]
    apply PlanW.step
    · (simp only [gA, gB, gC] <;> rfl)
    · rfl
    intro K hK
    go_simp
    (first | (go_at_call 93; (with_reducible refine (c_sizedB n.world _ _ (by omega) (by omega)).mono ?_); rintro e w3 ⟨rfl, hb3⟩; replace hb3 := bl_tt hb3) | (go_at_call 49; (with_reducible refine (c_unless _ _ _).mono ?_); rintro e w3 ⟨rfl, rfl⟩) | (go_at_call 94; (with_reducible refine (c_ordered n.world _).mono ?_); rintro e w3 ⟨rfl, hb3⟩; replace hb3 := bl_tt hb3) | (go_at_call 48; (with_reducible refine (c_first3 (Blk.new _ _ _)).mono ?_); rintro e w3 ⟨rfl, rfl⟩))
    (try dsimp only)
    refine hK.out _ _ (by solve_by_elim (maxDepth := 60) only [bl_al, bl_drew, bl_drewN, bl_refl, *]) (fun hcur => ?_)
    clear hK K
    (try dsimp only at hcur)
    try simp only [Act.put, List.setIfInBounds_toArray, List.set_cons_zero, List.set_cons_succ]
    apply PlanW.step
    · (simp only [gA, gB, gC] <;> rfl)
    · rfl
    intro K hK
    go_simp
    refine hK.out _ _ (by solve_by_elim (maxDepth := 60) only [bl_al, bl_drew, bl_drewN, bl_refl, *]) (fun hcur => ?_)
    clear hK K
    (try dsimp only at hcur)
    try simp only [Act.put, List.setIfInBounds_toArray, List.set_cons_zero, List.set_cons_succ]
    apply PlanW.step
    · (simp only [gA, gB, gC] <;> rfl)
    · rfl
    intro K hK
    go_simp
    (first | (go_at_call 93; (with_reducible refine (c_sizedB n.world _ _ (by omega) (by omega)).mono ?_); rintro e w3 ⟨rfl, hb3⟩; replace hb3 := bl_tt hb3) | (go_at_call 49; (with_reducible refine (c_unless _ _ _).mono ?_); rintro e w3 ⟨rfl, rfl⟩) | (go_at_call 94; (with_reducible refine (c_ordered n.world _).mono ?_); rintro e w3 ⟨rfl, hb3⟩; replace hb3 := bl_tt hb3) | (go_at_call 48; (with_reducible refine (c_first3 (Blk.new _ _ _)).mono ?_); rintro e w3 ⟨rfl, rfl⟩))
    (try dsimp only)
    refine hK.out _ _ (by solve_by_elim (maxDepth := 60) only [bl_al, bl_drew, bl_drewN, bl_refl, *]) (fun hcur => ?_)
    clear hK K
    (try dsimp only at hcur)
    try simp only [Act.put, List.setIfInBounds_toArray, List.set_cons_zero, List.set_cons_succ]
    apply PlanW.on
    · (simp only [gA, gB, gC] <;> rfl)
    · rfl
    · (intro W hS; (try dsimp only at hS); go_simp <;> with_reducible rfl)
    try simp only [Act.put, List.setIfInBounds_toArray, List.set_cons_zero, List.set_cons_succ]
    refine PlanW.done ?_
    rw [hA, hB] at hwe
    simp only [Bool.false_and, Bool.true_and] at hwe
    rw [← hwe.out]
    generalize worldErr n.world nl = we at *
    by_cases h0 : we = 0
    · have h0' : (we != 0) = false := by simp [h0]
      replace h0 := Lib.hid h0
      go_wp2_with fail
      refine Calls.mono (hev.out _ ?_ ?_) ?_
      · solve_by_elim (maxDepth := 60) only [bl_al, bl_drew, bl_drewN, bl_refl, *]
      · exact L0 _ (by solve_by_elim (maxDepth := 60) only [bl_al, bl_drew, bl_drewN, bl_refl, *]) 6
      rintro e w3 ⟨rfl, hb3⟩
      replace hb3 := bl_tt hb3
      go_wp2
      go_ret2
      exact ⟨by rw [hres.out.1 h0.out] <;> rfl, by solve_by_elim (maxDepth := 60) only [bl_al, bl_drew, bl_drewN, bl_refl, *]⟩
    · have h0' : (we != 0) = true := by simp [h0]
      replace h0 := Lib.hid h0
      go_wp2
      go_ret2
      exact ⟨by rw [hres.out.2 h0.out] <;> rfl, by solve_by_elim (maxDepth := 60) only [bl_al, bl_drew, bl_drewN, bl_refl, *]⟩
end Go.Proofs.YtephimmamkafoaaGreat
namespace Go.Proofs.YtephimmamkafoaaGreat
open Go.RowKit Go.Shelf
attribute [local go_sem] bl_al bl_drew bl_drewN bl_refl
set_option maxRecDepth 20000
abbrev z6 : Array Value := #[.int .i64 0, .int .i64 0, .int .i64 0, .int .i64 0, .int .i64 0, .int .i64 0]
theorem index_b0 (a b c d e f : Int) (w : World) : (Instr.index 92 (.agg #[.int .i64 a, .int .i64 b, .int .i64 c, .int .i64 d, .int .i64 e, .int .i64 f]) (.int .i64 0)).run Tryz.prog w = .ok (.agg #[.int .i64 a, .int .i64 b]) w := by kernel_rfl
theorem index_b1 (a b c d e f : Int) (w : World) : (Instr.index 92 (.agg #[.int .i64 a, .int .i64 b, .int .i64 c, .int .i64 d, .int .i64 e, .int .i64 f]) (.int .i64 1)).run Tryz.prog w = .ok (.agg #[.int .i64 c, .int .i64 d]) w := by kernel_rfl
theorem index_b2 (a b c d e f : Int) (w : World) : (Instr.index 92 (.agg #[.int .i64 a, .int .i64 b, .int .i64 c, .int .i64 d, .int .i64 e, .int .i64 f]) (.int .i64 2)).run Tryz.prog w = .ok (.agg #[.int .i64 e, .int .i64 f]) w := by kernel_rfl
theorem index_p0 (a b c : Int) (w : World) : (Instr.index 127 (.agg #[.int .i64 a, .int .i64 b, .int .i64 c]) (.int .i64 0)).run Tryz.prog w = .ok (.int .i64 a) w := by kernel_rfl
theorem index_p1 (a b c : Int) (w : World) : (Instr.index 127 (.agg #[.int .i64 a, .int .i64 b, .int .i64 c]) (.int .i64 1)).run Tryz.prog w = .ok (.int .i64 b) w := by kernel_rfl
theorem index_p2 (a b c : Int) (w : World) : (Instr.index 127 (.agg #[.int .i64 a, .int .i64 b, .int .i64 c]) (.int .i64 2)).run Tryz.prog w = .ok (.int .i64 c) w := by kernel_rfl
attribute [local go_sem] index_b0 index_b1 index_b2 index_p0 index_p1 index_p2
theorem mul_bd {a b m n : Int} (h1 : 0 ≤ a) (h2 : a ≤ m) (h3 : 0 ≤ b) (h4 : b ≤ n) : 0 ≤ a * b ∧ a * b ≤ m * n :=
  ⟨Int.mul_nonneg h1 h3, Int.le_trans (Int.mul_le_mul_of_nonneg_right h2 h3) (Int.mul_le_mul_of_nonneg_left h4 (by omega))⟩
/-- A range that lies in the world. -/
def Rg.ok (r : Rg) : Prop := -10000 ≤ r.lo ∧ r.lo ≤ r.hi ∧ r.hi ≤ 10000
def Bx.ok (b : Bx) : Prop := b.x.ok ∧ b.y.ok ∧ b.z.ok
def Bx.size (a : Bx) : Int := (a.x.hi - a.x.lo + 1) * (a.y.hi - a.y.lo + 1) * (a.z.hi - a.z.lo + 1)
set_option maxHeartbeats 1000000 in
theorem c_size (a : Bx) (w : World) (ha : a.ok) : Calls Tryz.prog 104 #[vBx a] w (Ret (.int .i64 a.size) w) := by
  obtain ⟨⟨x1, x2, x3⟩, ⟨y1, y2, y3⟩, ⟨z1, z2, z3⟩⟩ := ha
  obtain ⟨p1, p2⟩ := mul_bd (a := a.x.hi - a.x.lo + 1) (b := a.y.hi - a.y.lo + 1) (m := 20001) (n := 20001) (by omega) (by omega) (by omega) (by omega)
  obtain ⟨q1, q2⟩ := mul_bd (a := (a.x.hi - a.x.lo + 1) * (a.y.hi - a.y.lo + 1)) (b := a.z.hi - a.z.lo + 1) (m := 400040001) (n := 20001) p1 p2 (by omega) (by omega)
  go_enter Tryz.func104, Tryz.ntmps104
  go_wp2
  refine wp_loop_rounds 4 ?_
  rw [rounds_succ]
  go_wp2
  rw [rounds_succ]
  go_wp2
  rw [rounds_succ]
  go_wp2
  rw [rounds_succ]
  go_wp2
  go_ret
  exact ⟨rfl, by solve_by_elim (maxDepth := 60) only [bl_al, bl_drew, bl_drewN, bl_refl, *]⟩
set_option maxHeartbeats 1000000 in
theorem c_search (a : Bx) (w : World) (ha : a.ok) : Calls Tryz.prog 86 #[vBx a] w (Ret (.int .i64 (unl (decide (a.size ≤ 20000)) 8)) w) := by
  go_enter Tryz.func86, Tryz.ntmps86
  go_wp2_with (first | (go_at_call 104; (with_reducible refine (c_size a _ ha).mono ?_); rintro e w3 ⟨rfl, hb3⟩; replace hb3 := bl_tt hb3) | (go_at_call 49; (with_reducible refine (c_unless _ _ _).mono ?_); rintro e w3 ⟨rfl, rfl⟩))
  go_ret
  exact ⟨rfl, by solve_by_elim (maxDepth := 60) only [bl_al, bl_drew, bl_drewN, bl_refl, *]⟩

set_option maxHeartbeats 2000000 in
theorem c_holds (a o : Bx) (w : World) : Calls Tryz.prog 119 #[vBx a, vBx o] w (Ret (.bool (a.holds o)) w) := by
  by_cases p0 : a.x.lo ≤ o.x.lo
  case neg =>
    have d0 : decide (o.x.lo < a.x.lo) = true := by simp; omega
    go_enter Tryz.func119, Tryz.ntmps119
    go_wp2
    refine wp_loop_rounds 4 ?_
    rw [rounds_succ]
    go_wp2
    go_quiet (fail)
    go_wp2
    go_ret
    exact ⟨by simp [Bx.holds]; omega, by solve_by_elim (maxDepth := 60) only [bl_al, bl_drew, bl_drewN, bl_refl, *]⟩
  have d0 : decide (o.x.lo < a.x.lo) = false := by simp; omega
  by_cases q0 : o.x.hi ≤ a.x.hi
  case neg =>
    have e0 : decide (a.x.hi < o.x.hi) = true := by simp; omega
    go_enter Tryz.func119, Tryz.ntmps119
    go_wp2
    refine wp_loop_rounds 4 ?_
    rw [rounds_succ]
    go_wp2
    go_quiet (fail)
    go_wp2
    go_ret
    exact ⟨by simp [Bx.holds]; omega, by solve_by_elim (maxDepth := 60) only [bl_al, bl_drew, bl_drewN, bl_refl, *]⟩
  have e0 : decide (a.x.hi < o.x.hi) = false := by simp; omega
  by_cases p1 : a.y.lo ≤ o.y.lo
  case neg =>
    have d1 : decide (o.y.lo < a.y.lo) = true := by simp; omega
    go_enter Tryz.func119, Tryz.ntmps119
    go_wp2
    refine wp_loop_rounds 4 ?_
    rw [rounds_succ]
    go_wp2
    go_quiet (fail)
    go_wp2
    rw [rounds_succ]
    go_wp2
    go_quiet (fail)
    go_wp2
    go_ret
    exact ⟨by simp [Bx.holds]; omega, by solve_by_elim (maxDepth := 60) only [bl_al, bl_drew, bl_drewN, bl_refl, *]⟩
  have d1 : decide (o.y.lo < a.y.lo) = false := by simp; omega
  by_cases q1 : o.y.hi ≤ a.y.hi
  case neg =>
    have e1 : decide (a.y.hi < o.y.hi) = true := by simp; omega
    go_enter Tryz.func119, Tryz.ntmps119
    go_wp2
    refine wp_loop_rounds 4 ?_
    rw [rounds_succ]
    go_wp2
    go_quiet (fail)
    go_wp2
    rw [rounds_succ]
    go_wp2
    go_quiet (fail)
    go_wp2
    go_ret
    exact ⟨by simp [Bx.holds]; omega, by solve_by_elim (maxDepth := 60) only [bl_al, bl_drew, bl_drewN, bl_refl, *]⟩
  have e1 : decide (a.y.hi < o.y.hi) = false := by simp; omega
  by_cases p2 : a.z.lo ≤ o.z.lo
  case neg =>
    have d2 : decide (o.z.lo < a.z.lo) = true := by simp; omega
    go_enter Tryz.func119, Tryz.ntmps119
    go_wp2
    refine wp_loop_rounds 4 ?_
    rw [rounds_succ]
    go_wp2
    go_quiet (fail)
    go_wp2
    rw [rounds_succ]
    go_wp2
    go_quiet (fail)
    go_wp2
    rw [rounds_succ]
    go_wp2
    go_quiet (fail)
    go_wp2
    go_ret
    exact ⟨by simp [Bx.holds]; omega, by solve_by_elim (maxDepth := 60) only [bl_al, bl_drew, bl_drewN, bl_refl, *]⟩
  have d2 : decide (o.z.lo < a.z.lo) = false := by simp; omega
  by_cases q2 : o.z.hi ≤ a.z.hi
  case neg =>
    have e2 : decide (a.z.hi < o.z.hi) = true := by simp; omega
    go_enter Tryz.func119, Tryz.ntmps119
    go_wp2
    refine wp_loop_rounds 4 ?_
    rw [rounds_succ]
    go_wp2
    go_quiet (fail)
    go_wp2
    rw [rounds_succ]
    go_wp2
    go_quiet (fail)
    go_wp2
    rw [rounds_succ]
    go_wp2
    go_quiet (fail)
    go_wp2
    go_ret
    exact ⟨by simp [Bx.holds]; omega, by solve_by_elim (maxDepth := 60) only [bl_al, bl_drew, bl_drewN, bl_refl, *]⟩
  have e2 : decide (a.z.hi < o.z.hi) = false := by simp; omega
  go_enter Tryz.func119, Tryz.ntmps119
  go_wp2
  refine wp_loop_rounds 4 ?_
  rw [rounds_succ]
  go_wp2
  go_quiet (fail)
  go_wp2
  rw [rounds_succ]
  go_wp2
  go_quiet (fail)
  go_wp2
  rw [rounds_succ]
  go_wp2
  go_quiet (fail)
  go_wp2
  rw [rounds_succ]
  go_wp2
  go_ret
  exact ⟨by simp [Bx.holds]; omega, by solve_by_elim (maxDepth := 60) only [bl_al, bl_drew, bl_drewN, bl_refl, *]⟩
end Go.Proofs.YtephimmamkafoaaGreat
namespace Go.Proofs.YtephimmamkafoaaGreat
open Go.RowKit Go.Shelf
attribute [local go_sem] bl_al bl_drew bl_drewN bl_refl bx_al bx_drew bx_drewN bx_refl index_b0 index_b1 index_b2
set_option maxRecDepth 20000
set_option maxHeartbeats 2000000 in
theorem c_meet (a o : Bx) (w : World) : Calls Tryz.prog 67 #[vBx a, vBx o] w (Ret (.tuple #[vBx (a.meet o), .bool (a.meet o).ordered]) w) := by
  go_enter Tryz.func67, Tryz.ntmps67
  go_wp2
  refine absC (C := fun W => Below w.heap.size w W ∧ Blk W w.heap.size 92 #[.int .i64 a.x.lo, .int .i64 a.x.hi, .int .i64 a.y.lo, .int .i64 a.y.hi, .int .i64 a.z.lo, .int .i64 a.z.hi] ∧ Blk W (w.heap.size + 2) 92 z6) ⟨by solve_by_elim (maxDepth := 60) only [bl_al, bl_drew, bl_drewN, bl_refl, bl_setA, bl_setB, *], by (with_reducible repeat' (first | assumption | exact Blk.newAt (by simp; done) | refine Blk.alloc ?_ _ | refine Blk.drew ?_ | refine Blk.drewN ?_ _ | refine Blk.other ?_ (by first | (simp; done) | (simp; omega)) _ | exact Blk.set2 (by assumption) (by simp; done) | exact Blk.set1 (by assumption) (by simp; done))), by (with_reducible repeat' (first | assumption | exact Blk.newAt (by simp; done) | refine Blk.alloc ?_ _ | refine Blk.drew ?_ | refine Blk.drewN ?_ _ | refine Blk.other ?_ (by first | (simp; done) | (simp; omega)) _ | exact Blk.set2 (by assumption) (by simp; done) | exact Blk.set1 (by assumption) (by simp; done)))⟩ (fun wa hw => ?_)
  obtain ⟨hb0, k0, k2⟩ := hw
  have hlt := k2.lt
  refine wp_loop_rounds 4 ?_
  rw [rounds_succ]
  go_wp2
  refine wp_tailC (C := fun W => Below w.heap.size w W ∧ Blk W w.heap.size 92 #[.int .i64 a.x.lo, .int .i64 a.x.hi, .int .i64 a.y.lo, .int .i64 a.y.hi, .int .i64 a.z.lo, .int .i64 a.z.hi] ∧ Blk W (w.heap.size + 2) 92 z6 ∧ Blk W wa.heap.size 23 #[.int .i64 o.x.lo, .int .i64 o.x.hi]) 17 (by kernel_rfl) (by kernel_rfl) ⟨by solve_by_elim (maxDepth := 60) only [bl_al, bl_drew, bl_drewN, bl_refl, bl_setA, bl_setB, *], by (with_reducible repeat' (first | assumption | exact Blk.newAt (by simp; done) | refine Blk.alloc ?_ _ | refine Blk.drew ?_ | refine Blk.drewN ?_ _ | refine Blk.other ?_ (by first | (simp; done) | (simp; omega)) _ | exact Blk.set2 (by assumption) (by simp; done) | exact Blk.set1 (by assumption) (by simp; done))), by (with_reducible repeat' (first | assumption | exact Blk.newAt (by simp; done) | refine Blk.alloc ?_ _ | refine Blk.drew ?_ | refine Blk.drewN ?_ _ | refine Blk.other ?_ (by first | (simp; done) | (simp; omega)) _ | exact Blk.set2 (by assumption) (by simp; done) | exact Blk.set1 (by assumption) (by simp; done))), by (with_reducible repeat' (first | assumption | exact Blk.newAt (by simp; done) | refine Blk.alloc ?_ _ | refine Blk.drew ?_ | refine Blk.drewN ?_ _ | refine Blk.other ?_ (by first | (simp; done) | (simp; omega)) _ | exact Blk.set2 (by assumption) (by simp; done) | exact Blk.set1 (by assumption) (by simp; done)))⟩ (fun wb hw => ?_)
  clear hb0 k0 k2
  obtain ⟨hb0, k0, k2, k7⟩ := hw
  have L0 := k0.cell
  have F0 := k0.frozen
  have L7 := k7.cell
  simp only [List.take_succ_cons, List.take_zero, List.drop_succ_cons, List.drop_zero]
  repeat still_step
  refine wpStill_nil ?_
  go_wp2
  refine absR (C := fun W => Below w.heap.size w W ∧ Blk W w.heap.size 92 #[.int .i64 (max a.x.lo o.x.lo), .int .i64 (min a.x.hi o.x.hi), .int .i64 a.y.lo, .int .i64 a.y.hi, .int .i64 a.z.lo, .int .i64 a.z.hi] ∧ Blk W (w.heap.size + 2) 92 z6) ⟨by solve_by_elim (maxDepth := 60) only [bl_al, bl_drew, bl_drewN, bl_refl, bl_setA, bl_setB, *], by (with_reducible repeat' (first | assumption | exact Blk.newAt (by simp; done) | refine Blk.alloc ?_ _ | refine Blk.drew ?_ | refine Blk.drewN ?_ _ | refine Blk.other ?_ (by first | (simp; done) | (simp; omega)) _ | exact Blk.set2 (by assumption) (by simp; done) | exact Blk.set1 (by assumption) (by simp; done))), by (with_reducible repeat' (first | assumption | exact Blk.newAt (by simp; done) | refine Blk.alloc ?_ _ | refine Blk.drew ?_ | refine Blk.drewN ?_ _ | refine Blk.other ?_ (by first | (simp; done) | (simp; omega)) _ | exact Blk.set2 (by assumption) (by simp; done) | exact Blk.set1 (by assumption) (by simp; done)))⟩ (fun wa hw => ?_)
  clear hb0 k0 k2 L0 F0 L7 k7 hlt
  obtain ⟨hb0, k0, k2⟩ := hw
  have hlt := k2.lt
  rw [rounds_succ]
  go_wp2
  refine wp_tailC (C := fun W => Below w.heap.size w W ∧ Blk W w.heap.size 92 #[.int .i64 (max a.x.lo o.x.lo), .int .i64 (min a.x.hi o.x.hi), .int .i64 a.y.lo, .int .i64 a.y.hi, .int .i64 a.z.lo, .int .i64 a.z.hi] ∧ Blk W (w.heap.size + 2) 92 z6 ∧ Blk W wa.heap.size 23 #[.int .i64 o.y.lo, .int .i64 o.y.hi]) 17 (by kernel_rfl) (by kernel_rfl) ⟨by solve_by_elim (maxDepth := 60) only [bl_al, bl_drew, bl_drewN, bl_refl, bl_setA, bl_setB, *], by (with_reducible repeat' (first | assumption | exact Blk.newAt (by simp; done) | refine Blk.alloc ?_ _ | refine Blk.drew ?_ | refine Blk.drewN ?_ _ | refine Blk.other ?_ (by first | (simp; done) | (simp; omega)) _ | exact Blk.set2 (by assumption) (by simp; done) | exact Blk.set1 (by assumption) (by simp; done))), by (with_reducible repeat' (first | assumption | exact Blk.newAt (by simp; done) | refine Blk.alloc ?_ _ | refine Blk.drew ?_ | refine Blk.drewN ?_ _ | refine Blk.other ?_ (by first | (simp; done) | (simp; omega)) _ | exact Blk.set2 (by assumption) (by simp; done) | exact Blk.set1 (by assumption) (by simp; done))), by (with_reducible repeat' (first | assumption | exact Blk.newAt (by simp; done) | refine Blk.alloc ?_ _ | refine Blk.drew ?_ | refine Blk.drewN ?_ _ | refine Blk.other ?_ (by first | (simp; done) | (simp; omega)) _ | exact Blk.set2 (by assumption) (by simp; done) | exact Blk.set1 (by assumption) (by simp; done)))⟩ (fun wb hw => ?_)
  clear hb0 k0 k2
  obtain ⟨hb0, k0, k2, k7⟩ := hw
  have L0 := k0.cell
  have F0 := k0.frozen
  have L7 := k7.cell
  simp only [List.take_succ_cons, List.take_zero, List.drop_succ_cons, List.drop_zero]
  repeat still_step
  refine wpStill_nil ?_
  go_wp2
  refine absR (C := fun W => Below w.heap.size w W ∧ Blk W w.heap.size 92 #[.int .i64 (max a.x.lo o.x.lo), .int .i64 (min a.x.hi o.x.hi), .int .i64 (max a.y.lo o.y.lo), .int .i64 (min a.y.hi o.y.hi), .int .i64 a.z.lo, .int .i64 a.z.hi] ∧ Blk W (w.heap.size + 2) 92 z6) ⟨by solve_by_elim (maxDepth := 60) only [bl_al, bl_drew, bl_drewN, bl_refl, bl_setA, bl_setB, *], by (with_reducible repeat' (first | assumption | exact Blk.newAt (by simp; done) | refine Blk.alloc ?_ _ | refine Blk.drew ?_ | refine Blk.drewN ?_ _ | refine Blk.other ?_ (by first | (simp; done) | (simp; omega)) _ | exact Blk.set2 (by assumption) (by simp; done) | exact Blk.set1 (by assumption) (by simp; done))), by (with_reducible repeat' (first | assumption | exact Blk.newAt (by simp; done) | refine Blk.alloc ?_ _ | refine Blk.drew ?_ | refine Blk.drewN ?_ _ | refine Blk.other ?_ (by first | (simp; done) | (simp; omega)) _ | exact Blk.set2 (by assumption) (by simp; done) | exact Blk.set1 (by assumption) (by simp; done)))⟩ (fun wa hw => ?_)
  clear hb0 k0 k2 L0 F0 L7 k7 hlt
  obtain ⟨hb0, k0, k2⟩ := hw
  have hlt := k2.lt
  rw [rounds_succ]
  go_wp2
  refine wp_tailC (C := fun W => Below w.heap.size w W ∧ Blk W w.heap.size 92 #[.int .i64 (max a.x.lo o.x.lo), .int .i64 (min a.x.hi o.x.hi), .int .i64 (max a.y.lo o.y.lo), .int .i64 (min a.y.hi o.y.hi), .int .i64 a.z.lo, .int .i64 a.z.hi] ∧ Blk W (w.heap.size + 2) 92 z6 ∧ Blk W wa.heap.size 23 #[.int .i64 o.z.lo, .int .i64 o.z.hi]) 17 (by kernel_rfl) (by kernel_rfl) ⟨by solve_by_elim (maxDepth := 60) only [bl_al, bl_drew, bl_drewN, bl_refl, bl_setA, bl_setB, *], by (with_reducible repeat' (first | assumption | exact Blk.newAt (by simp; done) | refine Blk.alloc ?_ _ | refine Blk.drew ?_ | refine Blk.drewN ?_ _ | refine Blk.other ?_ (by first | (simp; done) | (simp; omega)) _ | exact Blk.set2 (by assumption) (by simp; done) | exact Blk.set1 (by assumption) (by simp; done))), by (with_reducible repeat' (first | assumption | exact Blk.newAt (by simp; done) | refine Blk.alloc ?_ _ | refine Blk.drew ?_ | refine Blk.drewN ?_ _ | refine Blk.other ?_ (by first | (simp; done) | (simp; omega)) _ | exact Blk.set2 (by assumption) (by simp; done) | exact Blk.set1 (by assumption) (by simp; done))), by (with_reducible repeat' (first | assumption | exact Blk.newAt (by simp; done) | refine Blk.alloc ?_ _ | refine Blk.drew ?_ | refine Blk.drewN ?_ _ | refine Blk.other ?_ (by first | (simp; done) | (simp; omega)) _ | exact Blk.set2 (by assumption) (by simp; done) | exact Blk.set1 (by assumption) (by simp; done)))⟩ (fun wb hw => ?_)
  clear hb0 k0 k2
  obtain ⟨hb0, k0, k2, k7⟩ := hw
  have L0 := k0.cell
  have F0 := k0.frozen
  have L7 := k7.cell
  simp only [List.take_succ_cons, List.take_zero, List.drop_succ_cons, List.drop_zero]
  repeat still_step
  refine wpStill_nil ?_
  go_wp2
  refine absR (C := fun W => Below w.heap.size w W ∧ Blk W w.heap.size 92 #[.int .i64 (max a.x.lo o.x.lo), .int .i64 (min a.x.hi o.x.hi), .int .i64 (max a.y.lo o.y.lo), .int .i64 (min a.y.hi o.y.hi), .int .i64 (max a.z.lo o.z.lo), .int .i64 (min a.z.hi o.z.hi)] ∧ Blk W (w.heap.size + 2) 92 z6) ⟨by solve_by_elim (maxDepth := 60) only [bl_al, bl_drew, bl_drewN, bl_refl, bl_setA, bl_setB, *], by (with_reducible repeat' (first | assumption | exact Blk.newAt (by simp; done) | refine Blk.alloc ?_ _ | refine Blk.drew ?_ | refine Blk.drewN ?_ _ | refine Blk.other ?_ (by first | (simp; done) | (simp; omega)) _ | exact Blk.set2 (by assumption) (by simp; done) | exact Blk.set1 (by assumption) (by simp; done))), by (with_reducible repeat' (first | assumption | exact Blk.newAt (by simp; done) | refine Blk.alloc ?_ _ | refine Blk.drew ?_ | refine Blk.drewN ?_ _ | refine Blk.other ?_ (by first | (simp; done) | (simp; omega)) _ | exact Blk.set2 (by assumption) (by simp; done) | exact Blk.set1 (by assumption) (by simp; done)))⟩ (fun wa hw => ?_)
  clear hb0 k0 k2 L0 F0 L7 k7 hlt
  obtain ⟨hb0, k0, k2⟩ := hw
  have hlt := k2.lt
  rw [rounds_succ]
  go_wp2
  refine absC (C := fun W => Below w.heap.size w W ∧ Blk W w.heap.size 92 #[.int .i64 (max a.x.lo o.x.lo), .int .i64 (min a.x.hi o.x.hi), .int .i64 (max a.y.lo o.y.lo), .int .i64 (min a.y.hi o.y.hi), .int .i64 (max a.z.lo o.z.lo), .int .i64 (min a.z.hi o.z.hi)] ∧ Blk W (w.heap.size + 2) 92 z6) ⟨hb0, k0, k2⟩ (fun wb hw => ?_)
  clear hb0 k0 k2
  obtain ⟨hb0, k0, k2⟩ := hw
  have L0 := k0.laterX (X := [w.heap.size + 2]) (by simp)
  clear k0
  refine wp_plan [(0, true), (1, true), (2, false), (3, false), (4, true)] (fun W => BX [w.heap.size + 2] wb W) (by kernel_rfl) (by kernel_rfl) (by kernel_rfl) (by solve_by_elim (maxDepth := 80) only [bx_al, bx_drew, bx_drewN, bx_refl, bx_set1, bx_set2, bx_set3, *]) ?_
  apply PlanW.on
  · (simp only [gA, gB, gC] <;> rfl)
  · rfl
  · (intro W hS; (try dsimp only at hS); go_simp <;> with_reducible rfl)
  try simp only [Act.put, List.setIfInBounds_toArray, List.set_cons_zero, List.set_cons_succ]
  apply PlanW.on
  · (simp only [gA, gB, gC] <;> rfl)
  · rfl
  · (intro W hS; (try dsimp only at hS); go_simp <;> with_reducible rfl)
  try simp only [Act.put, List.setIfInBounds_toArray, List.set_cons_zero, List.set_cons_succ]
  apply PlanW.step
  · (simp only [gA, gB, gC] <;> rfl)
  · rfl
  intro K hK
  go_simp
  (first | (go_at_call 94; (with_reducible refine (c_ordered ⟨⟨max a.x.lo o.x.lo, min a.x.hi o.x.hi⟩, ⟨max a.y.lo o.y.lo, min a.y.hi o.y.hi⟩, ⟨max a.z.lo o.z.lo, min a.z.hi o.z.hi⟩⟩ _).mono ?_); rintro e w3 ⟨rfl, hb3⟩; replace hb3 := bx_tt hb3))
  (try dsimp only)
  refine hK.out _ _ (by solve_by_elim (maxDepth := 80) only [bx_al, bx_drew, bx_drewN, bx_refl, bx_set1, bx_set2, bx_set3, *]) (fun hcur => ?_)
  clear hK K
  (try dsimp only at hcur)
  try simp only [Act.put, List.setIfInBounds_toArray, List.set_cons_zero, List.set_cons_succ]
  apply PlanW.step
  · (simp only [gA, gB, gC] <;> rfl)
  · rfl
  intro K hK
  refine wp_store_keep (X := [w.heap.size + 2]) (w0 := wb) rfl rfl rfl (by solve_by_elim (maxDepth := 80) only [bx_al, bx_drew, bx_drewN, bx_refl, bx_set1, bx_set2, bx_set3, *]) (by assumption) (by simp) (by kernel_rfl) (by rfl) (by simp [Value.oneCell']) (fun hres1 hcur => ?_)
  refine hK.out _ _ hcur (fun _ => ?_)
  clear hK K
  try simp only [Act.put, List.setIfInBounds_toArray, List.set_cons_zero, List.set_cons_succ]
  apply PlanW.on
  · (simp only [gA, gB, gC] <;> rfl)
  · rfl
  · (intro W hS; (try dsimp only at hS); go_simp <;> with_reducible rfl)
  try simp only [Act.put, List.setIfInBounds_toArray, List.set_cons_zero, List.set_cons_succ]
  refine PlanW.done ?_
  have hr := hres1.cell
  go_wp2
  refine bodyPost_ret (v := .tuple #[vBx (a.meet o), .bool (a.meet o).ordered]) (by simp [results, Tryz.results67, go_sem, hr, Bx.meet, Rg.meet]) rfl ⟨rfl, ?_⟩
  exact hcur.below (by simp) hb0
end Go.Proofs.YtephimmamkafoaaGreat
namespace Go.Proofs.YtephimmamkafoaaGreat
open Go.RowKit Go.Shelf
attribute [local go_sem] bl_al bl_drew bl_drewN bl_refl bx_al bx_drew bx_drewN bx_refl
set_option maxRecDepth 20000
abbrev z13 : Array Value := #[.int .i64 0, .int .i64 0, .int .i64 0, .int .i64 0, .int .i64 0, .int .i64 0, .slice none 0 0, .int .i64 0, .int .i64 0, .int .i64 0, .int .i64 0, .int .i64 0, .int .i64 0]
set_option maxHeartbeats 2000000 in
theorem c_open (n : Nt) (A : Option Addr) (c : Nat) (w : World) (hn : NtIn n A c w) :
    Calls Tryz.prog 47 #[vNt n.world (.slice A n.bs.length c)] w (Ret (.tuple #[vON n.world (.slice A n.bs.length c), .int .i64 (netErr n)]) w) := by
  have hcn := Lib.hid fun (W : World) (hb : Below w.heap.size w W) => c_CheckNet n A c W (hn.below hb)
  clear hn
  generalize n.bs.length = nl at *
  go_enter Tryz.func47, Tryz.ntmps47
  go_wp2_with fail
  refine Calls.mono (hcn.out _ ?_) ?_
  · solve_by_elim (maxDepth := 60) only [bl_al, bl_drew, bl_drewN, bl_refl, *]
  rintro e wb ⟨rfl, hb3⟩
  have k0 := ((Blk.new w 28 (aNt n.world (.slice A nl c))).alloc (.cells z13 94)).below hb3
  have k1 := (Blk.new (w.alloc (.cells (aNt n.world (.slice A nl c)) 28)) 94 z13).below hb3
  rw [World.size_alloc] at k1
  have L0 := k0.laterX (X := [w.heap.size + 1]) (by simp)
  have hb0 : Below w.heap.size w wb := bl_tr (bl_al _ (bl_al _ (bl_refl _))) hb3
  clear hb3
  go_wp2_with fail
  refine wp_plan [(0, true), (1, true), (2, true), (5, true), (3, false), (4, true), (6, false), (7, true)] (fun W => BX [w.heap.size + 1] wb W) (by kernel_rfl) (by kernel_rfl) (by kernel_rfl) (by solve_by_elim (maxDepth := 80) only [bx_al, bx_drew, bx_drewN, bx_refl, bx_set1, bx_set2, bx_set3, *]) ?_
  apply PlanW.on
  · (simp only [gA, gB, gC] <;> rfl)
  · rfl
  · (intro W hS; (try dsimp only at hS); go_simp <;> with_reducible rfl)
  try simp only [Act.put, List.setIfInBounds_toArray, List.set_cons_zero, List.set_cons_succ]
  apply PlanW.on
  · (simp only [gA, gB, gC] <;> rfl)
  · rfl
  · (intro W hS; (try dsimp only at hS); go_simp <;> with_reducible rfl)
  try simp only [Act.put, List.setIfInBounds_toArray, List.set_cons_zero, List.set_cons_succ]
  apply PlanW.on
  · (simp only [gA, gB, gC] <;> rfl)
  · rfl
  · (intro W hS; (try dsimp only at hS); go_simp <;> with_reducible rfl)
  try simp only [Act.put, List.setIfInBounds_toArray, List.set_cons_zero, List.set_cons_succ]
  apply PlanW.on
  · (simp only [gA, gB, gC] <;> rfl)
  · rfl
  · (intro W hS; (try dsimp only at hS); go_simp <;> with_reducible rfl)
  try simp only [Act.put, List.setIfInBounds_toArray, List.set_cons_zero, List.set_cons_succ]
  apply PlanW.step
  · (simp only [gA, gB, gC] <;> rfl)
  · rfl
  intro K hK
  go_simp
  (first | (go_at_call 74; (with_reducible refine (c_of n.world _).mono ?_); rintro e w3 ⟨rfl, hb3⟩; replace hb3 := bx_tt hb3))
  (try dsimp only)
  refine hK.out _ _ (by solve_by_elim (maxDepth := 80) only [bx_al, bx_drew, bx_drewN, bx_refl, bx_set1, bx_set2, bx_set3, *]) (fun hcur => ?_)
  clear hK K
  (try dsimp only at hcur)
  try simp only [Act.put, List.setIfInBounds_toArray, List.set_cons_zero, List.set_cons_succ]
  apply PlanW.on
  · (simp only [gA, gB, gC] <;> rfl)
  · rfl
  · (intro W hS; (try dsimp only at hS); go_simp <;> with_reducible rfl)
  try simp only [Act.put, List.setIfInBounds_toArray, List.set_cons_zero, List.set_cons_succ]
  apply PlanW.step
  · (simp only [gA, gB, gC] <;> rfl)
  · rfl
  intro K hK
  refine wp_store_keep (X := [w.heap.size + 1]) (w0 := wb) rfl rfl rfl (by solve_by_elim (maxDepth := 80) only [bx_al, bx_drew, bx_drewN, bx_refl, bx_set1, bx_set2, bx_set3, *]) (by assumption) (by simp) (by kernel_rfl) (by rfl) (by simp [Value.oneCell']) (fun hres1 hcur => ?_)
  refine hK.out _ _ hcur (fun _ => ?_)
  clear hK K
  try simp only [Act.put, List.setIfInBounds_toArray, List.set_cons_zero, List.set_cons_succ]
  apply PlanW.on
  · (simp only [gA, gB, gC] <;> rfl)
  · rfl
  · (intro W hS; (try dsimp only at hS); go_simp <;> with_reducible rfl)
  try simp only [Act.put, List.setIfInBounds_toArray, List.set_cons_zero, List.set_cons_succ]
  refine PlanW.done ?_
  have hr := hres1.cell
  go_wp2
  refine bodyPost_ret (v := .tuple #[vON n.world (.slice A nl c), .int .i64 (netErr n)]) (by simp [results, Tryz.results47, go_sem, hr, netErr]) rfl ⟨rfl, ?_⟩
  exact hcur.below (by simp) hb0
end Go.Proofs.YtephimmamkafoaaGreat
namespace Go.Proofs.YtephimmamkafoaaGreat
open Go.RowKit Go.Shelf
attribute [local go_sem] bl_al bl_drew bl_drewN bl_refl index_b0 index_b1 index_b2 index_p0 index_p1 index_p2
set_option maxRecDepth 20000
theorem quiet_same {P : Program} {f : FuncId} {args : Array Value} {w : World} {n : Nat} {v : Value} (h : ∀ W, Calls P f args W (Same v W)) : Calls P f args (w.drewN n) fun e w'' => e = .returned v ∧ ∃ m, w'' = w.drewN m :=
  (h _).mono fun _ _ ⟨he, hm⟩ => ⟨he, n, hm.symm⟩

set_option maxHeartbeats 2000000 in
theorem c_has (a : Bx) (p : Pl) (w : World) : Calls Tryz.prog 70 #[vBx a, vPl p] w (Ret (.bool (a.has p)) w) := by
  cases p0 : inR p.x a.x.lo a.x.hi
  case false =>
    go_enter Tryz.func70, Tryz.ntmps70
    go_wp2
    refine wp_loop_rounds 4 ?_
    rw [rounds_succ]
    go_wp2
    go_quiet ((go_at_call 75; exact quiet_same (fun W => c_within _ _ _ W)))
    go_wp2
    go_ret
    exact ⟨by simp [Bx.has, *], by solve_by_elim (maxDepth := 60) only [bl_al, bl_drew, bl_drewN, bl_refl, *]⟩
  cases p1 : inR p.y a.y.lo a.y.hi
  case false =>
    go_enter Tryz.func70, Tryz.ntmps70
    go_wp2
    refine wp_loop_rounds 4 ?_
    rw [rounds_succ]
    go_wp2
    go_quiet ((go_at_call 75; exact quiet_same (fun W => c_within _ _ _ W)))
    go_wp2
    rw [rounds_succ]
    go_wp2
    go_quiet ((go_at_call 75; exact quiet_same (fun W => c_within _ _ _ W)))
    go_wp2
    go_ret
    exact ⟨by simp [Bx.has, *], by solve_by_elim (maxDepth := 60) only [bl_al, bl_drew, bl_drewN, bl_refl, *]⟩
  cases p2 : inR p.z a.z.lo a.z.hi
  case false =>
    go_enter Tryz.func70, Tryz.ntmps70
    go_wp2
    refine wp_loop_rounds 4 ?_
    rw [rounds_succ]
    go_wp2
    go_quiet ((go_at_call 75; exact quiet_same (fun W => c_within _ _ _ W)))
    go_wp2
    rw [rounds_succ]
    go_wp2
    go_quiet ((go_at_call 75; exact quiet_same (fun W => c_within _ _ _ W)))
    go_wp2
    rw [rounds_succ]
    go_wp2
    go_quiet ((go_at_call 75; exact quiet_same (fun W => c_within _ _ _ W)))
    go_wp2
    go_ret
    exact ⟨by simp [Bx.has, *], by solve_by_elim (maxDepth := 60) only [bl_al, bl_drew, bl_drewN, bl_refl, *]⟩
  go_enter Tryz.func70, Tryz.ntmps70
  go_wp2
  refine wp_loop_rounds 4 ?_
  rw [rounds_succ]
  go_wp2
  go_quiet ((go_at_call 75; exact quiet_same (fun W => c_within _ _ _ W)))
  go_wp2
  rw [rounds_succ]
  go_wp2
  go_quiet ((go_at_call 75; exact quiet_same (fun W => c_within _ _ _ W)))
  go_wp2
  rw [rounds_succ]
  go_wp2
  go_quiet ((go_at_call 75; exact quiet_same (fun W => c_within _ _ _ W)))
  go_wp2
  rw [rounds_succ]
  go_wp2
  go_ret
  exact ⟨by simp [Bx.has, *], by solve_by_elim (maxDepth := 60) only [bl_al, bl_drew, bl_drewN, bl_refl, *]⟩

set_option maxHeartbeats 1000000 in
theorem c_isBeacon (b : Bx) (A : Option Addr) (n c : Nat) (i : Int) (w : World) (hn : n ≤ 1000) : Calls Tryz.prog 123 #[vON b (.slice A n c), .int .i64 i] w (Ret (.bool (inR i 0 ((n : Int) - 1))) w) := by
  go_enter Tryz.func123, Tryz.ntmps123
  go_wp2_with (go_at_call 75; (with_reducible refine (c_within _ _ _ _).mono ?_); rintro e w3 ⟨rfl, rfl⟩)
  go_ret
  exact ⟨rfl, by solve_by_elim (maxDepth := 60) only [bl_al, bl_drew, bl_drewN, bl_refl, *]⟩
end Go.Proofs.YtephimmamkafoaaGreat
