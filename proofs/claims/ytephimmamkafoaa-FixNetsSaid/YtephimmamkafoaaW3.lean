/-
  Walks: whether a box is sized, and the error of one beacon of a net.
-/
import Derived.Test.YtephimmamkafoaaName
import Derived.Test.YtephimmamkafoaaPlain2
namespace Go.Proofs.Ytephimmamkafoaa
set_option linter.unusedSimpArgs false
set_option linter.unusedVariables false
open Go.RowKit Go.Shelf
attribute [local go_sem] bl_al bl_drew bl_drewN bl_refl
set_option maxRecDepth 20000

theorem c_sizedB (b : Bx) (l : Int) (w : World) (h1 : -1000000 ≤ l) (h2 : l ≤ 1000000) : Calls Try.prog 62 #[vBx b, .int .i64 l] w (Ret (.bool (b.sized l)) w) := by
  have hcall := Lib.hid fun (W : World) (hr : Sl cRg 2 W (some ⟨w.heap.size, 0, none⟩) b.sides) (hl : W.cell? ⟨w.heap.size + 1, 0, none⟩ = some (.int .i64 l)) =>
    c_ContainsFuncR 111 #[.pointer (some ⟨w.heap.size + 1, 0, none⟩)] (fun r => !szd r.lo l || !szd r.hi l) (some ⟨w.heap.size, 0, none⟩) b.sides 3 W (by simp [Bx.sides])
    (enters_of Try.func111 (by kernel_rfl) rfl) (fun x _ W' hb => c_szd1 x l _ W' h1 h2 (kcell hb hl)) hr
  go_enter Try.func62, Try.ntmps62
  go_wp2_with fail
  refine (hcall.out _ (Blk.ranges ((Blk.new w _ _).alloc _)) (by simp [go_sem])).mono ?_
  rintro e w3 ⟨rfl, hb3⟩
  replace hb3 := bl_tt hb3
  go_wp2
  go_ret
  exact ⟨rfl, by solve_by_elim (maxDepth := 60) only [bl_al, bl_drew, bl_drewN, bl_refl, *]⟩

theorem c_nm1 (x : Bc) (nm : ByteArray) (B : Nat) (w : World) (hB : w.cell? ⟨B, 0, none⟩ = some (.string nm)) :
    Calls Try.prog 67 #[vBc x, .pointer (some ⟨B, 0, none⟩)] w (Ret (.bool (x.name.toList == nm.toList)) w) := by
  have hB' := later hB
  have hlt := World.block_lt_of_cell? w _ hB
  clear hB
  have hn : B ≠ w.heap.size := Nat.ne_of_lt hlt
  go_enter Try.func67, Try.ntmps67
  go_wp2
  go_ret
  exact ⟨rfl, by solve_by_elim (maxDepth := 60) only [bl_al, bl_drew, bl_drewN, bl_refl, *]⟩
theorem c_nm2 (x : Int) (w : World) : Calls Try.prog 70 #[.int .i64 x] w (Ret (.bool (!szd x 10000)) w) := by
  go_enter Try.func70, Try.ntmps70
  go_wp2_with (go_at_call 71; (with_reducible refine (c_sized _ _ _ (by omega) (by omega)).mono ?_); rintro e w3 ⟨rfl, rfl⟩)
  go_ret
  exact ⟨rfl, by solve_by_elim (maxDepth := 60) only [bl_al, bl_drew, bl_drewN, bl_refl, *]⟩

set_option maxHeartbeats 1000000 in
theorem c_bcErr (n : Nt) (A : Option Addr) (c : Nat) (B : Nat) (i : Nat) (x : Bc) (w : World) (hi : n.bs[i]? = some x) (hl : n.bs.length ≤ 1000000) (hcap : n.bs.length ≤ c) (hx : x.name.size ≤ maxLen)
    (hc6 : w.cell? ⟨B, 6, none⟩ = some (.slice A n.bs.length c)) (hs : Sl cBc 4 w A n.bs) :
    Calls Try.prog 65 #[.int .i64 (i : Nat), vBc x, .pointer (some ⟨B, 0, none⟩)] w (Ret (.int .i64 (bcErr n.bs i x)) w) := by
  have hlt := World.block_lt_of_cell? w _ hc6
  have hc6' := later hc6
  have hn : B ≠ w.heap.size := Nat.ne_of_lt hlt
  have hil : i < n.bs.length := (List.getElem?_eq_some_iff.1 hi).1
  clear hc6
  have Hs := Lib.hid hs
  clear hs
  generalize hnl : n.bs.length = nl at *
  have Hnl := Lib.hid hnl
  clear hnl
  have htake : Hid ((n.bs.take i).length = i) := by rw [List.length_take, Hnl.out]; exact Nat.min_eq_left (by omega)
  have hc1 : Hid (∀ W : World, Below w.heap.size w W → W.cell? ⟨w.heap.size, 0, none⟩ = some (.string x.name) →
      Calls Try.prog 66 #[.slice A i c, .func (.func 67) #[] #[.pointer (some ⟨w.heap.size, 0, none⟩)]] W (Ret (.bool (known (n.bs.take i) x.name)) W)) := by
    intro W hW hcl
    have := c_ContainsFuncB 67 #[.pointer (some ⟨w.heap.size, 0, none⟩)] (fun o => o.name.toList == x.name.toList) A (n.bs.take i) c W (by rw [htake.out]; omega)
      (enters_of Try.func67 (by kernel_rfl) rfl) (fun y _ W' hb => c_nm1 y _ _ W' (kcell hb hcl)) ((Hs.out.below hW).take i)
    rwa [htake.out] at this
  have hc2 : Hid (∀ (g : Nat) (W : World), Blk W g 119 #[.int .i64 x.pl.x, .int .i64 x.pl.y, .int .i64 x.pl.z] →
      Calls Try.prog 69 #[.slice (some ⟨g, 0, none⟩) 3 3, .func (.func 70) #[] #[]] W (Ret (.bool (x.pl.co.any fun c => !szd c 10000)) W)) := fun g W hb =>
    c_ContainsFuncI 70 #[] (fun c => !szd c 10000) (some ⟨g, 0, none⟩) x.pl.co 3 W (by simp [Pl.co])
      (enters_of Try.func70 (by kernel_rfl) rfl) (fun y _ W' _ => c_nm2 y W') hb.coords
  go_enter Try.func65, Try.ntmps65
  go_wp2_with fail
  refine (hc1.out _ (bl_al _ (bl_refl _)) (by simp [go_sem])).mono ?_
  rintro e wb ⟨rfl, hb3⟩
  have k0 := ((Blk.new w 99 #[.string x.name, .int .i64 x.pl.x, .int .i64 x.pl.y, .int .i64 x.pl.z]).below hb3).later
  replace hb3 := bl_tt hb3
  go_wp2_with ((go_at_call 68; (with_reducible refine (c_at x.pl _).mono ?_); rintro e w3 ⟨rfl, hb3⟩; replace hb3 := bl_tt hb3; have hcur := hb3 wb (by solve_by_elim (maxDepth := 60) only [bl_al, bl_drew, bl_drewN, bl_refl, *])))
  refine (hc2.out _ _ (Blk.new _ _ _)).mono ?_
  rintro e w4 ⟨rfl, hb4⟩
  replace hb4 := bl_tt hb4
  have hcur := hb4 wb (by solve_by_elim (maxDepth := 60) only [bl_al, bl_drew, bl_drewN, bl_refl, *])
  go_wp2_with (first | (go_at_call 72; (with_reducible refine (c_isName x.name _ hx).mono ?_); rintro e w3 ⟨rfl, hb3⟩; replace hb3 := bl_tt hb3; have hcur := hb3 wb (by solve_by_elim (maxDepth := 60) only [bl_al, bl_drew, bl_drewN, bl_refl, *])) | (go_at_call 61; (with_reducible refine (c_unless _ _ _).mono ?_); rintro e w3 ⟨rfl, rfl⟩) | (go_at_call 60; (with_reducible refine (c_first3 (Blk.new _ _ _)).mono ?_); rintro e w3 ⟨rfl, rfl⟩))
  go_ret
  exact ⟨rfl, by solve_by_elim (maxDepth := 60) only [bl_al, bl_drew, bl_drewN, bl_refl, *]⟩
end Go.Proofs.Ytephimmamkafoaa
