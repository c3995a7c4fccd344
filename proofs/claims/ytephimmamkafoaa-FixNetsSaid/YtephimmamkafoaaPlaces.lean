/-
  The iterator over the positions of a box: it yields them by x, then y, then z.
-/
import Derived.Test.YtephimmamkafoaaRange
import Derived.Test.YtephimmamkafoaaCarry
import Derived.OwnWalkIn
import Derived.TacticsInMore
import Derived.LoopNIn
import Derived.LoopIn
namespace Go.Proofs.Ytephimmamkafoaa
set_option linter.unusedSimpArgs false
set_option linter.unusedVariables false
open Go.RowKit Go.Shelf
attribute [local go_sem] Oper.semAt_some
set_option maxRecDepth 20000
/-- The numbers from lo to hi. -/
def iv (lo hi : Int) : List Int := if lo ≤ hi then lo :: iv (lo + 1) hi else []
termination_by (hi + 1 - lo).toNat
decreasing_by omega
theorem iv_cons {lo hi : Int} (h : lo ≤ hi) : iv lo hi = lo :: iv (lo + 1) hi := by rw [iv, if_pos h]
theorem iv_nil {lo hi : Int} (h : ¬ lo ≤ hi) : iv lo hi = [] := by rw [iv, if_neg h]
def R3 (b : Bx) (x y z : Int) : List Pl := (iv z b.z.hi).map fun z => ⟨x, y, z⟩
def R2 (b : Bx) (x y : Int) : List Pl := (iv y b.y.hi).flatMap fun y => R3 b x y b.z.lo
def R1 (b : Bx) (x : Int) : List Pl := (iv x b.x.hi).flatMap fun x => R2 b x b.y.lo
/-- The positions of a box. -/
def Bx.pts (b : Bx) : List Pl := R1 b b.x.lo
theorem R1_step {b : Bx} {x : Int} (h : x ≤ b.x.hi) : R1 b x = R2 b x b.y.lo ++ R1 b (x + 1) := by rw [R1, iv_cons h, List.flatMap_cons]; rfl
theorem R1_end {b : Bx} {x : Int} (h : ¬ x ≤ b.x.hi) : R1 b x = [] := by rw [R1, iv_nil h]; rfl
theorem R2_step {b : Bx} {x y : Int} (h : y ≤ b.y.hi) : R2 b x y = R3 b x y b.z.lo ++ R2 b x (y + 1) := by rw [R2, iv_cons h, List.flatMap_cons]; rfl
theorem R2_end {b : Bx} {x y : Int} (h : ¬ y ≤ b.y.hi) : R2 b x y = [] := by rw [R2, iv_nil h]; rfl
theorem R3_step {b : Bx} {x y z : Int} (h : z ≤ b.z.hi) : R3 b x y z = ⟨x, y, z⟩ :: R3 b x y (z + 1) := by rw [R3, iv_cons h]; rfl
theorem R3_end {b : Bx} {x y z : Int} (h : ¬ z ≤ b.z.hi) : R3 b x y z = [] := by rw [R3, iv_nil h]; rfl
theorem mem_iv {x hi : Int} : ∀ {lo : Int}, x ∈ iv lo hi ↔ lo ≤ x ∧ x ≤ hi := fun {lo} => by
  by_cases h : lo ≤ hi
  · rw [iv_cons h, List.mem_cons, mem_iv]
    omega
  · rw [iv_nil h]
    simp
    omega
termination_by lo => (hi + 1 - lo).toNat
decreasing_by omega
theorem mem_pts {b : Bx} {p : Pl} : p ∈ b.pts ↔ b.has p = true := by
  unfold Bx.pts R1 R2 R3 Bx.has
  simp only [List.mem_flatMap, List.mem_map, mem_iv, Bool.and_eq_true, inR_iff]
  constructor
  · rintro ⟨x, hx, y, hy, z, hz, rfl⟩
    exact ⟨⟨hx, hy⟩, hz⟩
  · rintro ⟨⟨hx, hy⟩, hz⟩
    exact ⟨p.x, hx, p.y, hy, p.z, hz, rfl⟩
set_option maxHeartbeats 4000000 in
theorem places_iter (b : Bx) (hb : b.in 10000) (m : Nat) : Iter Try.prog m 99 #[vBx b] (fun p : Pl => #[vPl p]) b.pts := by
  intro l X J W hX hJ hY h0
  obtain ⟨⟨hx1, hx2, hx3, hx4⟩, ⟨hy1, hy2, hy3, hy4⟩, ⟨hz1, hz2, hz3, hz4⟩⟩ := hb
  refine callsIn_of_wp Try.func99 rfl trivial ?_ rfl
  simp only [Try.ntmps99, List.size_toArray, List.length_cons, List.length_nil, Nat.reduceAdd, Nat.reduceSub, Array.replicate_succ, Array.replicate_zero, List.push_toArray, List.append_toArray, List.nil_append, List.cons_append]
  have hJ0 := Lib.hid (hJ _ _ _ h0 (bl_al (.cells (aBx b) 111) (bl_refl W)))
  have hX0 : W.heap.size ∉ X := fun h => Nat.lt_irrefl _ (hX _ h)
  clear h0 hX
  replace hY := Lib.hid hY
  have keep := Lib.hid fun (A B : World) (h : BX X A B) (hk : Blk A W.heap.size 111 (aBx b)) => (h.block _ hk.lt hX0).trans hk
  gi_wp2
  gi_loopw [4] (fun p wr => ∃ x pre, p = .int .i64 x ∧ b.x.lo ≤ x ∧ x ≤ 10001 ∧ pre ++ R1 b x = b.pts ∧ J pre wr ∧ Blk wr W.heap.size 111 (aBx b)) (fun p _ => (b.x.hi + 1 - intOf p).toNat)
  case atStart => exact ⟨b.x.lo, [], rfl, Int.le_refl _, by omega, rfl, hJ0.out, Blk.new _ _ _⟩
  case round =>
    obtain ⟨x, pre, rfl, hlx, hxb, hpre, hj, hk⟩ := hrel
    replace hpre := Lib.hid hpre
    replace hj := Lib.hid hj
    have L := hk.cell
    by_cases hx : x ≤ b.x.hi
    · gi_wp2
      gi_loopw [5] (fun p wr => ∃ y pre, p = .int .i64 y ∧ b.y.lo ≤ y ∧ y ≤ 10001 ∧ pre ++ (R2 b x y ++ R1 b (x + 1)) = b.pts ∧ J pre wr ∧ Blk wr W.heap.size 111 (aBx b)) (fun p _ => (b.y.hi + 1 - intOf p).toNat)
      case atStart => exact ⟨b.y.lo, pre, rfl, Int.le_refl _, by omega, by rw [← hpre.out, R1_step hx], hj.out, hk⟩
      case round =>
        clear L hk hj hpre
        obtain ⟨y, pre, rfl, hly, hyb, hpre, hj, hk⟩ := hrel
        replace hpre := Lib.hid hpre
        replace hj := Lib.hid hj
        have L := hk.cell
        by_cases hy : y ≤ b.y.hi
        · gi_wp2
          gi_loopw [6] (fun p wr => ∃ z pre, p = .int .i64 z ∧ b.z.lo ≤ z ∧ z ≤ 10001 ∧ pre ++ (R3 b x y z ++ (R2 b x (y + 1) ++ R1 b (x + 1))) = b.pts ∧ J pre wr ∧ Blk wr W.heap.size 111 (aBx b)) (fun p _ => (b.z.hi + 1 - intOf p).toNat)
          case atStart => exact ⟨b.z.lo, pre, rfl, Int.le_refl _, by omega, by rw [← hpre.out, R2_step hy, List.append_assoc], hj.out, hk⟩
          case round =>
            clear L hk hj hpre
            obtain ⟨z, pre, rfl, hlz, hzb, hpre, hj, hk⟩ := hrel
            replace hpre := Lib.hid hpre
            have L := hk.cell
            by_cases hz : z ≤ b.z.hi
            · obtain ⟨fn, tmps, assign, body, hy, hR⟩ := hY.out pre ⟨x, y, z⟩ wr hj ⟨R3 b x y (z + 1) ++ (R2 b x (y + 1) ++ R1 b (x + 1)), by rw [← hpre.out, R3_step hz]; simp⟩
              replace hj := Lib.hid hj
              gi_wp2
              refine ⟨fun h => (by simp [Fence.wide] at h), hR.mono ?_⟩
              rintro e W3 ⟨rfl, hj3, hx3⟩
              have hk3 := keep.out _ _ hx3 hk
              replace hj3 := Lib.hid hj3
              clear hx3 hR hj L
              gi_wp2
              go_roundw
              case rel => exact ⟨z + 1, pre ++ [⟨x, y, z⟩], by go_num, by omega, by omega, by rw [← hpre.out, R3_step hz]; simp, hj3.out, hk3⟩
              case measure => simp [intOf]; omega
            · replace hj := Lib.hid hj
              gi_wp2
              go_roundw
              case rel => exact ⟨y + 1, pre, by go_num, by omega, by omega, by rw [← hpre.out, R3_end (by omega)]; simp, hj.out, hk⟩
              case measure => simp [intOf]; omega
        · gi_wp2
          go_roundw
          case rel => exact ⟨x + 1, pre, by go_num, by omega, by omega, by rw [← hpre.out, R2_end (by omega)]; simp, hj.out, hk⟩
          case measure => simp [intOf]; omega
    · gi_wp2
      go_end0
      exact ⟨⟨_, rfl⟩, by have := hpre.out; rw [R1_end (by omega), List.append_nil] at this; rw [← this]; exact hj.out⟩
end Go.Proofs.Ytephimmamkafoaa
