/-
  Walks: an order in which no stream is late.
  Walk: the first order in which no stream is late.
  Plain laws: streams in the first order are carried in time, whatever the starts are, and a watchdog finds none of them silent.
  Walks: chapter 7's examples are shown; streams in an order.
  Frames and messages are equal to themselves.
-/
import Derived.Test.YtbdgblnccjpahaaGreatDoorVBusOnce6
import Derived.Test.YtbdgblnccjpahaaGreatDoorVBusOnce2
import Derived.Test.YtbdgblnccjpahaaGreatDoorUO5
import Derived.Test.YtbdgblnccjpahaaGreatDoorUO10
import Derived.Test.YtbdgblnccjpahaaGreatDoorVBusOnce1
import Derived.Test.YtbdgblnccjpahaaGreatDoorVBusOnce3
import Derived.Laws.StructEq
set_option linter.unusedSimpArgs false
set_option linter.unusedVariables false
namespace Go.Proofs.YtbdgblnccjpahaaGreatDoor
open Go.RowKit Go.Shelf
attribute [local go_sem] bl_al bl_drew bl_drewN bl_refl bx_al bx_drew bx_drewN bx_refl
set_option maxRecDepth 20000
def bI (b : List Nat) : List Int := b.map fun i : Nat => (i : Int)
end Go.Proofs.YtbdgblnccjpahaaGreatDoor
namespace Go.Proofs.YtbdgblnccjpahaaGreatDoor
open Go.RowKit Go.Shelf
attribute [local go_sem] bl_al bl_drew bl_drewN bl_refl bx_al bx_drew bx_drewN bx_refl
set_option maxRecDepth 20000
end Go.Proofs.YtbdgblnccjpahaaGreatDoor
namespace Go.Proofs.YtbdgblnccjpahaaGreatDoor
set_option maxRecDepth 20000
/-! ### The streams in their order. -/
end Go.Proofs.YtbdgblnccjpahaaGreatDoor
namespace Go.Proofs.YtbdgblnccjpahaaGreatDoor
open Go.RowKit Go.Shelf
attribute [local go_sem] bl_al bl_drew bl_drewN bl_refl bx_al bx_drew bx_drewN bx_refl
set_option maxRecDepth 20000
set_option maxHeartbeats 4000000 in
theorem r_busShown (w : World) : Calls Tryz.prog 7 #[] w (Ret (.bool true) w) := by
  have h1 : Hid (∀ W : World, Calls Tryz.prog 25 #[.agg #[.int .i64 0, .int .i64 0, .int .i64 0, .int .i64 0, .int .i64 0, .int .i64 1, .int .i64 0]] W (Ret (.tuple #[.agg #[.int .i64 0, .int .i64 0, .int .i64 0, .int .i64 0, .int .i64 0, .int .i64 1, .int .i64 0, .int .i64 21], .int .i64 0]) W)) := fun W => by
    have := c_Encoded ⟨0, 0, 0, 0, 0, 1, 0⟩ W
    rw [ev_enc] at this
    exact this
  have h2 : Hid (∀ (W : World) (A : Option Addr), SmIn sms0 A 3 W → Calls Tryz.prog 43 #[.slice A 3 3, .int .i64 2] W (Ret (.tuple #[.int .i64 10, .int .i64 0]) W)) := fun W A h => by
    have := c_ResponseOf sms0 2 A 3 W h
    rw [ev_resp] at this
    exact this
  go_enter Tryz.func7, Tryz.ntmps7
  go_wp2_with fail
  refine (r_Streams w).mono ?_
  rintro e v1 ⟨rfl, hb0, hsm⟩
  go_wp2_with fail
  refine (h2.out v1 _ hsm).mono ?_
  rintro e v2 ⟨rfl, hb1⟩
  replace hb0 := bl_tr hb0 hb1
  clear hsm hb1 h2
  go_wp2_with fail
  refine (h1.out v2).mono ?_
  rintro e v3 ⟨rfl, hb1⟩
  replace hb0 := bl_tr hb0 hb1
  clear hb1 h1
  go_upto_region 3 with fail
  first
  | apply absB1 (w0 := w) (g0 := v3.heap.size)
  | apply absTB1 (w0 := w) (g0 := v3.heap.size)
  | apply absIB1 (w0 := w) (g0 := v3.heap.size)
  iterate 2 (focus exact zL)
  try clear hb3
  try clear hb0
  try clear k1
  intro w4 hb0 k1
  (try simp only [List.setIfInBounds_toArray, List.set_cons_zero, List.set_cons_succ] at k1)
  have L1 := k1.cell
  have heq : ∀ W : World, (Op.equalIn 10000 62 (.agg #[.int .i64 0, .int .i64 0, .int .i64 0, .int .i64 0, .int .i64 0, .int .i64 1, .int .i64 0, .int .i64 21]) (.agg #[.int .i64 0, .int .i64 0, .int .i64 0, .int .i64 0, .int .i64 0, .int .i64 1, .int .i64 0, .int .i64 21])).run Tryz.prog W = .ok true W := fun W => by kernel_rfl
  go_wp2
  go_ret
  exact ⟨rfl, hb0⟩
end Go.Proofs.YtbdgblnccjpahaaGreatDoor
namespace Go.Proofs.YtbdgblnccjpahaaGreatDoor
open Go.RowKit Go.Shelf
set_option maxRecDepth 20000
theorem eqMs_self (m : Ms) (W : World) : (Op.equalIn 10000 52 (vMs m) (vMs m)).run Tryz.prog W = .ok true W := by
  have hs : ∀ W : World, (sizeOf 3).run Tryz.prog W = .ok 1 W := fun W => by kernel_rfl
  have e : ∀ (n : Nat) (a : Int) (W : World), (Op.equalIn (n + 1) 3 (.int .i64 a) (.int .i64 a)).run Tryz.prog W = .ok true W := fun n a W => by
    rw [run_equalIn_int W n 3 .i64 .i64 a a (Tryz.underlying3)]
    simp
  have p0 : ∀ W : World, (part 3 #[.int .i64 m.d0, .int .i64 m.d1, .int .i64 m.d2, .int .i64 m.d3] 0).run Tryz.prog W = .ok (.int .i64 m.d0) W := fun W => by kernel_rfl
  have p1 : ∀ W : World, (part 3 #[.int .i64 m.d0, .int .i64 m.d1, .int .i64 m.d2, .int .i64 m.d3] 1).run Tryz.prog W = .ok (.int .i64 m.d1) W := fun W => by kernel_rfl
  have p2 : ∀ W : World, (part 3 #[.int .i64 m.d0, .int .i64 m.d1, .int .i64 m.d2, .int .i64 m.d3] 2).run Tryz.prog W = .ok (.int .i64 m.d2) W := fun W => by kernel_rfl
  have p3 : ∀ W : World, (part 3 #[.int .i64 m.d0, .int .i64 m.d1, .int .i64 m.d2, .int .i64 m.d3] 3).run Tryz.prog W = .ok (.int .i64 m.d3) W := fun W => by kernel_rfl
  have ha : ∀ W : World, (Op.equalIn 9999 50 (.agg #[.int .i64 m.d0, .int .i64 m.d1, .int .i64 m.d2, .int .i64 m.d3]) (.agg #[.int .i64 m.d0, .int .i64 m.d1, .int .i64 m.d2, .int .i64 m.d3])).run Tryz.prog W = .ok true W := fun W => by
    show (Op.equalIn (9998 + 1) _ _ _).run _ _ = _
    unfold Op.equalIn
    simp only [Sem.run_bind, run_underlying (Tryz.underlying50), Result.andThen_ok, hs]
    simp [List.range', List.forIn_cons, p0, p1, p2, p3, e 9997]
  have q0 : ∀ W : World, (part 3 (aMs m) 0).run Tryz.prog W = .ok (.int .i64 m.src) W := fun W => by kernel_rfl
  have q1 : ∀ W : World, (part 3 (aMs m) 1).run Tryz.prog W = .ok (.int .i64 m.num) W := fun W => by kernel_rfl
  have q2 : ∀ W : World, (part 3 (aMs m) 2).run Tryz.prog W = .ok (.int .i64 m.kind) W := fun W => by kernel_rfl
  have q3 : ∀ W : World, (part 50 (aMs m) 3).run Tryz.prog W = .ok (.agg #[.int .i64 m.d0, .int .i64 m.d1, .int .i64 m.d2, .int .i64 m.d3]) W := fun W => by kernel_rfl
  show (Op.equalIn (9999 + 1) _ _ _).run _ _ = _
  rw [run_equalIn_agg W 9999 52 (aMs m) (aMs m) (by kernel_rfl) (by kernel_rfl)]
  have hf : (Tryz.prog.fieldsOf 52).toList.map (fun f => (f.name, f.type, f.offset)) = [("Source", 3, 0), ("Number", 3, 1), ("Kind", 3, 2), ("Data", 50, 3)] := by kernel_rfl
  have key : ∀ fs : List Field, fs.map (fun f => (f.name, f.type, f.offset)) = [("Source", 3, 0), ("Number", 3, 1), ("Kind", 3, 2), ("Data", 50, 3)] → (Op.eqFields 9999 (aMs m) (aMs m) fs).run Tryz.prog W = .ok true W := by
    intro fs h
    have hl : fs.length = 4 := by simpa using congrArg List.length h
    match fs, hl, h with
    | [f0, f1, f2, f3], _, h =>
      simp only [List.map_cons, List.map_nil, List.cons.injEq, Prod.mk.injEq, and_true] at h
      obtain ⟨⟨n0, t0, o0⟩, ⟨n1, t1, o1⟩, ⟨n2, t2, o2⟩, ⟨n3, t3, o3⟩⟩ := h
      simp [Op.eqFields, n0, t0, o0, n1, t1, o1, n2, t2, o2, n3, t3, o3, q0, q1, q2, q3, e 9998, ha]
  exact key _ hf
end Go.Proofs.YtbdgblnccjpahaaGreatDoor
