/-
  Walk: the wrong readings for a box and their witness, by the reference.
-/
import Derived.Test.YtephimmamkafoaaH7
import Derived.Test.YtephimmamkafoaaG12
import Derived.Test.YtephimmamkafoaaH22
namespace Go.Proofs.Ytephimmamkafoaa
set_option linter.unusedSimpArgs false
set_option linter.unusedVariables false
open Go.RowKit Go.Shelf
attribute [local go_sem] bl_al bl_drew bl_drewN bl_refl bx_al bx_drew bx_drewN bx_refl
set_option maxRecDepth 20000
set_option maxHeartbeats 16000000 in
theorem r_Wrong0 (wd b : Bx) (nb n : Nat) (A A' : Option Addr) (c c' : Nat) (f g : Pl → List Int) (w : World)
    (hag : Hid (∀ W, Below w.heap.size w W → ∀ p : Pl, p.in 10000 → Calls Try.prog 42 #[vNt wd (.slice A nb c), .slice A' n c', vPl p] W (RetI (f p) W)))
    (hoth : Hid (∀ (p : Pl) (W : World) (Ax : Option Addr) (cx : Nat), Sl cI 1 W Ax (f p) → Calls Try.prog 102 #[.int .i64 (n : Nat), .slice Ax (f p).length cx] W (RetI (g p) W)))
    (hgl : Hid (∀ p, (g p).length ≤ 1000)) (hin : Hid (∀ p, p ∈ b.pts → p.in 10000)) (hb : b.in 10000) :
    Calls Try.prog 45 #[vNt wd (.slice A nb c), vBx b, .slice A' n c'] w
      (fun e w' => ∃ A'' c'', e = .returned (.tuple #[.slice A'' (bestOf g b.pts).1.length c'', vPl (bestOf g b.pts).2.1]) ∧ Below w.heap.size w w' ∧ w'.ownsRow w.heap.size 3 1 (.slice A'' (bestOf g b.pts).1.length c'') (bestOf g b.pts).1.length ((bestOf g b.pts).1.map (.int .i64))) := by
  obtain ⟨⟨hx1, hx2, hx3, hx4⟩, ⟨hy1, hy2, hy3, hy4⟩, ⟨hz1, hz2, hz3, hz4⟩⟩ := hb
  go_enter Try.func45, Try.ntmps45
  go_wp2
  apply absB4 (w0 := w) (g0 := w.heap.size) (g1 := w.heap.size + 1) (g2 := w.heap.size + 2) (g3 := w.heap.size + 3)
  iterate 5 (focus ((with_reducible (repeat' (first | assumption | apply jA | apply jB | apply jC | apply jD | apply jE | apply jF | apply hb3 | apply jG | apply jH | apply jI | apply jJ | apply jK | apply hb3x | (apply jL; first | (simp; done) | rfl) | apply jM | apply jN | apply jO | apply jP | apply jQ | apply jR | apply jS | apply jT (hb := hb3 _ (jA _)) | omega | (simp; done) | (simp; omega) | (dsimp only; omega)))); done))
  intro wa hb0' k0' k1' k3' k4'
  (try simp only [List.setIfInBounds_toArray, List.set_cons_zero, List.set_cons_succ] at k0' k1' k3' k4')
  try clear hb3
  try clear hb0
  try clear k0
  try clear k1
  try clear k3
  try clear k4
  have hb0 := hb0'; clear hb0'
  have k0 := k0'; clear k0'
  have k1 := k1'; clear k1'
  have k3 := k3'; clear k3'
  have k4 := k4'; clear k4'
  have hqa := k4.lt
  go_loopw [8, 10, 11] (fun bv fv i wr => ∃ (x : Int) (pre : List Pl) (Ab : Option Addr) (cb : Nat), i = .int .i64 x ∧ bv = .slice Ab (bestOf g pre).1.length cb ∧ fv = .bool (bestOf g pre).2.2 ∧ b.x.lo ≤ x ∧ x ≤ 10001 ∧ pre ++ R1 b x = b.pts ∧ Below w.heap.size w wr ∧ wa.heap.size ≤ wr.heap.size ∧
        Blk wr w.heap.size 28 (aNt wd (.slice A nb c)) ∧ Blk wr (w.heap.size + 1) 25 (aBx b) ∧ Blk wr (w.heap.size + 2) 62 #[.int .i64 0, .int .i64 0, .int .i64 0] ∧
        Blk wr (w.heap.size + 3) 62 #[.int .i64 (bestOf g pre).2.1.x, .int .i64 (bestOf g pre).2.1.y, .int .i64 (bestOf g pre).2.1.z] ∧
        wr.ownsRow wa.heap.size 3 1 (.slice Ab (bestOf g pre).1.length cb) (bestOf g pre).1.length ((bestOf g pre).1.map (.int .i64))) (fun _ _ i _ => (b.x.hi + 1 - intOf i).toNat)
  case atStart => exact ⟨b.x.lo, [], none, 0, rfl, rfl, rfl, Int.le_refl _, by omega, rfl, hb0, Nat.le_refl _, k0, k1, k3, k4, World.ownsRow_nil _ _ _ _⟩
  case round =>
    clear k0 k1 k3 k4 hb0
    obtain ⟨x, pre, Ab, cb, rfl, rfl, rfl, hlx, hxb, hpre, hb0, hle, k0, k1, k3, k4, hown⟩ := hrel
    replace hpre := Lib.hid hpre
    replace hown := Lib.hid hown
    have L1 := k1.cell
    by_cases hx : x ≤ b.x.hi
    · go_wp2
      go_loopw [8, 10, 12] (fun bv fv i wr => ∃ (y : Int) (pre : List Pl) (Ab : Option Addr) (cb : Nat), i = .int .i64 y ∧ bv = .slice Ab (bestOf g pre).1.length cb ∧ fv = .bool (bestOf g pre).2.2 ∧ b.y.lo ≤ y ∧ y ≤ 10001 ∧ pre ++ (R2 b x y ++ R1 b (x + 1)) = b.pts ∧ Below w.heap.size w wr ∧ wa.heap.size ≤ wr.heap.size ∧
        Blk wr w.heap.size 28 (aNt wd (.slice A nb c)) ∧ Blk wr (w.heap.size + 1) 25 (aBx b) ∧ Blk wr (w.heap.size + 2) 62 #[.int .i64 0, .int .i64 0, .int .i64 0] ∧
        Blk wr (w.heap.size + 3) 62 #[.int .i64 (bestOf g pre).2.1.x, .int .i64 (bestOf g pre).2.1.y, .int .i64 (bestOf g pre).2.1.z] ∧
        wr.ownsRow wa.heap.size 3 1 (.slice Ab (bestOf g pre).1.length cb) (bestOf g pre).1.length ((bestOf g pre).1.map (.int .i64))) (fun _ _ i _ => (b.y.hi + 1 - intOf i).toNat)
      case atStart => exact ⟨b.y.lo, pre, Ab, cb, rfl, rfl, rfl, Int.le_refl _, by omega, by rw [← hpre.out, R1_step hx], hb0, hle, k0, k1, k3, k4, hown.out⟩
      case round =>
        clear k0 k1 k3 k4 hb0 L1 hpre hown hle
        obtain ⟨y, pre, Ab, cb, rfl, rfl, rfl, hly, hyb, hpre, hb0, hle, k0, k1, k3, k4, hown⟩ := hrel
        replace hpre := Lib.hid hpre
        replace hown := Lib.hid hown
        have L1 := k1.cell
        by_cases hy : y ≤ b.y.hi
        · go_wp2
          go_loopw [8, 10, 13] (fun bv fv i wr => ∃ (z : Int) (pre : List Pl) (Ab : Option Addr) (cb : Nat), i = .int .i64 z ∧ bv = .slice Ab (bestOf g pre).1.length cb ∧ fv = .bool (bestOf g pre).2.2 ∧ b.z.lo ≤ z ∧ z ≤ 10001 ∧ pre ++ (R3 b x y z ++ (R2 b x (y + 1) ++ R1 b (x + 1))) = b.pts ∧ Below w.heap.size w wr ∧ wa.heap.size ≤ wr.heap.size ∧
        Blk wr w.heap.size 28 (aNt wd (.slice A nb c)) ∧ Blk wr (w.heap.size + 1) 25 (aBx b) ∧ Blk wr (w.heap.size + 2) 62 #[.int .i64 0, .int .i64 0, .int .i64 0] ∧
        Blk wr (w.heap.size + 3) 62 #[.int .i64 (bestOf g pre).2.1.x, .int .i64 (bestOf g pre).2.1.y, .int .i64 (bestOf g pre).2.1.z] ∧
        wr.ownsRow wa.heap.size 3 1 (.slice Ab (bestOf g pre).1.length cb) (bestOf g pre).1.length ((bestOf g pre).1.map (.int .i64))) (fun _ _ i _ => (b.z.hi + 1 - intOf i).toNat)
          case atStart => exact ⟨b.z.lo, pre, Ab, cb, rfl, rfl, rfl, Int.le_refl _, by omega, by rw [← hpre.out, R2_step hy, List.append_assoc], hb0, hle, k0, k1, k3, k4, hown.out⟩
          case round =>
            clear k0 k1 k3 k4 hb0 L1 hpre hown hle
            obtain ⟨z, pre, Ab, cb, rfl, rfl, rfl, hlz, hzb, hpre, hb0, hle, k0, k1, k3, k4, hown⟩ := hrel
            replace hpre := Lib.hid hpre
            by_cases hz : z ≤ b.z.hi
            · have hst := bestOf_snoc g pre ⟨x, y, z⟩
              have hq : Hid (pre ++ [⟨x, y, z⟩] ++ (R3 b x y (z + 1) ++ (R2 b x (y + 1) ++ R1 b (x + 1))) = b.pts) := by refine Lib.hid ?_; rw [← hpre.out, R3_step hz]; simp
              have hpi := hin.out ⟨x, y, z⟩ (by rw [← hq.out]; simp)
              have hTl := bestOf_len hgl.out pre
              have hSl := hgl.out ⟨x, y, z⟩
              have hcp := Lib.hid fun (W : World) (hb : Below w.heap.size w W) => hag.out W hb ⟨x, y, z⟩ hpi
              have hot := Lib.hid (hoth.out ⟨x, y, z⟩)
              replace hpi := Lib.hid hpi
              unfold bestF at hst
              generalize bestOf g pre = s at *
              obtain ⟨T, q, fnd⟩ := s
              dsimp only at k4 hst hTl hown
              generalize g ⟨x, y, z⟩ = S at *
              generalize f ⟨x, y, z⟩ = G at *
              replace hst := Lib.hid hst
              replace hown := Lib.hid hown
              have hqr := k4.lt
              have Lk0 := k0.later
              have Fk0 := k0.laterF
              have Qk0 := k0.lt
              have Lk1 := k1.later
              have Fk1 := k1.laterF
              have Qk1 := k1.lt
              have Lk3 := k3.later
              have Fk3 := k3.laterF
              have Qk3 := k3.lt
              have Lk4 := k4.later
              have Fk4 := k4.laterF
              have Qk4 := k4.lt
              go_upto_region 14 with fail
              have hwb : Below wr.heap.size wr (wr.alloc (.cells #[.int .i64 x, .int .i64 y, .int .i64 z] 62)) := bl_al _ (bl_refl _)
              go_upto_region 15 with (first | (go_at_call 42; (with_reducible refine (hcp.out _ (bl_tr hb0 (by (with_reducible (repeat' (first | assumption | apply jA | apply jB | apply jC | apply jD | apply jE | apply jF | apply hb3 | omega | (simp; done) | (simp; omega) | (dsimp only; omega))))))).mono ?_); rintro e w3 ⟨Ax, cx, rfl, hb3, hox⟩; replace hb3 := bl_tt hb3; have hs3 := (hb3 _ hwb).size) | (go_at_call 102; (with_reducible refine (hot.out _ _ _ (own_sl hox)).mono ?_); rintro e w4 ⟨As, cs, rfl, hb4, hoy⟩; replace hb3 := fun w h => bl_tt hb4 w (hb3 w h)))
              have hw4 : Below wr.heap.size wr w4 := hb3 _ hwb
              have hbw : Below w.heap.size w w4 := bl_tr hb0 hw4
              have hle4 : wa.heap.size ≤ w4.heap.size := Nat.le_trans hle hw4.size
              have hos := Lib.hid (own_mono (b := wa.heap.size) (Nat.le_trans hle hs3) hoy)
              have k5 := (Blk.new wr 62 #[.int .i64 x, .int .i64 y, .int .i64 z]).below (hb3 _ (bl_refl _))
              replace k0 := k0.below hw4
              replace k1 := k1.below hw4
              replace k3 := k3.below hw4
              replace k4 := k4.below hw4
              replace hown := Lib.hid (own_below hown.out hw4)
              clear hb3 hb4 hox hoy hcp hot Lk0 Lk1 Lk3 Lk4 Fk0 Fk1 Fk3 Fk4
              have hb0 := bx_refl [w.heap.size + 3] w4
              have hqw := k5.lt
              have Lk0 := k0.later
              have Fk0 := k0.laterF
              have Qk0 := k0.lt
              have Lk1 := k1.later
              have Fk1 := k1.laterF
              have Qk1 := k1.lt
              have Lk3 := k3.later
              have Fk3 := k3.laterF
              have Qk3 := k3.lt
              have Lk4 := k4.later
              have Fk4 := k4.laterF
              have Qk4 := k4.lt
              have Lk5 := k5.later
              have Fk5 := k5.laterF
              have Qk5 := k5.lt
              have hcm := Lib.hid fun (W : World) (hb : Below w4.heap.size w4 W) => r_Before S T As Ab cs cb W ((own_sl hos.out).below hb) ((own_sl hown.out).below hb) (by omega) (by omega)
              cases fnd
              · replace hSl := Lib.hid hSl
                have hst' : Hid (bestOf g (pre ++ [⟨x, y, z⟩]) = (S, ⟨x, y, z⟩, true)) := by rw [hst.out, if_pos (by simp [bestTest, Bool.not_false])]; exact Lib.hid rfl
                clear hst
                go_upto_region 16 with fail
                apply absK5 (X := [w.heap.size + 3]) (w0 := w4) (g0 := w.heap.size) (g1 := w.heap.size + 1) (g2 := w.heap.size + 2) (g3 := w.heap.size + 3) (g4 := wr.heap.size)
                iterate 6 (focus ((with_reducible (repeat' (first | assumption | apply jA | apply jB | apply jC | apply jD | apply jE | apply jF | apply hb3 | apply jG | apply jH | apply jI | apply jJ | apply jK | apply hb3x | (apply jL; first | (simp; done) | rfl) | apply jM | apply jN | apply jO | apply jP | apply jQ | apply jR | apply jS | apply jT (hb := hb3 _ (jA _)) | omega | (simp; done) | (simp; omega) | (dsimp only; omega)))); done))
                intro xa hb0' k0' k1' k3' k4' k5'
                (try simp only [List.setIfInBounds_toArray, List.set_cons_zero, List.set_cons_succ] at k0' k1' k3' k4' k5')
                try clear hb3
                try clear hb3x
                try clear hb0
                try clear k0
                try clear k1
                try clear k3
                try clear k4
                try clear k5
                have hb0 := hb0'; clear hb0'
                have k0 := k0'; clear k0'
                have k1 := k1'; clear k1'
                have k3 := k3'; clear k3'
                have k4 := k4'; clear k4'
                have k5 := k5'; clear k5'
                have Lk0 := k0.later
                have Fk0 := k0.laterF
                have Qk0 := k0.lt
                have Lk1 := k1.later
                have Fk1 := k1.laterF
                have Qk1 := k1.lt
                have Lk3 := k3.later
                have Fk3 := k3.laterF
                have Qk3 := k3.lt
                have Lk4 := k4.later
                have Fk4 := k4.laterF
                have Qk4 := k4.lt
                have Lk5 := k5.later
                have Fk5 := k5.laterF
                have Qk5 := k5.lt
                refine wp_any (w0 := xa) ⟨[3, 4], [], [some 78, some 79, some 8, none, none], [[], [], [0], [0, 1, 2], [0, 1, 2, 3]], [[], [], [0], [], []]⟩ (fun _ => [w.heap.size + 3]) (by kernel_rfl) (by kernel_rfl) (by (with_reducible (repeat' (first | assumption | apply jA | apply jB | apply jC | apply jD | apply jE | apply jF | apply hb3 | omega | (simp; done) | (simp; omega) | (dsimp only; omega))))) (fun u => by simp only [putD, Act.put, List.setIfInBounds_toArray, List.set_cons_zero, List.set_cons_succ, Nat.zero_add, Nat.reduceAdd]; rfl) ?_
                apply RGW.on (i := 0) rfl
                · (simp only [gA, gB, gC] <;> rfl)
                · intro γ u W hcur hd
                  clear hd
                  (try dsimp only)
                  refine ⟨rfl, ?_⟩
                  go_simp <;> (try go_bits) <;> with_reducible rfl
                · exact fun _ _ _ => rfl
                · rfl
                dsimp only [nA, cA]
                apply RGW.on (i := 1) rfl
                · (simp only [gA, gB, gC] <;> rfl)
                · intro γ u W hcur hd
                  clear hd
                  (try dsimp only)
                  refine ⟨rfl, ?_⟩
                  go_simp <;> (try go_bits) <;> with_reducible rfl
                · exact fun _ _ _ => rfl
                · rfl
                dsimp only [nA, cA]
                apply RGW.on (i := 2) rfl
                · (simp only [gA, gB, gC] <;> rfl)
                · intro γ u W hcur hd
                  obtain ⟨⟨h0, -, -⟩, -⟩ := hd
                  dsimp only at h0
                  (try simp only [h0])
                  refine ⟨rfl, ?_⟩
                  go_simp <;> (try go_bits) <;> with_reducible rfl
                · exact fun _ _ _ => rfl
                · rfl
                dsimp only [nA, cA]
                refine RGW.skip (i := 3) rfl rfl ?_
                dsimp only [nA, cA]
                refine RGW.skip (i := 4) rfl rfl ?_
                dsimp only [nA, cA]
                refine RGW.fin (fun γ u ya hya hd hdis => ?_)
                obtain ⟨⟨h0, -, -⟩, ⟨h1, -, -⟩, ⟨h2, -, -⟩, -⟩ := hd
                dsimp only at h0 h1 h2
                clear hdis
                simp only [h0, h1, h2]
                clear h2 h1 h0
                clear u
                simp only [List.map_cons, List.map_nil]
                apply PlanW.step
                · (simp only [gA, gB, gC] <;> rfl)
                · rfl
                intro K hK
                refine wp_store_keep (X := [w.heap.size + 3]) (w0 := ya) rfl rfl rfl (by with_reducible first | exact bx_refl _ _ | assumption) (by with_reducible first | assumption | (apply Blk.below (hb := hya); assumption)) (by simp) (by kernel_rfl) (by rfl) (by simp [Value.oneCell']) (fun hres1 hcur => ?_)
                refine hK.out _ _ hcur (fun _ => ?_)
                clear hK K
                try simp only [Act.put, List.setIfInBounds_toArray, List.set_cons_zero, List.set_cons_succ]
                apply PlanW.step
                · (simp only [gA, gB, gC] <;> rfl)
                · rfl
                intro K hK
                go_simp
                refine hK.out _ _ (by (with_reducible (repeat' (first | assumption | apply jG | apply jH | apply jI | apply jJ | apply jK | apply hb3x | omega | (simp; done) | (simp; omega) | (dsimp only; omega))))) (fun hcur => ?_)
                clear hK K
                try simp only [Act.put, List.setIfInBounds_toArray, List.set_cons_zero, List.set_cons_succ]
                refine PlanW.done ?_
                have hb3 := bl_tt hya
                have hb3y := (bx_tt hya _ _ hb0).trans hcur
                go_wp2
                go_roundw
                case rel => exact ⟨z + 1, pre ++ [⟨x, y, z⟩], As, cs, by go_num, by rw [hst'.out] , by rw [hst'.out], by omega, by omega, by rw [← hq.out], bx_below hbw hb3y (by simp), Nat.le_trans hle4 hb3y.size, by (with_reducible (repeat' (first | assumption | (apply jL; first | (simp; done) | rfl) | apply jM | apply jN | apply jO | apply jP | apply jQ | apply jR | apply jS | apply jT (hb := hb3 _ (jA _)) | omega | (simp; done) | (simp; omega) | (dsimp only; omega)))), by (with_reducible (repeat' (first | assumption | (apply jL; first | (simp; done) | rfl) | apply jM | apply jN | apply jO | apply jP | apply jQ | apply jR | apply jS | apply jT (hb := hb3 _ (jA _)) | omega | (simp; done) | (simp; omega) | (dsimp only; omega)))), by (with_reducible (repeat' (first | assumption | (apply jL; first | (simp; done) | rfl) | apply jM | apply jN | apply jO | apply jP | apply jQ | apply jR | apply jS | apply jT (hb := hb3 _ (jA _)) | omega | (simp; done) | (simp; omega) | (dsimp only; omega)))), by rw [hst'.out]; exact Blk.conv (by (with_reducible (repeat' (first | assumption | (apply jL; first | (simp; done) | rfl) | apply jM | apply jN | apply jO | apply jP | apply jQ | apply jR | apply jS | apply jT (hb := hb3 _ (jA _)) | omega | (simp; done) | (simp; omega) | (dsimp only; omega))))) (by simp), by rw [hst'.out]; exact own_bx hos.out hb3y (by simp; omega)⟩
                case measure => simp [intOf]; omega
              by_cases hlt : S.length < T.length
              · have hlt' : decide ((S.length : Int) < (T.length : Int)) = true := by simp; omega
                have hst' : Hid (bestOf g (pre ++ [⟨x, y, z⟩]) = (S, ⟨x, y, z⟩, true)) := by rw [hst.out, if_pos (by simp [bestTest, hlt])]; exact Lib.hid rfl
                clear hst
                go_upto_region 16 with fail
                apply absK5 (X := [w.heap.size + 3]) (w0 := w4) (g0 := w.heap.size) (g1 := w.heap.size + 1) (g2 := w.heap.size + 2) (g3 := w.heap.size + 3) (g4 := wr.heap.size)
                iterate 6 (focus ((with_reducible (repeat' (first | assumption | apply jA | apply jB | apply jC | apply jD | apply jE | apply jF | apply hb3 | apply jG | apply jH | apply jI | apply jJ | apply jK | apply hb3x | (apply jL; first | (simp; done) | rfl) | apply jM | apply jN | apply jO | apply jP | apply jQ | apply jR | apply jS | apply jT (hb := hb3 _ (jA _)) | omega | (simp; done) | (simp; omega) | (dsimp only; omega)))); done))
                intro xb hb0' k0' k1' k3' k4' k5'
                (try simp only [List.setIfInBounds_toArray, List.set_cons_zero, List.set_cons_succ] at k0' k1' k3' k4' k5')
                try clear hb3
                try clear hb3x
                try clear hb0
                try clear k0
                try clear k1
                try clear k3
                try clear k4
                try clear k5
                have hb0 := hb0'; clear hb0'
                have k0 := k0'; clear k0'
                have k1 := k1'; clear k1'
                have k3 := k3'; clear k3'
                have k4 := k4'; clear k4'
                have k5 := k5'; clear k5'
                have Lk0 := k0.later
                have Fk0 := k0.laterF
                have Qk0 := k0.lt
                have Lk1 := k1.later
                have Fk1 := k1.laterF
                have Qk1 := k1.lt
                have Lk3 := k3.later
                have Fk3 := k3.laterF
                have Qk3 := k3.lt
                have Lk4 := k4.later
                have Fk4 := k4.laterF
                have Qk4 := k4.lt
                have Lk5 := k5.later
                have Fk5 := k5.laterF
                have Qk5 := k5.lt
                refine wp_any (w0 := xb) ⟨[3, 4], [], [some 78, some 79, some 8, none, none], [[], [], [0], [0, 1, 2], [0, 1, 2, 3]], [[], [], [0], [], []]⟩ (fun _ => [w.heap.size + 3]) (by kernel_rfl) (by kernel_rfl) (by (with_reducible (repeat' (first | assumption | apply jA | apply jB | apply jC | apply jD | apply jE | apply jF | apply hb3 | omega | (simp; done) | (simp; omega) | (dsimp only; omega))))) (fun u => by simp only [putD, Act.put, List.setIfInBounds_toArray, List.set_cons_zero, List.set_cons_succ, Nat.zero_add, Nat.reduceAdd]; rfl) ?_
                apply RGW.on (i := 0) rfl
                · (simp only [gA, gB, gC] <;> rfl)
                · intro γ u W hcur hd
                  clear hd
                  (try dsimp only)
                  refine ⟨rfl, ?_⟩
                  go_simp <;> (try go_bits) <;> with_reducible rfl
                · exact fun _ _ _ => rfl
                · rfl
                dsimp only [nA, cA]
                apply RGW.on (i := 1) rfl
                · (simp only [gA, gB, gC] <;> rfl)
                · intro γ u W hcur hd
                  clear hd
                  (try dsimp only)
                  refine ⟨rfl, ?_⟩
                  go_simp <;> (try go_bits) <;> with_reducible rfl
                · exact fun _ _ _ => rfl
                · rfl
                dsimp only [nA, cA]
                apply RGW.on (i := 2) rfl
                · (simp only [gA, gB, gC] <;> rfl)
                · intro γ u W hcur hd
                  obtain ⟨⟨h0, -, -⟩, -⟩ := hd
                  dsimp only at h0
                  (try simp only [h0])
                  refine ⟨rfl, ?_⟩
                  go_simp <;> (try go_bits) <;> with_reducible rfl
                · exact fun _ _ _ => rfl
                · rfl
                dsimp only [nA, cA]
                refine RGW.skip (i := 3) rfl rfl ?_
                dsimp only [nA, cA]
                refine RGW.skip (i := 4) rfl rfl ?_
                dsimp only [nA, cA]
                refine RGW.fin (fun γ u yb hyb hd hdis => ?_)
                obtain ⟨⟨h0, -, -⟩, ⟨h1, -, -⟩, ⟨h2, -, -⟩, -⟩ := hd
                dsimp only at h0 h1 h2
                clear hdis
                simp only [h0, h1, h2]
                clear h2 h1 h0
                clear u
                simp only [List.map_cons, List.map_nil]
                apply PlanW.step
                · (simp only [gA, gB, gC] <;> rfl)
                · rfl
                intro K hK
                refine wp_store_keep (X := [w.heap.size + 3]) (w0 := yb) rfl rfl rfl (by with_reducible first | exact bx_refl _ _ | assumption) (by with_reducible first | assumption | (apply Blk.below (hb := hyb); assumption)) (by simp) (by kernel_rfl) (by rfl) (by simp [Value.oneCell']) (fun hres1 hcur => ?_)
                refine hK.out _ _ hcur (fun _ => ?_)
                clear hK K
                try simp only [Act.put, List.setIfInBounds_toArray, List.set_cons_zero, List.set_cons_succ]
                apply PlanW.step
                · (simp only [gA, gB, gC] <;> rfl)
                · rfl
                intro K hK
                go_simp
                refine hK.out _ _ (by (with_reducible (repeat' (first | assumption | apply jG | apply jH | apply jI | apply jJ | apply jK | apply hb3x | omega | (simp; done) | (simp; omega) | (dsimp only; omega))))) (fun hcur => ?_)
                clear hK K
                try simp only [Act.put, List.setIfInBounds_toArray, List.set_cons_zero, List.set_cons_succ]
                refine PlanW.done ?_
                have hb3 := bl_tt hyb
                have hb3y := (bx_tt hyb _ _ hb0).trans hcur
                go_wp2
                go_roundw
                case rel => exact ⟨z + 1, pre ++ [⟨x, y, z⟩], As, cs, by go_num, by rw [hst'.out] , by rw [hst'.out], by omega, by omega, by rw [← hq.out], bx_below hbw hb3y (by simp), Nat.le_trans hle4 hb3y.size, by (with_reducible (repeat' (first | assumption | (apply jL; first | (simp; done) | rfl) | apply jM | apply jN | apply jO | apply jP | apply jQ | apply jR | apply jS | apply jT (hb := hb3 _ (jA _)) | omega | (simp; done) | (simp; omega) | (dsimp only; omega)))), by (with_reducible (repeat' (first | assumption | (apply jL; first | (simp; done) | rfl) | apply jM | apply jN | apply jO | apply jP | apply jQ | apply jR | apply jS | apply jT (hb := hb3 _ (jA _)) | omega | (simp; done) | (simp; omega) | (dsimp only; omega)))), by (with_reducible (repeat' (first | assumption | (apply jL; first | (simp; done) | rfl) | apply jM | apply jN | apply jO | apply jP | apply jQ | apply jR | apply jS | apply jT (hb := hb3 _ (jA _)) | omega | (simp; done) | (simp; omega) | (dsimp only; omega)))), by rw [hst'.out]; exact Blk.conv (by (with_reducible (repeat' (first | assumption | (apply jL; first | (simp; done) | rfl) | apply jM | apply jN | apply jO | apply jP | apply jQ | apply jR | apply jS | apply jT (hb := hb3 _ (jA _)) | omega | (simp; done) | (simp; omega) | (dsimp only; omega))))) (by simp), by rw [hst'.out]; exact own_bx hos.out hb3y (by simp; omega)⟩
                case measure => simp [intOf]; omega
              · have hlt' : decide ((S.length : Int) < (T.length : Int)) = false := by simp; omega
                by_cases heq : S.length = T.length
                · have heq' : decide ((S.length : Int) = (T.length : Int)) = true := by simp; omega
                  obtain ⟨hB, hBe⟩ : ∃ b, lexB S T = b := ⟨_, rfl⟩
                  rw [hBe] at hcm
                  cases hB
                  · simp only [heq] at hcm
                    have hst' : Hid (bestOf g (pre ++ [⟨x, y, z⟩]) = (T, q, true)) := by rw [hst.out, if_neg (by simp [bestTest, hlt, heq, hBe])]; exact Lib.hid rfl
                    clear hst
                    go_wp2_with (go_at_call 103; (with_reducible refine (hcm.out _ (by (with_reducible (repeat' (first | assumption | apply jA | apply jB | apply jC | apply jD | apply jE | apply jF | apply hb3 | omega | (simp; done) | (simp; omega) | (dsimp only; omega)))))).mono ?_); rintro e w5 ⟨rfl, hb3⟩; have hb3x := bx_tt hb3; replace hb3 := bl_tt hb3)
                    go_roundw
                    case rel => exact ⟨z + 1, pre ++ [⟨x, y, z⟩], Ab, cb, by go_num, by rw [hst'.out], by rw [hst'.out], by omega, by omega, by rw [← hq.out], bl_tr hbw (hb3 _ (bl_refl _)), Nat.le_trans hle4 (hb3 _ (bl_refl _)).size, by (with_reducible (repeat' (first | assumption | (apply jL; first | (simp; done) | rfl) | apply jM | apply jN | apply jO | apply jP | apply jQ | apply jR | apply jS | apply jT (hb := hb3 _ (jA _)) | omega | (simp; done) | (simp; omega) | (dsimp only; omega)))), by (with_reducible (repeat' (first | assumption | (apply jL; first | (simp; done) | rfl) | apply jM | apply jN | apply jO | apply jP | apply jQ | apply jR | apply jS | apply jT (hb := hb3 _ (jA _)) | omega | (simp; done) | (simp; omega) | (dsimp only; omega)))), by (with_reducible (repeat' (first | assumption | (apply jL; first | (simp; done) | rfl) | apply jM | apply jN | apply jO | apply jP | apply jQ | apply jR | apply jS | apply jT (hb := hb3 _ (jA _)) | omega | (simp; done) | (simp; omega) | (dsimp only; omega)))), by rw [hst'.out]; (with_reducible (repeat' (first | assumption | (apply jL; first | (simp; done) | rfl) | apply jM | apply jN | apply jO | apply jP | apply jQ | apply jR | apply jS | apply jT (hb := hb3 _ (jA _)) | omega | (simp; done) | (simp; omega) | (dsimp only; omega)))), by rw [hst'.out]; exact own_below hown.out (hb3 _ (bl_refl _))⟩
                    case measure => simp [intOf]; omega
                  · simp only [heq] at hcm
                    have hst' : Hid (bestOf g (pre ++ [⟨x, y, z⟩]) = (S, ⟨x, y, z⟩, true)) := by rw [hst.out, if_pos (by simp [bestTest, hlt, heq, hBe])]; exact Lib.hid rfl
                    clear hst
                    go_upto_region 16 with (go_at_call 103; (with_reducible refine (hcm.out _ (by (with_reducible (repeat' (first | assumption | apply jA | apply jB | apply jC | apply jD | apply jE | apply jF | apply hb3 | omega | (simp; done) | (simp; omega) | (dsimp only; omega)))))).mono ?_); rintro e w5 ⟨rfl, hb3⟩; have hb3x := bx_tt hb3; replace hb3 := bl_tt hb3)
                    apply absK5 (X := [w.heap.size + 3]) (w0 := w4) (g0 := w.heap.size) (g1 := w.heap.size + 1) (g2 := w.heap.size + 2) (g3 := w.heap.size + 3) (g4 := wr.heap.size)
                    iterate 6 (focus ((with_reducible (repeat' (first | assumption | apply jA | apply jB | apply jC | apply jD | apply jE | apply jF | apply hb3 | apply jG | apply jH | apply jI | apply jJ | apply jK | apply hb3x | (apply jL; first | (simp; done) | rfl) | apply jM | apply jN | apply jO | apply jP | apply jQ | apply jR | apply jS | apply jT (hb := hb3 _ (jA _)) | omega | (simp; done) | (simp; omega) | (dsimp only; omega)))); done))
                    intro xd hb0' k0' k1' k3' k4' k5'
                    (try simp only [List.setIfInBounds_toArray, List.set_cons_zero, List.set_cons_succ] at k0' k1' k3' k4' k5')
                    try clear hb3
                    try clear hb3x
                    try clear hb0
                    try clear k0
                    try clear k1
                    try clear k3
                    try clear k4
                    try clear k5
                    have hb0 := hb0'; clear hb0'
                    have k0 := k0'; clear k0'
                    have k1 := k1'; clear k1'
                    have k3 := k3'; clear k3'
                    have k4 := k4'; clear k4'
                    have k5 := k5'; clear k5'
                    have Lk0 := k0.later
                    have Fk0 := k0.laterF
                    have Qk0 := k0.lt
                    have Lk1 := k1.later
                    have Fk1 := k1.laterF
                    have Qk1 := k1.lt
                    have Lk3 := k3.later
                    have Fk3 := k3.laterF
                    have Qk3 := k3.lt
                    have Lk4 := k4.later
                    have Fk4 := k4.laterF
                    have Qk4 := k4.lt
                    have Lk5 := k5.later
                    have Fk5 := k5.laterF
                    have Qk5 := k5.lt
                    refine wp_any (w0 := xd) ⟨[3, 4], [], [some 78, some 79, some 8, none, none], [[], [], [0], [0, 1, 2], [0, 1, 2, 3]], [[], [], [0], [], []]⟩ (fun _ => [w.heap.size + 3]) (by kernel_rfl) (by kernel_rfl) (by (with_reducible (repeat' (first | assumption | apply jA | apply jB | apply jC | apply jD | apply jE | apply jF | apply hb3 | omega | (simp; done) | (simp; omega) | (dsimp only; omega))))) (fun u => by simp only [putD, Act.put, List.setIfInBounds_toArray, List.set_cons_zero, List.set_cons_succ, Nat.zero_add, Nat.reduceAdd]; rfl) ?_
                    apply RGW.on (i := 0) rfl
                    · (simp only [gA, gB, gC] <;> rfl)
                    · intro γ u W hcur hd
                      clear hd
                      (try dsimp only)
                      refine ⟨rfl, ?_⟩
                      go_simp <;> (try go_bits) <;> with_reducible rfl
                    · exact fun _ _ _ => rfl
                    · rfl
                    dsimp only [nA, cA]
                    apply RGW.on (i := 1) rfl
                    · (simp only [gA, gB, gC] <;> rfl)
                    · intro γ u W hcur hd
                      clear hd
                      (try dsimp only)
                      refine ⟨rfl, ?_⟩
                      go_simp <;> (try go_bits) <;> with_reducible rfl
                    · exact fun _ _ _ => rfl
                    · rfl
                    dsimp only [nA, cA]
                    apply RGW.on (i := 2) rfl
                    · (simp only [gA, gB, gC] <;> rfl)
                    · intro γ u W hcur hd
                      obtain ⟨⟨h0, -, -⟩, -⟩ := hd
                      dsimp only at h0
                      (try simp only [h0])
                      refine ⟨rfl, ?_⟩
                      go_simp <;> (try go_bits) <;> with_reducible rfl
                    · exact fun _ _ _ => rfl
                    · rfl
                    dsimp only [nA, cA]
                    refine RGW.skip (i := 3) rfl rfl ?_
                    dsimp only [nA, cA]
                    refine RGW.skip (i := 4) rfl rfl ?_
                    dsimp only [nA, cA]
                    refine RGW.fin (fun γ u yd hyd hd hdis => ?_)
                    obtain ⟨⟨h0, -, -⟩, ⟨h1, -, -⟩, ⟨h2, -, -⟩, -⟩ := hd
                    dsimp only at h0 h1 h2
                    clear hdis
                    simp only [h0, h1, h2]
                    clear h2 h1 h0
                    clear u
                    simp only [List.map_cons, List.map_nil]
                    apply PlanW.step
                    · (simp only [gA, gB, gC] <;> rfl)
                    · rfl
                    intro K hK
                    refine wp_store_keep (X := [w.heap.size + 3]) (w0 := yd) rfl rfl rfl (by with_reducible first | exact bx_refl _ _ | assumption) (by with_reducible first | assumption | (apply Blk.below (hb := hyd); assumption)) (by simp) (by kernel_rfl) (by rfl) (by simp [Value.oneCell']) (fun hres1 hcur => ?_)
                    refine hK.out _ _ hcur (fun _ => ?_)
                    clear hK K
                    try simp only [Act.put, List.setIfInBounds_toArray, List.set_cons_zero, List.set_cons_succ]
                    apply PlanW.step
                    · (simp only [gA, gB, gC] <;> rfl)
                    · rfl
                    intro K hK
                    go_simp
                    refine hK.out _ _ (by (with_reducible (repeat' (first | assumption | apply jG | apply jH | apply jI | apply jJ | apply jK | apply hb3x | omega | (simp; done) | (simp; omega) | (dsimp only; omega))))) (fun hcur => ?_)
                    clear hK K
                    try simp only [Act.put, List.setIfInBounds_toArray, List.set_cons_zero, List.set_cons_succ]
                    refine PlanW.done ?_
                    have hb3 := bl_tt hyd
                    have hb3y := (bx_tt hyd _ _ hb0).trans hcur
                    go_wp2
                    go_roundw
                    case rel => exact ⟨z + 1, pre ++ [⟨x, y, z⟩], As, cs, by go_num, by rw [hst'.out] <;> rw [heq], by rw [hst'.out], by omega, by omega, by rw [← hq.out], bx_below hbw hb3y (by simp), Nat.le_trans hle4 hb3y.size, by (with_reducible (repeat' (first | assumption | (apply jL; first | (simp; done) | rfl) | apply jM | apply jN | apply jO | apply jP | apply jQ | apply jR | apply jS | apply jT (hb := hb3 _ (jA _)) | omega | (simp; done) | (simp; omega) | (dsimp only; omega)))), by (with_reducible (repeat' (first | assumption | (apply jL; first | (simp; done) | rfl) | apply jM | apply jN | apply jO | apply jP | apply jQ | apply jR | apply jS | apply jT (hb := hb3 _ (jA _)) | omega | (simp; done) | (simp; omega) | (dsimp only; omega)))), by (with_reducible (repeat' (first | assumption | (apply jL; first | (simp; done) | rfl) | apply jM | apply jN | apply jO | apply jP | apply jQ | apply jR | apply jS | apply jT (hb := hb3 _ (jA _)) | omega | (simp; done) | (simp; omega) | (dsimp only; omega)))), by rw [hst'.out]; exact Blk.conv (by (with_reducible (repeat' (first | assumption | (apply jL; first | (simp; done) | rfl) | apply jM | apply jN | apply jO | apply jP | apply jQ | apply jR | apply jS | apply jT (hb := hb3 _ (jA _)) | omega | (simp; done) | (simp; omega) | (dsimp only; omega))))) (by simp), by rw [hst'.out]; exact own_bx hos.out hb3y (by simp; omega)⟩
                    case measure => simp [intOf]; omega
                · have heq' : decide ((S.length : Int) = (T.length : Int)) = false := by simp; omega
                  have hst' : Hid (bestOf g (pre ++ [⟨x, y, z⟩]) = (T, q, true)) := by rw [hst.out, if_neg (by simp [bestTest, hlt, heq])]; exact Lib.hid rfl
                  clear hst
                  go_wp2_with fail
                  go_roundw
                  case rel => exact ⟨z + 1, pre ++ [⟨x, y, z⟩], Ab, cb, by go_num, by rw [hst'.out], by rw [hst'.out], by omega, by omega, by rw [← hq.out], hbw, hle4, by (with_reducible (repeat' (first | assumption | (apply jL; first | (simp; done) | rfl) | apply jM | apply jN | apply jO | apply jP | apply jQ | apply jR | apply jS | apply jT (hb := hb3 _ (jA _)) | omega | (simp; done) | (simp; omega) | (dsimp only; omega)))), by (with_reducible (repeat' (first | assumption | (apply jL; first | (simp; done) | rfl) | apply jM | apply jN | apply jO | apply jP | apply jQ | apply jR | apply jS | apply jT (hb := hb3 _ (jA _)) | omega | (simp; done) | (simp; omega) | (dsimp only; omega)))), by (with_reducible (repeat' (first | assumption | (apply jL; first | (simp; done) | rfl) | apply jM | apply jN | apply jO | apply jP | apply jQ | apply jR | apply jS | apply jT (hb := hb3 _ (jA _)) | omega | (simp; done) | (simp; omega) | (dsimp only; omega)))), by rw [hst'.out]; (with_reducible (repeat' (first | assumption | (apply jL; first | (simp; done) | rfl) | apply jM | apply jN | apply jO | apply jP | apply jQ | apply jR | apply jS | apply jT (hb := hb3 _ (jA _)) | omega | (simp; done) | (simp; omega) | (dsimp only; omega)))), by rw [hst'.out]; exact hown.out⟩
                  case measure => simp [intOf]; omega
            · have L1 := k1.cell
              go_wp2
              go_roundw
              case rel => exact ⟨y + 1, pre, Ab, cb, by go_num, rfl, rfl, by omega, by omega, by rw [← hpre.out, R3_end (by omega)]; simp, hb0, hle, k0, k1, k3, k4, hown⟩
              case measure => simp [intOf]; omega
        · go_wp2
          go_roundw
          case rel => exact ⟨x + 1, pre, Ab, cb, by go_num, rfl, rfl, by omega, by omega, by rw [← hpre.out, R2_end (by omega)]; simp, hb0, hle, k0, k1, k3, k4, hown.out⟩
          case measure => simp [intOf]; omega
    · have hp' : pre = b.pts := by have := hpre.out; rw [R1_end (by omega), List.append_nil] at this; exact this
      subst hp'
      obtain ⟨⟨T, q, fnd⟩, hs⟩ : ∃ s, Hid (bestOf g b.pts = s) := ⟨_, rfl⟩
      rw [hs.out] at k4 hown ⊢
      dsimp only at k4 hown ⊢
      go_upto_region 17 with fail
      have Lk3 := k3.later
      have Fk3 := k3.laterF
      have Qk3 := k3.lt
      have Lk4 := k4.later
      have Fk4 := k4.laterF
      have Qk4 := k4.lt
      refine wp_any (w0 := wr) ⟨[3], [], [some 80, some 81, some 6, none], [[], [], [0], [0, 1, 2]], [[], [], [0], []]⟩ (fun _ => [w.heap.size + 2]) (by kernel_rfl) (by kernel_rfl) (by (with_reducible (repeat' (first | assumption | apply jA | apply jB | apply jC | apply jD | apply jE | apply jF | apply hb3 | omega | (simp; done) | (simp; omega) | (dsimp only; omega))))) (fun u => by simp only [putD, Act.put, List.setIfInBounds_toArray, List.set_cons_zero, List.set_cons_succ, Nat.zero_add, Nat.reduceAdd]; rfl) ?_
      apply RGW.on (i := 0) rfl
      · (simp only [gA, gB, gC] <;> rfl)
      · intro γ u W hcur hd
        clear hd
        (try dsimp only)
        refine ⟨rfl, ?_⟩
        go_simp <;> (try go_bits) <;> with_reducible rfl
      · exact fun _ _ _ => rfl
      · rfl
      dsimp only [nA, cA]
      apply RGW.on (i := 1) rfl
      · (simp only [gA, gB, gC] <;> rfl)
      · intro γ u W hcur hd
        clear hd
        (try dsimp only)
        refine ⟨rfl, ?_⟩
        go_simp <;> (try go_bits) <;> with_reducible rfl
      · exact fun _ _ _ => rfl
      · rfl
      dsimp only [nA, cA]
      apply RGW.on (i := 2) rfl
      · (simp only [gA, gB, gC] <;> rfl)
      · intro γ u W hcur hd
        obtain ⟨⟨h0, -, -⟩, -⟩ := hd
        dsimp only at h0
        (try simp only [h0])
        refine ⟨rfl, ?_⟩
        go_simp <;> (try go_bits) <;> with_reducible rfl
      · exact fun _ _ _ => rfl
      · rfl
      dsimp only [nA, cA]
      refine RGW.skip (i := 3) rfl rfl ?_
      dsimp only [nA, cA]
      refine RGW.fin (fun γ u wz hwz hd hdis => ?_)
      obtain ⟨⟨h0, -, -⟩, ⟨h1, -, -⟩, ⟨h2, -, -⟩, -⟩ := hd
      dsimp only at h0 h1 h2
      clear hdis
      simp only [h0, h1, h2]
      clear h2 h1 h0
      clear u
      simp only [List.map_cons, List.map_nil]
      apply PlanW.step
      · (simp only [gA, gB, gC] <;> rfl)
      · rfl
      intro K hK
      refine wp_store_keep (X := [w.heap.size + 2]) (w0 := wz) rfl rfl rfl (by with_reducible first | exact bx_refl _ _ | assumption) (by with_reducible first | assumption | (apply Blk.below (hb := hwz); assumption)) (by simp) (by kernel_rfl) (by rfl) (by simp [Value.oneCell']) (fun hres1 hcur => ?_)
      refine hK.out _ _ hcur (fun _ => ?_)
      clear hK K
      try simp only [Act.put, List.setIfInBounds_toArray, List.set_cons_zero, List.set_cons_succ]
      refine PlanW.done ?_
      have hb3 := bl_tt hwz
      go_wp2
      have hr := hres1.cell
      have hbe := bx_below (hb3 w hb0) hcur (by simp)
      exact bodyPost_ret (v := .tuple #[.slice Ab T.length cb, vPl q]) (by simp [results, Try.results45, go_sem, hr]) rfl
        ⟨Ab, cb, by rw [hs.out], hbe, by rw [hs.out]; exact own_mono (b' := wa.heap.size) (by omega) (own_bx (own_below hown.out hwz) hcur (by simp; omega))⟩
end Go.Proofs.Ytephimmamkafoaa
