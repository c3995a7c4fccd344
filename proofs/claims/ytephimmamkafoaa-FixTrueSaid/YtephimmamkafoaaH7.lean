/-
  Walk: the vote of a box, by the reference.
  Plain laws: the readings with which a position agrees, by bits and by lists.
  Walks: which readings are valid, by the reference.
  Walks: the reference's names; the errors of a vote.
-/
import Derived.Test.YtephimmamkafoaaG10
import Derived.Test.YtephimmamkafoaaH6
import Derived.Test.YtephimmamkafoaaG12
import Derived.Test.YtephimmamkafoaaH4
import Derived.Test.YtephimmamkafoaaG8
import Derived.Test.YtephimmamkafoaaG11
namespace Go.Proofs.Ytephimmamkafoaa
set_option linter.unusedSimpArgs false
set_option linter.unusedVariables false
open Go.RowKit Go.Shelf
attribute [local go_sem] bl_al bl_drew bl_drewN bl_refl bx_al bx_drew bx_drewN bx_refl
set_option maxRecDepth 20000
theorem Blk.conv {w : World} {g : Nat} {t : TypeId} {cs cs' : Array Value} (h : Blk w g t cs) (e : cs = cs') : Blk w g t cs' := e ▸ h
set_option maxHeartbeats 8000000 in
theorem r_Voted0 (wd b : Bx) (nb n : Nat) (A A' : Option Addr) (c c' : Nat) (k : Int) (g : Pl → List Int) (ok : Pl → Bool) (w : World)
    (hag : Hid (∀ W, Below w.heap.size w W → ∀ p : Pl, p.in 10000 → Calls Try.prog 42 #[vNt wd (.slice A nb c), .slice A' n c', vPl p] W (RetI (g p) W)))
    (hgl : Hid (∀ p, (g p).length ≤ 1000)) (hk1 : 0 ≤ k) (hk2 : k ≤ 1000) (hok : Hid (∀ p, ok p = !decide (((g p).length : Int) + k < (n : Int)))) (hin : Hid (∀ p, p ∈ b.pts → p.in 10000)) (hpl : b.pts.length ≤ 20000) (hb : b.in 10000) :
    Calls Try.prog 86 #[vNt wd (.slice A nb c), vBx b, .slice A' n c', .int .i64 k] w
      (Ret (.tuple #[vBx (votesOf ok b.pts).1, .int .i64 (votesOf ok b.pts).2]) w) := by
  obtain ⟨⟨hx1, hx2, hx3, hx4⟩, ⟨hy1, hy2, hy3, hy4⟩, ⟨hz1, hz2, hz3, hz4⟩⟩ := hb
  go_enter Try.func86, Try.ntmps86
  go_wp2
  apply absB4 (w0 := w) (g0 := w.heap.size) (g1 := w.heap.size + 1) (g2 := w.heap.size + 2) (g3 := w.heap.size + 3)
  iterate 5 (focus ((with_reducible (repeat' (first | assumption | apply jA | apply jB | apply jC | apply jD | apply jE | apply jF | apply hb3 | apply jG | apply jH | apply jI | apply jJ | apply jK | apply hb3x | (apply jL; first | (simp; done) | rfl) | apply jM | apply jN | apply jO | apply jP | apply jQ | apply jR | apply jS | apply jT (hb := hb3 _ (jA _)) | omega | (simp; done) | (simp; omega) | (dsimp only; omega)))); done))
  intro wa hb0' k0' k1' k3' k4'
  (try simp only [List.setIfInBounds_toArray, List.set_cons_zero, List.set_cons_succ] at k0' k1' k3' k4')
  try clear hb3
  try clear hb0
  try clear k0
  try clear k1
  try clear k3
  try clear k4
  have hb0 := hb0'; clear hb0'
  have k0 := k0'; clear k0'
  have k1 := k1'; clear k1'
  have k3 := k3'; clear k3'
  have k4 := k4'; clear k4'
  go_loopw [11, 12] (fun cn i wr => ∃ (x : Int) (pre : List Pl), i = .int .i64 x ∧ cn = .int .i64 (votesOf ok pre).2 ∧ b.x.lo ≤ x ∧ x ≤ 10001 ∧ pre ++ R1 b x = b.pts ∧ Below w.heap.size w wr ∧
    Blk wr w.heap.size 28 (aNt wd (.slice A nb c)) ∧ Blk wr (w.heap.size + 1) 25 (aBx b) ∧ Blk wr (w.heap.size + 2) 25 z6 ∧ Blk wr (w.heap.size + 3) 25 (aBx (votesOf ok pre).1)) (fun _ i _ => (b.x.hi + 1 - intOf i).toNat)
  case atStart => exact ⟨b.x.lo, [], rfl, rfl, Int.le_refl _, by omega, rfl, hb0, k0, k1, k3, k4⟩
  case round =>
    clear k0 k1 k3 k4 hb0
    obtain ⟨x, pre, rfl, rfl, hlx, hxb, hpre, hb0, k0, k1, k3, k4⟩ := hrel
    replace hpre := Lib.hid hpre
    have L1 := k1.cell
    by_cases hx : x ≤ b.x.hi
    · go_wp2
      go_loopw [11, 13] (fun cn i wr => ∃ (y : Int) (pre : List Pl), i = .int .i64 y ∧ cn = .int .i64 (votesOf ok pre).2 ∧ b.y.lo ≤ y ∧ y ≤ 10001 ∧ pre ++ (R2 b x y ++ R1 b (x + 1)) = b.pts ∧ Below w.heap.size w wr ∧
        Blk wr w.heap.size 28 (aNt wd (.slice A nb c)) ∧ Blk wr (w.heap.size + 1) 25 (aBx b) ∧ Blk wr (w.heap.size + 2) 25 z6 ∧ Blk wr (w.heap.size + 3) 25 (aBx (votesOf ok pre).1)) (fun _ i _ => (b.y.hi + 1 - intOf i).toNat)
      case atStart => exact ⟨b.y.lo, pre, rfl, rfl, Int.le_refl _, by omega, by rw [← hpre.out, R1_step hx], hb0, k0, k1, k3, k4⟩
      case round =>
        clear k0 k1 k3 k4 hb0 L1 hpre
        obtain ⟨y, pre, rfl, rfl, hly, hyb, hpre, hb0, k0, k1, k3, k4⟩ := hrel
        replace hpre := Lib.hid hpre
        have L1 := k1.cell
        by_cases hy : y ≤ b.y.hi
        · go_wp2
          go_loopw [11, 14] (fun cn i wr => ∃ (z : Int) (pre : List Pl), i = .int .i64 z ∧ cn = .int .i64 (votesOf ok pre).2 ∧ b.z.lo ≤ z ∧ z ≤ 10001 ∧ pre ++ (R3 b x y z ++ (R2 b x (y + 1) ++ R1 b (x + 1))) = b.pts ∧ Below w.heap.size w wr ∧
            Blk wr w.heap.size 28 (aNt wd (.slice A nb c)) ∧ Blk wr (w.heap.size + 1) 25 (aBx b) ∧ Blk wr (w.heap.size + 2) 25 z6 ∧ Blk wr (w.heap.size + 3) 25 (aBx (votesOf ok pre).1)) (fun _ i _ => (b.z.hi + 1 - intOf i).toNat)
          case atStart => exact ⟨b.z.lo, pre, rfl, rfl, Int.le_refl _, by omega, by rw [← hpre.out, R2_step hy, List.append_assoc], hb0, k0, k1, k3, k4⟩
          case round =>
            clear k0 k1 k3 k4 hb0 L1 hpre
            obtain ⟨z, pre, rfl, rfl, hlz, hzb, hpre, hb0, k0, k1, k3, k4⟩ := hrel
            replace hpre := Lib.hid hpre
            by_cases hz : z ≤ b.z.hi
            · have hst := Lib.hid (votesOf_snoc ok pre ⟨x, y, z⟩)
              have hq : Hid (pre ++ [⟨x, y, z⟩] ++ (R3 b x y (z + 1) ++ (R2 b x (y + 1) ++ R1 b (x + 1))) = b.pts) := by refine Lib.hid ?_; rw [← hpre.out, R3_step hz]; simp
              have hpi := hin.out ⟨x, y, z⟩ (by rw [← hq.out]; simp)
              have hcnt : (votesOf ok pre).2 ≤ 20000 := by
                have h1 := votesOf_le ok pre
                have h2 : pre.length ≤ b.pts.length := by rw [← hpre.out]; simp
                omega
              have hcp := Lib.hid fun (W : World) (hb : Below w.heap.size w W) => hag.out W hb ⟨x, y, z⟩ hpi
              have hl := hgl.out ⟨x, y, z⟩
              have hsv := hok.out ⟨x, y, z⟩
              replace hpi := Lib.hid hpi
              rw [voteF, hsv] at hst
              generalize votesOf ok pre = s at *
              obtain ⟨o, m⟩ := s
              dsimp only at k4 hst hcnt
              generalize g ⟨x, y, z⟩ = G at *
              have Lk0 := k0.later
              have Fk0 := k0.laterF
              have Qk0 := k0.lt
              have Lk1 := k1.later
              have Fk1 := k1.laterF
              have Qk1 := k1.lt
              have Lk3 := k3.later
              have Fk3 := k3.laterF
              have Qk3 := k3.lt
              have Lk4 := k4.later
              have Fk4 := k4.laterF
              have Qk4 := k4.lt
              go_upto_region 13 with fail
              apply absB5 (w0 := w) (g0 := w.heap.size) (g1 := w.heap.size + 1) (g2 := w.heap.size + 2) (g3 := w.heap.size + 3) (g4 := wr.heap.size)
              iterate 6 (focus ((with_reducible (repeat' (first | assumption | apply jA | apply jB | apply jC | apply jD | apply jE | apply jF | apply hb3 | apply jG | apply jH | apply jI | apply jJ | apply jK | apply hb3x | (apply jL; first | (simp; done) | rfl) | apply jM | apply jN | apply jO | apply jP | apply jQ | apply jR | apply jS | apply jT (hb := hb3 _ (jA _)) | omega | (simp; done) | (simp; omega) | (dsimp only; omega)))); done))
              intro wb hb0' k0' k1' k3' k4' k5'
              (try simp only [List.setIfInBounds_toArray, List.set_cons_zero, List.set_cons_succ] at k0' k1' k3' k4' k5')
              try clear hb3
              try clear Lk0
              try clear Fk0
              try clear Qk0
              try clear Lk1
              try clear Fk1
              try clear Qk1
              try clear Lk3
              try clear Fk3
              try clear Qk3
              try clear Lk4
              try clear Fk4
              try clear Qk4
              try clear hb0
              try clear k0
              try clear k1
              try clear k3
              try clear k4
              try clear k5
              have hb0 := hb0'; clear hb0'
              have k0 := k0'; clear k0'
              have k1 := k1'; clear k1'
              have k3 := k3'; clear k3'
              have k4 := k4'; clear k4'
              have k5 := k5'; clear k5'
              have Lk0 := k0.later
              have Fk0 := k0.laterF
              have Qk0 := k0.lt
              have Lk1 := k1.later
              have Fk1 := k1.laterF
              have Qk1 := k1.lt
              have Lk3 := k3.later
              have Fk3 := k3.laterF
              have Qk3 := k3.lt
              have Lk4 := k4.later
              have Fk4 := k4.laterF
              have Qk4 := k4.lt
              have Lk5 := k5.later
              have Fk5 := k5.laterF
              have Qk5 := k5.lt
              by_cases hsk : (G.length : Int) + k < (n : Int)
              · have hsk' : decide ((G.length : Int) + k < (n : Int)) = true := by simpa using hsk
                have hst' : Hid (votesOf ok (pre ++ [⟨x, y, z⟩]) = (o, m)) := by rw [hst.out, hsk']; exact Lib.hid rfl
                clear hst
                go_wp2_with (go_at_call 42; (with_reducible refine (hcp.out _ (bl_tr hb0 (by (with_reducible (repeat' (first | assumption | apply jA | apply jB | apply jC | apply jD | apply jE | apply jF | apply hb3 | omega | (simp; done) | (simp; omega) | (dsimp only; omega))))))).mono ?_); rintro e w3 ⟨Ax, cx, rfl, hb3, -⟩; replace hb3 := bl_tt hb3)
                go_roundw
                case rel => exact ⟨z + 1, pre ++ [⟨x, y, z⟩], by go_num, by rw [hst'.out], by omega, by omega, by rw [← hq.out], by (with_reducible (repeat' (first | assumption | apply jA | apply jB | apply jC | apply jD | apply jE | apply jF | apply hb3 | omega | (simp; done) | (simp; omega) | (dsimp only; omega)))), by (with_reducible (repeat' (first | assumption | (apply jL; first | (simp; done) | rfl) | apply jM | apply jN | apply jO | apply jP | apply jQ | apply jR | apply jS | apply jT (hb := hb3 _ (jA _)) | omega | (simp; done) | (simp; omega) | (dsimp only; omega)))), by (with_reducible (repeat' (first | assumption | (apply jL; first | (simp; done) | rfl) | apply jM | apply jN | apply jO | apply jP | apply jQ | apply jR | apply jS | apply jT (hb := hb3 _ (jA _)) | omega | (simp; done) | (simp; omega) | (dsimp only; omega)))), by (with_reducible (repeat' (first | assumption | (apply jL; first | (simp; done) | rfl) | apply jM | apply jN | apply jO | apply jP | apply jQ | apply jR | apply jS | apply jT (hb := hb3 _ (jA _)) | omega | (simp; done) | (simp; omega) | (dsimp only; omega)))), by rw [hst'.out]; (with_reducible (repeat' (first | assumption | (apply jL; first | (simp; done) | rfl) | apply jM | apply jN | apply jO | apply jP | apply jQ | apply jR | apply jS | apply jT (hb := hb3 _ (jA _)) | omega | (simp; done) | (simp; omega) | (dsimp only; omega))))⟩
                case measure => simp [intOf]; omega
              · have hsk' : decide ((G.length : Int) + k < (n : Int)) = false := by simpa using hsk
                have hst' : Hid (votesOf ok (pre ++ [⟨x, y, z⟩]) = (if m = 0 then (⟨x, y, z⟩ : Pl).one else o.join (⟨x, y, z⟩ : Pl).one, m + 1)) := by rw [hst.out, hsk']; exact Lib.hid rfl
                clear hst
                go_upto_region 14 with (go_at_call 42; (with_reducible refine (hcp.out _ (bl_tr hb0 (by (with_reducible (repeat' (first | assumption | apply jA | apply jB | apply jC | apply jD | apply jE | apply jF | apply hb3 | omega | (simp; done) | (simp; omega) | (dsimp only; omega))))))).mono ?_); rintro e w3 ⟨Ax, cx, rfl, hb3, -⟩; replace hb3 := bl_tt hb3)
                apply absB4 (w0 := w) (g0 := w.heap.size) (g1 := w.heap.size + 1) (g2 := w.heap.size + 2) (g3 := w.heap.size + 3)
                iterate 5 (focus ((with_reducible (repeat' (first | assumption | apply jA | apply jB | apply jC | apply jD | apply jE | apply jF | apply hb3 | apply jG | apply jH | apply jI | apply jJ | apply jK | apply hb3x | (apply jL; first | (simp; done) | rfl) | apply jM | apply jN | apply jO | apply jP | apply jQ | apply jR | apply jS | apply jT (hb := hb3 _ (jA _)) | omega | (simp; done) | (simp; omega) | (dsimp only; omega)))); done))
                intro wy hb0' k0' k1' k3' k4'
                (try simp only [List.setIfInBounds_toArray, List.set_cons_zero, List.set_cons_succ] at k0' k1' k3' k4')
                try clear hb3
                try clear hb0
                try clear k0
                try clear k1
                try clear k3
                try clear k4
                have hb0 := hb0'; clear hb0'
                have k0 := k0'; clear k0'
                have k1 := k1'; clear k1'
                have k3 := k3'; clear k3'
                have k4 := k4'; clear k4'
                have Lk0 := k0.later
                have Fk0 := k0.laterF
                have Qk0 := k0.lt
                have Lk1 := k1.later
                have Fk1 := k1.laterF
                have Qk1 := k1.lt
                have Lk3 := k3.later
                have Fk3 := k3.laterF
                have Qk3 := k3.lt
                have Lk4 := k4.later
                have Fk4 := k4.laterF
                have Qk4 := k4.lt
                go_upto_region 15 with fail
                have hq4 := k4.lt
                apply absB5 (w0 := w) (g0 := w.heap.size) (g1 := w.heap.size + 1) (g2 := w.heap.size + 2) (g3 := w.heap.size + 3) (g4 := wy.heap.size)
                iterate 6 (focus ((with_reducible (repeat' (first | assumption | apply jA | apply jB | apply jC | apply jD | apply jE | apply jF | apply hb3 | apply jG | apply jH | apply jI | apply jJ | apply jK | apply hb3x | (apply jL; first | (simp; done) | rfl) | apply jM | apply jN | apply jO | apply jP | apply jQ | apply jR | apply jS | apply jT (hb := hb3 _ (jA _)) | omega | (simp; done) | (simp; omega) | (dsimp only; omega)))); done))
                intro wt hb0' k0' k1' k3' k4' k6'
                (try simp only [List.setIfInBounds_toArray, List.set_cons_zero, List.set_cons_succ] at k0' k1' k3' k4' k6')
                try clear hb3
                try clear Lk0
                try clear Fk0
                try clear Qk0
                try clear Lk1
                try clear Fk1
                try clear Qk1
                try clear Lk3
                try clear Fk3
                try clear Qk3
                try clear Lk4
                try clear Fk4
                try clear Qk4
                try clear hb0
                try clear k0
                try clear k1
                try clear k3
                try clear k4
                try clear k6
                have hb0 := hb0'; clear hb0'
                have k0 := k0'; clear k0'
                have k1 := k1'; clear k1'
                have k3 := k3'; clear k3'
                have k4 := k4'; clear k4'
                have k6 := k6'; clear k6'
                have Lk0 := k0.later
                have Fk0 := k0.laterF
                have Qk0 := k0.lt
                have Lk1 := k1.later
                have Fk1 := k1.laterF
                have Qk1 := k1.lt
                have Lk3 := k3.later
                have Fk3 := k3.laterF
                have Qk3 := k3.lt
                have Lk4 := k4.later
                have Fk4 := k4.laterF
                have Qk4 := k4.lt
                have Lk6 := k6.later
                have Fk6 := k6.laterF
                have Qk6 := k6.lt
                by_cases hm0 : m = 0
                · subst hm0
                  go_wp2
                  go_roundw
                  case rel => exact ⟨z + 1, pre ++ [⟨x, y, z⟩], by go_num, by rw [hst'.out]; go_num, by omega, by omega, by rw [← hq.out], by (with_reducible (repeat' (first | assumption | apply jA | apply jB | apply jC | apply jD | apply jE | apply jF | apply hb3 | omega | (simp; done) | (simp; omega) | (dsimp only; omega)))), by (with_reducible (repeat' (first | assumption | (apply jL; first | (simp; done) | rfl) | apply jM | apply jN | apply jO | apply jP | apply jQ | apply jR | apply jS | apply jT (hb := hb3 _ (jA _)) | omega | (simp; done) | (simp; omega) | (dsimp only; omega)))), by (with_reducible (repeat' (first | assumption | (apply jL; first | (simp; done) | rfl) | apply jM | apply jN | apply jO | apply jP | apply jQ | apply jR | apply jS | apply jT (hb := hb3 _ (jA _)) | omega | (simp; done) | (simp; omega) | (dsimp only; omega)))), by (with_reducible (repeat' (first | assumption | (apply jL; first | (simp; done) | rfl) | apply jM | apply jN | apply jO | apply jP | apply jQ | apply jR | apply jS | apply jT (hb := hb3 _ (jA _)) | omega | (simp; done) | (simp; omega) | (dsimp only; omega)))), by rw [hst'.out]; refine Blk.conv (by (with_reducible (repeat' (first | assumption | (apply jL; first | (simp; done) | rfl) | apply jM | apply jN | apply jO | apply jP | apply jQ | apply jR | apply jS | apply jT (hb := hb3 _ (jA _)) | omega | (simp; done) | (simp; omega) | (dsimp only; omega))))) ?_; simp⟩
                  case measure => simp [intOf]; omega
                · have hm0' : decide (0 < (m : Int)) = true := by simp; omega
                  go_upto_region 17 with (go_at_call 117; (with_reducible refine (r_around o (⟨x, y, z⟩ : Pl).one _).mono ?_); rintro e w3 ⟨rfl, hb3⟩; replace hb3 := bl_tt hb3)
                  apply absB5 (w0 := w) (g0 := w.heap.size) (g1 := w.heap.size + 1) (g2 := w.heap.size + 2) (g3 := w.heap.size + 3) (g4 := wy.heap.size)
                  iterate 6 (focus ((with_reducible (repeat' (first | assumption | apply jA | apply jB | apply jC | apply jD | apply jE | apply jF | apply hb3 | apply jG | apply jH | apply jI | apply jJ | apply jK | apply hb3x | (apply jL; first | (simp; done) | rfl) | apply jM | apply jN | apply jO | apply jP | apply jQ | apply jR | apply jS | apply jT (hb := hb3 _ (jA _)) | omega | (simp; done) | (simp; omega) | (dsimp only; omega)))); done))
                  intro wu hb0' k0' k1' k3' k4' k6'
                  (try simp only [List.setIfInBounds_toArray, List.set_cons_zero, List.set_cons_succ] at k0' k1' k3' k4' k6')
                  try clear hb3
                  try clear Lk0
                  try clear Fk0
                  try clear Qk0
                  try clear Lk1
                  try clear Fk1
                  try clear Qk1
                  try clear Lk3
                  try clear Fk3
                  try clear Qk3
                  try clear Lk4
                  try clear Fk4
                  try clear Qk4
                  try clear Lk6
                  try clear Fk6
                  try clear Qk6
                  try clear hb0
                  try clear k0
                  try clear k1
                  try clear k3
                  try clear k4
                  try clear k6
                  have hb0 := hb0'; clear hb0'
                  have k0 := k0'; clear k0'
                  have k1 := k1'; clear k1'
                  have k3 := k3'; clear k3'
                  have k4 := k4'; clear k4'
                  have k6 := k6'; clear k6'
                  have Lk0 := k0.later
                  have Fk0 := k0.laterF
                  have Qk0 := k0.lt
                  have Lk1 := k1.later
                  have Fk1 := k1.laterF
                  have Qk1 := k1.lt
                  have Lk3 := k3.later
                  have Fk3 := k3.laterF
                  have Qk3 := k3.lt
                  have Lk4 := k4.later
                  have Fk4 := k4.laterF
                  have Qk4 := k4.lt
                  have Lk6 := k6.later
                  have Fk6 := k6.laterF
                  have Qk6 := k6.lt
                  go_wp2
                  go_roundw
                  case rel => exact ⟨z + 1, pre ++ [⟨x, y, z⟩], by go_num, by rw [hst'.out]; go_num, by omega, by omega, by rw [← hq.out], by (with_reducible (repeat' (first | assumption | apply jA | apply jB | apply jC | apply jD | apply jE | apply jF | apply hb3 | omega | (simp; done) | (simp; omega) | (dsimp only; omega)))), by (with_reducible (repeat' (first | assumption | (apply jL; first | (simp; done) | rfl) | apply jM | apply jN | apply jO | apply jP | apply jQ | apply jR | apply jS | apply jT (hb := hb3 _ (jA _)) | omega | (simp; done) | (simp; omega) | (dsimp only; omega)))), by (with_reducible (repeat' (first | assumption | (apply jL; first | (simp; done) | rfl) | apply jM | apply jN | apply jO | apply jP | apply jQ | apply jR | apply jS | apply jT (hb := hb3 _ (jA _)) | omega | (simp; done) | (simp; omega) | (dsimp only; omega)))), by (with_reducible (repeat' (first | assumption | (apply jL; first | (simp; done) | rfl) | apply jM | apply jN | apply jO | apply jP | apply jQ | apply jR | apply jS | apply jT (hb := hb3 _ (jA _)) | omega | (simp; done) | (simp; omega) | (dsimp only; omega)))), by rw [hst'.out, if_neg hm0]; refine Blk.conv (by (with_reducible (repeat' (first | assumption | (apply jL; first | (simp; done) | rfl) | apply jM | apply jN | apply jO | apply jP | apply jQ | apply jR | apply jS | apply jT (hb := hb3 _ (jA _)) | omega | (simp; done) | (simp; omega) | (dsimp only; omega))))) ?_; simp⟩
                  case measure => simp [intOf]; omega
            · have L1 := k1.cell
              go_wp2
              go_roundw
              case rel => exact ⟨y + 1, pre, by go_num, rfl, by omega, by omega, by rw [← hpre.out, R3_end (by omega)]; simp, hb0, k0, k1, k3, k4⟩
              case measure => simp [intOf]; omega
        · go_wp2
          go_roundw
          case rel => exact ⟨x + 1, pre, by go_num, rfl, by omega, by omega, by rw [← hpre.out, R2_end (by omega)]; simp, hb0, k0, k1, k3, k4⟩
          case measure => simp [intOf]; omega
    · have L4 := k4.cell
      have hp' : pre = b.pts := by have := hpre.out; rw [R1_end (by omega), List.append_nil] at this; exact this
      subst hp'
      generalize votesOf ok b.pts = s at *
      obtain ⟨o, m⟩ := s
      dsimp only at k4 L4 ⊢
      have L3 := k3.cell
      have F3 := k3.frozen
      go_wp2
      apply absPB1 (w0 := w) (g0 := w.heap.size + 2)
      iterate 2 (focus ((with_reducible (repeat' (first | assumption | apply jA | apply jB | apply jC | apply jD | apply jE | apply jF | apply hb3 | apply jG | apply jH | apply jI | apply jJ | apply jK | apply hb3x | (apply jL; first | (simp; done) | rfl) | apply jM | apply jN | apply jO | apply jP | apply jQ | apply jR | apply jS | apply jT (hb := hb3 _ (jA _)) | omega | (simp; done) | (simp; omega) | (dsimp only; omega)))); done))
      intro wz hb0' k3'
      (try simp only [List.setIfInBounds_toArray, List.set_cons_zero, List.set_cons_succ] at k3')
      try clear hb3
      try clear hb0
      try clear k3
      have hb0 := hb0'; clear hb0'
      have k3 := k3'; clear k3'
      have hr := k3.cell
      exact bodyPost_ret (v := .tuple #[vBx o, .int .i64 m]) (by simp [results, Try.results86, go_sem, hr]) rfl ⟨rfl, hb0⟩
end Go.Proofs.Ytephimmamkafoaa
namespace Go.Proofs.Ytephimmamkafoaa
set_option linter.unusedSimpArgs false
set_option linter.unusedVariables false
theorem bits_test (f : Nat → Bool) : ∀ (n i : Nat), (bitsTo f n).testBit i = (decide (i < n) && f i)
  | 0, i => by simp [bitsTo]
  | n + 1, i => by
    rw [bitsTo, Nat.testBit_or, bits_test f n i]
    by_cases h : f n = true
    · rw [if_pos h, Nat.testBit_two_pow]
      by_cases e : n = i
      · subst e
        simp [h]
      · have : decide (i < n + 1) = decide (i < n) := by rw [decide_eq_decide]; omega
        simp [e, this]
    · rw [if_neg h, Nat.zero_testBit, Bool.or_false]
      by_cases e : n = i
      · subst e
        simp at h
        simp [h]
      · have : decide (i < n + 1) = decide (i < n) := by rw [decide_eq_decide]; omega
        rw [this]
theorem cnt_below (f : Nat → Bool) (n : Nat) : ∀ m, n ≤ m → (List.range m).countP (fun i => decide (i < n) && f i) = (List.range n).countP f
  | 0, h => by
    have : n = 0 := by omega
    subst this
    rfl
  | m + 1, h => by
    by_cases e : n = m + 1
    · subst e
      refine List.countP_congr fun i hi => ?_
      have := List.mem_range.1 hi
      simp [this]
    · rw [List.range_succ, List.countP_append, cnt_below f n m (by omega)]
      simp
      omega
theorem popc_bits (f : Nat → Bool) {n : Nat} (h : n ≤ 8) : popc (bitsTo f n) = (List.range n).countP f := by
  unfold popc
  simp only [bits_test]
  exact cnt_below f n 8 h
theorem pickL_cnt (f : Nat → Bool) : ∀ n, (pickL f n).length = (List.range n).countP f
  | 0 => rfl
  | n + 1 => by
    rw [pickL, List.length_append, pickL_cnt f n, List.range_succ, List.countP_append]
    by_cases h : f n = true <;> simp [h]
theorem pickL_congr {f g : Nat → Bool} : ∀ {n : Nat}, (∀ k, k < n → f k = g k) → pickL f n = pickL g n
  | 0, _ => rfl
  | n + 1, h => by rw [pickL, pickL, pickL_congr (n := n) fun k hk => h k (by omega), h n (by omega)]
theorem idxs_pick (s : Nat) (are : Bool) : ∀ n, idxs s are n = pickL (fun i => s.testBit i == are) n
  | 0 => rfl
  | n + 1 => by rw [idxs, pickL, idxs_pick s are n]
theorem mem_pickL {f : Nat → Bool} {i : Nat} : ∀ {n : Nat}, (i : Int) ∈ pickL f n ↔ i < n ∧ f i = true
  | 0 => by simp [pickL]
  | n + 1 => by
    rw [pickL, List.mem_append, mem_pickL (n := n)]
    by_cases h : f n = true
    · rw [if_pos h, List.mem_singleton]
      constructor
      · rintro (⟨h1, h2⟩ | h1)
        · exact ⟨by omega, h2⟩
        · have : i = n := by omega
          subst this
          exact ⟨by omega, h⟩
      · rintro ⟨h1, h2⟩
        by_cases e : i = n
        · exact .inr (by omega)
        · exact .inl ⟨by omega, h2⟩
    · rw [if_neg h]
      constructor
      · rintro (⟨h1, h2⟩ | h1)
        · exact ⟨by omega, h2⟩
        · cases h1
      · rintro ⟨h1, h2⟩
        by_cases e : i = n
        · subst e
          exact absurd h2 h
        · exact .inl ⟨by omega, h2⟩
theorem agr_wrong (bs : List Bc) (p : Pl) (l : List Rd) {k : Nat} (h : k < l.length) : agrAt bs p l k = !wrongB bs p l k := by
  unfold agrAt wrongB
  rw [List.getElem?_eq_getElem h]
  simp
def agrL (bs : List Bc) (l : List Rd) (p : Pl) : List Int := pickL (agrAt bs p l) l.length
theorem agrL_len (bs : List Bc) (l : List Rd) (p : Pl) : (agrL bs l p).length + (List.range l.length).countP (wrongB bs p l) = l.length := by
  rw [agrL, pickL_cnt]
  have h1 : (List.range l.length).countP (agrAt bs p l) = (List.range l.length).countP (fun i => !wrongB bs p l i) := List.countP_congr fun i hi => by rw [agr_wrong bs p l (List.mem_range.1 hi)]
  have h2 := List.length_eq_countP_add_countP (wrongB bs p l) (l := List.range l.length)
  rw [List.length_range] at h2
  have h3 : (List.range l.length).countP (fun i => decide (¬ wrongB bs p l i = true)) = (List.range l.length).countP (fun i => !wrongB bs p l i) := List.countP_congr fun i _ => by simp
  rw [h1, ← h3]
  omega
/-- The reference's test for a vote is the program's. -/
theorem okB_ref (bs : List Bc) (l : List Rd) (k : Int) (p : Pl) (h : l.length ≤ 8) : okB bs l k p = !decide (((agrL bs l p).length : Int) + k < (l.length : Int)) := by
  unfold okB
  rw [popc_bits _ h]
  have := agrL_len bs l p
  rw [Bool.eq_iff_iff]
  simp
  omega
/-- The readings with which a position agrees, by the program. -/
theorem agrL_idxs (bs : List Bc) (l : List Rd) (p : Pl) : idxs (bitsTo (wrongB bs p l) l.length) false l.length = agrL bs l p := by
  rw [idxs_pick, agrL]
  refine pickL_congr fun k hk => ?_
  rw [bits_test, agr_wrong bs p l hk]
  simp [hk]
/-- The others, by the reference, are the wrong ones. -/
theorem others_wrong (bs : List Bc) (l : List Rd) (p : Pl) : pickL (fun i : Nat => !(agrL bs l p).contains (i : Int)) l.length = wrongL bs l p := by
  rw [wrongL, idxs_pick]
  refine pickL_congr fun k hk => ?_
  rw [bits_test]
  have h := mem_pickL (f := agrAt bs p l) (i := k) (n := l.length)
  have e : (agrL bs l p).contains (k : Int) = agrAt bs p l k := by
    rw [Bool.eq_iff_iff, List.contains_iff_mem]
    unfold agrL
    rw [h]
    simp [hk]
  rw [e, agr_wrong bs p l hk]
  simp [hk]
theorem wrongL_len (bs : List Bc) (l : List Rd) (p : Pl) : (agrL bs l p).length + (wrongL bs l p).length = l.length := by
  have := agrL_len bs l p
  rw [wrongL, idxs_pick, pickL_cnt]
  have e : (List.range l.length).countP (fun i => (bitsTo (wrongB bs p l) l.length).testBit i == true) = (List.range l.length).countP (wrongB bs p l) := List.countP_congr fun i hi => by
    rw [bits_test]
    simp [List.mem_range.1 hi]
  rw [e]
  exact this
end Go.Proofs.Ytephimmamkafoaa
namespace Go.Proofs.Ytephimmamkafoaa
set_option linter.unusedSimpArgs false
set_option linter.unusedVariables false
open Go.RowKit Go.Shelf
attribute [local go_sem] bl_al bl_drew bl_drewN bl_refl bx_al bx_drew bx_drewN bx_refl
set_option maxRecDepth 20000
def refReads (nb : Nat) (l : List Rd) : Int × Int := if 8 < l.length then (0, 8) else eachS (fun _ r => rdErr nb r) l 0
set_option maxHeartbeats 8000000 in
theorem r_CheckReadings (wd : Bx) (nb : Nat) (l : List Rd) (s : Option Addr) (A' : Option Addr) (c c' : Nat) (w : World) (hl : Sl cRd 4 w A' l) (hll : l.length ≤ 1000) (hnb : nb ≤ 1000) :
    Calls Try.prog 25 #[vNt wd (.slice s nb c), .slice A' l.length c'] w (Ret (.tuple #[.int .i64 (refReads nb l).1, .int .i64 (refReads nb l).2]) w) := by
  have Hl := Lib.hid hl
  obtain ⟨n, Hn⟩ : ∃ n, Hid (l.length = n) := ⟨_, rfl⟩
  have hs1 : Hid (8 < n → refReads nb l = (0, 8)) := fun h => by rw [refReads, Hn.out, if_pos h]
  have hs2 : Hid (¬ 8 < n → refReads nb l = eachS (fun _ r => rdErr nb r) l 0) := fun h => by rw [refReads, Hn.out, if_neg h]
  rw [Hn.out] at hll ⊢
  clear hl
  by_cases h8 : 8 < n
  · have e := Lib.hid (hs1.out h8)
    have h8' : decide ((8 : Int) < (n : Int)) = true := by simp; omega
    clear h8
    go_enter Try.func25, Try.ntmps25
    go_wp2
    go_ret2
    exact ⟨by rw [e.out] <;> rfl, by (with_reducible (repeat' (first | assumption | apply jA | apply jB | apply jC | apply jD | apply jE | apply jF | apply hb3 | omega | (simp; done) | (simp; omega) | (dsimp only; omega))))⟩
  have e := Lib.hid (hs2.out h8)
  have h8' : decide ((8 : Int) < (n : Int)) = false := by simp; omega
  clear h8 hs1 hs2
  go_enter Try.func25, Try.ntmps25
  go_upto_region 3 with fail
  apply absB1 (w0 := w) (g0 := w.heap.size)
  iterate 2 (focus ((with_reducible (repeat' (first | assumption | apply jA | apply jB | apply jC | apply jD | apply jE | apply jF | apply hb3 | apply jG | apply jH | apply jI | apply jJ | apply jK | apply hb3x | (apply jL; first | (simp; done) | rfl) | apply jM | apply jN | apply jO | apply jP | apply jQ | apply jR | apply jS | apply jT (hb := hb3 _ (jA _)) | omega | (simp; done) | (simp; omega) | (dsimp only; omega)))); done))
  intro wa hb0' k0'
  (try simp only [List.setIfInBounds_toArray, List.set_cons_zero, List.set_cons_succ] at k0')
  try clear hb3
  try clear hb0
  try clear k0
  have hb0 := hb0'; clear hb0'
  have k0 := k0'; clear k0'
  have Lk0 := k0.later
  have Fk0 := k0.laterF
  have Qk0 := k0.lt
  go_wp2
  go_loopw [6] (fun i wr => ∃ k : Nat, k ≤ n ∧ i = .int .i64 k ∧ Below wa.heap.size wa wr ∧ eachS (fun _ r => rdErr nb r) l 0 = eachS (fun _ r => rdErr nb r) (l.drop k) k) (fun i _ => n - (intOf i).toNat)
  case atStart => exact ⟨0, Nat.zero_le _, rfl, Below.refl _ _, rfl⟩
  case round =>
    obtain ⟨k, hk, rfl, hb, hi⟩ := hrel
    replace hi := Lib.hid hi
    by_cases hlt : k < n
    · have hx : l[k]? = some (l[k]'(by rw [Hn.out]; exact hlt)) := List.getElem?_eq_getElem _
      generalize l[k]'(by rw [Hn.out]; exact hlt) = x at hx
      obtain ⟨b, off, hA, hc⟩ := Hl.out k x hx
      have hd := Lib.hid (eachS_drop (fun _ r => rdErr nb r) l k x hx)
      replace hx := Lib.hid hx
      have c0 : wr.cell? ⟨b, off + k * 4, none⟩ = some (.int .i64 x.kind) := kcell (bl_tr hb0 hb) (hc 0 _ rfl)
      have c1 : wr.cell? ⟨b, off + k * 4 + 1, none⟩ = some (.int .i64 x.idx) := kcell (bl_tr hb0 hb) (hc 1 _ rfl)
      have c2 : wr.cell? ⟨b, off + k * 4 + 2, none⟩ = some (.int .i64 x.v.lo) := kcell (bl_tr hb0 hb) (hc 2 _ rfl)
      have c3 : wr.cell? ⟨b, off + k * 4 + 3, none⟩ = some (.int .i64 x.v.hi) := kcell (bl_tr hb0 hb) (hc 3 _ rfl)
      clear hc
      subst hA
      go_upto_region 7 with fail
      have k0 := k0.below hb
      have hb0' := hb0
      have hb0 := hb
      apply absB2 (w0 := wa) (g0 := w.heap.size) (g1 := wr.heap.size)
      iterate 3 (focus ((with_reducible (repeat' (first | assumption | apply jA | apply jB | apply jC | apply jD | apply jE | apply jF | apply hb3 | apply jG | apply jH | apply jI | apply jJ | apply jK | apply hb3x | (apply jL; first | (simp; done) | rfl) | apply jM | apply jN | apply jO | apply jP | apply jQ | apply jR | apply jS | apply jT (hb := hb3 _ (jA _)) | omega | (simp; done) | (simp; omega) | (dsimp only; omega)))); done))
      intro wb hb0' k0' k9'
      (try simp only [List.setIfInBounds_toArray, List.set_cons_zero, List.set_cons_succ] at k0' k9')
      try clear hb3
      try clear hb0
      try clear k0
      try clear k9
      have hb0 := hb0'; clear hb0'
      have k0 := k0'; clear k0'
      have k9 := k9'; clear k9'
      have Lk0 := k0.later
      have Fk0 := k0.laterF
      have Qk0 := k0.lt
      have Lk9 := k9.later
      have Fk9 := k9.laterF
      have Qk9 := k9.lt
      by_cases h1 : x.kind = 1
      · have hre : rdErr nb x = fstE [unl (inR x.kind 0 1) 15, unl (inR x.idx 0 2) 6, unl (inR x.v.lo (-30000) 30000 && inR x.v.hi (-30000) 30000) 2, unl (decide (x.v.lo ≤ x.v.hi)) 9] := by
          unfold rdErr rdErr.insR
          simp only [if_pos h1]
        have h1' : (x.kind == 1) = true := by simp [h1]
        replace h1 := Lib.hid h1
        obtain ⟨bk, h⟩ : ∃ b', inR x.kind 0 1 = b' := ⟨_, rfl⟩
        have hck := Lib.hid fun W : World => h ▸ r_Within x.kind 0 1 W
        rw [h] at hre
        clear h
        obtain ⟨bi, h⟩ : ∃ b', inR x.idx 0 2 = b' := ⟨_, rfl⟩
        have hci := Lib.hid fun W : World => h ▸ r_Within x.idx 0 2 W
        rw [h] at hre
        clear h
        obtain ⟨b1, h⟩ : ∃ b', inR x.v.lo (-30000) 30000 = b' := ⟨_, rfl⟩
        have hc1 := Lib.hid fun W : World => h ▸ r_Within x.v.lo (-30000) 30000 W
        rw [h] at hre
        clear h
        obtain ⟨b2, h⟩ : ∃ b', inR x.v.hi (-30000) 30000 = b' := ⟨_, rfl⟩
        have hc2 := Lib.hid fun W : World => h ▸ r_Within x.v.hi (-30000) 30000 W
        rw [h] at hre
        clear h
        replace hre := Lib.hid hre
        cases bk
        case false =>
          go_wp2_with (go_at_call 47; (first | (with_reducible refine (hck.out _).mono ?_) | (with_reducible refine (hci.out _).mono ?_) | (with_reducible refine (hc1.out _).mono ?_) | (with_reducible refine (hc2.out _).mono ?_)); rintro e w3 ⟨rfl, rfl⟩)
          go_ret2
          exact ⟨by rw [e.out, hi.out, hd.out, hre.out] <;> rfl, bl_tr hb0' hb0⟩
        cases bi
        case false =>
          go_wp2_with (go_at_call 47; (first | (with_reducible refine (hck.out _).mono ?_) | (with_reducible refine (hci.out _).mono ?_) | (with_reducible refine (hc1.out _).mono ?_) | (with_reducible refine (hc2.out _).mono ?_)); rintro e w3 ⟨rfl, rfl⟩)
          go_ret2
          exact ⟨by rw [e.out, hi.out, hd.out, hre.out] <;> rfl, bl_tr hb0' hb0⟩
        cases b1
        case false =>
          go_wp2_with (go_at_call 47; (first | (with_reducible refine (hck.out _).mono ?_) | (with_reducible refine (hci.out _).mono ?_) | (with_reducible refine (hc1.out _).mono ?_) | (with_reducible refine (hc2.out _).mono ?_)); rintro e w3 ⟨rfl, rfl⟩)
          go_ret2
          exact ⟨by rw [e.out, hi.out, hd.out, hre.out] <;> rfl, bl_tr hb0' hb0⟩
        cases b2
        case false =>
          go_wp2_with (go_at_call 47; (first | (with_reducible refine (hck.out _).mono ?_) | (with_reducible refine (hci.out _).mono ?_) | (with_reducible refine (hc1.out _).mono ?_) | (with_reducible refine (hc2.out _).mono ?_)); rintro e w3 ⟨rfl, rfl⟩)
          go_ret2
          exact ⟨by rw [e.out, hi.out, hd.out, hre.out] <;> rfl, bl_tr hb0' hb0⟩
        cases hbo : decide (x.v.lo ≤ x.v.hi)
        case false =>
          have e1 : decide (x.v.hi < x.v.lo) = true := by have := of_decide_eq_false hbo; simp; omega
          rw [hbo] at hre
          clear hbo
          go_wp2_with (go_at_call 47; (first | (with_reducible refine (hck.out _).mono ?_) | (with_reducible refine (hci.out _).mono ?_) | (with_reducible refine (hc1.out _).mono ?_) | (with_reducible refine (hc2.out _).mono ?_)); rintro e w3 ⟨rfl, rfl⟩)
          go_ret2
          exact ⟨by rw [e.out, hi.out, hd.out, hre.out] <;> rfl, bl_tr hb0' hb0⟩
        have e1 : decide (x.v.hi < x.v.lo) = false := by have := of_decide_eq_true hbo; simp; omega
        rw [hbo] at hre
        clear hbo
        go_wp2_with (go_at_call 47; (first | (with_reducible refine (hck.out _).mono ?_) | (with_reducible refine (hci.out _).mono ?_) | (with_reducible refine (hc1.out _).mono ?_) | (with_reducible refine (hc2.out _).mono ?_)); rintro e w3 ⟨rfl, rfl⟩)
        go_roundw
        case rel => exact ⟨k + 1, by omega, by go_num, hb0, by rw [hi.out, hd.out, hre.out] <;> rfl⟩
        case measure => simp [intOf]; omega
      · have hre : rdErr nb x = fstE [unl (inR x.kind 0 1) 15, unl (inR x.idx 0 ((nb : Int) - 1)) 6, unl (inR x.v.lo 0 30000 && inR x.v.hi 0 30000) 2, unl (decide (x.v.lo ≤ x.v.hi)) 9] := by
          unfold rdErr rdErr.insR
          simp only [if_neg h1]
        have h1' : (x.kind == 1) = false := by simp [h1]
        replace h1 := Lib.hid h1
        obtain ⟨bk, h⟩ : ∃ b', inR x.kind 0 1 = b' := ⟨_, rfl⟩
        have hck := Lib.hid fun W : World => h ▸ r_Within x.kind 0 1 W
        rw [h] at hre
        clear h
        obtain ⟨bi, h⟩ : ∃ b', inR x.idx 0 ((nb : Int) - 1) = b' := ⟨_, rfl⟩
        have hci := Lib.hid fun W : World => h ▸ r_Within x.idx 0 ((nb : Int) - 1) W
        rw [h] at hre
        clear h
        obtain ⟨b1, h⟩ : ∃ b', inR x.v.lo 0 30000 = b' := ⟨_, rfl⟩
        have hc1 := Lib.hid fun W : World => h ▸ r_Within x.v.lo 0 30000 W
        rw [h] at hre
        clear h
        obtain ⟨b2, h⟩ : ∃ b', inR x.v.hi 0 30000 = b' := ⟨_, rfl⟩
        have hc2 := Lib.hid fun W : World => h ▸ r_Within x.v.hi 0 30000 W
        rw [h] at hre
        clear h
        replace hre := Lib.hid hre
        cases bk
        case false =>
          go_wp2_with (go_at_call 47; (first | (with_reducible refine (hck.out _).mono ?_) | (with_reducible refine (hci.out _).mono ?_) | (with_reducible refine (hc1.out _).mono ?_) | (with_reducible refine (hc2.out _).mono ?_)); rintro e w3 ⟨rfl, rfl⟩)
          go_ret2
          exact ⟨by rw [e.out, hi.out, hd.out, hre.out] <;> rfl, bl_tr hb0' hb0⟩
        cases bi
        case false =>
          go_wp2_with (go_at_call 47; (first | (with_reducible refine (hck.out _).mono ?_) | (with_reducible refine (hci.out _).mono ?_) | (with_reducible refine (hc1.out _).mono ?_) | (with_reducible refine (hc2.out _).mono ?_)); rintro e w3 ⟨rfl, rfl⟩)
          go_ret2
          exact ⟨by rw [e.out, hi.out, hd.out, hre.out] <;> rfl, bl_tr hb0' hb0⟩
        cases b1
        case false =>
          go_wp2_with (go_at_call 47; (first | (with_reducible refine (hck.out _).mono ?_) | (with_reducible refine (hci.out _).mono ?_) | (with_reducible refine (hc1.out _).mono ?_) | (with_reducible refine (hc2.out _).mono ?_)); rintro e w3 ⟨rfl, rfl⟩)
          go_ret2
          exact ⟨by rw [e.out, hi.out, hd.out, hre.out] <;> rfl, bl_tr hb0' hb0⟩
        cases b2
        case false =>
          go_wp2_with (go_at_call 47; (first | (with_reducible refine (hck.out _).mono ?_) | (with_reducible refine (hci.out _).mono ?_) | (with_reducible refine (hc1.out _).mono ?_) | (with_reducible refine (hc2.out _).mono ?_)); rintro e w3 ⟨rfl, rfl⟩)
          go_ret2
          exact ⟨by rw [e.out, hi.out, hd.out, hre.out] <;> rfl, bl_tr hb0' hb0⟩
        cases hbo : decide (x.v.lo ≤ x.v.hi)
        case false =>
          have e1 : decide (x.v.hi < x.v.lo) = true := by have := of_decide_eq_false hbo; simp; omega
          rw [hbo] at hre
          clear hbo
          go_wp2_with (go_at_call 47; (first | (with_reducible refine (hck.out _).mono ?_) | (with_reducible refine (hci.out _).mono ?_) | (with_reducible refine (hc1.out _).mono ?_) | (with_reducible refine (hc2.out _).mono ?_)); rintro e w3 ⟨rfl, rfl⟩)
          go_ret2
          exact ⟨by rw [e.out, hi.out, hd.out, hre.out] <;> rfl, bl_tr hb0' hb0⟩
        have e1 : decide (x.v.hi < x.v.lo) = false := by have := of_decide_eq_true hbo; simp; omega
        rw [hbo] at hre
        clear hbo
        go_wp2_with (go_at_call 47; (first | (with_reducible refine (hck.out _).mono ?_) | (with_reducible refine (hci.out _).mono ?_) | (with_reducible refine (hc1.out _).mono ?_) | (with_reducible refine (hc2.out _).mono ?_)); rintro e w3 ⟨rfl, rfl⟩)
        go_roundw
        case rel => exact ⟨k + 1, by omega, by go_num, hb0, by rw [hi.out, hd.out, hre.out] <;> rfl⟩
        case measure => simp [intOf]; omega
    · go_wp2
      go_ret2
      have : k = l.length := by have := Hn.out; omega
      exact ⟨by rw [e.out, hi.out, this]; simp [eachS], bl_tr hb0 hb⟩
/-- The reference's errors of readings, and of a vote, behind a valid net. -/
theorem refReads_eq {n : Nt} {l : List Rd} (h : netErr n = 0) : refReads n.bs.length l = readsChk n l := by
  unfold refReads readsChk readsE
  by_cases h8 : 8 < l.length
  · have h8' : ¬ ((l.length : Int) ≤ 8) := by omega
    simp [h, fstE, unl, h8, h8']
  · have h8' : ((l.length : Int) ≤ 8) := by omega
    simp [h, fstE, unl, h8, h8']
end Go.Proofs.Ytephimmamkafoaa
namespace Go.Proofs.Ytephimmamkafoaa
set_option linter.unusedSimpArgs false
set_option linter.unusedVariables false
open Go.RowKit Go.Shelf
attribute [local go_sem] bl_al bl_drew bl_drewN bl_refl bx_al bx_drew bx_drewN bx_refl
set_option maxRecDepth 20000
/-- The errors of a vote of a valid net. -/
def refVote (nb : Nat) (v : Vt) : Int := if (refReads nb v.rs).2 = 0 then unl (inR v.wrong 0 v.rs.length) 2 else (refReads nb v.rs).2
set_option maxHeartbeats 4000000 in
theorem r_VoteErr (wd : Bx) (nb : Nat) (v : Vt) (s : Option Addr) (A' : Option Addr) (c c' : Nat) (w : World) (hl : Sl cRd 4 w A' v.rs) (hll : v.rs.length ≤ 1000) (hnb : nb ≤ 1000) :
    Calls Try.prog 26 #[vNt wd (.slice s nb c), .agg #[.slice A' v.rs.length c', .int .i64 v.wrong]] w (Ret (.int .i64 (refVote nb v)) w) := by
  have hcr := Lib.hid fun (W : World) (hb : Below w.heap.size w W) => r_CheckReadings wd nb v.rs s A' c c' W (hl.below hb) hll hnb
  have hr1 : Hid ((refReads nb v.rs).2 = 0 → refVote nb v = unl (inR v.wrong 0 v.rs.length) 2) := fun h => by rw [refVote, if_pos h]
  have hr2 : Hid ((refReads nb v.rs).2 ≠ 0 → refVote nb v = (refReads nb v.rs).2) := fun h => by rw [refVote, if_neg h]
  clear hl
  generalize v.rs.length = ll at *
  generalize refReads nb v.rs = re at *
  go_enter Try.func26, Try.ntmps26
  go_upto_region 1 with fail
  apply absB2 (w0 := w) (g0 := w.heap.size) (g1 := w.heap.size + 1)
  iterate 3 (focus ((with_reducible (repeat' (first | assumption | apply jA | apply jB | apply jC | apply jD | apply jE | apply jF | apply hb3 | apply jG | apply jH | apply jI | apply jJ | apply jK | apply hb3x | (apply jL; first | (simp; done) | rfl) | apply jM | apply jN | apply jO | apply jP | apply jQ | apply jR | apply jS | apply jT (hb := hb3 _ (jA _)) | omega | (simp; done) | (simp; omega) | (dsimp only; omega)))); done))
  intro wa hb0' k0' k1'
  (try simp only [List.setIfInBounds_toArray, List.set_cons_zero, List.set_cons_succ] at k0' k1')
  try clear hb3
  try clear hb0
  try clear k0
  try clear k1
  have hb0 := hb0'; clear hb0'
  have k0 := k0'; clear k0'
  have k1 := k1'; clear k1'
  have Lk0 := k0.later
  have Fk0 := k0.laterF
  have Qk0 := k0.lt
  have Lk1 := k1.later
  have Fk1 := k1.laterF
  have Qk1 := k1.lt
  by_cases h0 : re.2 = 0
  · have e := Lib.hid (hr1.out h0)
    have h0' : (re.2 != 0) = false := by simp [h0]
    clear h0 hr1 hr2
    obtain ⟨bv, h⟩ : ∃ b', inR v.wrong 0 ll = b' := ⟨_, rfl⟩
    have hcv := Lib.hid fun W : World => h ▸ r_Within v.wrong 0 ll W
    rw [h] at e
    clear h
    cases bv
    all_goals
      go_wp2_with fail
      refine Calls.mono (hcr.out _ hb0) ?_
      rintro e' w3 ⟨rfl, hb3⟩
      replace hb3 := bl_tt hb3
      apply absX2 (w0 := w) (w := w3) (g0 := w.heap.size) (g1 := w.heap.size + 1)
      iterate 3 (focus ((with_reducible (repeat' (first | assumption | apply jA | apply jB | apply jC | apply jD | apply jE | apply jF | apply hb3 | apply jG | apply jH | apply jI | apply jJ | apply jK | apply hb3x | (apply jL; first | (simp; done) | rfl) | apply jM | apply jN | apply jO | apply jP | apply jQ | apply jR | apply jS | apply jT (hb := hb3 _ (jA _)) | omega | (simp; done) | (simp; omega) | (dsimp only; omega)))); done))
      intro wb hb0' k0' k1'
      (try simp only [List.setIfInBounds_toArray, List.set_cons_zero, List.set_cons_succ] at k0' k1')
      try clear hb3
      try clear Lk0
      try clear Fk0
      try clear Qk0
      try clear Lk1
      try clear Fk1
      try clear Qk1
      try clear hb0
      try clear k0
      try clear k1
      have hb0 := hb0'; clear hb0'
      have k0 := k0'; clear k0'
      have k1 := k1'; clear k1'
      have Lk0 := k0.later
      have Fk0 := k0.laterF
      have Qk0 := k0.lt
      have Lk1 := k1.later
      have Fk1 := k1.laterF
      have Qk1 := k1.lt
      go_wp2_with (go_at_call 47; (with_reducible refine (hcv.out _).mono ?_); rintro e w3 ⟨rfl, rfl⟩)
      go_ret
      exact ⟨by rw [e.out] <;> rfl, hb0⟩
  · have e := Lib.hid (hr2.out h0)
    have h0' : (re.2 != 0) = true := by simp [h0]
    clear h0 hr1 hr2
    go_wp2_with fail
    refine Calls.mono (hcr.out _ hb0) ?_
    rintro e' w3 ⟨rfl, hb3⟩
    go_wp2
    go_ret
    exact ⟨by rw [e.out] <;> rfl, bl_tr hb0 hb3⟩
end Go.Proofs.Ytephimmamkafoaa
