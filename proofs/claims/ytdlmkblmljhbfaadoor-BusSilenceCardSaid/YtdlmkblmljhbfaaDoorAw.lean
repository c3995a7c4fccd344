/-
  Walks: the laws' own examples.
-/
import Derived.Test.YtdlmkblmljhbfaaDoorCby
import Derived.Test.YtdlmkblmljhbfaaDoorCutOf
import Derived.Test.YtdlmkblmljhbfaaDoorResp
import Derived.Test.YtdlmkblmljhbfaaDoorEnc
import Derived.Test.YtdlmkblmljhbfaaDoorInts
import Derived.Test.YtdlmkblmljhbfaaDoorRgs
namespace Go.Proofs.YtdlmkblmljhbfaaDoor
set_option linter.unusedSimpArgs false
set_option linter.unusedVariables false
open Go.RowKit Go.Shelf
attribute [local go_sem] bl_al bl_drew bl_drewN bl_refl bx_al bx_drew bx_drewN bx_refl
set_option maxRecDepth 20000
def sms0 : List Sm := [⟨⟨#[97]⟩, 4, 4, 1⟩, ⟨⟨#[98]⟩, 6, 6, 2⟩, ⟨⟨#[99]⟩, 12, 12, 3⟩]
def net0 (b : Nat) : Nt := ⟨[⟨#[109, 97, 105, 110]⟩, ⟨#[115, 112, 97, 114, 101]⟩, ⟨#[103, 121, 114, 111]⟩, ⟨#[100, 118, 108]⟩],
  [⟨⟨#[112, 111, 119, 101, 114]⟩, some ⟨b + 4, 0, none⟩, 2, [⟨some ⟨b + 2, 0, none⟩, 1, [0]⟩, ⟨some ⟨b + 3, 0, none⟩, 1, [1]⟩]⟩,
   ⟨⟨#[104, 101, 97, 100, 105, 110, 103]⟩, some ⟨b + 7, 0, none⟩, 2, [⟨some ⟨b + 5, 0, none⟩, 2, [0, 2]⟩, ⟨some ⟨b + 6, 0, none⟩, 2, [1, 2]⟩]⟩,
   ⟨⟨#[115, 112, 101, 101, 100]⟩, some ⟨b + 9, 0, none⟩, 1, [⟨some ⟨b + 8, 0, none⟩, 1, [3]⟩]⟩],
  [⟨⟨#[102, 117, 108, 108]⟩, ⟨some ⟨b + 11, 0, none⟩, 3, [0, 1, 2]⟩⟩, ⟨⟨#[115, 108, 111, 119]⟩, ⟨some ⟨b + 12, 0, none⟩, 2, [0, 1]⟩⟩, ⟨⟨#[100, 114, 105, 102, 116]⟩, ⟨some ⟨b + 13, 0, none⟩, 1, [0]⟩⟩]⟩
theorem ev_enc : encS ⟨0, 0, 0, 0, 0, 1, 0⟩ = (⟨0, 0, 0, 0, 0, 1, 0, 21⟩, 0) := by kernel_rfl
theorem ev_resp : respOf sms0 2 = (10, 0) := by kernel_rfl
theorem ev_stE : stE sms0 [0, 0, 0] 12 = 0 := by kernel_rfl
theorem ev_run : (runS prioS sms0 [0, 0, 0] 12).2 = [0, 1, 1, 2, 0, 2, 1, 1, 0, 2, -1, -1] := by kernel_rfl
theorem ev_cutE (b : Nat) : cutErr (net0 b) 0 = 0 := by kernel_rfl
theorem ev_cut0 (b : Nat) : listS (cutS ⟨⟨#[112, 111, 119, 101, 114]⟩, some ⟨b + 4, 0, none⟩, 2, [⟨some ⟨b + 2, 0, none⟩, 1, [0]⟩, ⟨some ⟨b + 3, 0, none⟩, 1, [1]⟩]⟩ 4) = [0, 1] := by kernel_rfl
theorem ev_cut (b : Nat) (f : Fu) (hf : (net0 b).fs[(0 : Int).toNat]? = some f) : listS (cutS f (net0 b).ps.length) = [0, 1] := by
  have : f = ⟨⟨#[112, 111, 119, 101, 114]⟩, some ⟨b + 4, 0, none⟩, 2, [⟨some ⟨b + 2, 0, none⟩, 1, [0]⟩, ⟨some ⟨b + 3, 0, none⟩, 1, [1]⟩]⟩ := by
    have e : (net0 b).fs[(0 : Int).toNat]? = some ⟨⟨#[112, 111, 119, 101, 114]⟩, some ⟨b + 4, 0, none⟩, 2, [⟨some ⟨b + 2, 0, none⟩, 1, [0]⟩, ⟨some ⟨b + 3, 0, none⟩, 1, [1]⟩]⟩ := rfl
    rw [e] at hf
    injection hf with hf
    exact hf.symm
  rw [this]
  exact ev_cut0 b
theorem ev_silE : silE [3, 10, 12] ⟨0, 20⟩ 4 = 0 := by kernel_rfl
theorem ev_silR : silR [3, 10, 12] ⟨0, 20⟩ 4 = [⟨0, 2⟩, ⟨8, 9⟩, ⟨17, 20⟩] := by kernel_rfl
theorem r_Streams (w : World) : Calls Tryd.prog 71 #[] w (fun e w' => e = .returned (.slice (some ⟨w.heap.size, 0, none⟩) 3 3) ∧ Below w.heap.size w w' ∧ SmIn sms0 (some ⟨w.heap.size, 0, none⟩) 3 w') := by
  go_enter Tryd.func71, Tryd.ntmps71
  go_wp2
  go_ret
  refine ⟨rfl, bl_al _ (bl_refl w), by decide, by decide, fun s hs => ?_, Blk.slC (cs := cSm) (l := sms0) (fun _ => rfl) (Blk.new w _ _)⟩
  have : s.name.size = 1 := by
    simp [sms0] at hs
    rcases hs with rfl | rfl | rfl <;> rfl
  rw [this]
  unfold maxLen
  omega
theorem absPC {P : Program} {fn : Func} {R : Ending → World → Prop} {x : Exit} {a : Act} {w : World} (C : World → Prop) (hC : C w) (h : ∀ W, C W → bodyPost P fn R x a W) : bodyPost P fn R x a w := h w hC
set_option maxHeartbeats 4000000 in
theorem r_Net (w : World) : Calls Tryd.prog 72 #[] w (fun e w' => e = .returned (vNt (some ⟨w.heap.size + 1, 0, none⟩) (some ⟨w.heap.size + 10, 0, none⟩) (some ⟨w.heap.size + 14, 0, none⟩) 4 3 3 4 3 3) ∧ Below w.heap.size w w' ∧
    NtIn (net0 w.heap.size) (some ⟨w.heap.size + 1, 0, none⟩) (some ⟨w.heap.size + 10, 0, none⟩) (some ⟨w.heap.size + 14, 0, none⟩) 4 3 3 w') := by
  go_enter Tryd.func72, Tryd.ntmps72
  go_wp2
  refine absPC (fun W => Below w.heap.size w W ∧
    Blk W (w.heap.size) 61 #[.slice (some ⟨w.heap.size + 1, 0, none⟩) 4 4, .slice (some ⟨w.heap.size + 10, 0, none⟩) 3 3, .slice (some ⟨w.heap.size + 14, 0, none⟩) 3 3] ∧
    Blk W (w.heap.size + 1) 9 #[.string ⟨#[109, 97, 105, 110]⟩, .string ⟨#[115, 112, 97, 114, 101]⟩, .string ⟨#[103, 121, 114, 111]⟩, .string ⟨#[100, 118, 108]⟩] ∧
    Blk W (w.heap.size + 2) 3 #[.int .i64 0] ∧
    Blk W (w.heap.size + 3) 3 #[.int .i64 1] ∧
    Blk W (w.heap.size + 4) 22 #[.slice (some ⟨w.heap.size + 2, 0, none⟩) 1 1, .slice (some ⟨w.heap.size + 3, 0, none⟩) 1 1] ∧
    Blk W (w.heap.size + 5) 3 #[.int .i64 0, .int .i64 2] ∧
    Blk W (w.heap.size + 6) 3 #[.int .i64 1, .int .i64 2] ∧
    Blk W (w.heap.size + 7) 22 #[.slice (some ⟨w.heap.size + 5, 0, none⟩) 2 2, .slice (some ⟨w.heap.size + 6, 0, none⟩) 2 2] ∧
    Blk W (w.heap.size + 8) 3 #[.int .i64 3] ∧
    Blk W (w.heap.size + 9) 22 #[.slice (some ⟨w.heap.size + 8, 0, none⟩) 1 1] ∧
    Blk W (w.heap.size + 10) 129 #[.string ⟨#[112, 111, 119, 101, 114]⟩, .slice (some ⟨w.heap.size + 4, 0, none⟩) 2 2, .string ⟨#[104, 101, 97, 100, 105, 110, 103]⟩, .slice (some ⟨w.heap.size + 7, 0, none⟩) 2 2, .string ⟨#[115, 112, 101, 101, 100]⟩, .slice (some ⟨w.heap.size + 9, 0, none⟩) 1 1] ∧
    Blk W (w.heap.size + 11) 3 #[.int .i64 0, .int .i64 1, .int .i64 2] ∧
    Blk W (w.heap.size + 12) 3 #[.int .i64 0, .int .i64 1] ∧
    Blk W (w.heap.size + 13) 3 #[.int .i64 0] ∧
    Blk W (w.heap.size + 14) 71 #[.string ⟨#[102, 117, 108, 108]⟩, .slice (some ⟨w.heap.size + 11, 0, none⟩) 3 3, .string ⟨#[115, 108, 111, 119]⟩, .slice (some ⟨w.heap.size + 12, 0, none⟩) 2 2, .string ⟨#[100, 114, 105, 102, 116]⟩, .slice (some ⟨w.heap.size + 13, 0, none⟩) 1 1]) ⟨by (with_reducible (repeat' (first | assumption | apply jA | apply jB | apply jC | apply jD | apply jE | apply jF | apply hb3 | omega | (simp; done) | (simp; omega) | (dsimp only; omega)))), by (with_reducible (repeat' (first | assumption | (apply jL; first | (simp; done) | rfl) | apply jM | apply jN | apply jO | apply jP | apply jQ | apply jR | apply jS | apply jT (hb := hb3 _ (jA _)) | omega | (simp; done) | (simp; omega) | (dsimp only; omega)))), by (with_reducible (repeat' (first | assumption | (apply jL; first | (simp; done) | rfl) | apply jM | apply jN | apply jO | apply jP | apply jQ | apply jR | apply jS | apply jT (hb := hb3 _ (jA _)) | omega | (simp; done) | (simp; omega) | (dsimp only; omega)))), by (with_reducible (repeat' (first | assumption | (apply jL; first | (simp; done) | rfl) | apply jM | apply jN | apply jO | apply jP | apply jQ | apply jR | apply jS | apply jT (hb := hb3 _ (jA _)) | omega | (simp; done) | (simp; omega) | (dsimp only; omega)))), by (with_reducible (repeat' (first | assumption | (apply jL; first | (simp; done) | rfl) | apply jM | apply jN | apply jO | apply jP | apply jQ | apply jR | apply jS | apply jT (hb := hb3 _ (jA _)) | omega | (simp; done) | (simp; omega) | (dsimp only; omega)))), by (with_reducible (repeat' (first | assumption | (apply jL; first | (simp; done) | rfl) | apply jM | apply jN | apply jO | apply jP | apply jQ | apply jR | apply jS | apply jT (hb := hb3 _ (jA _)) | omega | (simp; done) | (simp; omega) | (dsimp only; omega)))), by (with_reducible (repeat' (first | assumption | (apply jL; first | (simp; done) | rfl) | apply jM | apply jN | apply jO | apply jP | apply jQ | apply jR | apply jS | apply jT (hb := hb3 _ (jA _)) | omega | (simp; done) | (simp; omega) | (dsimp only; omega)))), by (with_reducible (repeat' (first | assumption | (apply jL; first | (simp; done) | rfl) | apply jM | apply jN | apply jO | apply jP | apply jQ | apply jR | apply jS | apply jT (hb := hb3 _ (jA _)) | omega | (simp; done) | (simp; omega) | (dsimp only; omega)))), by (with_reducible (repeat' (first | assumption | (apply jL; first | (simp; done) | rfl) | apply jM | apply jN | apply jO | apply jP | apply jQ | apply jR | apply jS | apply jT (hb := hb3 _ (jA _)) | omega | (simp; done) | (simp; omega) | (dsimp only; omega)))), by (with_reducible (repeat' (first | assumption | (apply jL; first | (simp; done) | rfl) | apply jM | apply jN | apply jO | apply jP | apply jQ | apply jR | apply jS | apply jT (hb := hb3 _ (jA _)) | omega | (simp; done) | (simp; omega) | (dsimp only; omega)))), by (with_reducible (repeat' (first | assumption | (apply jL; first | (simp; done) | rfl) | apply jM | apply jN | apply jO | apply jP | apply jQ | apply jR | apply jS | apply jT (hb := hb3 _ (jA _)) | omega | (simp; done) | (simp; omega) | (dsimp only; omega)))), by (with_reducible (repeat' (first | assumption | (apply jL; first | (simp; done) | rfl) | apply jM | apply jN | apply jO | apply jP | apply jQ | apply jR | apply jS | apply jT (hb := hb3 _ (jA _)) | omega | (simp; done) | (simp; omega) | (dsimp only; omega)))), by (with_reducible (repeat' (first | assumption | (apply jL; first | (simp; done) | rfl) | apply jM | apply jN | apply jO | apply jP | apply jQ | apply jR | apply jS | apply jT (hb := hb3 _ (jA _)) | omega | (simp; done) | (simp; omega) | (dsimp only; omega)))), by (with_reducible (repeat' (first | assumption | (apply jL; first | (simp; done) | rfl) | apply jM | apply jN | apply jO | apply jP | apply jQ | apply jR | apply jS | apply jT (hb := hb3 _ (jA _)) | omega | (simp; done) | (simp; omega) | (dsimp only; omega)))), by (with_reducible (repeat' (first | assumption | (apply jL; first | (simp; done) | rfl) | apply jM | apply jN | apply jO | apply jP | apply jQ | apply jR | apply jS | apply jT (hb := hb3 _ (jA _)) | omega | (simp; done) | (simp; omega) | (dsimp only; omega)))), by (with_reducible (repeat' (first | assumption | (apply jL; first | (simp; done) | rfl) | apply jM | apply jN | apply jO | apply jP | apply jQ | apply jR | apply jS | apply jT (hb := hb3 _ (jA _)) | omega | (simp; done) | (simp; omega) | (dsimp only; omega))))⟩ ?_
  rintro W ⟨hb, k0, k1, k2, k3, k4, k5, k6, k7, k8, k9, k10, k11, k12, k13, k14⟩
  have hr := k0.cell
  refine bodyPost_ret (v := vNt (some ⟨w.heap.size + 1, 0, none⟩) (some ⟨w.heap.size + 10, 0, none⟩) (some ⟨w.heap.size + 14, 0, none⟩) 4 3 3 4 3 3) (by simp [results, Tryd.results72, go_sem, hr]) rfl ⟨rfl, hb, ?_⟩
  have hml : ∀ n : Nat, n ≤ 10 → n ≤ maxLen := fun n hn => by unfold maxLen; omega
  have q2 : RwIn ⟨some ⟨w.heap.size + 2, 0, none⟩, 1, [0]⟩ W := ⟨by simp, by simp, Blk.ints (l := [0]) k2⟩
  have q3 : RwIn ⟨some ⟨w.heap.size + 3, 0, none⟩, 1, [1]⟩ W := ⟨by simp, by simp, Blk.ints (l := [1]) k3⟩
  have q5 : RwIn ⟨some ⟨w.heap.size + 5, 0, none⟩, 2, [0, 2]⟩ W := ⟨by simp, by simp, Blk.ints (l := [0, 2]) k5⟩
  have q6 : RwIn ⟨some ⟨w.heap.size + 6, 0, none⟩, 2, [1, 2]⟩ W := ⟨by simp, by simp, Blk.ints (l := [1, 2]) k6⟩
  have q8 : RwIn ⟨some ⟨w.heap.size + 8, 0, none⟩, 1, [3]⟩ W := ⟨by simp, by simp, Blk.ints (l := [3]) k8⟩
  have q11 : RwIn ⟨some ⟨w.heap.size + 11, 0, none⟩, 3, [0, 1, 2]⟩ W := ⟨by simp, by simp, Blk.ints (l := [0, 1, 2]) k11⟩
  have q12 : RwIn ⟨some ⟨w.heap.size + 12, 0, none⟩, 2, [0, 1]⟩ W := ⟨by simp, by simp, Blk.ints (l := [0, 1]) k12⟩
  have q13 : RwIn ⟨some ⟨w.heap.size + 13, 0, none⟩, 1, [0]⟩ W := ⟨by simp, by simp, Blk.ints (l := [0]) k13⟩
  refine ⟨by simp [net0], by simp [net0], by simp [net0], by simp [net0], by simp [net0], by simp [net0], Blk.slC (cs := cS) (l := (net0 w.heap.size).ps) (fun _ => rfl) k1, Blk.slC (cs := cFu) (l := (net0 w.heap.size).fs) (fun _ => rfl) k10, Blk.slC (cs := cMd) (l := (net0 w.heap.size).ms) (fun _ => rfl) k14, fun s hs => ?_, fun f hf => ?_, fun d hd => ?_⟩
  · simp only [net0, List.mem_cons, List.not_mem_nil, or_false] at hs
    rcases hs with rfl | rfl | rfl | rfl <;> exact hml _ (by simp [ByteArray.size])
  · simp only [net0, List.mem_cons, List.not_mem_nil, or_false] at hf
    rcases hf with rfl | rfl | rfl
    · refine ⟨hml _ (by simp [ByteArray.size]), by simp, by simp, Blk.slC (cs := cRw) (l := [⟨some ⟨w.heap.size + 2, 0, none⟩, 1, [0]⟩, ⟨some ⟨w.heap.size + 3, 0, none⟩, 1, [1]⟩]) (fun _ => rfl) k4, fun r hr => ?_⟩
      simp only [List.mem_cons, List.not_mem_nil, or_false] at hr
      rcases hr with rfl | rfl
      · exact q2
      · exact q3
    · refine ⟨hml _ (by simp [ByteArray.size]), by simp, by simp, Blk.slC (cs := cRw) (l := [⟨some ⟨w.heap.size + 5, 0, none⟩, 2, [0, 2]⟩, ⟨some ⟨w.heap.size + 6, 0, none⟩, 2, [1, 2]⟩]) (fun _ => rfl) k7, fun r hr => ?_⟩
      simp only [List.mem_cons, List.not_mem_nil, or_false] at hr
      rcases hr with rfl | rfl
      · exact q5
      · exact q6
    · refine ⟨hml _ (by simp [ByteArray.size]), by simp, by simp, Blk.slC (cs := cRw) (l := [⟨some ⟨w.heap.size + 8, 0, none⟩, 1, [3]⟩]) (fun _ => rfl) k9, fun r hr => ?_⟩
      simp only [List.mem_cons, List.not_mem_nil, or_false] at hr
      rcases hr with rfl
      exact q8
  · simp only [net0, List.mem_cons, List.not_mem_nil, or_false] at hd
    rcases hd with rfl | rfl | rfl
    · exact ⟨hml _ (by simp [ByteArray.size]), q11⟩
    · exact ⟨hml _ (by simp [ByteArray.size]), q12⟩
    · exact ⟨hml _ (by simp [ByteArray.size]), q13⟩
end Go.Proofs.YtdlmkblmljhbfaaDoor
