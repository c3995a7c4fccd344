/-
  Walks: copies of paths; whether the error of a track is that of a search.
-/
import Derived.Test.YtephimmamkafoaaGreatUH7
import Derived.Test.YtephimmamkafoaaGreatU13
import Derived.Test.YtephimmamkafoaaGreatUH3
set_option linter.unusedSimpArgs false
set_option linter.unusedVariables false
namespace Go.Proofs.YtephimmamkafoaaGreat
open Go.RowKit Go.Shelf
attribute [local go_sem] bl_al bl_drew bl_drewN bl_refl bx_al bx_drew bx_drewN bx_refl
set_option maxRecDepth 20000
theorem infoPl : (Tryz.prog.info? 70).map (fun i => (i.zero, i.size, i.bytes)) = some (some (.agg #[.int .i64 0, .int .i64 0, .int .i64 0]), 3, 24) := by kernel_rfl
set_option maxHeartbeats 4000000 in
theorem r_CopyPath (t : List Pl) (A : Option Addr) (c : Nat) (w : World) (ht : Sl cPl 3 w A t) (htl : t.length ≤ 1000) :
    Calls Tryz.prog 25 #[.slice A t.length c] w (fun e w' => ∃ A2 c2, e = .returned (.slice A2 t.length c2) ∧ Below w.heap.size w w' ∧ Sl cPl 3 w' A2 t) := by
  obtain ⟨i0, hi0, hz0, hz1, hz2⟩ := info_parts infoPl
  have Ht := Lib.hid ht
  clear ht
  go_enter Tryz.func25, Tryz.ntmps25
  go_wp2_with (at_builtin; refine wpList_plain rfl fun K hK => wp_copy _ _ rfl Tryz.underlying59 hi0 hz0 hz1 hz2 rfl (by decide) (cs := cPl) (fun _ => rfl) (fun x u hu => by simp [cPl] at hu; rcases hu with h | h | h <;> subst h <;> rfl) rfl rfl (Ht.out.below (bl_al _ (bl_refl w))) htl (by decide) (Blk.new w _ _) ?_; intro A2 c2 w4 hox hb4; refine hK _ _ ?_; clear hK)
  go_ret
  exact ⟨A2, c2, rfl, bl_tr (bl_al _ (bl_refl w)) hb4, own_slC (cs := cPl) (fun _ => rfl) (by decide) hox⟩
set_option maxHeartbeats 4000000 in
theorem r_hasLarge (n : Nt) (b : Bx) (l : List StA) (A A' : Option Addr) (c c' : Nat) (w : World) (hn : NtIn n A c w) (hl : StsIn l A' w) (hll : few1 l) (hlb : n.bs.length ≤ 1000) :
    Calls Tryz.prog 28 #[vNt n.world (.slice A n.bs.length c), vBx b, .slice A' l.length c'] w (Ret (.bool (trackE n b (l.map (·.s)) == 8)) w) := by
  have hte := Lib.hid fun (W : World) (hb : Below w.heap.size w W) => r_TrackErr n b l A A' c c' W (hn.below hb) (hl.below hb) hll hlb
  clear hn hl hll
  generalize trackE n b (l.map (·.s)) = TE at *
  generalize n.bs.length = nl at *
  generalize l.length = ll at *
  go_enter Tryz.func28, Tryz.ntmps28
  go_upto_region 1 with fail
  apply absB2 (w0 := w) (g0 := w.heap.size) (g1 := w.heap.size + 1)
  iterate 3 (focus exact zL)
  try clear hb3
  try clear hb0
  try clear k0
  try clear k1
  intro wa hb0 k0 k1
  (try simp only [List.setIfInBounds_toArray, List.set_cons_zero, List.set_cons_succ] at k0 k1)
  have Lk0 := k0.later
  have Fk0 := k0.laterF
  have Qk0 := k0.lt
  have Lk1 := k1.later
  have Fk1 := k1.laterF
  have Qk1 := k1.lt
  go_wp2_with (go_at_call 20; (with_reducible refine (hte.out _ (bl_tr hb0 (by (exact zE)))).mono ?_); rintro e w3 ⟨rfl, hb3⟩; replace hb3 := bl_tt hb3)
  go_ret
  exact ⟨rfl, hb3 _ hb0⟩
end Go.Proofs.YtephimmamkafoaaGreat
