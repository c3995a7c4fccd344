/-
  Walk: the answers of readings for a box, by the reference.
  Walk: the reference's names.
-/
import Derived.Test.YtephimmamkafoaaG13
import Derived.Test.YtephimmamkafoaaH6
import Derived.Test.YtephimmamkafoaaH12
import Derived.Test.YtephimmamkafoaaG4
import Derived.Test.YtephimmamkafoaaG3
namespace Go.Proofs.Ytephimmamkafoaa
set_option linter.unusedSimpArgs false
set_option linter.unusedVariables false
open Go.RowKit Go.Shelf
attribute [local go_sem] bl_al bl_drew bl_drewN bl_refl bx_al bx_drew bx_drewN bx_refl
set_option maxRecDepth 20000
theorem index_r0 (a b c d e f : Int) (w : World) : (Instr.index 69 (.agg #[.int .i64 a, .int .i64 b, .int .i64 c, .int .i64 d, .int .i64 e, .int .i64 f]) (.int .i64 0)).run Try.prog w = .ok (.agg #[.int .i64 a, .int .i64 b]) w := by kernel_rfl
theorem index_r1 (a b c d e f : Int) (w : World) : (Instr.index 69 (.agg #[.int .i64 a, .int .i64 b, .int .i64 c, .int .i64 d, .int .i64 e, .int .i64 f]) (.int .i64 1)).run Try.prog w = .ok (.agg #[.int .i64 c, .int .i64 d]) w := by kernel_rfl
theorem index_r2 (a b c d e f : Int) (w : World) : (Instr.index 69 (.agg #[.int .i64 a, .int .i64 b, .int .i64 c, .int .i64 d, .int .i64 e, .int .i64 f]) (.int .i64 2)).run Try.prog w = .ok (.agg #[.int .i64 e, .int .i64 f]) w := by kernel_rfl
theorem index_mod (a : Bx) (i : Int) (hi : 0 ≤ i) : ∃ sl sh : Int, (∀ W, (Instr.index 69 (vBx a) (.int .i64 (i % 3))).run Try.prog W = .ok (.agg #[.int .i64 sl, .int .i64 sh]) W) ∧ (i < 3 → a.side i = ⟨sl, sh⟩) := by
  have h1 := Int.emod_nonneg i (show (3 : Int) ≠ 0 by decide)
  have h2 := Int.emod_lt_of_pos i (show (0 : Int) < 3 by decide)
  have h3 : i < 3 → i % 3 = i := fun h => Int.emod_eq_of_lt hi h
  by_cases e0 : i % 3 = 0
  · exact ⟨_, _, fun W => by rw [e0]; exact index_r0 _ _ _ _ _ _ W, fun h => by rw [h3 h] at e0; rw [e0]; rfl⟩
  · by_cases e1 : i % 3 = 1
    · exact ⟨_, _, fun W => by rw [e1]; exact index_r1 _ _ _ _ _ _ W, fun h => by rw [h3 h] at e1; rw [e1]; rfl⟩
    · have e2 : i % 3 = 2 := by omega
      exact ⟨_, _, fun W => by rw [e2]; exact index_r2 _ _ _ _ _ _ W, fun h => by rw [h3 h] at e2; rw [e2]; rfl⟩
set_option maxHeartbeats 16000000 in
theorem r_Answers (wd a : Bx) (bs : List Bc) (A A' : Option Addr) (c c' : Nat) (l : List Rd) (w : World) (hs : Sl cBc 4 w A bs) (hlb : bs.length ≤ 1000) (hl : Sl cRd 4 w A' l) (hll : l.length ≤ 1000)
    (ha : a.ok) (hr : ∀ r ∈ l, r.ok bs) (hk : ∀ r ∈ l, r.kind = 0 ∨ r.kind = 1) :
    Calls Try.prog 43 #[vNt wd (.slice A bs.length c), vBx a, .slice A' l.length c'] w (RetI (ansTo (ansAt bs a l) l.length) w) := by
  obtain ⟨i0, hi0, hz0, hz1, hz2⟩ := info_parts info3
  have Hr := Lib.hid hr
  have Hk := Lib.hid hk
  have Ha := Lib.hid ha
  have Hl := Lib.hid hl
  have Hs := Lib.hid hs
  have hfk : Hid (∀ k x, l[k]? = some x → ansAt bs a l k = ans (measS bs a x)) := fun k x h => by simp [ansAt, h]
  clear hs hl hr hk ha
  obtain ⟨nb, Hb⟩ : ∃ n, Hid (bs.length = n) := ⟨_, rfl⟩
  rw [Hb.out] at hlb ⊢
  obtain ⟨n, Hn⟩ : ∃ n, Hid (l.length = n) := ⟨_, rfl⟩
  rw [Hn.out] at hll ⊢
  go_enter Try.func43, Try.ntmps43
  go_upto_region 2 with fail
  apply absB2 (w0 := w) (g0 := w.heap.size) (g1 := w.heap.size + 1)
  iterate 3 (focus ((with_reducible (repeat' (first | assumption | apply jA | apply jB | apply jC | apply jD | apply jE | apply jF | apply hb3 | apply jG | apply jH | apply jI | apply jJ | apply jK | apply hb3x | (apply jL; first | (simp; done) | rfl) | apply jM | apply jN | apply jO | apply jP | apply jQ | apply jR | apply jS | apply jT (hb := hb3 _ (jA _)) | omega | (simp; done) | (simp; omega) | (dsimp only; omega)))); done))
  intro wa hb0' k0' k1'
  (try simp only [List.setIfInBounds_toArray, List.set_cons_zero, List.set_cons_succ] at k0' k1')
  try clear hb3
  try clear hb0
  try clear k0
  try clear k1
  have hb0 := hb0'; clear hb0'
  have k0 := k0'; clear k0'
  have k1 := k1'; clear k1'
  have Lk0 := k0.later
  have Fk0 := k0.laterF
  have Qk0 := k0.lt
  have Lk1 := k1.later
  have Fk1 := k1.laterF
  have Qk1 := k1.lt
  go_wp2
  go_loopw [7, 8] (fun v i wr => ∃ k : Nat, k ≤ n ∧ i = .int .i64 k ∧ Below wa.heap.size wa wr ∧ wr.ownsRow wa.heap.size 3 1 v (ansTo (ansAt bs a l) k).length ((ansTo (ansAt bs a l) k).map (.int .i64))) (fun _ i _ => n - (intOf i).toNat)
  case atStart => exact ⟨0, Nat.zero_le _, rfl, Below.refl _ _, World.ownsRow_nil _ _ _ _⟩
  case round =>
    obtain ⟨k, hk, rfl, hb, hown⟩ := hrel
    rw [ansTo_len] at hown
    by_cases hlt : k < n
    · have hx : l[k]? = some (l[k]'(by rw [Hn.out]; exact hlt)) := List.getElem?_eq_getElem _
      generalize l[k]'(by rw [Hn.out]; exact hlt) = x at hx
      obtain ⟨b, off, hA, hc⟩ := Hl.out k x hx
      have hm : x ∈ l := List.mem_of_getElem? hx
      have hwr : Below w.heap.size w wr := bl_tr hb0 hb
      have c0 : ∀ W, Below wr.heap.size wr W → W.cell? ⟨b, off + k * 4, none⟩ = some (.int .i64 x.kind) := later (kcell hwr (hc 0 _ rfl))
      have c1 : ∀ W, Below wr.heap.size wr W → W.cell? ⟨b, off + k * 4 + 1, none⟩ = some (.int .i64 x.idx) := later (kcell hwr (hc 1 _ rfl))
      have c2 : ∀ W, Below wr.heap.size wr W → W.cell? ⟨b, off + k * 4 + 2, none⟩ = some (.int .i64 x.v.lo) := later (kcell hwr (hc 2 _ rfl))
      have c3 : ∀ W, Below wr.heap.size wr W → W.cell? ⟨b, off + k * 4 + 3, none⟩ = some (.int .i64 x.v.hi) := later (kcell hwr (hc 3 _ rfl))
      clear hc
      subst hA
      have hfk := Lib.hid (hfk.out k x hx)
      have hro := Lib.hid (Hr.out x hm)
      have hsz := hwr.size
      replace hown := Lib.hid hown
      replace hx := Lib.hid hx
      have k0 := k0.below hb
      have k1 := k1.below hb
      clear Lk0 Lk1 Fk0 Fk1
      have hqr := k1.lt
      have hb0' := hb0
      have hb0 := bl_refl wr
      have Lk0 := k0.later
      have Fk0 := k0.laterF
      have Qk0 := k0.lt
      have Lk1 := k1.later
      have Fk1 := k1.laterF
      have Qk1 := k1.lt
      have hi0x : 0 ≤ x.idx := by
        by_cases h1 : x.kind = 1
        · have := hro.out.axis h1
          omega
        · obtain ⟨k', -, e, -⟩ := hro.out.bc h1
          omega
      obtain ⟨ml, mh, hidx, hsd⟩ := index_mod a x.idx hi0x
      replace hsd := Lib.hid hsd
      obtain ⟨v1, v2, v3, v4⟩ := hro.out.v
      obtain ⟨s1, s2⟩ := sq_bd3 v1 v2
      obtain ⟨s3, s4⟩ := sq_bd3 v3 v4
      go_wp2
      refine wp_any (w0 := wr) ⟨[16, 17], [7, 8, 9, 10, 11, 12, 13], [some 17, some 18, some 19, some 20, some 21, some 22, some 23, some 24, some 25, some 26, some 27, some 28, some 29, some 30, some 9, some 10, none, none], [[], [], [0, 1], [0, 1, 2], [0, 1, 2, 3], [], [5], [], [], [7, 8], [7, 8, 9], [7, 8, 9, 10], [7, 8, 9, 10, 11], [5, 6, 7, 8, 9, 10, 11, 12], [], [], [0, 1, 2, 3, 4, 5, 6, 14, 15], [0, 1, 2, 3, 4, 5, 6, 7, 8, 9, 10, 11, 12, 13, 14, 15, 16]], [[], [], [0, 1], [2], [3], [], [5], [], [], [7, 8], [9], [10], [11], [6, 12], [], [], [], []]⟩ (fun γ => frX wr [(γ 14).n, (γ 15).n]) (by kernel_rfl) (by kernel_rfl) (by (with_reducible (repeat' (first | assumption | apply jA | apply jB | apply jC | apply jD | apply jE | apply jF | apply hb3 | omega | (simp; done) | (simp; omega) | (dsimp only; omega))))) (fun u => by simp only [putD, Act.put, List.setIfInBounds_toArray, List.set_cons_zero, List.set_cons_succ, Nat.zero_add, Nat.reduceAdd]; rfl) ?_
      apply RGW.on (i := 0) rfl
      · (simp only [gA, gB, gC] <;> rfl)
      · intro γ u W hcur hd
        clear hd
        (try dsimp only)
        refine ⟨rfl, ?_⟩
        go_simp <;> (try go_bits) <;> with_reducible rfl
      · exact fun _ _ _ => rfl
      · rfl
      dsimp only [nA, cA]
      apply RGW.on (i := 1) rfl
      · (simp only [gA, gB, gC] <;> rfl)
      · intro γ u W hcur hd
        clear hd
        (try dsimp only)
        refine ⟨rfl, ?_⟩
        go_simp <;> (try go_bits) <;> with_reducible rfl
      · exact fun _ _ _ => rfl
      · rfl
      dsimp only [nA, cA]
      apply RGW.on (i := 2) rfl
      · (simp only [gA, gB, gC] <;> rfl)
      · intro γ u W hcur hd
        obtain ⟨⟨h0, -, -⟩, ⟨h1, -, -⟩, -⟩ := hd
        dsimp only at h0 h1
        (try simp only [h0, h1])
        refine ⟨rfl, ?_⟩
        go_simp <;> (try go_bits) <;> with_reducible rfl
      · exact fun _ _ _ => rfl
      · rfl
      dsimp only [nA, cA]
      apply RGW.on (i := 3) rfl
      · (simp only [gA, gB, gC] <;> rfl)
      · intro γ u W hcur hd
        obtain ⟨⟨h2, -, -⟩, -⟩ := hd
        dsimp only at h2
        (try simp only [h2])
        refine ⟨rfl, ?_⟩
        go_simp <;> (try go_bits) <;> with_reducible rfl
      · exact fun _ _ _ => rfl
      · rfl
      dsimp only [nA, cA]
      apply RGW.on (i := 4) rfl
      · (simp only [gA, gB, gC] <;> rfl)
      · intro γ u W hcur hd
        obtain ⟨⟨h3, -, -⟩, -⟩ := hd
        dsimp only at h3
        (try simp only [h3])
        refine ⟨rfl, ?_⟩
        go_simp <;> (try go_bits) <;> with_reducible rfl
      · exact fun _ _ _ => rfl
      · rfl
      dsimp only [nA, cA]
      apply RGW.on (i := 5) rfl
      · (simp only [gA, gB, gC] <;> rfl)
      · intro γ u W hcur hd
        clear hd
        (try dsimp only)
        refine ⟨rfl, ?_⟩
        go_simp <;> (try go_bits) <;> with_reducible rfl
      · exact fun _ _ _ => rfl
      · rfl
      dsimp only [nA, cA]
      apply RGW.call (i := 6) rfl
      · (simp only [gA, gB, gC] <;> rfl)
      · intro γ u W hcur hd
        obtain ⟨⟨h5, -, -⟩, -⟩ := hd
        dsimp only at h5
        (try simp only [h5])
        refine ⟨rfl, fun K hK => ?_⟩
        go_simp
        (go_at_call 32; (with_reducible refine (r_Sides a _).mono ?_); rintro e w3 ⟨rfl, hb3⟩; replace hb3 := bl_tt hb3)
        (try dsimp only)
        exact hK.out _ _ rfl (by (with_reducible (repeat' (first | assumption | apply jA | apply jB | apply jC | apply jD | apply jE | apply jF | apply hb3 | omega | (simp; done) | (simp; omega) | (dsimp only; omega)))))
      · exact fun _ _ _ => rfl
      · rfl
      dsimp only [nA, cA]
      apply RGW.onL (i := 7) rfl
      · (simp only [gA, gB, gC] <;> rfl)
      · intro γ u Wm W hcurM hd hX; have hcur := bx_fresh hX hcurM
        clear hd
        (try dsimp only)
        refine ⟨rfl, ?_⟩
        go_simp <;> (try go_bits) <;> with_reducible rfl
      · exact fun _ _ _ => rfl
      dsimp only [nA, cA]
      apply RGW.onL (i := 8) rfl
      · (simp only [gA, gB, gC] <;> rfl)
      · intro γ u Wm W hcurM hd hX; have hcur := bx_fresh hX hcurM
        clear hd
        (try dsimp only)
        refine ⟨rfl, ?_⟩
        go_simp <;> (try go_bits) <;> with_reducible rfl
      · exact fun _ _ _ => rfl
      dsimp only [nA, cA]
      apply RGW.onL (i := 9) rfl
      · (simp only [gA, gB, gC] <;> rfl)
      · intro γ u Wm W hcurM hd hX; have hcur := bx_fresh hX hcurM
        obtain ⟨⟨h7, -, -⟩, ⟨h8, -, -⟩, -⟩ := hd
        dsimp only at h7 h8
        (try simp only [h7, h8])
        refine ⟨rfl, ?_⟩
        go_simp <;> (try go_bits) <;> with_reducible rfl
      · exact fun _ _ _ => rfl
      dsimp only [nA, cA]
      apply RGW.onL (i := 10) rfl
      · (simp only [gA, gB, gC] <;> rfl)
      · intro γ u Wm W hcurM hd hX; have hcur := bx_fresh hX hcurM
        obtain ⟨⟨h9, -, -⟩, -⟩ := hd
        dsimp only at h9
        (try simp only [h9])
        refine ⟨rfl, ?_⟩
        go_simp <;> (try go_bits) <;> with_reducible rfl
      · exact fun _ _ _ => rfl
      dsimp only [nA, cA]
      apply RGW.onL (i := 11) rfl
      · (simp only [gA, gB, gC] <;> rfl)
      · intro γ u Wm W hcurM hd hX; have hcur := bx_fresh hX hcurM
        obtain ⟨⟨h10, -, -⟩, -⟩ := hd
        dsimp only at h10
        (try simp only [h10])
        refine ⟨rfl, ?_⟩
        go_simp <;> (try go_bits) <;> with_reducible rfl
      · exact fun _ _ _ => rfl
      dsimp only [nA, cA]
      apply RGW.onL (i := 12) rfl
      · (simp only [gA, gB, gC] <;> rfl)
      · intro γ u Wm W hcurM hd hX; have hcur := bx_fresh hX hcurM
        obtain ⟨⟨h11, -, -⟩, -⟩ := hd
        dsimp only at h11
        (try simp only [h11])
        refine ⟨rfl, ?_⟩
        go_simp <;> (try go_bits) <;> with_reducible rfl
      · exact fun _ _ _ => rfl
      dsimp only [nA, cA]
      apply RGW.onL (i := 13) rfl
      · (simp only [gA, gB, gC] <;> rfl)
      · intro γ u Wm W hcurM hd hX; have hcur := bx_fresh hX hcurM
        obtain ⟨⟨h6, -, -⟩, ⟨h12, -, -⟩, -⟩ := hd
        dsimp only at h6 h12
        (try simp only [h6, h12])
        refine ⟨rfl, ?_⟩
        go_simp <;> (try go_bits) <;> with_reducible rfl
      · exact fun _ _ _ => rfl
      dsimp only [nA, cA]
      apply RGW.alloc (i := 14) rfl
      · (simp only [gA, gB, gC] <;> rfl)
      · intro γ u W hcur hd
        clear hd
        (try dsimp only)
        refine ⟨rfl, fun K hK => ?_⟩
        go_simp
        exact hK.out _ _ rfl rfl
      · exact fun _ _ _ => rfl
      · rfl
      · rfl
      dsimp only [nA, cA]
      apply RGW.alloc (i := 15) rfl
      · (simp only [gA, gB, gC] <;> rfl)
      · intro γ u W hcur hd
        clear hd
        (try dsimp only)
        refine ⟨rfl, fun K hK => ?_⟩
        go_simp
        exact hK.out _ _ rfl rfl
      · exact fun _ _ _ => rfl
      · rfl
      · rfl
      dsimp only [nA, cA]
      refine RGW.skip (i := 16) rfl rfl ?_
      dsimp only [nA, cA]
      refine RGW.skip (i := 17) rfl rfl ?_
      dsimp only [nA, cA]
      refine RGW.fin (fun γ u wj hwj hd hdis => ?_)
      obtain ⟨⟨h0, -, -⟩, ⟨h1, -, -⟩, ⟨h2, -, -⟩, ⟨h3, -, -⟩, ⟨h4, -, -⟩, ⟨h5, -, -⟩, ⟨h6, -, -⟩, ⟨h7, -, -⟩, ⟨h8, -, -⟩, ⟨h9, -, -⟩, ⟨h10, -, -⟩, ⟨h11, -, -⟩, ⟨h12, -, -⟩, ⟨h13, -, -⟩, ⟨h14, r14, b14⟩, ⟨h15, r15, b15⟩, -⟩ := hd
      dsimp only at h0 h1 h2 h3 h4 h5 h6 h7 h8 h9 h10 h11 h12 h13 h14 h15 r14 r15 b14 b15
      have n14_15 := hdis 14 15 rfl rfl (Nat.lt_of_lt_of_eq (by decide : 14 < 18) (by kernel_rfl)) (Nat.lt_of_lt_of_eq (by decide : 15 < 18) (by kernel_rfl)) (by decide) _ (List.mem_singleton.2 rfl) _ (List.mem_singleton.2 rfl)
      clear hdis
      simp only [h0, h1, h2, h3, h4, h5, h6, h7, h8, h9, h10, h11, h12, h13, h14, h15]
      clear h15 h14 h13 h12 h11 h10 h9 h8 h7 h6 h5 h4 h3 h2 h1 h0
      replace b14 := b14 _ (List.mem_singleton.2 rfl)
      generalize hγ14 : (γ 14).n = g14 at *
      clear hγ14
      replace b15 := b15 _ (List.mem_singleton.2 rfl)
      generalize hγ15 : (γ 15).n = g15 at *
      clear hγ15
      clear u
      simp only [List.map_cons, List.map_nil]
      rw [frX_eq (L := [g14, g15]) (by intro x hx; simp at hx; omega)]
      apply PlanW.step
      · (simp only [gA, gB, gC] <;> rfl)
      · rfl
      intro K hK
      refine wp_store_keep (X := [g14, g15]) (w0 := wj) rfl rfl rfl (by with_reducible first | exact bx_refl _ _ | assumption) (by with_reducible first | assumption | (apply Blk.below (hb := hwj); assumption)) (by simp) (by kernel_rfl) (by rfl) (by simp [Value.oneCell']) (fun hres1 hcur => ?_)
      refine hK.out _ _ hcur (fun _ => ?_)
      clear hK K
      try simp only [Act.put, List.setIfInBounds_toArray, List.set_cons_zero, List.set_cons_succ]
      apply PlanW.step
      · (simp only [gA, gB, gC] <;> rfl)
      · rfl
      intro K hK
      refine wp_store_keep (X := [g14, g15]) (w0 := wj) rfl rfl rfl (by with_reducible first | exact bx_refl _ _ | assumption) (by with_reducible first | assumption | (apply Blk.below (hb := hwj); assumption)) (by simp) (by kernel_rfl) (by rfl) (by simp [Value.oneCell']) (fun hres2 hcur => ?_)
      refine hK.out _ _ hcur (fun _ => ?_)
      clear hK K
      try simp only [Act.put, List.setIfInBounds_toArray, List.set_cons_zero, List.set_cons_succ]
      refine PlanW.done ?_
      have hb3 := bl_tt hwj
      apply absTB4 (w0 := wr) (g0 := w.heap.size) (g1 := w.heap.size + 1) (g2 := g14) (g3 := g15)
      iterate 5 (focus ((with_reducible (repeat' (first | assumption | apply jA | apply jB | apply jC | apply jD | apply jE | apply jF | apply hb3 | apply jG | apply jH | apply jI | apply jJ | apply jK | apply hb3x | (apply jL; first | (simp; done) | rfl) | apply jM | apply jN | apply jO | apply jP | apply jQ | apply jR | apply jS | apply jT (hb := hb3 _ (jA _)) | omega | (simp; done) | (simp; omega) | (dsimp only; omega)))); done))
      intro wk hb0' k0' k1' k8' k9'
      (try simp only [List.setIfInBounds_toArray, List.set_cons_zero, List.set_cons_succ] at k0' k1' k8' k9')
      try clear hb3
      try clear Lk0
      try clear Fk0
      try clear Qk0
      try clear Lk1
      try clear Fk1
      try clear Qk1
      try clear hb0
      try clear k0
      try clear k1
      try clear k8
      try clear k9
      have hb0 := hb0'; clear hb0'
      have k0 := k0'; clear k0'
      have k1 := k1'; clear k1'
      have k8 := k8'; clear k8'
      have k9 := k9'; clear k9'
      have Lk0 := k0.later
      have Fk0 := k0.laterF
      have Qk0 := k0.lt
      have Lk1 := k1.later
      have Fk1 := k1.laterF
      have Qk1 := k1.lt
      have Lk8 := k8.later
      have Fk8 := k8.laterF
      have Qk8 := k8.lt
      have Lk9 := k9.later
      have Fk9 := k9.laterF
      have Qk9 := k9.lt
      have e0 := later (c0 _ hb0)
      rcases Hk.out x hm with hkd | hkd
      · have hkd' : (x.kind == 0) = true := by simp [hkd]
        have hne : ¬ x.kind = 1 := by omega
        obtain ⟨k', xb, hki, hxb, hxp⟩ := hro.out.bc hne
        have hM : Hid (measS bs a x = (squaresS a xb.pl, ⟨x.v.lo * x.v.lo, x.v.hi * x.v.hi⟩)) := by
          refine Lib.hid ?_
          rw [measS, if_neg hne]
          simp [bcAt, hki, hxb]
        rw [hM.out] at hfk
        replace hki := Lib.hid hki
        have hkb : k' < nb := by rw [← Hb.out]; exact (List.getElem?_eq_some_iff.1 hxb).1
        obtain ⟨bb, ob, hA, hcb⟩ := Hs.out k' xb hxb
        have hsq := Lib.hid fun W : World => r_Squares xb.pl a W hxp Ha.out
        generalize squaresS a xb.pl = sq at *
        obtain ⟨ml, mh⟩ := sq
        obtain ⟨pl, hpl⟩ : ∃ p, x.v.lo * x.v.lo = p := ⟨_, rfl⟩
        obtain ⟨ph, hph⟩ : ∃ p, x.v.hi * x.v.hi = p := ⟨_, rfl⟩
        rw [hpl, hph] at hfk
        replace hkd := Lib.hid hkd
        go_upto_region 8 with fail
        apply absB4 (w0 := wr) (g0 := w.heap.size) (g1 := w.heap.size + 1) (g2 := g14) (g3 := g15)
        iterate 5 (focus ((with_reducible (repeat' (first | assumption | apply jA | apply jB | apply jC | apply jD | apply jE | apply jF | apply hb3 | apply jG | apply jH | apply jI | apply jJ | apply jK | apply hb3x | (apply jL; first | (simp; done) | rfl) | apply jM | apply jN | apply jO | apply jP | apply jQ | apply jR | apply jS | apply jT (hb := hb3 _ (jA _)) | omega | (simp; done) | (simp; omega) | (dsimp only; omega)))); done))
        intro wl hb0' k0' k1' k8' k9'
        (try simp only [List.setIfInBounds_toArray, List.set_cons_zero, List.set_cons_succ] at k0' k1' k8' k9')
        try clear hb3
        try clear Lk0
        try clear Fk0
        try clear Qk0
        try clear Lk1
        try clear Fk1
        try clear Qk1
        try clear Lk8
        try clear Fk8
        try clear Qk8
        try clear Lk9
        try clear Fk9
        try clear Qk9
        try clear hb0
        try clear k0
        try clear k1
        try clear k8
        try clear k9
        have hb0 := hb0'; clear hb0'
        have k0 := k0'; clear k0'
        have k1 := k1'; clear k1'
        have k8 := k8'; clear k8'
        have k9 := k9'; clear k9'
        have Lk0 := k0.later
        have Fk0 := k0.laterF
        have Qk0 := k0.lt
        have Lk1 := k1.later
        have Fk1 := k1.laterF
        have Qk1 := k1.lt
        have Lk8 := k8.later
        have Fk8 := k8.laterF
        have Qk8 := k8.lt
        have Lk9 := k9.later
        have Fk9 := k9.laterF
        have Qk9 := k9.lt
        have e1 : ∀ W, Below wl.heap.size wl W → W.cell? ⟨b, off + k * 4 + 1, none⟩ = some (.int .i64 (k' : Int)) := by rw [← hki.out]; exact later (c1 _ hb0)
        have d1 : ∀ W, Below wl.heap.size wl W → W.cell? ⟨bb, ob + k' * 4 + 1, none⟩ = some (.int .i64 xb.pl.x) := later (kcell (bl_tr hwr hb0) (hcb 1 _ rfl))
        have d2 : ∀ W, Below wl.heap.size wl W → W.cell? ⟨bb, ob + k' * 4 + 2, none⟩ = some (.int .i64 xb.pl.y) := later (kcell (bl_tr hwr hb0) (hcb 2 _ rfl))
        have d3 : ∀ W, Below wl.heap.size wl W → W.cell? ⟨bb, ob + k' * 4 + 3, none⟩ = some (.int .i64 xb.pl.z) := later (kcell (bl_tr hwr hb0) (hcb 3 _ rfl))
        clear hcb e0
        subst hA
        refine wp_any (w0 := wl) ⟨[12], [], [some 48, some 49, some 50, some 51, some 52, some 53, some 54, some 55, some 56, some 57, some 58, some 59, none], [[], [0], [], [], [2, 3], [2, 3, 4], [2, 3, 4, 5], [0, 1, 2, 3, 4, 5, 6], [0, 1, 2, 3, 4, 5, 6, 7], [0, 1, 2, 3, 4, 5, 6, 7, 8], [], [0, 1, 2, 3, 4, 5, 6, 7, 8, 9, 10], [0, 1, 2, 3, 4, 5, 6, 7, 8, 9, 10, 11]], [[], [0], [], [], [2, 3], [4], [5], [1, 6], [7], [8], [], [9, 10], []]⟩ (fun _ => [g15]) (by kernel_rfl) (by kernel_rfl) (by (with_reducible (repeat' (first | assumption | apply jA | apply jB | apply jC | apply jD | apply jE | apply jF | apply hb3 | omega | (simp; done) | (simp; omega) | (dsimp only; omega))))) (fun u => by simp only [putD, Act.put, List.setIfInBounds_toArray, List.set_cons_zero, List.set_cons_succ, Nat.zero_add, Nat.reduceAdd]; rfl) ?_
        apply RGW.on (i := 0) rfl
        · (simp only [gA, gB, gC] <;> rfl)
        · intro γ u W hcur hd
          clear hd
          (try dsimp only)
          refine ⟨rfl, ?_⟩
          go_simp <;> (try go_bits) <;> with_reducible rfl
        · exact fun _ _ _ => rfl
        · rfl
        dsimp only [nA, cA]
        apply RGW.on (i := 1) rfl
        · (simp only [gA, gB, gC] <;> rfl)
        · intro γ u W hcur hd
          obtain ⟨⟨h0, -, -⟩, -⟩ := hd
          dsimp only at h0
          (try simp only [h0])
          refine ⟨rfl, ?_⟩
          go_simp <;> (try go_bits) <;> with_reducible rfl
        · exact fun _ _ _ => rfl
        · rfl
        dsimp only [nA, cA]
        apply RGW.on (i := 2) rfl
        · (simp only [gA, gB, gC] <;> rfl)
        · intro γ u W hcur hd
          clear hd
          (try dsimp only)
          refine ⟨rfl, ?_⟩
          go_simp <;> (try go_bits) <;> with_reducible rfl
        · exact fun _ _ _ => rfl
        · rfl
        dsimp only [nA, cA]
        apply RGW.on (i := 3) rfl
        · (simp only [gA, gB, gC] <;> rfl)
        · intro γ u W hcur hd
          clear hd
          (try dsimp only)
          refine ⟨rfl, ?_⟩
          go_simp <;> (try go_bits) <;> with_reducible rfl
        · exact fun _ _ _ => rfl
        · rfl
        dsimp only [nA, cA]
        apply RGW.on (i := 4) rfl
        · (simp only [gA, gB, gC] <;> rfl)
        · intro γ u W hcur hd
          obtain ⟨⟨h2, -, -⟩, ⟨h3, -, -⟩, -⟩ := hd
          dsimp only at h2 h3
          (try simp only [h2, h3])
          refine ⟨rfl, ?_⟩
          go_simp <;> (try go_bits) <;> with_reducible rfl
        · exact fun _ _ _ => rfl
        · rfl
        dsimp only [nA, cA]
        apply RGW.on (i := 5) rfl
        · (simp only [gA, gB, gC] <;> rfl)
        · intro γ u W hcur hd
          obtain ⟨⟨h4, -, -⟩, -⟩ := hd
          dsimp only at h4
          (try simp only [h4])
          refine ⟨rfl, ?_⟩
          go_simp <;> (try go_bits) <;> with_reducible rfl
        · exact fun _ _ _ => rfl
        · rfl
        dsimp only [nA, cA]
        apply RGW.on (i := 6) rfl
        · (simp only [gA, gB, gC] <;> rfl)
        · intro γ u W hcur hd
          obtain ⟨⟨h5, -, -⟩, -⟩ := hd
          dsimp only at h5
          (try simp only [h5])
          refine ⟨rfl, ?_⟩
          go_simp <;> (try go_bits) <;> with_reducible rfl
        · exact fun _ _ _ => rfl
        · rfl
        dsimp only [nA, cA]
        apply RGW.on (i := 7) rfl
        · (simp only [gA, gB, gC] <;> rfl)
        · intro γ u W hcur hd
          obtain ⟨⟨h1, -, -⟩, ⟨h6, -, -⟩, -⟩ := hd
          dsimp only at h1 h6
          (try simp only [h1, h6])
          refine ⟨rfl, ?_⟩
          go_simp <;> (try go_bits) <;> with_reducible rfl
        · exact fun _ _ _ => rfl
        · rfl
        dsimp only [nA, cA]
        apply RGW.on (i := 8) rfl
        · (simp only [gA, gB, gC] <;> rfl)
        · intro γ u W hcur hd
          obtain ⟨⟨h7, -, -⟩, -⟩ := hd
          dsimp only at h7
          (try simp only [h7])
          refine ⟨rfl, ?_⟩
          go_simp <;> (try go_bits) <;> with_reducible rfl
        · exact fun _ _ _ => rfl
        · rfl
        dsimp only [nA, cA]
        apply RGW.on (i := 9) rfl
        · (simp only [gA, gB, gC] <;> rfl)
        · intro γ u W hcur hd
          obtain ⟨⟨h8, -, -⟩, -⟩ := hd
          dsimp only at h8
          (try simp only [h8])
          refine ⟨rfl, ?_⟩
          go_simp <;> (try go_bits) <;> with_reducible rfl
        · exact fun _ _ _ => rfl
        · rfl
        dsimp only [nA, cA]
        apply RGW.on (i := 10) rfl
        · (simp only [gA, gB, gC] <;> rfl)
        · intro γ u W hcur hd
          clear hd
          (try dsimp only)
          refine ⟨rfl, ?_⟩
          go_simp <;> (try go_bits) <;> with_reducible rfl
        · exact fun _ _ _ => rfl
        · rfl
        dsimp only [nA, cA]
        apply RGW.call (i := 11) rfl
        · (simp only [gA, gB, gC] <;> rfl)
        · intro γ u W hcur hd
          obtain ⟨⟨h9, -, -⟩, ⟨h10, -, -⟩, -⟩ := hd
          dsimp only at h9 h10
          (try simp only [h9, h10])
          refine ⟨rfl, fun K hK => ?_⟩
          go_simp
          (go_at_call 48; (with_reducible refine (hsq.out _).mono ?_); rintro e w3 ⟨rfl, hb3⟩; replace hb3 := bl_tt hb3)
          (try dsimp only)
          exact hK.out _ _ rfl (by (with_reducible (repeat' (first | assumption | apply jA | apply jB | apply jC | apply jD | apply jE | apply jF | apply hb3 | omega | (simp; done) | (simp; omega) | (dsimp only; omega)))))
        · exact fun _ _ _ => rfl
        · rfl
        dsimp only [nA, cA]
        refine RGW.skip (i := 12) rfl rfl ?_
        dsimp only [nA, cA]
        refine RGW.fin (fun γ u wm hwm hd hdis => ?_)
        obtain ⟨⟨h0, -, -⟩, ⟨h1, -, -⟩, ⟨h2, -, -⟩, ⟨h3, -, -⟩, ⟨h4, -, -⟩, ⟨h5, -, -⟩, ⟨h6, -, -⟩, ⟨h7, -, -⟩, ⟨h8, -, -⟩, ⟨h9, -, -⟩, ⟨h10, -, -⟩, ⟨h11, -, -⟩, -⟩ := hd
        dsimp only at h0 h1 h2 h3 h4 h5 h6 h7 h8 h9 h10 h11
        clear hdis
        simp only [h0, h1, h2, h3, h4, h5, h6, h7, h8, h9, h10, h11]
        clear h11 h10 h9 h8 h7 h6 h5 h4 h3 h2 h1 h0
        clear u
        simp only [List.map_cons, List.map_nil]
        apply PlanW.step
        · (simp only [gA, gB, gC] <;> rfl)
        · rfl
        intro K hK
        refine wp_store_keep (X := [g15]) (w0 := wm) rfl rfl rfl (by with_reducible first | exact bx_refl _ _ | assumption) (by with_reducible first | assumption | (apply Blk.below (hb := hwm); assumption)) (by simp) (by kernel_rfl) (by rfl) (by simp [Value.oneCell']) (fun hres1 hcur => ?_)
        refine hK.out _ _ hcur (fun _ => ?_)
        clear hK K
        try simp only [Act.put, List.setIfInBounds_toArray, List.set_cons_zero, List.set_cons_succ]
        refine PlanW.done ?_
        have hb3 := bl_tt hwm
        apply absTB4 (w0 := wr) (g0 := w.heap.size) (g1 := w.heap.size + 1) (g2 := g14) (g3 := g15)
        iterate 5 (focus ((with_reducible (repeat' (first | assumption | apply jA | apply jB | apply jC | apply jD | apply jE | apply jF | apply hb3 | apply jG | apply jH | apply jI | apply jJ | apply jK | apply hb3x | (apply jL; first | (simp; done) | rfl) | apply jM | apply jN | apply jO | apply jP | apply jQ | apply jR | apply jS | apply jT (hb := hb3 _ (jA _)) | omega | (simp; done) | (simp; omega) | (dsimp only; omega)))); done))
        intro wx hb0' k0' k1' k8' k9'
        (try simp only [List.setIfInBounds_toArray, List.set_cons_zero, List.set_cons_succ] at k0' k1' k8' k9')
        try clear hb3
        try clear Lk0
        try clear Fk0
        try clear Qk0
        try clear Lk1
        try clear Fk1
        try clear Qk1
        try clear Lk8
        try clear Fk8
        try clear Qk8
        try clear Lk9
        try clear Fk9
        try clear Qk9
        try clear hb0
        try clear k0
        try clear k1
        try clear k8
        try clear k9
        have hb0 := hb0'; clear hb0'
        have k0 := k0'; clear k0'
        have k1 := k1'; clear k1'
        have k8 := k8'; clear k8'
        have k9 := k9'; clear k9'
        have Lk0 := k0.later
        have Fk0 := k0.laterF
        have Qk0 := k0.lt
        have Lk1 := k1.later
        have Fk1 := k1.laterF
        have Qk1 := k1.lt
        have Lk8 := k8.later
        have Fk8 := k8.laterF
        have Qk8 := k8.lt
        have Lk9 := k9.later
        have Fk9 := k9.laterF
        have Qk9 := k9.lt
        have hown := Lib.hid (own_below hown.out hb0)
        have hbx := bl_tr hb hb0
        have hszx := hbx.size
        clear c0 c1 c2 c3 d1 d2 d3 e1
        try clear hidx
        try clear hsd
        try clear Hr
        try clear Hk
        try clear Ha
        try clear Hs
        try clear Hl
        try clear hro
        try clear hsq
        try clear hi0x
        try clear s1
        try clear s2
        try clear s3
        try clear s4
        try clear v1
        try clear v2
        try clear v3
        try clear v4
        try clear hpl
        try clear hph
        try clear hki
        try clear hxb
        try clear hxp
        try clear hkb
        try clear hM
        try clear hwj
        try clear r14
        try clear r15
        try clear b14
        try clear b15
        try clear n14_15
        obtain ⟨b1, q1⟩ : ∃ b, decide (pl ≤ ml) = b := ⟨_, rfl⟩
        obtain ⟨b2, q2⟩ : ∃ b, decide (mh ≤ ph) = b := ⟨_, rfl⟩
        obtain ⟨b3, q3⟩ : ∃ b, decide (mh < pl) = b := ⟨_, rfl⟩
        obtain ⟨b4, q4⟩ : ∃ b, decide (ph < ml) = b := ⟨_, rfl⟩
        cases b1
        · cases b3
          · cases b4
            · have hv : Hid (ans (⟨ml, mh⟩, ⟨pl, ph⟩) = 1) := by refine Lib.hid ?_; rw [ans_eq]; simp only [q1, q3, q4] <;> rfl
              go_wp2_with (at_builtin; refine wpList_append_own _ rfl _ _ 79 rfl wa.heap.size 3 i0 (.int .i64 0) 1 8 Try.underlying79 hi0 hz0 hz1 hz2 rfl (by decide) _ _ _ rfl (hown.out.alloc _) ⟨wx.heap.size, 0, none⟩ 1 1 [.int .i64 1] rfl rfl (by intro j u hj; match j, hj with | 0, hj => simp at hj; subst hj; simp [Addr.add]) (by intro u hu; simp at hu; subst hu; rfl) (by unfold maxLen; omega) (by omega) (by simp; omega) ?_)
              intro v' w1 hown2 hgrow _
              have hb1 : Below wa.heap.size wa w1 := (bl_al _ hbx).grown hgrow (by simp; omega) (own_ge hown.out)
              clear hgrow hown
              replace hown2 := Lib.hid hown2
              go_wp2
              go_roundw
              case rel => exact ⟨k + 1, by omega, by go_num, hb1, by rw [ansTo_succ, hfk.out, hv.out]; simpa [ansTo] using hown2.out⟩
              case measure => simp [intOf]; omega
            · have hv : Hid (ans (⟨ml, mh⟩, ⟨pl, ph⟩) = 0) := by refine Lib.hid ?_; rw [ans_eq]; simp only [q1, q3, q4] <;> rfl
              go_wp2_with (at_builtin; refine wpList_append_own _ rfl _ _ 79 rfl wa.heap.size 3 i0 (.int .i64 0) 1 8 Try.underlying79 hi0 hz0 hz1 hz2 rfl (by decide) _ _ _ rfl (hown.out.alloc _) ⟨wx.heap.size, 0, none⟩ 1 1 [.int .i64 0] rfl rfl (by intro j u hj; match j, hj with | 0, hj => simp at hj; subst hj; simp [Addr.add]) (by intro u hu; simp at hu; subst hu; rfl) (by unfold maxLen; omega) (by omega) (by simp; omega) ?_)
              intro v' w1 hown2 hgrow _
              have hb1 : Below wa.heap.size wa w1 := (bl_al _ hbx).grown hgrow (by simp; omega) (own_ge hown.out)
              clear hgrow hown
              replace hown2 := Lib.hid hown2
              go_wp2
              go_roundw
              case rel => exact ⟨k + 1, by omega, by go_num, hb1, by rw [ansTo_succ, hfk.out, hv.out]; simpa [ansTo] using hown2.out⟩
              case measure => simp [intOf]; omega
          · have hv : Hid (ans (⟨ml, mh⟩, ⟨pl, ph⟩) = 0) := by refine Lib.hid ?_; rw [ans_eq]; simp only [q1, q3] <;> rfl
            go_wp2_with (at_builtin; refine wpList_append_own _ rfl _ _ 79 rfl wa.heap.size 3 i0 (.int .i64 0) 1 8 Try.underlying79 hi0 hz0 hz1 hz2 rfl (by decide) _ _ _ rfl (hown.out.alloc _) ⟨wx.heap.size, 0, none⟩ 1 1 [.int .i64 0] rfl rfl (by intro j u hj; match j, hj with | 0, hj => simp at hj; subst hj; simp [Addr.add]) (by intro u hu; simp at hu; subst hu; rfl) (by unfold maxLen; omega) (by omega) (by simp; omega) ?_)
            intro v' w1 hown2 hgrow _
            have hb1 : Below wa.heap.size wa w1 := (bl_al _ hbx).grown hgrow (by simp; omega) (own_ge hown.out)
            clear hgrow hown
            replace hown2 := Lib.hid hown2
            go_wp2
            go_roundw
            case rel => exact ⟨k + 1, by omega, by go_num, hb1, by rw [ansTo_succ, hfk.out, hv.out]; simpa [ansTo] using hown2.out⟩
            case measure => simp [intOf]; omega
        · cases b2
          · cases b3
            · cases b4
              · have hv : Hid (ans (⟨ml, mh⟩, ⟨pl, ph⟩) = 1) := by refine Lib.hid ?_; rw [ans_eq]; simp only [q1, q2, q3, q4] <;> rfl
                go_wp2_with (at_builtin; refine wpList_append_own _ rfl _ _ 79 rfl wa.heap.size 3 i0 (.int .i64 0) 1 8 Try.underlying79 hi0 hz0 hz1 hz2 rfl (by decide) _ _ _ rfl (hown.out.alloc _) ⟨wx.heap.size, 0, none⟩ 1 1 [.int .i64 1] rfl rfl (by intro j u hj; match j, hj with | 0, hj => simp at hj; subst hj; simp [Addr.add]) (by intro u hu; simp at hu; subst hu; rfl) (by unfold maxLen; omega) (by omega) (by simp; omega) ?_)
                intro v' w1 hown2 hgrow _
                have hb1 : Below wa.heap.size wa w1 := (bl_al _ hbx).grown hgrow (by simp; omega) (own_ge hown.out)
                clear hgrow hown
                replace hown2 := Lib.hid hown2
                go_wp2
                go_roundw
                case rel => exact ⟨k + 1, by omega, by go_num, hb1, by rw [ansTo_succ, hfk.out, hv.out]; simpa [ansTo] using hown2.out⟩
                case measure => simp [intOf]; omega
              · have hv : Hid (ans (⟨ml, mh⟩, ⟨pl, ph⟩) = 0) := by refine Lib.hid ?_; rw [ans_eq]; simp only [q1, q2, q3, q4] <;> rfl
                go_wp2_with (at_builtin; refine wpList_append_own _ rfl _ _ 79 rfl wa.heap.size 3 i0 (.int .i64 0) 1 8 Try.underlying79 hi0 hz0 hz1 hz2 rfl (by decide) _ _ _ rfl (hown.out.alloc _) ⟨wx.heap.size, 0, none⟩ 1 1 [.int .i64 0] rfl rfl (by intro j u hj; match j, hj with | 0, hj => simp at hj; subst hj; simp [Addr.add]) (by intro u hu; simp at hu; subst hu; rfl) (by unfold maxLen; omega) (by omega) (by simp; omega) ?_)
                intro v' w1 hown2 hgrow _
                have hb1 : Below wa.heap.size wa w1 := (bl_al _ hbx).grown hgrow (by simp; omega) (own_ge hown.out)
                clear hgrow hown
                replace hown2 := Lib.hid hown2
                go_wp2
                go_roundw
                case rel => exact ⟨k + 1, by omega, by go_num, hb1, by rw [ansTo_succ, hfk.out, hv.out]; simpa [ansTo] using hown2.out⟩
                case measure => simp [intOf]; omega
            · have hv : Hid (ans (⟨ml, mh⟩, ⟨pl, ph⟩) = 0) := by refine Lib.hid ?_; rw [ans_eq]; simp only [q1, q2, q3] <;> rfl
              go_wp2_with (at_builtin; refine wpList_append_own _ rfl _ _ 79 rfl wa.heap.size 3 i0 (.int .i64 0) 1 8 Try.underlying79 hi0 hz0 hz1 hz2 rfl (by decide) _ _ _ rfl (hown.out.alloc _) ⟨wx.heap.size, 0, none⟩ 1 1 [.int .i64 0] rfl rfl (by intro j u hj; match j, hj with | 0, hj => simp at hj; subst hj; simp [Addr.add]) (by intro u hu; simp at hu; subst hu; rfl) (by unfold maxLen; omega) (by omega) (by simp; omega) ?_)
              intro v' w1 hown2 hgrow _
              have hb1 : Below wa.heap.size wa w1 := (bl_al _ hbx).grown hgrow (by simp; omega) (own_ge hown.out)
              clear hgrow hown
              replace hown2 := Lib.hid hown2
              go_wp2
              go_roundw
              case rel => exact ⟨k + 1, by omega, by go_num, hb1, by rw [ansTo_succ, hfk.out, hv.out]; simpa [ansTo] using hown2.out⟩
              case measure => simp [intOf]; omega
          · have hv : Hid (ans (⟨ml, mh⟩, ⟨pl, ph⟩) = 2) := by refine Lib.hid ?_; rw [ans_eq]; simp only [q1, q2] <;> rfl
            go_wp2_with (at_builtin; refine wpList_append_own _ rfl _ _ 79 rfl wa.heap.size 3 i0 (.int .i64 0) 1 8 Try.underlying79 hi0 hz0 hz1 hz2 rfl (by decide) _ _ _ rfl (hown.out.alloc _) ⟨wx.heap.size, 0, none⟩ 1 1 [.int .i64 2] rfl rfl (by intro j u hj; match j, hj with | 0, hj => simp at hj; subst hj; simp [Addr.add]) (by intro u hu; simp at hu; subst hu; rfl) (by unfold maxLen; omega) (by omega) (by simp; omega) ?_)
            intro v' w1 hown2 hgrow _
            have hb1 : Below wa.heap.size wa w1 := (bl_al _ hbx).grown hgrow (by simp; omega) (own_ge hown.out)
            clear hgrow hown
            replace hown2 := Lib.hid hown2
            go_wp2
            go_roundw
            case rel => exact ⟨k + 1, by omega, by go_num, hb1, by rw [ansTo_succ, hfk.out, hv.out]; simpa [ansTo] using hown2.out⟩
            case measure => simp [intOf]; omega
      · have hkd' : (x.kind == 0) = false := by simp [hkd]
        have hM : Hid (measS bs a x = (⟨ml, mh⟩, x.v)) := by
          refine Lib.hid ?_
          rw [measS, if_pos hkd, hsd.out (by have := hro.out.axis hkd; omega)]
        rw [hM.out] at hfk
        generalize hv : x.v = v at *
        obtain ⟨pl, ph⟩ := v
        dsimp only at k8
        replace hkd := Lib.hid hkd
        go_upto_region 10 with fail
        apply absB4 (w0 := wr) (g0 := w.heap.size) (g1 := w.heap.size + 1) (g2 := g14) (g3 := g15)
        iterate 5 (focus ((with_reducible (repeat' (first | assumption | apply jA | apply jB | apply jC | apply jD | apply jE | apply jF | apply hb3 | apply jG | apply jH | apply jI | apply jJ | apply jK | apply hb3x | (apply jL; first | (simp; done) | rfl) | apply jM | apply jN | apply jO | apply jP | apply jQ | apply jR | apply jS | apply jT (hb := hb3 _ (jA _)) | omega | (simp; done) | (simp; omega) | (dsimp only; omega)))); done))
        intro wx hb0' k0' k1' k8' k9'
        (try simp only [List.setIfInBounds_toArray, List.set_cons_zero, List.set_cons_succ] at k0' k1' k8' k9')
        try clear hb3
        try clear Lk0
        try clear Fk0
        try clear Qk0
        try clear Lk1
        try clear Fk1
        try clear Qk1
        try clear Lk8
        try clear Fk8
        try clear Qk8
        try clear Lk9
        try clear Fk9
        try clear Qk9
        try clear hb0
        try clear k0
        try clear k1
        try clear k8
        try clear k9
        have hb0 := hb0'; clear hb0'
        have k0 := k0'; clear k0'
        have k1 := k1'; clear k1'
        have k8 := k8'; clear k8'
        have k9 := k9'; clear k9'
        have Lk0 := k0.later
        have Fk0 := k0.laterF
        have Qk0 := k0.lt
        have Lk1 := k1.later
        have Fk1 := k1.laterF
        have Qk1 := k1.lt
        have Lk8 := k8.later
        have Fk8 := k8.laterF
        have Qk8 := k8.lt
        have Lk9 := k9.later
        have Fk9 := k9.laterF
        have Qk9 := k9.lt
        have hown := Lib.hid (own_below hown.out hb0)
        have hbx := bl_tr hb hb0
        have hszx := hbx.size
        clear c0 c1 c2 c3 e0
        try clear hidx
        try clear hsd
        try clear Hr
        try clear Hk
        try clear Ha
        try clear Hs
        try clear Hl
        try clear hro
        try clear hsq
        try clear hi0x
        try clear s1
        try clear s2
        try clear s3
        try clear s4
        try clear v1
        try clear v2
        try clear v3
        try clear v4
        try clear hpl
        try clear hph
        try clear hki
        try clear hxb
        try clear hxp
        try clear hkb
        try clear hM
        try clear hwj
        try clear r14
        try clear r15
        try clear b14
        try clear b15
        try clear n14_15
        obtain ⟨b1, q1⟩ : ∃ b, decide (pl ≤ ml) = b := ⟨_, rfl⟩
        obtain ⟨b2, q2⟩ : ∃ b, decide (mh ≤ ph) = b := ⟨_, rfl⟩
        obtain ⟨b3, q3⟩ : ∃ b, decide (mh < pl) = b := ⟨_, rfl⟩
        obtain ⟨b4, q4⟩ : ∃ b, decide (ph < ml) = b := ⟨_, rfl⟩
        cases b1
        · cases b3
          · cases b4
            · have hv : Hid (ans (⟨ml, mh⟩, ⟨pl, ph⟩) = 1) := by refine Lib.hid ?_; rw [ans_eq]; simp only [q1, q3, q4] <;> rfl
              go_wp2_with (at_builtin; refine wpList_append_own _ rfl _ _ 79 rfl wa.heap.size 3 i0 (.int .i64 0) 1 8 Try.underlying79 hi0 hz0 hz1 hz2 rfl (by decide) _ _ _ rfl (hown.out.alloc _) ⟨wx.heap.size, 0, none⟩ 1 1 [.int .i64 1] rfl rfl (by intro j u hj; match j, hj with | 0, hj => simp at hj; subst hj; simp [Addr.add]) (by intro u hu; simp at hu; subst hu; rfl) (by unfold maxLen; omega) (by omega) (by simp; omega) ?_)
              intro v' w1 hown2 hgrow _
              have hb1 : Below wa.heap.size wa w1 := (bl_al _ hbx).grown hgrow (by simp; omega) (own_ge hown.out)
              clear hgrow hown
              replace hown2 := Lib.hid hown2
              go_wp2
              go_roundw
              case rel => exact ⟨k + 1, by omega, by go_num, hb1, by rw [ansTo_succ, hfk.out, hv.out]; simpa [ansTo] using hown2.out⟩
              case measure => simp [intOf]; omega
            · have hv : Hid (ans (⟨ml, mh⟩, ⟨pl, ph⟩) = 0) := by refine Lib.hid ?_; rw [ans_eq]; simp only [q1, q3, q4] <;> rfl
              go_wp2_with (at_builtin; refine wpList_append_own _ rfl _ _ 79 rfl wa.heap.size 3 i0 (.int .i64 0) 1 8 Try.underlying79 hi0 hz0 hz1 hz2 rfl (by decide) _ _ _ rfl (hown.out.alloc _) ⟨wx.heap.size, 0, none⟩ 1 1 [.int .i64 0] rfl rfl (by intro j u hj; match j, hj with | 0, hj => simp at hj; subst hj; simp [Addr.add]) (by intro u hu; simp at hu; subst hu; rfl) (by unfold maxLen; omega) (by omega) (by simp; omega) ?_)
              intro v' w1 hown2 hgrow _
              have hb1 : Below wa.heap.size wa w1 := (bl_al _ hbx).grown hgrow (by simp; omega) (own_ge hown.out)
              clear hgrow hown
              replace hown2 := Lib.hid hown2
              go_wp2
              go_roundw
              case rel => exact ⟨k + 1, by omega, by go_num, hb1, by rw [ansTo_succ, hfk.out, hv.out]; simpa [ansTo] using hown2.out⟩
              case measure => simp [intOf]; omega
          · have hv : Hid (ans (⟨ml, mh⟩, ⟨pl, ph⟩) = 0) := by refine Lib.hid ?_; rw [ans_eq]; simp only [q1, q3] <;> rfl
            go_wp2_with (at_builtin; refine wpList_append_own _ rfl _ _ 79 rfl wa.heap.size 3 i0 (.int .i64 0) 1 8 Try.underlying79 hi0 hz0 hz1 hz2 rfl (by decide) _ _ _ rfl (hown.out.alloc _) ⟨wx.heap.size, 0, none⟩ 1 1 [.int .i64 0] rfl rfl (by intro j u hj; match j, hj with | 0, hj => simp at hj; subst hj; simp [Addr.add]) (by intro u hu; simp at hu; subst hu; rfl) (by unfold maxLen; omega) (by omega) (by simp; omega) ?_)
            intro v' w1 hown2 hgrow _
            have hb1 : Below wa.heap.size wa w1 := (bl_al _ hbx).grown hgrow (by simp; omega) (own_ge hown.out)
            clear hgrow hown
            replace hown2 := Lib.hid hown2
            go_wp2
            go_roundw
            case rel => exact ⟨k + 1, by omega, by go_num, hb1, by rw [ansTo_succ, hfk.out, hv.out]; simpa [ansTo] using hown2.out⟩
            case measure => simp [intOf]; omega
        · cases b2
          · cases b3
            · cases b4
              · have hv : Hid (ans (⟨ml, mh⟩, ⟨pl, ph⟩) = 1) := by refine Lib.hid ?_; rw [ans_eq]; simp only [q1, q2, q3, q4] <;> rfl
                go_wp2_with (at_builtin; refine wpList_append_own _ rfl _ _ 79 rfl wa.heap.size 3 i0 (.int .i64 0) 1 8 Try.underlying79 hi0 hz0 hz1 hz2 rfl (by decide) _ _ _ rfl (hown.out.alloc _) ⟨wx.heap.size, 0, none⟩ 1 1 [.int .i64 1] rfl rfl (by intro j u hj; match j, hj with | 0, hj => simp at hj; subst hj; simp [Addr.add]) (by intro u hu; simp at hu; subst hu; rfl) (by unfold maxLen; omega) (by omega) (by simp; omega) ?_)
                intro v' w1 hown2 hgrow _
                have hb1 : Below wa.heap.size wa w1 := (bl_al _ hbx).grown hgrow (by simp; omega) (own_ge hown.out)
                clear hgrow hown
                replace hown2 := Lib.hid hown2
                go_wp2
                go_roundw
                case rel => exact ⟨k + 1, by omega, by go_num, hb1, by rw [ansTo_succ, hfk.out, hv.out]; simpa [ansTo] using hown2.out⟩
                case measure => simp [intOf]; omega
              · have hv : Hid (ans (⟨ml, mh⟩, ⟨pl, ph⟩) = 0) := by refine Lib.hid ?_; rw [ans_eq]; simp only [q1, q2, q3, q4] <;> rfl
                go_wp2_with (at_builtin; refine wpList_append_own _ rfl _ _ 79 rfl wa.heap.size 3 i0 (.int .i64 0) 1 8 Try.underlying79 hi0 hz0 hz1 hz2 rfl (by decide) _ _ _ rfl (hown.out.alloc _) ⟨wx.heap.size, 0, none⟩ 1 1 [.int .i64 0] rfl rfl (by intro j u hj; match j, hj with | 0, hj => simp at hj; subst hj; simp [Addr.add]) (by intro u hu; simp at hu; subst hu; rfl) (by unfold maxLen; omega) (by omega) (by simp; omega) ?_)
                intro v' w1 hown2 hgrow _
                have hb1 : Below wa.heap.size wa w1 := (bl_al _ hbx).grown hgrow (by simp; omega) (own_ge hown.out)
                clear hgrow hown
                replace hown2 := Lib.hid hown2
                go_wp2
                go_roundw
                case rel => exact ⟨k + 1, by omega, by go_num, hb1, by rw [ansTo_succ, hfk.out, hv.out]; simpa [ansTo] using hown2.out⟩
                case measure => simp [intOf]; omega
            · have hv : Hid (ans (⟨ml, mh⟩, ⟨pl, ph⟩) = 0) := by refine Lib.hid ?_; rw [ans_eq]; simp only [q1, q2, q3] <;> rfl
              go_wp2_with (at_builtin; refine wpList_append_own _ rfl _ _ 79 rfl wa.heap.size 3 i0 (.int .i64 0) 1 8 Try.underlying79 hi0 hz0 hz1 hz2 rfl (by decide) _ _ _ rfl (hown.out.alloc _) ⟨wx.heap.size, 0, none⟩ 1 1 [.int .i64 0] rfl rfl (by intro j u hj; match j, hj with | 0, hj => simp at hj; subst hj; simp [Addr.add]) (by intro u hu; simp at hu; subst hu; rfl) (by unfold maxLen; omega) (by omega) (by simp; omega) ?_)
              intro v' w1 hown2 hgrow _
              have hb1 : Below wa.heap.size wa w1 := (bl_al _ hbx).grown hgrow (by simp; omega) (own_ge hown.out)
              clear hgrow hown
              replace hown2 := Lib.hid hown2
              go_wp2
              go_roundw
              case rel => exact ⟨k + 1, by omega, by go_num, hb1, by rw [ansTo_succ, hfk.out, hv.out]; simpa [ansTo] using hown2.out⟩
              case measure => simp [intOf]; omega
          · have hv : Hid (ans (⟨ml, mh⟩, ⟨pl, ph⟩) = 2) := by refine Lib.hid ?_; rw [ans_eq]; simp only [q1, q2] <;> rfl
            go_wp2_with (at_builtin; refine wpList_append_own _ rfl _ _ 79 rfl wa.heap.size 3 i0 (.int .i64 0) 1 8 Try.underlying79 hi0 hz0 hz1 hz2 rfl (by decide) _ _ _ rfl (hown.out.alloc _) ⟨wx.heap.size, 0, none⟩ 1 1 [.int .i64 2] rfl rfl (by intro j u hj; match j, hj with | 0, hj => simp at hj; subst hj; simp [Addr.add]) (by intro u hu; simp at hu; subst hu; rfl) (by unfold maxLen; omega) (by omega) (by simp; omega) ?_)
            intro v' w1 hown2 hgrow _
            have hb1 : Below wa.heap.size wa w1 := (bl_al _ hbx).grown hgrow (by simp; omega) (own_ge hown.out)
            clear hgrow hown
            replace hown2 := Lib.hid hown2
            go_wp2
            go_roundw
            case rel => exact ⟨k + 1, by omega, by go_num, hb1, by rw [ansTo_succ, hfk.out, hv.out]; simpa [ansTo] using hown2.out⟩
            case measure => simp [intOf]; omega
    · go_wp2
      go_ret
      have : k = n := by omega
      subst this
      exact RetI.of (bl_tr hb0 hb) (own_mono hb0.size (by rw [ansTo_len]; exact hown))
end Go.Proofs.Ytephimmamkafoaa
namespace Go.Proofs.Ytephimmamkafoaa
set_option linter.unusedSimpArgs false
set_option linter.unusedVariables false
open Go.RowKit Go.Shelf
attribute [local go_sem] bl_al bl_drew bl_drewN bl_refl
set_option maxRecDepth 20000
set_option maxHeartbeats 2000000 in
theorem r_IsName (s : ByteArray) (w : World) (hs : s.size ≤ maxLen) :
    Calls Try.prog 76 #[.string s] w (Ret (.bool (nameB s)) w) := by
  unfold maxLen at hs
  obtain ⟨l, Hl⟩ : ∃ l, Hid (s.data.toList = l) := ⟨_, rfl⟩
  obtain ⟨n, Hn⟩ : ∃ n, Hid (s.size = n) := ⟨_, rfl⟩
  have Hln : Hid (l.length = n) := by rw [← Hl.out, ← Hn.out]; exact (by simp : s.data.toList.length = s.size)
  have hR : Hid (nameB s = (nameFrom 0 l && inR n 1 12)) := by unfold nameB; rw [Hl.out, Hn.out]; rfl
  rw [Hn.out] at hs
  have hsz : s.size = n := Hn.out
  by_cases hlow : n < 1
  · have e : Hid (nameB s = false) := by rw [hR.out]; refine Lib.hid ?_; have : inR n 1 12 = false := by simp [inR]; intro; omega
                                         rw [this, Bool.and_false]
    have hb1 : decide ((n : Int) < 1) = true := by simp; omega
    go_enter Try.func76, Try.ntmps76
    go_wp2
    go_ret
    exact ⟨by rw [e.out] <;> rfl, bl_refl _⟩
  have hb1 : decide ((n : Int) < 1) = false := by simp; omega
  by_cases hhi : 12 < n
  · have e : Hid (nameB s = false) := by rw [hR.out]; refine Lib.hid ?_; have : inR n 1 12 = false := by simp [inR]; intro; omega
                                         rw [this, Bool.and_false]
    have hb2 : decide ((12 : Int) < n) = true := by simp; omega
    go_enter Try.func76, Try.ntmps76
    go_wp2
    go_ret
    exact ⟨by rw [e.out] <;> rfl, bl_refl _⟩
  have hb2 : decide ((12 : Int) < n) = false := by simp; omega
  replace hR : Hid (nameB s = nameFrom 0 l) := by rw [hR.out]; refine Lib.hid ?_; have : inR n 1 12 = true := by simp [inR]; omega
                                                  rw [this, Bool.and_true]
  go_enter Try.func76, Try.ntmps76
  go_wp2
  go_loopw [3] (fun i wr => ∃ k : Nat, k ≤ n ∧ i = .int .i64 k ∧ wr = w ∧ nameFrom 0 l = nameFrom k (l.drop k)) (fun i _ => n - (intOf i).toNat)
  case atStart => exact ⟨0, Nat.zero_le _, rfl, rfl, rfl⟩
  case round =>
    obtain ⟨k, hk, rfl, rfl, hi⟩ := hrel
    replace hi := Lib.hid hi
    by_cases hlt : k < n
    · have hx : l[k]? = some (l[k]'(by rw [Hln.out]; exact hlt)) := List.getElem?_eq_getElem _
      generalize l[k]'(by rw [Hln.out]; exact hlt) = c at hx
      have hd := Lib.hid (nameFrom_drop l k c hx)
      have hks : k < s.size := by rw [hsz]; exact hlt
      have hget : s.data[k]'(by simpa using hks) = c := by
        have := hx
        rw [← Hl.out] at this
        simpa using (List.getElem?_eq_some_iff.1 this).2
      have hget' : (s[k]'hks) = c := hget
      have hm0 := c.toNat_lt
      have hlet := Lib.hid (letter_iff c)
      have hoth := Lib.hid (other_iff c)
      have hyes : Hid ((97 ≤ c.toNat ∧ c.toNat ≤ 122 ∨ 65 ≤ c.toNat ∧ c.toNat ≤ 90) ∨ k ≠ 0 ∧ (48 ≤ c.toNat ∧ c.toNat ≤ 57 ∨ c.toNat = 45) → nameFrom 0 l = nameFrom (k + 1) (l.drop (k + 1))) := by
        intro h
        rw [hi.out, hd.out]
        rcases h with h | ⟨h0, h⟩
        · simp [hlet.out.2 h]
        · simp [hoth.out.2 h, h0]
      have hno : Hid (¬ ((97 ≤ c.toNat ∧ c.toNat ≤ 122 ∨ 65 ≤ c.toNat ∧ c.toNat ≤ 90) ∨ k ≠ 0 ∧ (48 ≤ c.toNat ∧ c.toNat ≤ 57 ∨ c.toNat = 45)) → nameFrom 0 l = false) := by
        intro h
        rw [hi.out, hd.out]
        have h1 : letter c = false := by rw [Bool.eq_false_iff]; intro hh; exact h (.inl (hlet.out.1 hh))
        by_cases h0 : k = 0
        · simp [h1, h0]
        · have h2 : other c = false := by rw [Bool.eq_false_iff]; intro hh; exact h (.inr ⟨h0, hoth.out.1 hh⟩)
          simp [h1, h2]
      clear hx hlet hoth hd hi
      go_upto_region 7 with fail
      clear hget hget'
      generalize c.toNat = m at *
      have hcase : m < 45 ∨ m = 45 ∨ (45 < m ∧ m < 48) ∨ (48 ≤ m ∧ m ≤ 57) ∨ (57 < m ∧ m < 65) ∨ (65 ≤ m ∧ m ≤ 90) ∨ (90 < m ∧ m < 97) ∨ (97 ≤ m ∧ m ≤ 122) ∨ 122 < m := by omega
      by_cases h0 : k = 0
      · subst h0
        rcases hcase with h | rfl | ⟨h, h'⟩ | ⟨h, h'⟩ | ⟨h, h'⟩ | ⟨h, h'⟩ | ⟨h, h'⟩ | ⟨h, h'⟩ | h
        all_goals
          go_wp2
        all_goals first
          | (go_roundw
             case rel => exact ⟨1, by omega, by go_num, trivial, hyes.out (by omega)⟩
             case measure => simp [intOf]; omega)
          | (go_ret
             exact ⟨by rw [hR.out, hno.out (by omega)] <;> rfl, bl_refl _⟩)
          | (exfalso; simp at *; omega)
      · have h0' : ((k : Int) == 0) = false := by simp; omega
        rcases hcase with h | rfl | ⟨h, h'⟩ | ⟨h, h'⟩ | ⟨h, h'⟩ | ⟨h, h'⟩ | ⟨h, h'⟩ | ⟨h, h'⟩ | h
        all_goals
          go_wp2
        all_goals first
          | (go_roundw
             case rel => exact ⟨k + 1, by omega, by go_num, trivial, hyes.out (by omega)⟩
             case measure => simp [intOf]; omega)
          | (go_ret
             exact ⟨by rw [hR.out, hno.out (by omega)] <;> rfl, bl_refl _⟩)
          | (exfalso; simp at *; omega)
    · go_wp2
      go_ret
      have : k = l.length := by have := Hln.out; omega
      exact ⟨by rw [hR.out, hi.out, this]; simp [nameFrom], bl_refl _⟩
end Go.Proofs.Ytephimmamkafoaa
