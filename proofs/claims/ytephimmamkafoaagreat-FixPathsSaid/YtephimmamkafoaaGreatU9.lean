/-
  Walk: the vote of a box.
-/
import Derived.Test.YtephimmamkafoaaGreatU5
import Derived.Test.YtephimmamkafoaaGreatU8
import Derived.Sort.CutIn
set_option linter.unusedSimpArgs false
set_option linter.unusedVariables false
namespace Go.Proofs.YtephimmamkafoaaGreat
open Go.RowKit Go.Shelf
attribute [local go_sem] bl_al bl_drew bl_drewN bl_refl bx_al bx_drew bx_drewN bx_refl index_b0 index_b1 index_b2 index_p0 index_p1 index_p2 Oper.semAt_some
set_option maxRecDepth 20000
def voteF (ok : Pl → Bool) (s : Bx × Nat) (p : Pl) : Bx × Nat := if ok p then (if s.2 = 0 then p.one else s.1.join p.one, s.2 + 1) else s
/-- The smallest box around the positions of which ok holds, and their number. -/
def votesOf (ok : Pl → Bool) (ps : List Pl) : Bx × Nat := ps.foldl (voteF ok) (bx0, 0)
theorem votesOf_snoc (ok : Pl → Bool) (ps : List Pl) (p : Pl) : votesOf ok (ps ++ [p]) = voteF ok (votesOf ok ps) p := by simp [votesOf, List.foldl_append]
theorem voteF_le (ok : Pl → Bool) (s : Bx × Nat) (p : Pl) : (voteF ok s p).2 ≤ s.2 + 1 := by
  unfold voteF
  split <;> simp
theorem foldl_voteF_le (ok : Pl → Bool) : ∀ (ps : List Pl) (s : Bx × Nat), (ps.foldl (voteF ok) s).2 ≤ s.2 + ps.length
  | [], s => by simp
  | p :: ps, s => by
    have h1 := foldl_voteF_le ok ps (voteF ok s p)
    have h2 := voteF_le ok s p
    simp only [List.foldl_cons, List.length_cons]
    omega
theorem votesOf_le (ok : Pl → Bool) (ps : List Pl) : (votesOf ok ps).2 ≤ ps.length := by
  have := foldl_voteF_le ok ps (bx0, 0)
  unfold votesOf
  simpa using this
def okB (bs : List Bc) (l : List Rd) (k : Int) (p : Pl) : Bool := decide ((popc (bitsTo (wrongB bs p l) l.length) : Int) ≤ k)
theorem iv_len (lo hi : Int) : (iv lo hi).length = (hi + 1 - lo).toNat := by
  by_cases h : lo ≤ hi
  · rw [iv_cons h, List.length_cons, iv_len (lo + 1) hi]
    omega
  · rw [iv_nil h]
    simp
    omega
termination_by (hi + 1 - lo).toNat
decreasing_by omega
theorem flat_len {α β : Type} (f : α → List β) (m : Nat) (h : ∀ x, (f x).length = m) : ∀ l : List α, (l.flatMap f).length = l.length * m
  | [] => by simp
  | x :: l => by
    rw [List.flatMap_cons, List.length_append, h, flat_len f m h l, List.length_cons, Nat.add_mul, Nat.one_mul]
    omega
theorem pts_len (b : Bx) : b.pts.length = (b.x.hi + 1 - b.x.lo).toNat * ((b.y.hi + 1 - b.y.lo).toNat * (b.z.hi + 1 - b.z.lo).toNat) := by
  unfold Bx.pts R1
  rw [flat_len _ ((b.y.hi + 1 - b.y.lo).toNat * (b.z.hi + 1 - b.z.lo).toNat), iv_len]
  intro x
  unfold R2
  rw [flat_len _ (b.z.hi + 1 - b.z.lo).toNat, iv_len]
  intro y
  unfold R3
  rw [List.length_map, iv_len]
theorem pts_size {b : Bx} (h : b.ok) : (b.pts.length : Int) = b.size := by
  obtain ⟨⟨h1, h2, h3⟩, ⟨h4, h5, h6⟩, ⟨h7, h8, h9⟩⟩ := h
  rw [pts_len, Bx.size]
  push_cast
  rw [Int.toNat_of_nonneg (by omega), Int.toNat_of_nonneg (by omega), Int.toNat_of_nonneg (by omega), Int.mul_assoc]
  congr 1
  · omega
  · congr 1 <;> omega
theorem pts_in {b : Bx} (h : b.ok) {p : Pl} (hp : p ∈ b.pts) : p.in 10000 := by
  rw [mem_pts] at hp
  unfold Bx.has at hp
  simp only [Bool.and_eq_true, inR_iff] at hp
  obtain ⟨⟨h1, h2, h3⟩, ⟨h4, h5, h6⟩, ⟨h7, h8, h9⟩⟩ := h
  refine ⟨⟨?_, ?_⟩, ⟨?_, ?_⟩, ?_, ?_⟩ <;> omega
set_option maxHeartbeats 8000000 in
theorem c_vote0 (wd a : Bx) (nb n : Nat) (A A' : Option Addr) (c c' : Nat) (k : Int) (f : Pl → Nat) (ok : Pl → Bool) (w : World)
    (hcw : Hid (∀ W, Below w.heap.size w W → ∀ p : Pl, p.in 10000 → Calls Tryz.prog 73 #[vON wd (.slice A nb c), .slice A' n c', vPl p] W (Ret (.int .u64 (f p : Nat)) W)))
    (h256 : Hid (∀ p, f p < 256)) (hok : Hid (∀ p, ok p = decide ((popc (f p) : Int) ≤ k))) (hin : Hid (∀ p, p ∈ a.pts → p.in 10000)) (hpl : a.pts.length ≤ 20000) (ha : Hid (a.in 10000)) :
    Calls Tryz.prog 90 #[vON wd (.slice A nb c), vBx a, .agg #[.slice A' n c', .int .i64 k]] w
      (Ret (.tuple #[vBx (votesOf ok a.pts).1, .int .i64 (votesOf ok a.pts).2]) w) := by
  refine calls_marks Tryz.func90 rfl ?_
  simp only [Tryz.ntmps90, List.size_toArray, List.length_cons, List.length_nil, Nat.reduceAdd, Nat.reduceSub, Array.replicate_succ, Array.replicate_zero, List.push_toArray, List.append_toArray, List.nil_append, List.cons_append]
  go_wp2
  apply absB5 (w0 := w) (g0 := w.heap.size) (g1 := w.heap.size + 2) (g2 := w.heap.size + 3) (g3 := w.heap.size + 4) (g4 := w.heap.size + 5)
  iterate 6 (focus exact zL)
  try clear hb3
  try clear hb0
  try clear k0
  try clear k2
  try clear k3
  try clear k4
  try clear k5
  intro wa hb0 k0 k2 k3 k4 k5
  (try simp only [List.setIfInBounds_toArray, List.set_cons_zero, List.set_cons_succ] at k0 k2 k3 k4 k5)
  have hD := hb0.size
  have hX : w.heap.size + 5 < wa.heap.size := k5.lt
  refine wp_range (gf := 87) (rb := #[vBx a]) rfl (enters_of Tryz.func87 (by kernel_rfl) rfl) (places_iter a ha.out 5) (fun _ => rfl) [w.heap.size + 4, w.heap.size + 5] (by simp; omega)
    (fun pre W => Below w.heap.size w W ∧ Blk W w.heap.size 94 (aON wd (.slice A nb c)) ∧ Blk W (w.heap.size + 2) 47 #[.slice A' n c', .int .i64 k] ∧ Blk W (w.heap.size + 3) 92 z6 ∧
      Blk W (w.heap.size + 4) 92 (aBx (votesOf ok pre).1) ∧ Blk W (w.heap.size + 5) 3 #[.int .i64 (votesOf ok pre).2])
    (fun s A B h hc => ⟨hc.belowOf hD h.1, hc.blk h.2.1, hc.blk h.2.2.1, hc.blk h.2.2.2.1, hc.blk h.2.2.2.2.1, hc.blk h.2.2.2.2.2⟩)
    ⟨hb0, k0, k2, k3, k4, k5⟩ ?round ?done
  case round =>
    clear k0 k2 k3 k4 k5 hb0
    rintro ln pre p W ⟨hb0, k0, k2, k3, k4, k5⟩ hpre
    have hQ := k5.lt
    gi_wp2
    apply midK6 (X := [w.heap.size + 4, w.heap.size + 5]) (w0 := w) (g0 := w.heap.size) (g1 := w.heap.size + 2) (g2 := w.heap.size + 3) (g3 := w.heap.size + 4) (g4 := w.heap.size + 5) (g5 := W.heap.size) (by omega)
    iterate 8 (focus exact zL)
    try clear hb3
    try clear hb0
    try clear k0
    try clear k2
    try clear k3
    try clear k4
    try clear k5
    try clear k9
    intro wb hb0 hck k0 k2 k3 k4 k5 k9
    (try simp only [List.setIfInBounds_toArray, List.set_cons_zero, List.set_cons_succ] at k0 k2 k3 k4 k5 k9)
    have hbw := hb0
    have hbx := bx_refl [w.heap.size + 4, w.heap.size + 5] wb
    obtain ⟨rest, hrest⟩ := hpre
    have hpi := hin.out p (by rw [← hrest]; simp)
    have hcnt : (votesOf ok pre).2 ≤ 20000 := by
      have h1 := votesOf_le ok pre
      have h2 : pre.length ≤ a.pts.length := by rw [← hrest]; simp
      omega
    have hcp := Lib.hid fun (W : World) (hb : Below wb.heap.size wb W) => hcw.out W (bl_tr hbw hb) p hpi
    have hfp := h256.out p
    have hokp := hok.out p
    have hst := votesOf_snoc ok pre p
    unfold voteF at hst
    rw [hokp] at hst
    generalize votesOf ok pre = s at *
    obtain ⟨o, m⟩ := s
    dsimp only at k4 k5 hst hcnt
    generalize f p = fp at *
    clear hrest hpi hokp hcw h256 hok hin ha hb0
    replace hst := Lib.hid hst
    obtain ⟨px, py, pz⟩ := p
    have Lk0 := k0.later
    have Fk0 := k0.laterF
    have Qk0 := k0.lt
    have Lk2 := k2.later
    have Fk2 := k2.laterF
    have Qk2 := k2.lt
    have Lk3 := k3.later
    have Fk3 := k3.laterF
    have Qk3 := k3.lt
    have Lk4 := k4.later
    have Fk4 := k4.laterF
    have Qk4 := k4.lt
    have Lk5 := k5.later
    have Fk5 := k5.laterF
    have Qk5 := k5.lt
    have Lk9 := k9.later
    have Fk9 := k9.laterF
    have Qk9 := k9.lt
    by_cases hc : (popc fp : Int) ≤ k
    · have hst' : Hid (votesOf ok (pre ++ [⟨px, py, pz⟩]) = (if m = 0 then (⟨px, py, pz⟩ : Pl).one else o.join (⟨px, py, pz⟩ : Pl).one, m + 1)) := by rw [hst.out, if_pos (by simpa using hc)]; exact Lib.hid rfl
      have hgt : decide (k < (popc fp : Int)) = false := by simp; omega
      clear hst
      gi_wp2
      refine wpIn_any (w0 := wb) ⟨[], [], [some 16, some 17, some 18, some 19, some 20, some 21, some 22, some 23, some 24], [[], [], [1], [], [0, 1, 2, 3], [0, 1, 2, 3, 4], [], [6], [0, 1, 2, 3, 4, 5, 6, 7]], [[], [], [1], [], [0, 2, 3], [4], [], [6], [5, 7]]⟩ (fun _ => []) (by kernel_rfl) (by kernel_rfl) (by kernel_rfl) (by (exact zE)) (fun u => by simp only [putD, Act.put, List.setIfInBounds_toArray, List.set_cons_zero, List.set_cons_succ, Nat.zero_add, Nat.reduceAdd]; rfl) ?_
      apply RGW.on (i := 0) rfl
      · exact zG
      · intro γ u W hcur hd
        clear hd
        (try dsimp only)
        exact ⟨rfl, zS⟩
      · exact zC
      · rfl
      dsimp only [nA, cA]
      apply RGW.on (i := 1) rfl
      · exact zG
      · intro γ u W hcur hd
        clear hd
        (try dsimp only)
        exact ⟨rfl, zS⟩
      · exact zC
      · rfl
      dsimp only [nA, cA]
      apply RGW.on (i := 2) rfl
      · exact zG
      · intro γ u W hcur hd
        obtain ⟨⟨h1, -, -⟩, -⟩ := hd
        dsimp only at h1
        (try simp only [h1])
        exact ⟨rfl, zS⟩
      · exact zC
      · rfl
      dsimp only [nA, cA]
      apply RGW.on (i := 3) rfl
      · exact zG
      · intro γ u W hcur hd
        clear hd
        (try dsimp only)
        exact ⟨rfl, zS⟩
      · exact zC
      · rfl
      dsimp only [nA, cA]
      apply RGW.call (i := 4) rfl
      · exact zG
      · intro γ u W hcur hd
        obtain ⟨⟨h0, -, -⟩, ⟨h2, -, -⟩, ⟨h3, -, -⟩, -⟩ := hd
        dsimp only at h0 h2 h3
        (try simp only [h0, h2, h3])
        refine ⟨rfl, fun K hK => ?_⟩
        go_simp
        (go_at_call 73; (with_reducible refine (hcp.out _ (by (exact zE))).mono ?_); rintro e w3 ⟨rfl, hb3⟩; replace hb3 := bl_tt hb3)
        (try dsimp only)
        exact hK.out _ _ rfl (by (exact zE))
      · exact zC
      · rfl
      dsimp only [nA, cA]
      apply RGW.call (i := 5) rfl
      · exact zG
      · intro γ u W hcur hd
        obtain ⟨⟨h4, -, -⟩, -⟩ := hd
        dsimp only at h4
        (try simp only [h4])
        refine ⟨rfl, fun K hK => ?_⟩
        go_simp
        (go_at_call 106; (with_reducible refine (c_Ones _ _ hfp).mono ?_); rintro e w3 ⟨rfl, rfl⟩)
        (try dsimp only)
        exact hK.out _ _ rfl (by (exact zE))
      · exact zC
      · rfl
      dsimp only [nA, cA]
      apply RGW.on (i := 6) rfl
      · exact zG
      · intro γ u W hcur hd
        clear hd
        (try dsimp only)
        exact ⟨rfl, zS⟩
      · exact zC
      · rfl
      dsimp only [nA, cA]
      apply RGW.on (i := 7) rfl
      · exact zG
      · intro γ u W hcur hd
        obtain ⟨⟨h6, -, -⟩, -⟩ := hd
        dsimp only at h6
        (try simp only [h6])
        exact ⟨rfl, zS⟩
      · exact zC
      · rfl
      dsimp only [nA, cA]
      apply RGW.on (i := 8) rfl
      · exact zG
      · intro γ u W hcur hd
        obtain ⟨⟨h5, -, -⟩, ⟨h7, -, -⟩, -⟩ := hd
        dsimp only at h5 h7
        (try simp only [h5, h7])
        exact ⟨rfl, zS⟩
      · exact zC
      · rfl
      dsimp only [nA, cA]
      refine RGW.fin (fun γ u wc hwc hd hdis => ?_)
      obtain ⟨⟨h0, -, -⟩, ⟨h1, -, -⟩, ⟨h2, -, -⟩, ⟨h3, -, -⟩, ⟨h4, -, -⟩, ⟨h5, -, -⟩, ⟨h6, -, -⟩, ⟨h7, -, -⟩, ⟨h8, -, -⟩, -⟩ := hd
      dsimp only at h0 h1 h2 h3 h4 h5 h6 h7 h8
      clear hdis
      simp only [h0, h1, h2, h3, h4, h5, h6, h7, h8]
      clear h8 h7 h6 h5 h4 h3 h2 h1 h0
      clear u
      simp only [List.map_nil]
      refine PlanW.done ?_
      refine only_done ?_
      have hb3x := bx_tt hwc
      have hb3 := bl_tt hwc
      have hb0 := hbx
      gi_wp2
      apply absIK6 (X := [w.heap.size + 4, w.heap.size + 5]) (w0 := wb) (g0 := w.heap.size) (g1 := w.heap.size + 2) (g2 := w.heap.size + 3) (g3 := w.heap.size + 4) (g4 := w.heap.size + 5) (g5 := W.heap.size)
      iterate 7 (focus exact zL)
      try clear hb3
      try clear hb3x
      try clear Lk0
      try clear Fk0
      try clear Qk0
      try clear Lk2
      try clear Fk2
      try clear Qk2
      try clear Lk3
      try clear Fk3
      try clear Qk3
      try clear Lk4
      try clear Fk4
      try clear Qk4
      try clear Lk5
      try clear Fk5
      try clear Qk5
      try clear Lk9
      try clear Fk9
      try clear Qk9
      try clear hb0
      try clear k0
      try clear k2
      try clear k3
      try clear k4
      try clear k5
      try clear k9
      intro we hb0 k0 k2 k3 k4 k5 k9
      (try simp only [List.setIfInBounds_toArray, List.set_cons_zero, List.set_cons_succ] at k0 k2 k3 k4 k5 k9)
      have Lk0 := k0.later
      have Fk0 := k0.laterF
      have Qk0 := k0.lt
      have Lk2 := k2.later
      have Fk2 := k2.laterF
      have Qk2 := k2.lt
      have Lk3 := k3.later
      have Fk3 := k3.laterF
      have Qk3 := k3.lt
      have Lk4 := k4.later
      have Fk4 := k4.laterF
      have Qk4 := k4.lt
      have Lk5 := k5.later
      have Fk5 := k5.laterF
      have Qk5 := k5.lt
      have Lk9 := k9.later
      have Fk9 := k9.laterF
      have Qk9 := k9.lt
      refine wpIn_loop_rounds 4 ?_
      rw [roundsIn_succ]
      by_cases hm0 : m = 0
      · subst hm0
        gi_wp2
        apply absIK6 (X := [w.heap.size + 4, w.heap.size + 5]) (w0 := wb) (g0 := w.heap.size) (g1 := w.heap.size + 2) (g2 := w.heap.size + 3) (g3 := w.heap.size + 4) (g4 := w.heap.size + 5) (g5 := W.heap.size)
        iterate 7 (focus exact zL)
        try clear hb3
        try clear hb3x
        try clear Lk0
        try clear Fk0
        try clear Qk0
        try clear Lk2
        try clear Fk2
        try clear Qk2
        try clear Lk3
        try clear Fk3
        try clear Qk3
        try clear Lk4
        try clear Fk4
        try clear Qk4
        try clear Lk5
        try clear Fk5
        try clear Qk5
        try clear Lk9
        try clear Fk9
        try clear Qk9
        try clear hb0
        try clear k0
        try clear k2
        try clear k3
        try clear k4
        try clear k5
        try clear k9
        intro x00 hb0 k0 k2 k3 k4 k5 k9
        (try simp only [List.setIfInBounds_toArray, List.set_cons_zero, List.set_cons_succ] at k0 k2 k3 k4 k5 k9)
        have Lk0 := k0.later
        have Fk0 := k0.laterF
        have Qk0 := k0.lt
        have Lk2 := k2.later
        have Fk2 := k2.laterF
        have Qk2 := k2.lt
        have Lk3 := k3.later
        have Fk3 := k3.laterF
        have Qk3 := k3.lt
        have Lk4 := k4.later
        have Fk4 := k4.laterF
        have Qk4 := k4.lt
        have Lk5 := k5.later
        have Fk5 := k5.laterF
        have Qk5 := k5.lt
        have Lk9 := k9.later
        have Fk9 := k9.laterF
        have Qk9 := k9.lt
        refine wpIn_any (w0 := x00) ⟨[15], [], [some 37, some 38, some 39, some 40, some 41, some 42, some 43, some 44, some 45, some 46, some 47, some 48, some 49, some 50, some 51, none], [[], [], [1], [1, 2], [1, 2, 3], [], [1, 2, 3, 4, 5], [], [7], [7, 8], [7, 8, 9], [], [7, 8, 9, 10, 11], [1, 2, 3, 4, 5, 6, 7, 8, 9, 10, 11, 12], [0, 1, 2, 3, 4, 5, 6, 7, 8, 9, 10, 11, 12, 13], [0, 1, 2, 3, 4, 5, 6, 7, 8, 9, 10, 11, 12, 13, 14]], [[], [], [1], [2], [3], [], [4, 5], [], [7], [8], [9], [], [10, 11], [6, 12], [0], []]⟩ (fun _ => [w.heap.size + 4]) (by kernel_rfl) (by kernel_rfl) (by kernel_rfl) (by (exact zE)) (fun u => by simp only [putD, Act.put, List.setIfInBounds_toArray, List.set_cons_zero, List.set_cons_succ, Nat.zero_add, Nat.reduceAdd]; rfl) ?_
        apply RGW.on (i := 0) rfl
        · exact zG
        · intro γ u W hcur hd
          clear hd
          (try dsimp only)
          exact ⟨rfl, zS⟩
        · exact zC
        · rfl
        dsimp only [nA, cA]
        apply RGW.on (i := 1) rfl
        · exact zG
        · intro γ u W hcur hd
          clear hd
          (try dsimp only)
          exact ⟨rfl, zS⟩
        · exact zC
        · rfl
        dsimp only [nA, cA]
        apply RGW.on (i := 2) rfl
        · exact zG
        · intro γ u W hcur hd
          obtain ⟨⟨h1, -, -⟩, -⟩ := hd
          dsimp only at h1
          (try simp only [h1])
          exact ⟨rfl, zS⟩
        · exact zC
        · rfl
        dsimp only [nA, cA]
        apply RGW.on (i := 3) rfl
        · exact zG
        · intro γ u W hcur hd
          obtain ⟨⟨h2, -, -⟩, -⟩ := hd
          dsimp only at h2
          (try simp only [h2])
          exact ⟨rfl, zS⟩
        · exact zC
        · rfl
        dsimp only [nA, cA]
        apply RGW.on (i := 4) rfl
        · exact zG
        · intro γ u W hcur hd
          obtain ⟨⟨h3, -, -⟩, -⟩ := hd
          dsimp only at h3
          (try simp only [h3])
          exact ⟨rfl, zS⟩
        · exact zC
        · rfl
        dsimp only [nA, cA]
        apply RGW.on (i := 5) rfl
        · exact zG
        · intro γ u W hcur hd
          clear hd
          (try dsimp only)
          exact ⟨rfl, zS⟩
        · exact zC
        · rfl
        dsimp only [nA, cA]
        apply RGW.on (i := 6) rfl
        · exact zG
        · intro γ u W hcur hd
          obtain ⟨⟨h4, -, -⟩, ⟨h5, -, -⟩, -⟩ := hd
          dsimp only at h4 h5
          (try simp only [h4, h5])
          exact ⟨rfl, zS⟩
        · exact zC
        · rfl
        dsimp only [nA, cA]
        apply RGW.on (i := 7) rfl
        · exact zG
        · intro γ u W hcur hd
          clear hd
          (try dsimp only)
          exact ⟨rfl, zS⟩
        · exact zC
        · rfl
        dsimp only [nA, cA]
        apply RGW.on (i := 8) rfl
        · exact zG
        · intro γ u W hcur hd
          obtain ⟨⟨h7, -, -⟩, -⟩ := hd
          dsimp only at h7
          (try simp only [h7])
          exact ⟨rfl, zS⟩
        · exact zC
        · rfl
        dsimp only [nA, cA]
        apply RGW.on (i := 9) rfl
        · exact zG
        · intro γ u W hcur hd
          obtain ⟨⟨h8, -, -⟩, -⟩ := hd
          dsimp only at h8
          (try simp only [h8])
          exact ⟨rfl, zS⟩
        · exact zC
        · rfl
        dsimp only [nA, cA]
        apply RGW.on (i := 10) rfl
        · exact zG
        · intro γ u W hcur hd
          obtain ⟨⟨h9, -, -⟩, -⟩ := hd
          dsimp only at h9
          (try simp only [h9])
          exact ⟨rfl, zS⟩
        · exact zC
        · rfl
        dsimp only [nA, cA]
        apply RGW.on (i := 11) rfl
        · exact zG
        · intro γ u W hcur hd
          clear hd
          (try dsimp only)
          exact ⟨rfl, zS⟩
        · exact zC
        · rfl
        dsimp only [nA, cA]
        apply RGW.on (i := 12) rfl
        · exact zG
        · intro γ u W hcur hd
          obtain ⟨⟨h10, -, -⟩, ⟨h11, -, -⟩, -⟩ := hd
          dsimp only at h10 h11
          (try simp only [h10, h11])
          exact ⟨rfl, zS⟩
        · exact zC
        · rfl
        dsimp only [nA, cA]
        apply RGW.on (i := 13) rfl
        · exact zG
        · intro γ u W hcur hd
          obtain ⟨⟨h6, -, -⟩, ⟨h12, -, -⟩, -⟩ := hd
          dsimp only at h6 h12
          (try simp only [h6, h12])
          exact ⟨rfl, zS⟩
        · exact zC
        · rfl
        dsimp only [nA, cA]
        apply RGW.on (i := 14) rfl
        · exact zG
        · intro γ u W hcur hd
          obtain ⟨⟨h0, -, -⟩, -⟩ := hd
          dsimp only at h0
          (try simp only [h0])
          exact ⟨rfl, zS⟩
        · exact zC
        · rfl
        dsimp only [nA, cA]
        refine RGW.skip (i := 15) rfl rfl ?_
        dsimp only [nA, cA]
        refine RGW.fin (fun γ u y00 hy00 hd hdis => ?_)
        obtain ⟨⟨h0, -, -⟩, ⟨h1, -, -⟩, ⟨h2, -, -⟩, ⟨h3, -, -⟩, ⟨h4, -, -⟩, ⟨h5, -, -⟩, ⟨h6, -, -⟩, ⟨h7, -, -⟩, ⟨h8, -, -⟩, ⟨h9, -, -⟩, ⟨h10, -, -⟩, ⟨h11, -, -⟩, ⟨h12, -, -⟩, ⟨h13, -, -⟩, ⟨h14, -, -⟩, -⟩ := hd
        dsimp only at h0 h1 h2 h3 h4 h5 h6 h7 h8 h9 h10 h11 h12 h13 h14
        clear hdis
        simp only [h0, h1, h2, h3, h4, h5, h6, h7, h8, h9, h10, h11, h12, h13, h14]
        clear h14 h13 h12 h11 h10 h9 h8 h7 h6 h5 h4 h3 h2 h1 h0
        clear u
        simp only [List.map_cons, List.map_nil]
        apply PlanW.step
        · exact zG
        · rfl
        intro K hK
        go_simp
        refine hK.out _ _ (by (exact zX)) (fun hcur => ?_)
        clear hK K
        try simp only [Act.put, List.setIfInBounds_toArray, List.set_cons_zero, List.set_cons_succ]
        refine PlanW.done ?_
        refine only_done ?_
        have hb3x := bx_tt hy00
        have hb3 := bl_tt hy00
        have hb3y := bx_tt hy00 _ _ hb0
        gi_wp2
        apply absJK6 (X := [w.heap.size + 4, w.heap.size + 5]) (w0 := wb) (g0 := w.heap.size) (g1 := w.heap.size + 2) (g2 := w.heap.size + 3) (g3 := w.heap.size + 4) (g4 := w.heap.size + 5) (g5 := W.heap.size)
        iterate 7 (focus exact zL)
        try clear hb3
        try clear hb3x
        try clear Lk0
        try clear Fk0
        try clear Qk0
        try clear Lk2
        try clear Fk2
        try clear Qk2
        try clear Lk3
        try clear Fk3
        try clear Qk3
        try clear Lk4
        try clear Fk4
        try clear Qk4
        try clear Lk5
        try clear Fk5
        try clear Qk5
        try clear Lk9
        try clear Fk9
        try clear Qk9
        try clear hb0
        try clear k0
        try clear k2
        try clear k3
        try clear k4
        try clear k5
        try clear k9
        intro z00 hb0 k0 k2 k3 k4 k5 k9
        (try simp only [List.setIfInBounds_toArray, List.set_cons_zero, List.set_cons_succ] at k0 k2 k3 k4 k5 k9)
        have Lk0 := k0.later
        have Fk0 := k0.laterF
        have Qk0 := k0.lt
        have Lk2 := k2.later
        have Fk2 := k2.laterF
        have Qk2 := k2.lt
        have Lk3 := k3.later
        have Fk3 := k3.laterF
        have Qk3 := k3.lt
        have Lk4 := k4.later
        have Fk4 := k4.laterF
        have Qk4 := k4.lt
        have Lk5 := k5.later
        have Fk5 := k5.laterF
        have Qk5 := k5.lt
        have Lk9 := k9.later
        have Fk9 := k9.laterF
        have Qk9 := k9.lt
        rw [roundsIn_succ]
        gi_wp2
        apply absIK6 (X := [w.heap.size + 4, w.heap.size + 5]) (w0 := wb) (g0 := w.heap.size) (g1 := w.heap.size + 2) (g2 := w.heap.size + 3) (g3 := w.heap.size + 4) (g4 := w.heap.size + 5) (g5 := W.heap.size)
        iterate 7 (focus exact zL)
        try clear hb3
        try clear hb3x
        try clear Lk0
        try clear Fk0
        try clear Qk0
        try clear Lk2
        try clear Fk2
        try clear Qk2
        try clear Lk3
        try clear Fk3
        try clear Qk3
        try clear Lk4
        try clear Fk4
        try clear Qk4
        try clear Lk5
        try clear Fk5
        try clear Qk5
        try clear Lk9
        try clear Fk9
        try clear Qk9
        try clear hb0
        try clear k0
        try clear k2
        try clear k3
        try clear k4
        try clear k5
        try clear k9
        intro x01 hb0 k0 k2 k3 k4 k5 k9
        (try simp only [List.setIfInBounds_toArray, List.set_cons_zero, List.set_cons_succ] at k0 k2 k3 k4 k5 k9)
        have Lk0 := k0.later
        have Fk0 := k0.laterF
        have Qk0 := k0.lt
        have Lk2 := k2.later
        have Fk2 := k2.laterF
        have Qk2 := k2.lt
        have Lk3 := k3.later
        have Fk3 := k3.laterF
        have Qk3 := k3.lt
        have Lk4 := k4.later
        have Fk4 := k4.laterF
        have Qk4 := k4.lt
        have Lk5 := k5.later
        have Fk5 := k5.laterF
        have Qk5 := k5.lt
        have Lk9 := k9.later
        have Fk9 := k9.laterF
        have Qk9 := k9.lt
        refine wpIn_any (w0 := x01) ⟨[15], [], [some 37, some 38, some 39, some 40, some 41, some 42, some 43, some 44, some 45, some 46, some 47, some 48, some 49, some 50, some 51, none], [[], [], [1], [1, 2], [1, 2, 3], [], [1, 2, 3, 4, 5], [], [7], [7, 8], [7, 8, 9], [], [7, 8, 9, 10, 11], [1, 2, 3, 4, 5, 6, 7, 8, 9, 10, 11, 12], [0, 1, 2, 3, 4, 5, 6, 7, 8, 9, 10, 11, 12, 13], [0, 1, 2, 3, 4, 5, 6, 7, 8, 9, 10, 11, 12, 13, 14]], [[], [], [1], [2], [3], [], [4, 5], [], [7], [8], [9], [], [10, 11], [6, 12], [0], []]⟩ (fun _ => [w.heap.size + 4]) (by kernel_rfl) (by kernel_rfl) (by kernel_rfl) (by (exact zE)) (fun u => by simp only [putD, Act.put, List.setIfInBounds_toArray, List.set_cons_zero, List.set_cons_succ, Nat.zero_add, Nat.reduceAdd]; rfl) ?_
        apply RGW.on (i := 0) rfl
        · exact zG
        · intro γ u W hcur hd
          clear hd
          (try dsimp only)
          exact ⟨rfl, zS⟩
        · exact zC
        · rfl
        dsimp only [nA, cA]
        apply RGW.on (i := 1) rfl
        · exact zG
        · intro γ u W hcur hd
          clear hd
          (try dsimp only)
          exact ⟨rfl, zS⟩
        · exact zC
        · rfl
        dsimp only [nA, cA]
        apply RGW.on (i := 2) rfl
        · exact zG
        · intro γ u W hcur hd
          obtain ⟨⟨h1, -, -⟩, -⟩ := hd
          dsimp only at h1
          (try simp only [h1])
          exact ⟨rfl, zS⟩
        · exact zC
        · rfl
        dsimp only [nA, cA]
        apply RGW.on (i := 3) rfl
        · exact zG
        · intro γ u W hcur hd
          obtain ⟨⟨h2, -, -⟩, -⟩ := hd
          dsimp only at h2
          (try simp only [h2])
          exact ⟨rfl, zS⟩
        · exact zC
        · rfl
        dsimp only [nA, cA]
        apply RGW.on (i := 4) rfl
        · exact zG
        · intro γ u W hcur hd
          obtain ⟨⟨h3, -, -⟩, -⟩ := hd
          dsimp only at h3
          (try simp only [h3])
          exact ⟨rfl, zS⟩
        · exact zC
        · rfl
        dsimp only [nA, cA]
        apply RGW.on (i := 5) rfl
        · exact zG
        · intro γ u W hcur hd
          clear hd
          (try dsimp only)
          exact ⟨rfl, zS⟩
        · exact zC
        · rfl
        dsimp only [nA, cA]
        apply RGW.on (i := 6) rfl
        · exact zG
        · intro γ u W hcur hd
          obtain ⟨⟨h4, -, -⟩, ⟨h5, -, -⟩, -⟩ := hd
          dsimp only at h4 h5
          (try simp only [h4, h5])
          exact ⟨rfl, zS⟩
        · exact zC
        · rfl
        dsimp only [nA, cA]
        apply RGW.on (i := 7) rfl
        · exact zG
        · intro γ u W hcur hd
          clear hd
          (try dsimp only)
          exact ⟨rfl, zS⟩
        · exact zC
        · rfl
        dsimp only [nA, cA]
        apply RGW.on (i := 8) rfl
        · exact zG
        · intro γ u W hcur hd
          obtain ⟨⟨h7, -, -⟩, -⟩ := hd
          dsimp only at h7
          (try simp only [h7])
          exact ⟨rfl, zS⟩
        · exact zC
        · rfl
        dsimp only [nA, cA]
        apply RGW.on (i := 9) rfl
        · exact zG
        · intro γ u W hcur hd
          obtain ⟨⟨h8, -, -⟩, -⟩ := hd
          dsimp only at h8
          (try simp only [h8])
          exact ⟨rfl, zS⟩
        · exact zC
        · rfl
        dsimp only [nA, cA]
        apply RGW.on (i := 10) rfl
        · exact zG
        · intro γ u W hcur hd
          obtain ⟨⟨h9, -, -⟩, -⟩ := hd
          dsimp only at h9
          (try simp only [h9])
          exact ⟨rfl, zS⟩
        · exact zC
        · rfl
        dsimp only [nA, cA]
        apply RGW.on (i := 11) rfl
        · exact zG
        · intro γ u W hcur hd
          clear hd
          (try dsimp only)
          exact ⟨rfl, zS⟩
        · exact zC
        · rfl
        dsimp only [nA, cA]
        apply RGW.on (i := 12) rfl
        · exact zG
        · intro γ u W hcur hd
          obtain ⟨⟨h10, -, -⟩, ⟨h11, -, -⟩, -⟩ := hd
          dsimp only at h10 h11
          (try simp only [h10, h11])
          exact ⟨rfl, zS⟩
        · exact zC
        · rfl
        dsimp only [nA, cA]
        apply RGW.on (i := 13) rfl
        · exact zG
        · intro γ u W hcur hd
          obtain ⟨⟨h6, -, -⟩, ⟨h12, -, -⟩, -⟩ := hd
          dsimp only at h6 h12
          (try simp only [h6, h12])
          exact ⟨rfl, zS⟩
        · exact zC
        · rfl
        dsimp only [nA, cA]
        apply RGW.on (i := 14) rfl
        · exact zG
        · intro γ u W hcur hd
          obtain ⟨⟨h0, -, -⟩, -⟩ := hd
          dsimp only at h0
          (try simp only [h0])
          exact ⟨rfl, zS⟩
        · exact zC
        · rfl
        dsimp only [nA, cA]
        refine RGW.skip (i := 15) rfl rfl ?_
        dsimp only [nA, cA]
        refine RGW.fin (fun γ u y01 hy01 hd hdis => ?_)
        obtain ⟨⟨h0, -, -⟩, ⟨h1, -, -⟩, ⟨h2, -, -⟩, ⟨h3, -, -⟩, ⟨h4, -, -⟩, ⟨h5, -, -⟩, ⟨h6, -, -⟩, ⟨h7, -, -⟩, ⟨h8, -, -⟩, ⟨h9, -, -⟩, ⟨h10, -, -⟩, ⟨h11, -, -⟩, ⟨h12, -, -⟩, ⟨h13, -, -⟩, ⟨h14, -, -⟩, -⟩ := hd
        dsimp only at h0 h1 h2 h3 h4 h5 h6 h7 h8 h9 h10 h11 h12 h13 h14
        clear hdis
        simp only [h0, h1, h2, h3, h4, h5, h6, h7, h8, h9, h10, h11, h12, h13, h14]
        clear h14 h13 h12 h11 h10 h9 h8 h7 h6 h5 h4 h3 h2 h1 h0
        clear u
        simp only [List.map_cons, List.map_nil]
        apply PlanW.step
        · exact zG
        · rfl
        intro K hK
        go_simp
        refine hK.out _ _ (by (exact zX)) (fun hcur => ?_)
        clear hK K
        try simp only [Act.put, List.setIfInBounds_toArray, List.set_cons_zero, List.set_cons_succ]
        refine PlanW.done ?_
        refine only_done ?_
        have hb3x := bx_tt hy01
        have hb3 := bl_tt hy01
        have hb3y := bx_tt hy01 _ _ hb0
        gi_wp2
        apply absJK6 (X := [w.heap.size + 4, w.heap.size + 5]) (w0 := wb) (g0 := w.heap.size) (g1 := w.heap.size + 2) (g2 := w.heap.size + 3) (g3 := w.heap.size + 4) (g4 := w.heap.size + 5) (g5 := W.heap.size)
        iterate 7 (focus exact zL)
        try clear hb3
        try clear hb3x
        try clear Lk0
        try clear Fk0
        try clear Qk0
        try clear Lk2
        try clear Fk2
        try clear Qk2
        try clear Lk3
        try clear Fk3
        try clear Qk3
        try clear Lk4
        try clear Fk4
        try clear Qk4
        try clear Lk5
        try clear Fk5
        try clear Qk5
        try clear Lk9
        try clear Fk9
        try clear Qk9
        try clear hb0
        try clear k0
        try clear k2
        try clear k3
        try clear k4
        try clear k5
        try clear k9
        intro z01 hb0 k0 k2 k3 k4 k5 k9
        (try simp only [List.setIfInBounds_toArray, List.set_cons_zero, List.set_cons_succ] at k0 k2 k3 k4 k5 k9)
        have Lk0 := k0.later
        have Fk0 := k0.laterF
        have Qk0 := k0.lt
        have Lk2 := k2.later
        have Fk2 := k2.laterF
        have Qk2 := k2.lt
        have Lk3 := k3.later
        have Fk3 := k3.laterF
        have Qk3 := k3.lt
        have Lk4 := k4.later
        have Fk4 := k4.laterF
        have Qk4 := k4.lt
        have Lk5 := k5.later
        have Fk5 := k5.laterF
        have Qk5 := k5.lt
        have Lk9 := k9.later
        have Fk9 := k9.laterF
        have Qk9 := k9.lt
        rw [roundsIn_succ]
        gi_wp2
        apply absIK6 (X := [w.heap.size + 4, w.heap.size + 5]) (w0 := wb) (g0 := w.heap.size) (g1 := w.heap.size + 2) (g2 := w.heap.size + 3) (g3 := w.heap.size + 4) (g4 := w.heap.size + 5) (g5 := W.heap.size)
        iterate 7 (focus exact zL)
        try clear hb3
        try clear hb3x
        try clear Lk0
        try clear Fk0
        try clear Qk0
        try clear Lk2
        try clear Fk2
        try clear Qk2
        try clear Lk3
        try clear Fk3
        try clear Qk3
        try clear Lk4
        try clear Fk4
        try clear Qk4
        try clear Lk5
        try clear Fk5
        try clear Qk5
        try clear Lk9
        try clear Fk9
        try clear Qk9
        try clear hb0
        try clear k0
        try clear k2
        try clear k3
        try clear k4
        try clear k5
        try clear k9
        intro x02 hb0 k0 k2 k3 k4 k5 k9
        (try simp only [List.setIfInBounds_toArray, List.set_cons_zero, List.set_cons_succ] at k0 k2 k3 k4 k5 k9)
        have Lk0 := k0.later
        have Fk0 := k0.laterF
        have Qk0 := k0.lt
        have Lk2 := k2.later
        have Fk2 := k2.laterF
        have Qk2 := k2.lt
        have Lk3 := k3.later
        have Fk3 := k3.laterF
        have Qk3 := k3.lt
        have Lk4 := k4.later
        have Fk4 := k4.laterF
        have Qk4 := k4.lt
        have Lk5 := k5.later
        have Fk5 := k5.laterF
        have Qk5 := k5.lt
        have Lk9 := k9.later
        have Fk9 := k9.laterF
        have Qk9 := k9.lt
        refine wpIn_any (w0 := x02) ⟨[15], [], [some 37, some 38, some 39, some 40, some 41, some 42, some 43, some 44, some 45, some 46, some 47, some 48, some 49, some 50, some 51, none], [[], [], [1], [1, 2], [1, 2, 3], [], [1, 2, 3, 4, 5], [], [7], [7, 8], [7, 8, 9], [], [7, 8, 9, 10, 11], [1, 2, 3, 4, 5, 6, 7, 8, 9, 10, 11, 12], [0, 1, 2, 3, 4, 5, 6, 7, 8, 9, 10, 11, 12, 13], [0, 1, 2, 3, 4, 5, 6, 7, 8, 9, 10, 11, 12, 13, 14]], [[], [], [1], [2], [3], [], [4, 5], [], [7], [8], [9], [], [10, 11], [6, 12], [0], []]⟩ (fun _ => [w.heap.size + 4]) (by kernel_rfl) (by kernel_rfl) (by kernel_rfl) (by (exact zE)) (fun u => by simp only [putD, Act.put, List.setIfInBounds_toArray, List.set_cons_zero, List.set_cons_succ, Nat.zero_add, Nat.reduceAdd]; rfl) ?_
        apply RGW.on (i := 0) rfl
        · exact zG
        · intro γ u W hcur hd
          clear hd
          (try dsimp only)
          exact ⟨rfl, zS⟩
        · exact zC
        · rfl
        dsimp only [nA, cA]
        apply RGW.on (i := 1) rfl
        · exact zG
        · intro γ u W hcur hd
          clear hd
          (try dsimp only)
          exact ⟨rfl, zS⟩
        · exact zC
        · rfl
        dsimp only [nA, cA]
        apply RGW.on (i := 2) rfl
        · exact zG
        · intro γ u W hcur hd
          obtain ⟨⟨h1, -, -⟩, -⟩ := hd
          dsimp only at h1
          (try simp only [h1])
          exact ⟨rfl, zS⟩
        · exact zC
        · rfl
        dsimp only [nA, cA]
        apply RGW.on (i := 3) rfl
        · exact zG
        · intro γ u W hcur hd
          obtain ⟨⟨h2, -, -⟩, -⟩ := hd
          dsimp only at h2
          (try simp only [h2])
          exact ⟨rfl, zS⟩
        · exact zC
        · rfl
        dsimp only [nA, cA]
        apply RGW.on (i := 4) rfl
        · exact zG
        · intro γ u W hcur hd
          obtain ⟨⟨h3, -, -⟩, -⟩ := hd
          dsimp only at h3
          (try simp only [h3])
          exact ⟨rfl, zS⟩
        · exact zC
        · rfl
        dsimp only [nA, cA]
        apply RGW.on (i := 5) rfl
        · exact zG
        · intro γ u W hcur hd
          clear hd
          (try dsimp only)
          exact ⟨rfl, zS⟩
        · exact zC
        · rfl
        dsimp only [nA, cA]
        apply RGW.on (i := 6) rfl
        · exact zG
        · intro γ u W hcur hd
          obtain ⟨⟨h4, -, -⟩, ⟨h5, -, -⟩, -⟩ := hd
          dsimp only at h4 h5
          (try simp only [h4, h5])
          exact ⟨rfl, zS⟩
        · exact zC
        · rfl
        dsimp only [nA, cA]
        apply RGW.on (i := 7) rfl
        · exact zG
        · intro γ u W hcur hd
          clear hd
          (try dsimp only)
          exact ⟨rfl, zS⟩
        · exact zC
        · rfl
        dsimp only [nA, cA]
        apply RGW.on (i := 8) rfl
        · exact zG
        · intro γ u W hcur hd
          obtain ⟨⟨h7, -, -⟩, -⟩ := hd
          dsimp only at h7
          (try simp only [h7])
          exact ⟨rfl, zS⟩
        · exact zC
        · rfl
        dsimp only [nA, cA]
        apply RGW.on (i := 9) rfl
        · exact zG
        · intro γ u W hcur hd
          obtain ⟨⟨h8, -, -⟩, -⟩ := hd
          dsimp only at h8
          (try simp only [h8])
          exact ⟨rfl, zS⟩
        · exact zC
        · rfl
        dsimp only [nA, cA]
        apply RGW.on (i := 10) rfl
        · exact zG
        · intro γ u W hcur hd
          obtain ⟨⟨h9, -, -⟩, -⟩ := hd
          dsimp only at h9
          (try simp only [h9])
          exact ⟨rfl, zS⟩
        · exact zC
        · rfl
        dsimp only [nA, cA]
        apply RGW.on (i := 11) rfl
        · exact zG
        · intro γ u W hcur hd
          clear hd
          (try dsimp only)
          exact ⟨rfl, zS⟩
        · exact zC
        · rfl
        dsimp only [nA, cA]
        apply RGW.on (i := 12) rfl
        · exact zG
        · intro γ u W hcur hd
          obtain ⟨⟨h10, -, -⟩, ⟨h11, -, -⟩, -⟩ := hd
          dsimp only at h10 h11
          (try simp only [h10, h11])
          exact ⟨rfl, zS⟩
        · exact zC
        · rfl
        dsimp only [nA, cA]
        apply RGW.on (i := 13) rfl
        · exact zG
        · intro γ u W hcur hd
          obtain ⟨⟨h6, -, -⟩, ⟨h12, -, -⟩, -⟩ := hd
          dsimp only at h6 h12
          (try simp only [h6, h12])
          exact ⟨rfl, zS⟩
        · exact zC
        · rfl
        dsimp only [nA, cA]
        apply RGW.on (i := 14) rfl
        · exact zG
        · intro γ u W hcur hd
          obtain ⟨⟨h0, -, -⟩, -⟩ := hd
          dsimp only at h0
          (try simp only [h0])
          exact ⟨rfl, zS⟩
        · exact zC
        · rfl
        dsimp only [nA, cA]
        refine RGW.skip (i := 15) rfl rfl ?_
        dsimp only [nA, cA]
        refine RGW.fin (fun γ u y02 hy02 hd hdis => ?_)
        obtain ⟨⟨h0, -, -⟩, ⟨h1, -, -⟩, ⟨h2, -, -⟩, ⟨h3, -, -⟩, ⟨h4, -, -⟩, ⟨h5, -, -⟩, ⟨h6, -, -⟩, ⟨h7, -, -⟩, ⟨h8, -, -⟩, ⟨h9, -, -⟩, ⟨h10, -, -⟩, ⟨h11, -, -⟩, ⟨h12, -, -⟩, ⟨h13, -, -⟩, ⟨h14, -, -⟩, -⟩ := hd
        dsimp only at h0 h1 h2 h3 h4 h5 h6 h7 h8 h9 h10 h11 h12 h13 h14
        clear hdis
        simp only [h0, h1, h2, h3, h4, h5, h6, h7, h8, h9, h10, h11, h12, h13, h14]
        clear h14 h13 h12 h11 h10 h9 h8 h7 h6 h5 h4 h3 h2 h1 h0
        clear u
        simp only [List.map_cons, List.map_nil]
        apply PlanW.step
        · exact zG
        · rfl
        intro K hK
        go_simp
        refine hK.out _ _ (by (exact zX)) (fun hcur => ?_)
        clear hK K
        try simp only [Act.put, List.setIfInBounds_toArray, List.set_cons_zero, List.set_cons_succ]
        refine PlanW.done ?_
        refine only_done ?_
        have hb3x := bx_tt hy02
        have hb3 := bl_tt hy02
        have hb3y := bx_tt hy02 _ _ hb0
        gi_wp2
        apply absJK6 (X := [w.heap.size + 4, w.heap.size + 5]) (w0 := wb) (g0 := w.heap.size) (g1 := w.heap.size + 2) (g2 := w.heap.size + 3) (g3 := w.heap.size + 4) (g4 := w.heap.size + 5) (g5 := W.heap.size)
        iterate 7 (focus exact zL)
        try clear hb3
        try clear hb3x
        try clear Lk0
        try clear Fk0
        try clear Qk0
        try clear Lk2
        try clear Fk2
        try clear Qk2
        try clear Lk3
        try clear Fk3
        try clear Qk3
        try clear Lk4
        try clear Fk4
        try clear Qk4
        try clear Lk5
        try clear Fk5
        try clear Qk5
        try clear Lk9
        try clear Fk9
        try clear Qk9
        try clear hb0
        try clear k0
        try clear k2
        try clear k3
        try clear k4
        try clear k5
        try clear k9
        intro z02 hb0 k0 k2 k3 k4 k5 k9
        (try simp only [List.setIfInBounds_toArray, List.set_cons_zero, List.set_cons_succ] at k0 k2 k3 k4 k5 k9)
        have Lk0 := k0.later
        have Fk0 := k0.laterF
        have Qk0 := k0.lt
        have Lk2 := k2.later
        have Fk2 := k2.laterF
        have Qk2 := k2.lt
        have Lk3 := k3.later
        have Fk3 := k3.laterF
        have Qk3 := k3.lt
        have Lk4 := k4.later
        have Fk4 := k4.laterF
        have Qk4 := k4.lt
        have Lk5 := k5.later
        have Fk5 := k5.laterF
        have Qk5 := k5.lt
        have Lk9 := k9.later
        have Fk9 := k9.laterF
        have Qk9 := k9.lt
        rw [roundsIn_succ]
        gi_wp2
        apply goesK6 (X := [w.heap.size + 4, w.heap.size + 5]) (w0 := wb) (g0 := w.heap.size) (g1 := w.heap.size + 2) (g2 := w.heap.size + 3) (g3 := w.heap.size + 4) (g4 := w.heap.size + 5) (g5 := W.heap.size)
        iterate 7 (focus exact zL)
        try clear hb3
        try clear hb3x
        try clear Lk0
        try clear Fk0
        try clear Qk0
        try clear Lk2
        try clear Fk2
        try clear Qk2
        try clear Lk3
        try clear Fk3
        try clear Qk3
        try clear Lk4
        try clear Fk4
        try clear Qk4
        try clear Lk5
        try clear Fk5
        try clear Qk5
        try clear Lk9
        try clear Fk9
        try clear Qk9
        try clear hb0
        try clear k0
        try clear k2
        try clear k3
        try clear k4
        try clear k5
        try clear k9
        intro u0 hb0 k0 k2 k3 k4 k5 k9
        (try simp only [List.setIfInBounds_toArray, List.set_cons_zero, List.set_cons_succ] at k0 k2 k3 k4 k5 k9)
        exact ⟨hb0, bx_below hbw hb0 (by simp), k0, k2, k3, by rw [hst'.out]; simpa using k4, by rw [hst'.out]; simpa using k5⟩
      · have hm0' : decide ((m : Int) = 0) = false := by simpa using hm0
        gi_wp2
        refine wpIn_any (w0 := we) ⟨[15], [], [some 37, some 38, some 39, some 40, some 41, some 42, some 43, some 44, some 45, some 46, some 47, some 48, some 49, some 50, some 51, none], [[], [], [1], [1, 2], [1, 2, 3], [], [1, 2, 3, 4, 5], [], [7], [7, 8], [7, 8, 9], [], [7, 8, 9, 10, 11], [1, 2, 3, 4, 5, 6, 7, 8, 9, 10, 11, 12], [0, 1, 2, 3, 4, 5, 6, 7, 8, 9, 10, 11, 12, 13], [0, 1, 2, 3, 4, 5, 6, 7, 8, 9, 10, 11, 12, 13, 14]], [[], [], [1], [2], [3], [], [4, 5], [], [7], [8], [9], [], [10, 11], [6, 12], [0], []]⟩ (fun _ => [w.heap.size + 4]) (by kernel_rfl) (by kernel_rfl) (by kernel_rfl) (by (exact zE)) (fun u => by simp only [putD, Act.put, List.setIfInBounds_toArray, List.set_cons_zero, List.set_cons_succ, Nat.zero_add, Nat.reduceAdd]; rfl) ?_
        apply RGW.on (i := 0) rfl
        · exact zG
        · intro γ u W hcur hd
          clear hd
          (try dsimp only)
          exact ⟨rfl, zS⟩
        · exact zC
        · rfl
        dsimp only [nA, cA]
        apply RGW.on (i := 1) rfl
        · exact zG
        · intro γ u W hcur hd
          clear hd
          (try dsimp only)
          exact ⟨rfl, zS⟩
        · exact zC
        · rfl
        dsimp only [nA, cA]
        apply RGW.on (i := 2) rfl
        · exact zG
        · intro γ u W hcur hd
          obtain ⟨⟨h1, -, -⟩, -⟩ := hd
          dsimp only at h1
          (try simp only [h1])
          exact ⟨rfl, zS⟩
        · exact zC
        · rfl
        dsimp only [nA, cA]
        apply RGW.on (i := 3) rfl
        · exact zG
        · intro γ u W hcur hd
          obtain ⟨⟨h2, -, -⟩, -⟩ := hd
          dsimp only at h2
          (try simp only [h2])
          exact ⟨rfl, zS⟩
        · exact zC
        · rfl
        dsimp only [nA, cA]
        apply RGW.on (i := 4) rfl
        · exact zG
        · intro γ u W hcur hd
          obtain ⟨⟨h3, -, -⟩, -⟩ := hd
          dsimp only at h3
          (try simp only [h3])
          exact ⟨rfl, zS⟩
        · exact zC
        · rfl
        dsimp only [nA, cA]
        apply RGW.on (i := 5) rfl
        · exact zG
        · intro γ u W hcur hd
          clear hd
          (try dsimp only)
          exact ⟨rfl, zS⟩
        · exact zC
        · rfl
        dsimp only [nA, cA]
        apply RGW.on (i := 6) rfl
        · exact zG
        · intro γ u W hcur hd
          obtain ⟨⟨h4, -, -⟩, ⟨h5, -, -⟩, -⟩ := hd
          dsimp only at h4 h5
          (try simp only [h4, h5])
          exact ⟨rfl, zS⟩
        · exact zC
        · rfl
        dsimp only [nA, cA]
        apply RGW.on (i := 7) rfl
        · exact zG
        · intro γ u W hcur hd
          clear hd
          (try dsimp only)
          exact ⟨rfl, zS⟩
        · exact zC
        · rfl
        dsimp only [nA, cA]
        apply RGW.on (i := 8) rfl
        · exact zG
        · intro γ u W hcur hd
          obtain ⟨⟨h7, -, -⟩, -⟩ := hd
          dsimp only at h7
          (try simp only [h7])
          exact ⟨rfl, zS⟩
        · exact zC
        · rfl
        dsimp only [nA, cA]
        apply RGW.on (i := 9) rfl
        · exact zG
        · intro γ u W hcur hd
          obtain ⟨⟨h8, -, -⟩, -⟩ := hd
          dsimp only at h8
          (try simp only [h8])
          exact ⟨rfl, zS⟩
        · exact zC
        · rfl
        dsimp only [nA, cA]
        apply RGW.on (i := 10) rfl
        · exact zG
        · intro γ u W hcur hd
          obtain ⟨⟨h9, -, -⟩, -⟩ := hd
          dsimp only at h9
          (try simp only [h9])
          exact ⟨rfl, zS⟩
        · exact zC
        · rfl
        dsimp only [nA, cA]
        apply RGW.on (i := 11) rfl
        · exact zG
        · intro γ u W hcur hd
          clear hd
          (try dsimp only)
          exact ⟨rfl, zS⟩
        · exact zC
        · rfl
        dsimp only [nA, cA]
        apply RGW.on (i := 12) rfl
        · exact zG
        · intro γ u W hcur hd
          obtain ⟨⟨h10, -, -⟩, ⟨h11, -, -⟩, -⟩ := hd
          dsimp only at h10 h11
          (try simp only [h10, h11])
          exact ⟨rfl, zS⟩
        · exact zC
        · rfl
        dsimp only [nA, cA]
        apply RGW.on (i := 13) rfl
        · exact zG
        · intro γ u W hcur hd
          obtain ⟨⟨h6, -, -⟩, ⟨h12, -, -⟩, -⟩ := hd
          dsimp only at h6 h12
          (try simp only [h6, h12])
          exact ⟨rfl, zS⟩
        · exact zC
        · rfl
        dsimp only [nA, cA]
        apply RGW.on (i := 14) rfl
        · exact zG
        · intro γ u W hcur hd
          obtain ⟨⟨h0, -, -⟩, -⟩ := hd
          dsimp only at h0
          (try simp only [h0])
          exact ⟨rfl, zS⟩
        · exact zC
        · rfl
        dsimp only [nA, cA]
        refine RGW.skip (i := 15) rfl rfl ?_
        dsimp only [nA, cA]
        refine RGW.fin (fun γ u y10 hy10 hd hdis => ?_)
        obtain ⟨⟨h0, -, -⟩, ⟨h1, -, -⟩, ⟨h2, -, -⟩, ⟨h3, -, -⟩, ⟨h4, -, -⟩, ⟨h5, -, -⟩, ⟨h6, -, -⟩, ⟨h7, -, -⟩, ⟨h8, -, -⟩, ⟨h9, -, -⟩, ⟨h10, -, -⟩, ⟨h11, -, -⟩, ⟨h12, -, -⟩, ⟨h13, -, -⟩, ⟨h14, -, -⟩, -⟩ := hd
        dsimp only at h0 h1 h2 h3 h4 h5 h6 h7 h8 h9 h10 h11 h12 h13 h14
        clear hdis
        simp only [h0, h1, h2, h3, h4, h5, h6, h7, h8, h9, h10, h11, h12, h13, h14]
        clear h14 h13 h12 h11 h10 h9 h8 h7 h6 h5 h4 h3 h2 h1 h0
        clear u
        simp only [List.map_cons, List.map_nil]
        apply PlanW.step
        · exact zG
        · rfl
        intro K hK
        go_simp
        refine hK.out _ _ (by (exact zX)) (fun hcur => ?_)
        clear hK K
        try simp only [Act.put, List.setIfInBounds_toArray, List.set_cons_zero, List.set_cons_succ]
        refine PlanW.done ?_
        refine only_done ?_
        have hb3x := bx_tt hy10
        have hb3 := bl_tt hy10
        have hb3y := bx_tt hy10 _ _ hb0
        gi_wp2
        apply absJK6 (X := [w.heap.size + 4, w.heap.size + 5]) (w0 := wb) (g0 := w.heap.size) (g1 := w.heap.size + 2) (g2 := w.heap.size + 3) (g3 := w.heap.size + 4) (g4 := w.heap.size + 5) (g5 := W.heap.size)
        iterate 7 (focus exact zL)
        try clear hb3
        try clear hb3x
        try clear hb0
        try clear k0
        try clear k2
        try clear k3
        try clear k4
        try clear k5
        try clear k9
        intro z10 hb0 k0 k2 k3 k4 k5 k9
        (try simp only [List.setIfInBounds_toArray, List.set_cons_zero, List.set_cons_succ] at k0 k2 k3 k4 k5 k9)
        have Lk0 := k0.later
        have Fk0 := k0.laterF
        have Qk0 := k0.lt
        have Lk2 := k2.later
        have Fk2 := k2.laterF
        have Qk2 := k2.lt
        have Lk3 := k3.later
        have Fk3 := k3.laterF
        have Qk3 := k3.lt
        have Lk4 := k4.later
        have Fk4 := k4.laterF
        have Qk4 := k4.lt
        have Lk5 := k5.later
        have Fk5 := k5.laterF
        have Qk5 := k5.lt
        have Lk9 := k9.later
        have Fk9 := k9.laterF
        have Qk9 := k9.lt
        rw [roundsIn_succ]
        gi_wp2
        apply absIK6 (X := [w.heap.size + 4, w.heap.size + 5]) (w0 := wb) (g0 := w.heap.size) (g1 := w.heap.size + 2) (g2 := w.heap.size + 3) (g3 := w.heap.size + 4) (g4 := w.heap.size + 5) (g5 := W.heap.size)
        iterate 7 (focus exact zL)
        try clear hb3
        try clear hb3x
        try clear Lk0
        try clear Fk0
        try clear Qk0
        try clear Lk2
        try clear Fk2
        try clear Qk2
        try clear Lk3
        try clear Fk3
        try clear Qk3
        try clear Lk4
        try clear Fk4
        try clear Qk4
        try clear Lk5
        try clear Fk5
        try clear Qk5
        try clear Lk9
        try clear Fk9
        try clear Qk9
        try clear hb0
        try clear k0
        try clear k2
        try clear k3
        try clear k4
        try clear k5
        try clear k9
        intro x11 hb0 k0 k2 k3 k4 k5 k9
        (try simp only [List.setIfInBounds_toArray, List.set_cons_zero, List.set_cons_succ] at k0 k2 k3 k4 k5 k9)
        have Lk0 := k0.later
        have Fk0 := k0.laterF
        have Qk0 := k0.lt
        have Lk2 := k2.later
        have Fk2 := k2.laterF
        have Qk2 := k2.lt
        have Lk3 := k3.later
        have Fk3 := k3.laterF
        have Qk3 := k3.lt
        have Lk4 := k4.later
        have Fk4 := k4.laterF
        have Qk4 := k4.lt
        have Lk5 := k5.later
        have Fk5 := k5.laterF
        have Qk5 := k5.lt
        have Lk9 := k9.later
        have Fk9 := k9.laterF
        have Qk9 := k9.lt
        refine wpIn_any (w0 := x11) ⟨[15], [], [some 37, some 38, some 39, some 40, some 41, some 42, some 43, some 44, some 45, some 46, some 47, some 48, some 49, some 50, some 51, none], [[], [], [1], [1, 2], [1, 2, 3], [], [1, 2, 3, 4, 5], [], [7], [7, 8], [7, 8, 9], [], [7, 8, 9, 10, 11], [1, 2, 3, 4, 5, 6, 7, 8, 9, 10, 11, 12], [0, 1, 2, 3, 4, 5, 6, 7, 8, 9, 10, 11, 12, 13], [0, 1, 2, 3, 4, 5, 6, 7, 8, 9, 10, 11, 12, 13, 14]], [[], [], [1], [2], [3], [], [4, 5], [], [7], [8], [9], [], [10, 11], [6, 12], [0], []]⟩ (fun _ => [w.heap.size + 4]) (by kernel_rfl) (by kernel_rfl) (by kernel_rfl) (by (exact zE)) (fun u => by simp only [putD, Act.put, List.setIfInBounds_toArray, List.set_cons_zero, List.set_cons_succ, Nat.zero_add, Nat.reduceAdd]; rfl) ?_
        apply RGW.on (i := 0) rfl
        · exact zG
        · intro γ u W hcur hd
          clear hd
          (try dsimp only)
          exact ⟨rfl, zS⟩
        · exact zC
        · rfl
        dsimp only [nA, cA]
        apply RGW.on (i := 1) rfl
        · exact zG
        · intro γ u W hcur hd
          clear hd
          (try dsimp only)
          exact ⟨rfl, zS⟩
        · exact zC
        · rfl
        dsimp only [nA, cA]
        apply RGW.on (i := 2) rfl
        · exact zG
        · intro γ u W hcur hd
          obtain ⟨⟨h1, -, -⟩, -⟩ := hd
          dsimp only at h1
          (try simp only [h1])
          exact ⟨rfl, zS⟩
        · exact zC
        · rfl
        dsimp only [nA, cA]
        apply RGW.on (i := 3) rfl
        · exact zG
        · intro γ u W hcur hd
          obtain ⟨⟨h2, -, -⟩, -⟩ := hd
          dsimp only at h2
          (try simp only [h2])
          exact ⟨rfl, zS⟩
        · exact zC
        · rfl
        dsimp only [nA, cA]
        apply RGW.on (i := 4) rfl
        · exact zG
        · intro γ u W hcur hd
          obtain ⟨⟨h3, -, -⟩, -⟩ := hd
          dsimp only at h3
          (try simp only [h3])
          exact ⟨rfl, zS⟩
        · exact zC
        · rfl
        dsimp only [nA, cA]
        apply RGW.on (i := 5) rfl
        · exact zG
        · intro γ u W hcur hd
          clear hd
          (try dsimp only)
          exact ⟨rfl, zS⟩
        · exact zC
        · rfl
        dsimp only [nA, cA]
        apply RGW.on (i := 6) rfl
        · exact zG
        · intro γ u W hcur hd
          obtain ⟨⟨h4, -, -⟩, ⟨h5, -, -⟩, -⟩ := hd
          dsimp only at h4 h5
          (try simp only [h4, h5])
          exact ⟨rfl, zS⟩
        · exact zC
        · rfl
        dsimp only [nA, cA]
        apply RGW.on (i := 7) rfl
        · exact zG
        · intro γ u W hcur hd
          clear hd
          (try dsimp only)
          exact ⟨rfl, zS⟩
        · exact zC
        · rfl
        dsimp only [nA, cA]
        apply RGW.on (i := 8) rfl
        · exact zG
        · intro γ u W hcur hd
          obtain ⟨⟨h7, -, -⟩, -⟩ := hd
          dsimp only at h7
          (try simp only [h7])
          exact ⟨rfl, zS⟩
        · exact zC
        · rfl
        dsimp only [nA, cA]
        apply RGW.on (i := 9) rfl
        · exact zG
        · intro γ u W hcur hd
          obtain ⟨⟨h8, -, -⟩, -⟩ := hd
          dsimp only at h8
          (try simp only [h8])
          exact ⟨rfl, zS⟩
        · exact zC
        · rfl
        dsimp only [nA, cA]
        apply RGW.on (i := 10) rfl
        · exact zG
        · intro γ u W hcur hd
          obtain ⟨⟨h9, -, -⟩, -⟩ := hd
          dsimp only at h9
          (try simp only [h9])
          exact ⟨rfl, zS⟩
        · exact zC
        · rfl
        dsimp only [nA, cA]
        apply RGW.on (i := 11) rfl
        · exact zG
        · intro γ u W hcur hd
          clear hd
          (try dsimp only)
          exact ⟨rfl, zS⟩
        · exact zC
        · rfl
        dsimp only [nA, cA]
        apply RGW.on (i := 12) rfl
        · exact zG
        · intro γ u W hcur hd
          obtain ⟨⟨h10, -, -⟩, ⟨h11, -, -⟩, -⟩ := hd
          dsimp only at h10 h11
          (try simp only [h10, h11])
          exact ⟨rfl, zS⟩
        · exact zC
        · rfl
        dsimp only [nA, cA]
        apply RGW.on (i := 13) rfl
        · exact zG
        · intro γ u W hcur hd
          obtain ⟨⟨h6, -, -⟩, ⟨h12, -, -⟩, -⟩ := hd
          dsimp only at h6 h12
          (try simp only [h6, h12])
          exact ⟨rfl, zS⟩
        · exact zC
        · rfl
        dsimp only [nA, cA]
        apply RGW.on (i := 14) rfl
        · exact zG
        · intro γ u W hcur hd
          obtain ⟨⟨h0, -, -⟩, -⟩ := hd
          dsimp only at h0
          (try simp only [h0])
          exact ⟨rfl, zS⟩
        · exact zC
        · rfl
        dsimp only [nA, cA]
        refine RGW.skip (i := 15) rfl rfl ?_
        dsimp only [nA, cA]
        refine RGW.fin (fun γ u y11 hy11 hd hdis => ?_)
        obtain ⟨⟨h0, -, -⟩, ⟨h1, -, -⟩, ⟨h2, -, -⟩, ⟨h3, -, -⟩, ⟨h4, -, -⟩, ⟨h5, -, -⟩, ⟨h6, -, -⟩, ⟨h7, -, -⟩, ⟨h8, -, -⟩, ⟨h9, -, -⟩, ⟨h10, -, -⟩, ⟨h11, -, -⟩, ⟨h12, -, -⟩, ⟨h13, -, -⟩, ⟨h14, -, -⟩, -⟩ := hd
        dsimp only at h0 h1 h2 h3 h4 h5 h6 h7 h8 h9 h10 h11 h12 h13 h14
        clear hdis
        simp only [h0, h1, h2, h3, h4, h5, h6, h7, h8, h9, h10, h11, h12, h13, h14]
        clear h14 h13 h12 h11 h10 h9 h8 h7 h6 h5 h4 h3 h2 h1 h0
        clear u
        simp only [List.map_cons, List.map_nil]
        apply PlanW.step
        · exact zG
        · rfl
        intro K hK
        go_simp
        refine hK.out _ _ (by (exact zX)) (fun hcur => ?_)
        clear hK K
        try simp only [Act.put, List.setIfInBounds_toArray, List.set_cons_zero, List.set_cons_succ]
        refine PlanW.done ?_
        refine only_done ?_
        have hb3x := bx_tt hy11
        have hb3 := bl_tt hy11
        have hb3y := bx_tt hy11 _ _ hb0
        gi_wp2
        apply absJK6 (X := [w.heap.size + 4, w.heap.size + 5]) (w0 := wb) (g0 := w.heap.size) (g1 := w.heap.size + 2) (g2 := w.heap.size + 3) (g3 := w.heap.size + 4) (g4 := w.heap.size + 5) (g5 := W.heap.size)
        iterate 7 (focus exact zL)
        try clear hb3
        try clear hb3x
        try clear Lk0
        try clear Fk0
        try clear Qk0
        try clear Lk2
        try clear Fk2
        try clear Qk2
        try clear Lk3
        try clear Fk3
        try clear Qk3
        try clear Lk4
        try clear Fk4
        try clear Qk4
        try clear Lk5
        try clear Fk5
        try clear Qk5
        try clear Lk9
        try clear Fk9
        try clear Qk9
        try clear hb0
        try clear k0
        try clear k2
        try clear k3
        try clear k4
        try clear k5
        try clear k9
        intro z11 hb0 k0 k2 k3 k4 k5 k9
        (try simp only [List.setIfInBounds_toArray, List.set_cons_zero, List.set_cons_succ] at k0 k2 k3 k4 k5 k9)
        have Lk0 := k0.later
        have Fk0 := k0.laterF
        have Qk0 := k0.lt
        have Lk2 := k2.later
        have Fk2 := k2.laterF
        have Qk2 := k2.lt
        have Lk3 := k3.later
        have Fk3 := k3.laterF
        have Qk3 := k3.lt
        have Lk4 := k4.later
        have Fk4 := k4.laterF
        have Qk4 := k4.lt
        have Lk5 := k5.later
        have Fk5 := k5.laterF
        have Qk5 := k5.lt
        have Lk9 := k9.later
        have Fk9 := k9.laterF
        have Qk9 := k9.lt
        rw [roundsIn_succ]
        gi_wp2
        apply absIK6 (X := [w.heap.size + 4, w.heap.size + 5]) (w0 := wb) (g0 := w.heap.size) (g1 := w.heap.size + 2) (g2 := w.heap.size + 3) (g3 := w.heap.size + 4) (g4 := w.heap.size + 5) (g5 := W.heap.size)
        iterate 7 (focus exact zL)
        try clear hb3
        try clear hb3x
        try clear Lk0
        try clear Fk0
        try clear Qk0
        try clear Lk2
        try clear Fk2
        try clear Qk2
        try clear Lk3
        try clear Fk3
        try clear Qk3
        try clear Lk4
        try clear Fk4
        try clear Qk4
        try clear Lk5
        try clear Fk5
        try clear Qk5
        try clear Lk9
        try clear Fk9
        try clear Qk9
        try clear hb0
        try clear k0
        try clear k2
        try clear k3
        try clear k4
        try clear k5
        try clear k9
        intro x12 hb0 k0 k2 k3 k4 k5 k9
        (try simp only [List.setIfInBounds_toArray, List.set_cons_zero, List.set_cons_succ] at k0 k2 k3 k4 k5 k9)
        have Lk0 := k0.later
        have Fk0 := k0.laterF
        have Qk0 := k0.lt
        have Lk2 := k2.later
        have Fk2 := k2.laterF
        have Qk2 := k2.lt
        have Lk3 := k3.later
        have Fk3 := k3.laterF
        have Qk3 := k3.lt
        have Lk4 := k4.later
        have Fk4 := k4.laterF
        have Qk4 := k4.lt
        have Lk5 := k5.later
        have Fk5 := k5.laterF
        have Qk5 := k5.lt
        have Lk9 := k9.later
        have Fk9 := k9.laterF
        have Qk9 := k9.lt
        refine wpIn_any (w0 := x12) ⟨[15], [], [some 37, some 38, some 39, some 40, some 41, some 42, some 43, some 44, some 45, some 46, some 47, some 48, some 49, some 50, some 51, none], [[], [], [1], [1, 2], [1, 2, 3], [], [1, 2, 3, 4, 5], [], [7], [7, 8], [7, 8, 9], [], [7, 8, 9, 10, 11], [1, 2, 3, 4, 5, 6, 7, 8, 9, 10, 11, 12], [0, 1, 2, 3, 4, 5, 6, 7, 8, 9, 10, 11, 12, 13], [0, 1, 2, 3, 4, 5, 6, 7, 8, 9, 10, 11, 12, 13, 14]], [[], [], [1], [2], [3], [], [4, 5], [], [7], [8], [9], [], [10, 11], [6, 12], [0], []]⟩ (fun _ => [w.heap.size + 4]) (by kernel_rfl) (by kernel_rfl) (by kernel_rfl) (by (exact zE)) (fun u => by simp only [putD, Act.put, List.setIfInBounds_toArray, List.set_cons_zero, List.set_cons_succ, Nat.zero_add, Nat.reduceAdd]; rfl) ?_
        apply RGW.on (i := 0) rfl
        · exact zG
        · intro γ u W hcur hd
          clear hd
          (try dsimp only)
          exact ⟨rfl, zS⟩
        · exact zC
        · rfl
        dsimp only [nA, cA]
        apply RGW.on (i := 1) rfl
        · exact zG
        · intro γ u W hcur hd
          clear hd
          (try dsimp only)
          exact ⟨rfl, zS⟩
        · exact zC
        · rfl
        dsimp only [nA, cA]
        apply RGW.on (i := 2) rfl
        · exact zG
        · intro γ u W hcur hd
          obtain ⟨⟨h1, -, -⟩, -⟩ := hd
          dsimp only at h1
          (try simp only [h1])
          exact ⟨rfl, zS⟩
        · exact zC
        · rfl
        dsimp only [nA, cA]
        apply RGW.on (i := 3) rfl
        · exact zG
        · intro γ u W hcur hd
          obtain ⟨⟨h2, -, -⟩, -⟩ := hd
          dsimp only at h2
          (try simp only [h2])
          exact ⟨rfl, zS⟩
        · exact zC
        · rfl
        dsimp only [nA, cA]
        apply RGW.on (i := 4) rfl
        · exact zG
        · intro γ u W hcur hd
          obtain ⟨⟨h3, -, -⟩, -⟩ := hd
          dsimp only at h3
          (try simp only [h3])
          exact ⟨rfl, zS⟩
        · exact zC
        · rfl
        dsimp only [nA, cA]
        apply RGW.on (i := 5) rfl
        · exact zG
        · intro γ u W hcur hd
          clear hd
          (try dsimp only)
          exact ⟨rfl, zS⟩
        · exact zC
        · rfl
        dsimp only [nA, cA]
        apply RGW.on (i := 6) rfl
        · exact zG
        · intro γ u W hcur hd
          obtain ⟨⟨h4, -, -⟩, ⟨h5, -, -⟩, -⟩ := hd
          dsimp only at h4 h5
          (try simp only [h4, h5])
          exact ⟨rfl, zS⟩
        · exact zC
        · rfl
        dsimp only [nA, cA]
        apply RGW.on (i := 7) rfl
        · exact zG
        · intro γ u W hcur hd
          clear hd
          (try dsimp only)
          exact ⟨rfl, zS⟩
        · exact zC
        · rfl
        dsimp only [nA, cA]
        apply RGW.on (i := 8) rfl
        · exact zG
        · intro γ u W hcur hd
          obtain ⟨⟨h7, -, -⟩, -⟩ := hd
          dsimp only at h7
          (try simp only [h7])
          exact ⟨rfl, zS⟩
        · exact zC
        · rfl
        dsimp only [nA, cA]
        apply RGW.on (i := 9) rfl
        · exact zG
        · intro γ u W hcur hd
          obtain ⟨⟨h8, -, -⟩, -⟩ := hd
          dsimp only at h8
          (try simp only [h8])
          exact ⟨rfl, zS⟩
        · exact zC
        · rfl
        dsimp only [nA, cA]
        apply RGW.on (i := 10) rfl
        · exact zG
        · intro γ u W hcur hd
          obtain ⟨⟨h9, -, -⟩, -⟩ := hd
          dsimp only at h9
          (try simp only [h9])
          exact ⟨rfl, zS⟩
        · exact zC
        · rfl
        dsimp only [nA, cA]
        apply RGW.on (i := 11) rfl
        · exact zG
        · intro γ u W hcur hd
          clear hd
          (try dsimp only)
          exact ⟨rfl, zS⟩
        · exact zC
        · rfl
        dsimp only [nA, cA]
        apply RGW.on (i := 12) rfl
        · exact zG
        · intro γ u W hcur hd
          obtain ⟨⟨h10, -, -⟩, ⟨h11, -, -⟩, -⟩ := hd
          dsimp only at h10 h11
          (try simp only [h10, h11])
          exact ⟨rfl, zS⟩
        · exact zC
        · rfl
        dsimp only [nA, cA]
        apply RGW.on (i := 13) rfl
        · exact zG
        · intro γ u W hcur hd
          obtain ⟨⟨h6, -, -⟩, ⟨h12, -, -⟩, -⟩ := hd
          dsimp only at h6 h12
          (try simp only [h6, h12])
          exact ⟨rfl, zS⟩
        · exact zC
        · rfl
        dsimp only [nA, cA]
        apply RGW.on (i := 14) rfl
        · exact zG
        · intro γ u W hcur hd
          obtain ⟨⟨h0, -, -⟩, -⟩ := hd
          dsimp only at h0
          (try simp only [h0])
          exact ⟨rfl, zS⟩
        · exact zC
        · rfl
        dsimp only [nA, cA]
        refine RGW.skip (i := 15) rfl rfl ?_
        dsimp only [nA, cA]
        refine RGW.fin (fun γ u y12 hy12 hd hdis => ?_)
        obtain ⟨⟨h0, -, -⟩, ⟨h1, -, -⟩, ⟨h2, -, -⟩, ⟨h3, -, -⟩, ⟨h4, -, -⟩, ⟨h5, -, -⟩, ⟨h6, -, -⟩, ⟨h7, -, -⟩, ⟨h8, -, -⟩, ⟨h9, -, -⟩, ⟨h10, -, -⟩, ⟨h11, -, -⟩, ⟨h12, -, -⟩, ⟨h13, -, -⟩, ⟨h14, -, -⟩, -⟩ := hd
        dsimp only at h0 h1 h2 h3 h4 h5 h6 h7 h8 h9 h10 h11 h12 h13 h14
        clear hdis
        simp only [h0, h1, h2, h3, h4, h5, h6, h7, h8, h9, h10, h11, h12, h13, h14]
        clear h14 h13 h12 h11 h10 h9 h8 h7 h6 h5 h4 h3 h2 h1 h0
        clear u
        simp only [List.map_cons, List.map_nil]
        apply PlanW.step
        · exact zG
        · rfl
        intro K hK
        go_simp
        refine hK.out _ _ (by (exact zX)) (fun hcur => ?_)
        clear hK K
        try simp only [Act.put, List.setIfInBounds_toArray, List.set_cons_zero, List.set_cons_succ]
        refine PlanW.done ?_
        refine only_done ?_
        have hb3x := bx_tt hy12
        have hb3 := bl_tt hy12
        have hb3y := bx_tt hy12 _ _ hb0
        gi_wp2
        apply absJK6 (X := [w.heap.size + 4, w.heap.size + 5]) (w0 := wb) (g0 := w.heap.size) (g1 := w.heap.size + 2) (g2 := w.heap.size + 3) (g3 := w.heap.size + 4) (g4 := w.heap.size + 5) (g5 := W.heap.size)
        iterate 7 (focus exact zL)
        try clear hb3
        try clear hb3x
        try clear Lk0
        try clear Fk0
        try clear Qk0
        try clear Lk2
        try clear Fk2
        try clear Qk2
        try clear Lk3
        try clear Fk3
        try clear Qk3
        try clear Lk4
        try clear Fk4
        try clear Qk4
        try clear Lk5
        try clear Fk5
        try clear Qk5
        try clear Lk9
        try clear Fk9
        try clear Qk9
        try clear hb0
        try clear k0
        try clear k2
        try clear k3
        try clear k4
        try clear k5
        try clear k9
        intro z12 hb0 k0 k2 k3 k4 k5 k9
        (try simp only [List.setIfInBounds_toArray, List.set_cons_zero, List.set_cons_succ] at k0 k2 k3 k4 k5 k9)
        have Lk0 := k0.later
        have Fk0 := k0.laterF
        have Qk0 := k0.lt
        have Lk2 := k2.later
        have Fk2 := k2.laterF
        have Qk2 := k2.lt
        have Lk3 := k3.later
        have Fk3 := k3.laterF
        have Qk3 := k3.lt
        have Lk4 := k4.later
        have Fk4 := k4.laterF
        have Qk4 := k4.lt
        have Lk5 := k5.later
        have Fk5 := k5.laterF
        have Qk5 := k5.lt
        have Lk9 := k9.later
        have Fk9 := k9.laterF
        have Qk9 := k9.lt
        rw [roundsIn_succ]
        gi_wp2
        apply goesK6 (X := [w.heap.size + 4, w.heap.size + 5]) (w0 := wb) (g0 := w.heap.size) (g1 := w.heap.size + 2) (g2 := w.heap.size + 3) (g3 := w.heap.size + 4) (g4 := w.heap.size + 5) (g5 := W.heap.size)
        iterate 7 (focus exact zL)
        try clear hb3
        try clear hb3x
        try clear Lk0
        try clear Fk0
        try clear Qk0
        try clear Lk2
        try clear Fk2
        try clear Qk2
        try clear Lk3
        try clear Fk3
        try clear Qk3
        try clear Lk4
        try clear Fk4
        try clear Qk4
        try clear Lk5
        try clear Fk5
        try clear Qk5
        try clear Lk9
        try clear Fk9
        try clear Qk9
        try clear hb0
        try clear k0
        try clear k2
        try clear k3
        try clear k4
        try clear k5
        try clear k9
        intro u1 hb0 k0 k2 k3 k4 k5 k9
        (try simp only [List.setIfInBounds_toArray, List.set_cons_zero, List.set_cons_succ] at k0 k2 k3 k4 k5 k9)
        exact ⟨hb0, bx_below hbw hb0 (by simp), k0, k2, k3, by rw [hst'.out, if_neg hm0]; simpa [Bx.join, Rg.join] using k4, by rw [hst'.out]; simpa using k5⟩
    · have hst' : Hid (votesOf ok (pre ++ [⟨px, py, pz⟩]) = (o, m)) := by rw [hst.out, if_neg (by simpa using hc)]; exact Lib.hid rfl
      have hgt : decide (k < (popc fp : Int)) = true := by simp; omega
      clear hst
      gi_wp2
      refine wpIn_any (w0 := wb) ⟨[], [], [some 16, some 17, some 18, some 19, some 20, some 21, some 22, some 23, some 24], [[], [], [1], [], [0, 1, 2, 3], [0, 1, 2, 3, 4], [], [6], [0, 1, 2, 3, 4, 5, 6, 7]], [[], [], [1], [], [0, 2, 3], [4], [], [6], [5, 7]]⟩ (fun _ => []) (by kernel_rfl) (by kernel_rfl) (by kernel_rfl) (by (exact zE)) (fun u => by simp only [putD, Act.put, List.setIfInBounds_toArray, List.set_cons_zero, List.set_cons_succ, Nat.zero_add, Nat.reduceAdd]; rfl) ?_
      apply RGW.on (i := 0) rfl
      · exact zG
      · intro γ u W hcur hd
        clear hd
        (try dsimp only)
        exact ⟨rfl, zS⟩
      · exact zC
      · rfl
      dsimp only [nA, cA]
      apply RGW.on (i := 1) rfl
      · exact zG
      · intro γ u W hcur hd
        clear hd
        (try dsimp only)
        exact ⟨rfl, zS⟩
      · exact zC
      · rfl
      dsimp only [nA, cA]
      apply RGW.on (i := 2) rfl
      · exact zG
      · intro γ u W hcur hd
        obtain ⟨⟨h1, -, -⟩, -⟩ := hd
        dsimp only at h1
        (try simp only [h1])
        exact ⟨rfl, zS⟩
      · exact zC
      · rfl
      dsimp only [nA, cA]
      apply RGW.on (i := 3) rfl
      · exact zG
      · intro γ u W hcur hd
        clear hd
        (try dsimp only)
        exact ⟨rfl, zS⟩
      · exact zC
      · rfl
      dsimp only [nA, cA]
      apply RGW.call (i := 4) rfl
      · exact zG
      · intro γ u W hcur hd
        obtain ⟨⟨h0, -, -⟩, ⟨h2, -, -⟩, ⟨h3, -, -⟩, -⟩ := hd
        dsimp only at h0 h2 h3
        (try simp only [h0, h2, h3])
        refine ⟨rfl, fun K hK => ?_⟩
        go_simp
        (go_at_call 73; (with_reducible refine (hcp.out _ (by (exact zE))).mono ?_); rintro e w3 ⟨rfl, hb3⟩; replace hb3 := bl_tt hb3)
        (try dsimp only)
        exact hK.out _ _ rfl (by (exact zE))
      · exact zC
      · rfl
      dsimp only [nA, cA]
      apply RGW.call (i := 5) rfl
      · exact zG
      · intro γ u W hcur hd
        obtain ⟨⟨h4, -, -⟩, -⟩ := hd
        dsimp only at h4
        (try simp only [h4])
        refine ⟨rfl, fun K hK => ?_⟩
        go_simp
        (go_at_call 106; (with_reducible refine (c_Ones _ _ hfp).mono ?_); rintro e w3 ⟨rfl, rfl⟩)
        (try dsimp only)
        exact hK.out _ _ rfl (by (exact zE))
      · exact zC
      · rfl
      dsimp only [nA, cA]
      apply RGW.on (i := 6) rfl
      · exact zG
      · intro γ u W hcur hd
        clear hd
        (try dsimp only)
        exact ⟨rfl, zS⟩
      · exact zC
      · rfl
      dsimp only [nA, cA]
      apply RGW.on (i := 7) rfl
      · exact zG
      · intro γ u W hcur hd
        obtain ⟨⟨h6, -, -⟩, -⟩ := hd
        dsimp only at h6
        (try simp only [h6])
        exact ⟨rfl, zS⟩
      · exact zC
      · rfl
      dsimp only [nA, cA]
      apply RGW.on (i := 8) rfl
      · exact zG
      · intro γ u W hcur hd
        obtain ⟨⟨h5, -, -⟩, ⟨h7, -, -⟩, -⟩ := hd
        dsimp only at h5 h7
        (try simp only [h5, h7])
        exact ⟨rfl, zS⟩
      · exact zC
      · rfl
      dsimp only [nA, cA]
      refine RGW.fin (fun γ u wc hwc hd hdis => ?_)
      obtain ⟨⟨h0, -, -⟩, ⟨h1, -, -⟩, ⟨h2, -, -⟩, ⟨h3, -, -⟩, ⟨h4, -, -⟩, ⟨h5, -, -⟩, ⟨h6, -, -⟩, ⟨h7, -, -⟩, ⟨h8, -, -⟩, -⟩ := hd
      dsimp only at h0 h1 h2 h3 h4 h5 h6 h7 h8
      clear hdis
      simp only [h0, h1, h2, h3, h4, h5, h6, h7, h8]
      clear h8 h7 h6 h5 h4 h3 h2 h1 h0
      clear u
      simp only [List.map_nil]
      refine PlanW.done ?_
      refine only_done ?_
      have hb3x := bx_tt hwc
      have hb3 := bl_tt hwc
      have hb0 := hbx
      apply absTK6 (X := [w.heap.size + 4, w.heap.size + 5]) (w0 := wb) (g0 := w.heap.size) (g1 := w.heap.size + 2) (g2 := w.heap.size + 3) (g3 := w.heap.size + 4) (g4 := w.heap.size + 5) (g5 := W.heap.size)
      iterate 7 (focus exact zL)
      try clear hb3
      try clear hb3x
      try clear hb0
      try clear k0
      try clear k2
      try clear k3
      try clear k4
      try clear k5
      try clear k9
      intro we hb0 k0 k2 k3 k4 k5 k9
      (try simp only [List.setIfInBounds_toArray, List.set_cons_zero, List.set_cons_succ] at k0 k2 k3 k4 k5 k9)
      gi_wp2
      exact ⟨hb0, bx_below hbw hb0 (by simp), k0, k2, k3, by rw [hst'.out]; exact k4, by rw [hst'.out]; exact k5⟩
  case done =>
    clear k0 k2 k3 k4 k5 hb0
    rintro W ⟨hb0, k0, k2, k3, k4, k5⟩ hK
    generalize votesOf ok a.pts = s at *
    obtain ⟨o, m⟩ := s
    dsimp only at k4 k5 ⊢
    have Lk0 := k0.later
    have Fk0 := k0.laterF
    have Qk0 := k0.lt
    have Lk2 := k2.later
    have Fk2 := k2.laterF
    have Qk2 := k2.lt
    have Lk3 := k3.later
    have Fk3 := k3.laterF
    have Qk3 := k3.lt
    have Lk4 := k4.later
    have Fk4 := k4.laterF
    have Qk4 := k4.lt
    have Lk5 := k5.later
    have Fk5 := k5.laterF
    have Qk5 := k5.lt
    go_wp2
    refine wp_any (w0 := W) ⟨[2, 3], [1], [some 55, some 56, none, none], [[], [], [0], [0, 1, 2]], [[], [], [], []]⟩ (fun _ => [w.heap.size + 3]) (by kernel_rfl) (by kernel_rfl) (by (exact zE)) (fun u => by simp only [putD, Act.put, List.setIfInBounds_toArray, List.set_cons_zero, List.set_cons_succ, Nat.zero_add, Nat.reduceAdd]; rfl) ?_
    apply RGW.on (i := 0) rfl
    · exact zG
    · intro γ u W hcur hd
      clear hd
      (try dsimp only)
      exact ⟨rfl, zS⟩
    · exact zC
    · rfl
    dsimp only [nA, cA]
    apply RGW.onL (i := 1) rfl
    · exact zG
    · intro γ u Wm W hcur hd hX
      clear hd
      (try dsimp only)
      have Mk0 := (Blk.below k0 hcur).laterN _ _ hX
      have Mk2 := (Blk.below k2 hcur).laterN _ _ hX
      have Mk3 := (Blk.below k3 hcur).laterN _ _ hX
      have Mk4 := (Blk.below k4 hcur).laterN _ _ hX
      have Mk5 := (Blk.below k5 hcur).laterN _ _ hX
      exact ⟨rfl, zS⟩
    · exact zC
    dsimp only [nA, cA]
    refine RGW.skip (i := 2) rfl rfl ?_
    dsimp only [nA, cA]
    refine RGW.skip (i := 3) rfl rfl ?_
    dsimp only [nA, cA]
    refine RGW.fin (fun γ u we hwe hd hdis => ?_)
    obtain ⟨⟨h0, -, -⟩, ⟨h1, -, -⟩, -⟩ := hd
    dsimp only at h0 h1
    clear hdis
    simp only [h0, h1]
    clear h1 h0
    clear u
    simp only [List.map_cons, List.map_nil]
    apply PlanW.step
    · exact zG
    · rfl
    intro K hK
    refine wp_store_keep (X := [w.heap.size + 3]) (w0 := we) rfl rfl rfl (by with_reducible first | exact bx_refl _ _ | assumption) (by with_reducible first | assumption | (apply Blk.below (hb := hwe); assumption)) (by simp) (by kernel_rfl) (by rfl) (by simp [Value.oneCell']) (fun hres1 hcur => ?_)
    refine hK.out _ _ hcur (fun _ => ?_)
    clear hK K
    try simp only [Act.put, List.setIfInBounds_toArray, List.set_cons_zero, List.set_cons_succ]
    apply PlanW.step
    · exact zG
    · rfl
    intro K hK
    go_simp
    refine hK.out _ _ (by (exact zX)) (fun hcur => ?_)
    clear hK K
    try simp only [Act.put, List.setIfInBounds_toArray, List.set_cons_zero, List.set_cons_succ]
    refine PlanW.done ?_
    have hb3 := bl_tt hwe
    have hK2 := (hwe.block _ (Array.getElem?_eq_some_iff.1 hK).1).trans hK
    go_wp2
    have hlt := (Array.getElem?_eq_some_iff.1 hK2).1
    have hK3 := (hcur.block wa.heap.size hlt (by simp; omega)).trans hK2
    have hck := CK.put (D := w.heap.size) (.deferred none) hK3 rfl hD
    have hr := (hck.blk hres1).cell
    have hbe := hck.belowOf (Nat.le_refl _) (bx_below (hb3 w hb0) hcur (by simp))
    refine ⟨by simp, .inl ⟨_, _, rfl, run_takeDeferred hK3, ?_⟩⟩
    refine ⟨_, ?_, rfl, hbe⟩
    simp [results, Tryz.results90, go_sem, hr]
theorem c_vote (wd a : Bx) (bs : List Bc) (A A' : Option Addr) (c c' : Nat) (v : Vt) (w : World) (hs : Sl cBc 4 w A bs) (hlb : bs.length ≤ 1000) (hl : Sl cRd 4 w A' v.rs) (hll : v.rs.length ≤ 8)
    (ha : a.ok) (hsz : a.size ≤ 20000) (hr : ∀ r ∈ v.rs, r.ok bs) :
    Calls Tryz.prog 90 #[vON wd (.slice A bs.length c), vBx a, .agg #[.slice A' v.rs.length c', .int .i64 v.wrong]] w
      (Ret (.tuple #[vBx (votesOf (okB bs v.rs v.wrong) a.pts).1, .int .i64 (votesOf (okB bs v.rs v.wrong) a.pts).2]) w) :=
  c_vote0 wd a bs.length v.rs.length A A' c c' v.wrong (fun p => bitsTo (wrongB bs p v.rs) v.rs.length) _ w (fun W hb p hp => c_wrong wd bs A A' c c' v.rs p W (hs.below hb) hlb (hl.below hb) hll hp hr)
    (fun p => Nat.lt_of_lt_of_le (bitsTo_lt (wrongB bs p v.rs) v.rs.length) (Nat.pow_le_pow_right (by decide : 0 < 2) hll)) (fun _ => rfl) (fun p h => pts_in ha h) (by have := pts_size ha; omega)
    (by
      obtain ⟨⟨h1, h2, h3⟩, ⟨h4, h5, h6⟩, ⟨h7, h8, h9⟩⟩ := ha
      refine Lib.hid ⟨⟨?_, ?_, ?_, ?_⟩, ⟨?_, ?_, ?_, ?_⟩, ?_, ?_, ?_, ?_⟩ <;> omega)
end Go.Proofs.YtephimmamkafoaaGreat
