/-
  Walk: the law that each message is accepted once, and that no gap is left.
-/
import Derived.Test.YtdlmkblmljhbfaaDoorVOnce2
import Derived.Test.YtdlmkblmljhbfaaDoorVOnce1
namespace Go.Proofs.YtdlmkblmljhbfaaDoor
set_option linter.unusedSimpArgs false
set_option linter.unusedVariables false
open Go.RowKit Go.Shelf
attribute [local go_sem] bl_al bl_drew bl_drewN bl_refl bx_al bx_drew bx_drewN bx_refl
set_option maxRecDepth 20000
def cMs (m : Ms) : List Value := (aMs m).toList
/-- Three slices of frames of the call's own, in blocks of their own. -/
structure RF3 (D : Nat) (u v x : Value) (A B C : List Fr) (w : World) : Prop where
  a : w.ownsRow D 40 8 u A.length (A.flatMap cFr)
  b : w.ownsRow D 40 8 v B.length (B.flatMap cFr)
  c : w.ownsRow D 40 8 x C.length (C.flatMap cFr)
  ab : Dis u v
  ac : Dis u x
  bc : Dis v x
  ge : D ≤ w.heap.size
theorem RF3.nil {D : Nat} {w : World} (h : D ≤ w.heap.size) : RF3 D (.slice none 0 0) (.slice none 0 0) (.slice none 0 0) [] [] [] w :=
  ⟨World.ownsRow_nil _ _ _ _, World.ownsRow_nil _ _ _ _, World.ownsRow_nil _ _ _ _, dis_nil _, dis_nil _, dis_nil _, h⟩
theorem RF3.below {D : Nat} {u v x : Value} {A B C : List Fr} {w w' : World} (h : RF3 D u v x A B C w) (hb : Below w.heap.size w w') : RF3 D u v x A B C w' :=
  ⟨own_below h.a hb, own_below h.b hb, own_below h.c hb, h.ab, h.ac, h.bc, Nat.le_trans h.ge hb.size⟩
theorem RF3.appG {D : Nat} {u u' v x : Value} {A A' B C : List Fr} {w w' : World} (h : RF3 D u v x A B C w) (ho : w'.ownsRow D 40 8 u' A'.length (A'.flatMap cFr)) (hg : w.grownBy w' u.ownBlock)
    (hu : ∀ k, u'.ownBlock = some k → u.ownBlock = some k ∨ w.heap.size ≤ k) : RF3 D u' v x A' B C w' :=
  ⟨ho, kept2 (n := 0) (xs := []) h.b hg h.ab, kept2 (n := 0) (xs := []) h.c hg h.ac, dis_new h.b h.ab hu, dis_new h.c h.ac hu, h.bc, Nat.le_trans h.ge hg.size⟩
theorem not_ownL {u v : Value} (h : Dis u v) : ∀ k, v.ownBlock = some k → k ∉ ownL u := fun k hk hx => by
  unfold ownL at hx
  cases hu : u.ownBlock with
  | none => rw [hu] at hx; simp at hx
  | some j =>
    rw [hu] at hx
    obtain rfl : k = j := by simpa using hx
    exact h k hu hk
theorem RF3.app {D : Nat} {u u' v x : Value} {A A' B C : List Fr} {w w' : World} (h : RF3 D u v x A B C w) (ho : w'.ownsRow D 40 8 u' A'.length (A'.flatMap cFr)) (hb : BX (ownL u) w w')
    (hu : ∀ k, u'.ownBlock = some k → u.ownBlock = some k ∨ w.heap.size ≤ k) : RF3 D u' v x A' B C w' :=
  ⟨ho, own_bxT h.b hb (not_ownL h.ab), own_bxT h.c hb (not_ownL h.ac), dis_new h.b h.ab hu, dis_new h.c h.ac hu, h.bc, Nat.le_trans h.ge hb.size⟩
theorem RF3.rot {D : Nat} {u v x : Value} {A B C : List Fr} {w : World} (h : RF3 D u v x A B C w) : RF3 D v x u B C A w := ⟨h.b, h.c, h.a, h.bc, h.ab.symm, h.ac.symm, h.ge⟩
theorem ownL_lt {w : World} {base n size : Nat} {e : TypeId} {v : Value} {xs : List Value} (h : w.ownsRow base e size v n xs) : ∀ g ∈ ownL v, base ≤ g ∧ g < w.heap.size := fun g hg => by
  refine ⟨ownL_ge h g hg, ?_⟩
  unfold ownL at hg
  cases hv : v.ownBlock with
  | none => rw [hv] at hg; simp at hg
  | some k =>
    rw [hv] at hg
    obtain rfl : g = k := by simpa using hg
    exact (h.lt g hv).2
theorem cFr_len (f : Fr) : (cFr f).length = 8 := rfl
theorem cFr_one (f : Fr) : ∀ u ∈ cFr f, u.oneCell' = true := fun u hu => by
  obtain ⟨x, -, rfl⟩ := List.mem_map.1 hu
  rfl
theorem cFr_arr (f : Fr) : (cFr f).toArray = aFr f := rfl
theorem unl_few {n : Nat} (h : n ≤ 60) : unl (decide ((n : Int) ≤ 60)) 8 = 0 := (unl_zero (by decide)).2 (by simp; omega)
theorem lostE_few {n : Nat} {src : Int} (h : n ≤ 60) (h2 : inR src 0 15 = true) : lostE n src = 0 := (fst_cons _ _).2 ⟨unl_few h, (fst_cons _ _).2 ⟨(unl_zero (by decide)).2 h2, rfl⟩⟩
/-- Numbers, and no error. -/
def NumR (w : World) (L : List Int) (e : Ending) (w' : World) : Prop :=
  Below w.heap.size w w' ∧ ∃ A3 c3, e = .returned (.tuple #[.slice A3 L.length c3, .int .i64 0]) ∧ Sl cI 1 w' A3 L
theorem NumQ.ok {w w' : World} {L : List Int} {e : Ending} (h : NumQ w 0 L e w') : NumR w L e w' := by
  obtain ⟨hb, A3, n, c3, rfl, -, h2⟩ := h
  obtain ⟨rfl, hs⟩ := h2 rfl
  exact ⟨hb, A3, c3, rfl, hs⟩
section
variable {l : List Ms} {o : Ms} {src : Int}
theorem once_acc (h20 : l.length ≤ 20) (A : Option Addr) (c : Nat) (w : World) (hs : Sl cFr 8 w A (l.map frameOf)) :
    Calls Tryd.prog 64 #[.slice A l.length c] w (NumR w ((acS (l.map frameOf)).map atI)) := by
  have h := q_AcceptedOf (l.map frameOf) A c w hs (by rw [List.length_map]; omega)
  rw [List.length_map, unl_few (by omega)] at h
  exact h.mono fun _ _ h => h.ok
theorem once_acc2 (hv : ∀ m ∈ l, msE m = 0) (h20 : l.length ≤ 20) (A : Option Addr) (c : Nat) (w : World) (hs : Sl cFr 8 w A (dblL (l.map frameOf))) :
    Calls Tryd.prog 64 #[.slice A (2 * l.length : Nat) c] w (NumR w ((acS (l.map frameOf)).map fun r => 2 * (r.at_ : Int))) := by
  have h := q_AcceptedOf (dblL (l.map frameOf)) A c w hs (by rw [dblL_len, List.length_map]; omega)
  rw [dblL_len, List.length_map, unl_few (by omega), once_twice hv] at h
  exact h.mono fun _ _ h => h.ok
theorem once_lost (hin : inR src 0 15 = true) (h20 : l.length ≤ 20) (A : Option Addr) (c : Nat) (w : World) (hs : Sl cFr 8 w A (l.map frameOf)) :
    Calls Tryd.prog 66 #[.slice A l.length c, .int .i64 src] w (NumR w (losts (acS (l.map frameOf)) src)) := by
  have h := q_LostOf (l.map frameOf) src A c w hs (by rw [List.length_map]; omega)
  rw [List.length_map, lostE_few (by omega) hin] at h
  exact h.mono fun _ _ h => h.ok
theorem once_lost2 (hv : ∀ m ∈ l, msE m = 0) (h2 : msE o = 0) (ho : o.src ≠ src) (hin : inR src 0 15 = true) (h20 : l.length ≤ 20) (A : Option Addr) (c : Nat) (w : World) (hs : Sl cFr 8 w A (mixL (frameOf o) (l.map frameOf))) :
    Calls Tryd.prog 66 #[.slice A (2 * l.length : Nat) c, .int .i64 src] w (NumR w (losts (acS (l.map frameOf)) src)) := by
  have h := q_LostOf (mixL (frameOf o) (l.map frameOf)) src A c w hs (by rw [mixL_len, List.length_map]; omega)
  rw [mixL_len, List.length_map, lostE_few (by omega) hin, once_mixed hv h2 ho] at h
  exact h.mono fun _ _ h => h.ok
/-- What is known of an accepted message. -/
theorem once_at (hv : ∀ m ∈ l, msE m = 0) {r : Rc} (h : r ∈ acS (l.map frameOf)) : RcOk r ∧ r.at_ < l.length ∧ l[r.at_]? = some r.m := by
  obtain ⟨h1, h2, f, hf, -, hm⟩ := acK_ok (l.map frameOf) _ r h
  rw [List.length_map] at h2
  rw [List.getElem?_map] at hf
  have hx : l[r.at_]? = some l[r.at_] := List.getElem?_eq_getElem h2
  rw [hx] at hf
  simp only [Option.map_some] at hf
  injection hf with hf
  subst hf
  rw [back_ok (hv _ (List.getElem_mem h2))] at hm
  exact ⟨h1, h2, hx.trans (by rw [← hm])⟩
end
theorem losts_at {R : List Rc} {src : Int} {k j : Nat} {r : Rc} (h : R[k]? = some r) (hs : r.m.src = src) (hj : j < r.lost.length) : (losts R src)[(lostK R src k).length + j]? = r.lost[j]? := by
  have hk := (List.getElem?_eq_some_iff.1 h).1
  have e : losts R src = lostK R src k ++ (r.lost ++ losts (R.drop (k + 1)) src) := by
    have e1 : R = R.take k ++ (r :: R.drop (k + 1)) := by
      rw [← (List.getElem?_eq_some_iff.1 h).2, ← List.drop_eq_getElem_cons hk, List.take_append_drop]
    rw [show losts R src = losts (R.take k ++ (r :: R.drop (k + 1))) src by rw [← e1]]
    simp [losts, lostK, List.flatMap_append, hs]
  rw [e, List.getElem?_append_right (by omega), Nat.add_sub_cancel_left, List.getElem?_append_left hj]
theorem lostL_at (b : Int) : ∀ (n j : Nat), j < n → (lostL b n)[j]? = some ((b + ((j : Int) + 1)) % 256)
  | 0, j, h => by omega
  | n + 1, j, h => by
    rw [lostL]
    by_cases hj : j < n
    · rw [List.getElem?_append_left (by rw [lostL_len]; exact hj)]
      exact lostL_at b n j hj
    · obtain rfl : j = n := by omega
      rw [List.getElem?_append_right (by rw [lostL_len]; exact Nat.le_refl _), lostL_len, Nat.sub_self]
      rfl
theorem lostK_end (R : List Rc) (src : Int) : lostK R src R.length = losts R src := by rw [lostK, List.take_length]; rfl
theorem losts_bd (R : List Rc) (src : Int) (h : ∀ r ∈ R, r.lost.length ≤ 126) (hl : R.length ≤ 20) : (losts R src).length ≤ 10000 := by
  have := losts_few (src := src) h
  omega
set_option maxHeartbeats 0 in
theorem r_BusOnce (l : List Ms) (src : Int) (A : Option Addr) (c : Nat) (w : World) (hs : Sl cMs 7 w A l) (hT : Tab w) :
    Calls Tryd.prog 13 #[.slice A l.length c, .int .i64 src] w (Ret (.bool true) w) := by
  have Hs := Lib.hid hs
  have haw := Lib.hid fun W (hb : Below w.heap.size w W) => r_awake W (hT.below hb)
  have hwi := Lib.hid fun W : World => r_Within src 0 15 W
  clear hs hT
  by_cases h20 : (20 : Int) < l.length
  · generalize l.length = n at *
    go_enter Tryd.func13, Tryd.ntmps13
    go_wp2_with fail
    refine (haw.out w (bl_refl w)).mono ?_
    rintro e w1 ⟨rfl, hb0⟩
    go_wp2
    go_ret
    exact ⟨rfl, hb0⟩
  cases hin : inR src 0 15
  · rw [hin] at hwi
    replace hin := Lib.hid hin
    generalize l.length = n at *
    go_enter Tryd.func13, Tryd.ntmps13
    go_wp2_with fail
    refine (haw.out w (bl_refl w)).mono ?_
    rintro e w1 ⟨rfl, hb0⟩
    go_wp2_with (go_at_call 21; (with_reducible refine (hwi.out _).mono ?_); rintro e w3 ⟨rfl, rfl⟩)
    go_ret
    exact ⟨rfl, hb0⟩
  rw [hin] at hwi
  obtain ⟨hs0, hs1⟩ := inR_iff.1 hin
  have h20n : l.length ≤ 20 := by omega
  obtain ⟨o, ho⟩ : ∃ o : Ms, (⟨(src + 1) % 16, 0, 0, 0, 0, 0, 0⟩ : Ms) = o := ⟨_, rfl⟩
  have ho0 : msE o = 0 := by
    rw [← ho, msE_eq]
    dsimp only
    have : inR ((src + 1) % 16) 0 15 = true := inR_iff.2 (by omega)
    rw [this]
    rfl
  have ho1 : o.src ≠ src := by
    rw [← ho]
    dsimp only
    omega
  have hme := Lib.hid fun (m : Ms) (W : World) => r_MessageErr m W
  have hen : Hid (∀ m : Ms, msE m = 0 → ∀ W : World, Calls Tryd.prog 24 #[vMs m] W (Ret (.tuple #[vFr (frameOf m), .int .i64 0]) W)) := fun m h W => by
    have := c_Encoded m W
    rw [encS, if_pos h] at this
    exact this
  have heo := Lib.hid (hen.out o ho0)
  have hA1 := Lib.hid fun (hv : ∀ m ∈ l, msE m = 0) A' c' W h => once_acc (l := l) h20n A' c' W h
  have hA2 := Lib.hid fun (hv : ∀ m ∈ l, msE m = 0) A' c' W h => once_acc2 hv h20n A' c' W h
  have hL1 := Lib.hid fun A' c' W h => once_lost (l := l) hin h20n A' c' W h
  have hL2 := Lib.hid fun (hv : ∀ m ∈ l, msE m = 0) A' c' W h => once_lost2 hv ho0 ho1 hin h20n A' c' W h
  have hat := Lib.hid fun (hv : ∀ m ∈ l, msE m = 0) r (h : r ∈ acS (l.map frameOf)) => once_at hv h
  have hasc := Lib.hid fun k a b h h' => acK_asc (l.map frameOf) (l.map frameOf).length k a b h h'
  have hlo := Lib.hid fun k r h => acK_lost (l.map frameOf) (l.map frameOf).length k r h
  have hRn : (acS (l.map frameOf)).length ≤ l.length := by have := acK_len (l.map frameOf) (l.map frameOf).length; rw [List.length_map] at this; unfold acS; rw [List.length_map]; exact this
  have hfw := acK_few (l.map frameOf) (l.map frameOf).length
  change ∀ r ∈ acS (l.map frameOf), r.lost.length ≤ 126 at hfw
  have hCb := Lib.hid (losts_bd (acS (l.map frameOf)) src hfw (by omega))
  change Hid (∀ k a b, (acS (l.map frameOf))[k]? = some a → (acS (l.map frameOf))[k + 1]? = some b → a.at_ < b.at_) at hasc
  change Hid (∀ k r, (acS (l.map frameOf))[k]? = some r → r.lost = lostOf (lastN ((acS (l.map frameOf)).take k) r.m.src) r.m.num ∧ (0 ≤ lastN ((acS (l.map frameOf)).take k) r.m.src → 1 ≤ newN r.m.num (lastN ((acS (l.map frameOf)).take k) r.m.src) ∧ newN r.m.num (lastN ((acS (l.map frameOf)).take k) r.m.src) ≤ 127)) at hlo
  clear hfw
  -- the three lists
  have hF0 : Hid (((l.take 0).map frameOf) = [] ∧ dblL ((l.take 0).map frameOf) = [] ∧ mixL (frameOf o) ((l.take 0).map frameOf) = []) := ⟨rfl, rfl, rfl⟩
  have hFs := Lib.hid fun (k : Nat) (m : Ms) (hm : l[k]? = some m) => (show (l.take (k + 1)).map frameOf = (l.take k).map frameOf ++ [frameOf m] ∧ dblL ((l.take (k + 1)).map frameOf) = dblL ((l.take k).map frameOf) ++ [frameOf m] ++ [frameOf m] ∧ mixL (frameOf o) ((l.take (k + 1)).map frameOf) = mixL (frameOf o) ((l.take k).map frameOf) ++ [frameOf m] ++ [frameOf o] by
    rw [List.take_add_one, hm]
    simp [dblL, mixL])
  have hFl := Lib.hid fun (k : Nat) (hk : k ≤ l.length) => (show ((l.take k).map frameOf).length = k ∧ (dblL ((l.take k).map frameOf)).length = 2 * k ∧ (mixL (frameOf o) ((l.take k).map frameOf)).length = 2 * k by
    rw [dblL_len, mixL_len]
    simp
    omega)
  have hFn : Hid ((l.take l.length).map frameOf = l.map frameOf ∧ dblL ((l.take l.length).map frameOf) = dblL (l.map frameOf) ∧ mixL (frameOf o) ((l.take l.length).map frameOf) = mixL (frameOf o) (l.map frameOf)) := Lib.hid (by rw [List.take_length]; exact ⟨rfl, rfl, rfl⟩)
  have hV0 : Hid (∀ m ∈ l.take 0, msE m = 0) := fun m h => by simp at h
  have hVs := Lib.hid fun (k : Nat) (m : Ms) (hm : l[k]? = some m) (h0 : msE m = 0) (h : ∀ m ∈ l.take k, msE m = 0) => (show ∀ m ∈ l.take (k + 1), msE m = 0 by
    rw [List.take_add_one, hm]
    intro x hx
    rcases List.mem_append.1 hx with hx | hx
    · exact h x hx
    · simp at hx; rw [hx]; exact h0)
  have hVn : Hid ((∀ m ∈ l.take l.length, msE m = 0) → ∀ m ∈ l, msE m = 0) := fun h => by rwa [List.take_length] at h
  obtain ⟨F, hF⟩ : ∃ F : Nat → List Fr, ∀ k, (l.take k).map frameOf = F k := ⟨_, fun _ => rfl⟩
  simp only [hF] at hF0 hFs hFl hFn
  clear hF
  obtain ⟨G, hG⟩ : ∃ G : Nat → List Fr, ∀ k, dblL (F k) = G k := ⟨_, fun _ => rfl⟩
  obtain ⟨H, hH⟩ : ∃ H : Nat → List Fr, ∀ k, mixL (frameOf o) (F k) = H k := ⟨_, fun _ => rfl⟩
  simp only [hG, hH] at hF0 hFs hFl hFn
  clear hG hH
  obtain ⟨V, hV⟩ : ∃ V : Nat → Prop, ∀ k, (∀ m ∈ l.take k, msE m = 0) = V k := ⟨_, fun _ => rfl⟩
  simp only [hV] at hV0 hVs hVn
  clear hV
  generalize acS (l.map frameOf) = R at *
  obtain ⟨VA, hVA⟩ : ∃ VA : Prop, (∀ m ∈ l, msE m = 0) = VA := ⟨_, rfl⟩
  rw [hVA] at hA1 hA2 hL2 hat hVn
  clear hVA
  generalize dblL (l.map frameOf) = G1 at *
  generalize mixL (frameOf o) (l.map frameOf) = H1 at *
  generalize l.map frameOf = F1 at *
  obtain ⟨fm, hfm⟩ : ∃ fm : Ms → Fr, ∀ m, frameOf m = fm m := ⟨_, fun _ => rfl⟩
  simp only [hfm] at hen heo hFs
  clear hfm
  replace hin := Lib.hid hin
  replace ho0 := Lib.hid ho0
  replace ho1 := Lib.hid ho1
  replace h20n := Lib.hid h20n
  replace hRn := Lib.hid hRn
  obtain ⟨n, Hn⟩ : ∃ n, Hid (l.length = n) := ⟨_, rfl⟩
  rw [Hn.out] at h20 h20n hRn hA1 hA2 hL1 hL2 hat hFl hFn hVn ⊢
  generalize fm o = fo at *
  obtain ⟨i0, hi, hz0, hz1, hz2⟩ := info_parts infoFr
  go_enter Tryd.func13, Tryd.ntmps13
  go_wp2_with fail
  refine (haw.out w (bl_refl w)).mono ?_
  rintro e w1 ⟨rfl, hb0⟩
  go_upto_region 7 with (go_at_call 21; (with_reducible refine (hwi.out _).mono ?_); rintro e w3 ⟨rfl, rfl⟩)
  have kO := Blk.new w1 39 (aMs o)
  have hbA := bl_al (.cells (aMs o) 39) (bl_refl w1)
  rw [← ho] at kO hbA
  dsimp only [aMs] at kO hbA
  replace hb0 := bl_tr hb0 hbA
  generalize hgO : w1.heap.size = gO at *
  generalize w1.alloc (.cells #[.int .i64 ((src + 1) % 16), .int .i64 0, .int .i64 0, .int .i64 0, .int .i64 0, .int .i64 0, .int .i64 0] 39) = w2 at *
  have hgOD := kO.lt
  clear hbA hgO haw
  obtain ⟨D, hD⟩ : ∃ D, w2.heap.size = D := ⟨_, rfl⟩
  have hDw : w.heap.size ≤ D := by rw [← hD]; exact hb0.size
  rw [hD] at hgOD
  dsimp only [vMs, aMs] at heo
  rw [← ho] at heo
  dsimp only at heo
  go_wp2
  go_loopw [5, 6, 7, 9] (fun v5 v6 v7 i wr => ∃ k : Nat, k ≤ n ∧ i = .int .i64 k ∧ V k ∧ Below w.heap.size w wr ∧ Blk wr gO 39 #[.int .i64 ((src + 1) % 16), .int .i64 0, .int .i64 0, .int .i64 0, .int .i64 0, .int .i64 0, .int .i64 0] ∧ RF3 D v5 v6 v7 (F k) (G k) (H k) wr) (fun _ _ _ i _ => n - (intOf i).toNat)
  case atStart => exact ⟨0, Nat.zero_le _, rfl, hV0.out, hb0, kO, by rw [hF0.out.1, hF0.out.2.1, hF0.out.2.2]; exact RF3.nil (by omega)⟩
  case round =>
    clear hb0 kO
    obtain ⟨k, hk, rfl, hVk, hb0, kO, hr3⟩ := hrel
    replace hr3 := Lib.hid hr3
    by_cases hkn : k < n
    rotate_left
    · obtain rfl : n = k := by omega
      have hv := hVn.out hVk
      obtain ⟨eF, eG, eH⟩ := hFn.out
      obtain ⟨l1, l2, l3⟩ := hFl.out n (Nat.le_refl _)
      have hA1' := Lib.hid (hA1.out hv)
      have hA2' := Lib.hid (hA2.out hv)
      have hL2' := Lib.hid (hL2.out hv)
      have hat' := Lib.hid (hat.out hv)
      rw [eF] at l1 hr3
      rw [eG] at l2 hr3
      rw [eH] at l3 hr3
      clear hA1 hA2 hL2 hat eF eG eH hFs hF0 hFl hFn hVs hV0 hVn kO heo hen hme hVk hv
      have ho5 := hr3.out.a
      have ho6 := hr3.out.b
      have ho7 := hr3.out.c
      clear hr3
      obtain ⟨A5, c5, e5⟩ := own_slice ho5
      obtain ⟨A6, c6, e6⟩ := own_slice ho6
      obtain ⟨A7, c7, e7⟩ := own_slice ho7
      subst e5 e6 e7
      have s5 := Lib.hid (own_slC (cs := cFr) (fun _ => rfl) (by decide) ho5)
      have s6 := Lib.hid (own_slC (cs := cFr) (fun _ => rfl) (by decide) ho6)
      have s7 := Lib.hid (own_slC (cs := cFr) (fun _ => rfl) (by decide) ho7)
      clear ho5 ho6 ho7
      have h20m := h20n.out
      replace h20 := Lib.hid h20
      have hcp : Hid (∀ (A' : Option Addr) (c' : Nat) (W : World), Sl cFr 8 W A' F1 → Calls Tryd.prog 65 #[.slice A' n c'] W (fun e w' => ∃ A2 c2, e = .returned (.slice A2 n c2) ∧ Below W.heap.size W w' ∧ Sl cFr 8 w' A2 F1)) := fun A' c' W h => by
        have := r_CopyFrames F1 A' c' W h (by omega)
        rw [l1] at this
        exact this.mono fun e w' ⟨A2, c2, h1, h2, h3, _⟩ => ⟨A2, c2, h1, h2, h3⟩
      rw [l1, l2, l3]
      clear l1 l2 l3
      obtain ⟨lo, Hlo⟩ : ∃ lo, Hid (R.length = lo) := ⟨_, rfl⟩
      have hRn' := hRn.out
      rw [Hlo.out] at hRn'
      have hLA := Lib.hid fun k (r : Rc) (h : R[k]? = some r) => (show (R.map atI)[k]? = some (r.at_ : Int) by rw [List.getElem?_map, h]; rfl)
      have hLB := Lib.hid fun k (r : Rc) (h : R[k]? = some r) => (show (R.map fun r => 2 * (r.at_ : Int))[k]? = some (2 * (r.at_ : Int)) by rw [List.getElem?_map, h]; rfl)
      have hlA : Hid ((R.map atI).length = lo) := Lib.hid (by rw [List.length_map]; exact Hlo.out)
      have hlB : Hid ((R.map fun r => 2 * (r.at_ : Int)).length = lo) := Lib.hid (by rw [List.length_map]; exact Hlo.out)
      have hC := Lib.hid fun k j r h h1 h2 => losts_at (R := R) (src := src) (k := k) (j := j) (r := r) h h1 h2
      have hKs := Lib.hid fun k r h => lostK_next (out := R) (src := src) (k := k) (r := r) h
      have hLs := Lib.hid fun k r h => lastN_take (out := R) (k := k) (r := r) h src
      have hK0 : Hid (lostK R src 0 = []) := rfl
      have hL0 : Hid (lastN (R.take 0) src = -1) := rfl
      have hKe : Hid (lostK R src lo = losts R src) := Lib.hid (by rw [← Hlo.out]; exact lostK_end R src)
      have hbd := Lib.hid fun k => lastN_bd (out := R.take k) (fun r hr => (hat'.out r (List.mem_of_mem_take hr)).1) src
      have hlo' := Lib.hid fun k (r : Rc) h (e : r.m.src = src) => e ▸ hlo.out k r h
      generalize R.map atI = LA at *
      generalize (R.map fun r => 2 * (r.at_ : Int)) = LB at *
      generalize losts R src = C at *
      obtain ⟨K, hK⟩ : ∃ K : Nat → List Int, ∀ k, lostK R src k = K k := ⟨_, fun _ => rfl⟩
      simp only [hK] at hC hKs hK0 hKe
      clear hK hlo hRn
      obtain ⟨lc, Hlc⟩ : ∃ lc, Hid (C.length = lc) := ⟨_, rfl⟩
      have hCb' := hCb.out
      rw [Hlc.out] at hCb'
      clear hCb
      go_wp2_with fail
      refine (hcp.out _ _ _ s5.out).mono ?_
      rintro e w3 ⟨A8, c8, rfl, hb1, s8⟩
      replace hb0 := bl_tr hb0 hb1
      replace s5 := Lib.hid (s5.out.below hb1)
      replace s6 := Lib.hid (s6.out.below hb1)
      replace s7 := Lib.hid (s7.out.below hb1)
      clear hb1
      go_wp2_with fail
      refine (hA1'.out _ _ _ s8).mono ?_
      rintro e w4 ⟨hb1, A1, c1, rfl, sA⟩
      rw [hlA.out]
      replace hb0 := bl_tr hb0 hb1
      replace s5 := Lib.hid (s5.out.below hb1)
      replace s6 := Lib.hid (s6.out.below hb1)
      replace s7 := Lib.hid (s7.out.below hb1)
      clear hb1 s8 hA1'
      go_wp2_with fail
      refine (hA2'.out _ _ _ s6.out).mono ?_
      rintro e w5 ⟨hb1, A2, c2, rfl, sB⟩
      rw [hlB.out]
      replace hb0 := bl_tr hb0 hb1
      replace s5 := Lib.hid (s5.out.below hb1)
      replace s7 := Lib.hid (s7.out.below hb1)
      replace sA := Lib.hid (sA.below hb1)
      clear hb1 s6 hA2'
      go_wp2_with fail
      refine (hcp.out _ _ _ s5.out).mono ?_
      rintro e w6 ⟨A8, c8, rfl, hb1, s8⟩
      replace hb0 := bl_tr hb0 hb1
      replace s7 := Lib.hid (s7.out.below hb1)
      replace sA := Lib.hid (sA.out.below hb1)
      replace sB := Lib.hid (sB.below hb1)
      clear hb1 s5
      go_wp2_with fail
      refine (hL1.out _ _ _ s8).mono ?_
      rintro e w7 ⟨hb1, A3, c3, rfl, sC⟩
      rw [Hlc.out]
      replace hb0 := bl_tr hb0 hb1
      replace s7 := Lib.hid (s7.out.below hb1)
      replace sA := Lib.hid (sA.out.below hb1)
      replace sB := Lib.hid (sB.out.below hb1)
      clear hb1 s8 hL1
      go_wp2_with fail
      refine (hL2'.out _ _ _ s7.out).mono ?_
      rintro e w8 ⟨hb1, A4, c4, rfl, sD⟩
      rw [Hlc.out]
      replace hb0 := bl_tr hb0 hb1
      replace sA := Lib.hid (sA.out.below hb1)
      replace sB := Lib.hid (sB.out.below hb1)
      replace sC := Lib.hid (sC.below hb1)
      clear hb1 s7 hL2'
      have hint := Lib.hid fun W h1 h2 => r_IntsL C C A3 A4 c3 c4 W h1 h2 (by rw [Hlc.out]; omega) (by rw [Hlc.out]; omega)
      rw [Hlc.out, intsB_self] at hint
      have q1 : ¬ (n : Int) < lo := by omega
      have q0 : ¬ n < lo := by omega
      go_wp2_with fail
      refine (hint.out _ sC.out sD).mono ?_
      rintro e w9 ⟨rfl, hb1⟩
      replace hb0 := bl_tr hb0 hb1
      replace sA := Lib.hid (sA.out.below hb1)
      replace sB := Lib.hid (sB.out.below hb1)
      replace sC := Lib.hid (sC.out.below hb1)
      clear hb1 sD hint q1 q0
      replace hRn' := Lib.hid hRn'
      go_wp2
      have hK0l : (K 0).length = 0 := by rw [hK0.out]; rfl
      go_loopw [22, 23, 24] (fun nu lo' i wi => ∃ k : Nat, k ≤ lo ∧ i = .int .i64 k ∧ nu = .int .i64 (lastN (R.take k) src) ∧ lo' = .int .i64 ((K k).length : Nat) ∧ Below w.heap.size w wi ∧ Sl cI 1 wi A1 LA ∧ Sl cI 1 wi A2 LB ∧ Sl cI 1 wi A3 C) (fun _ _ i _ => lo - (intOf i).toNat)
      case atStart => exact ⟨0, Nat.zero_le _, rfl, by rw [hL0.out], by rw [hK0l]; rfl, hb0, sA.out, sB.out, sC.out⟩
      case round =>
        clear hb0 sA sB sC
        obtain ⟨k, hk, rfl, rfl, rfl, hb0, sA, sB, sC⟩ := hrel
        replace sA := Lib.hid sA
        replace sB := Lib.hid sB
        replace sC := Lib.hid sC
        by_cases hkn : k < lo
        rotate_left
        · obtain rfl : lo = k := by omega
          have hKl : (K lo).length = lc := by rw [hKe.out]; exact Hlc.out
          rw [hKl]
          go_wp2
          go_ret
          exact ⟨by simp, hb0⟩
        have hr : R[k]? = some (R[k]'(by rw [Hlo.out]; exact hkn)) := List.getElem?_eq_getElem _
        generalize R[k]'(by rw [Hlo.out]; exact hkn) = r at hr
        obtain ⟨hrok, hra, hlm⟩ := hat'.out r (List.mem_of_getElem? hr)
        obtain ⟨b1, o1, rfl, hc1⟩ := sA.out k _ (hLA.out k r hr)
        obtain ⟨b2, o2, rfl, hc2⟩ := sB.out k _ (hLB.out k r hr)
        obtain ⟨b3, o3, rfl, hc3⟩ := Hs.out r.at_ r.m hlm
        have hKn := hKs.out k r hr
        have hLn := Lib.hid (hLs.out k r hr)
        have hLo := Lib.hid (hlo'.out k r hr)
        have hCr := Lib.hid fun j => hC.out k j r hr
        have hbk := hbd.out k
        have hnum := hrok.num
        have hasc' := Lib.hid fun (j : Nat) (y : Rc) (e : k = j + 1) (hy : R[j]? = some y) => hasc.out j y r hy (by rw [← e]; exact hr)
        have c1 : ∀ W, Below wr.heap.size wr W → W.cell? ⟨b1, o1 + k, none⟩ = some (.int .i64 (r.at_ : Int)) := later (by simpa using hc1 0 _ rfl)
        have c2 : ∀ W, Below wr.heap.size wr W → W.cell? ⟨b2, o2 + k, none⟩ = some (.int .i64 (2 * (r.at_ : Int))) := later (by simpa using hc2 0 _ rfl)
        have c3 : ∀ W, Below wr.heap.size wr W → W.cell? ⟨b3, o3 + r.at_ * 7, none⟩ = some (.int .i64 r.m.src) := later (by have := kcell hb0 (hc3 0 _ rfl); simpa using this)
        have c4 : ∀ W, Below wr.heap.size wr W → W.cell? ⟨b3, o3 + r.at_ * 7 + 1, none⟩ = some (.int .i64 r.m.num) := later (kcell hb0 (hc3 1 _ rfl))
        have han : (r.at_ : Int) < n := by omega
        have han2 : (r.at_ : Int) ≤ (n : Int) - 1 := by omega
        have hcw : Hid (∀ W : World, Calls Tryd.prog 21 #[.int .i64 (r.at_ : Int), .int .i64 0, .int .i64 ((n : Int) - 1)] W (Same (.bool true) W)) := fun W => by
          have h := r_Within (r.at_ : Int) 0 ((n : Int) - 1) W
          rwa [(inR_iff.2 ⟨Int.natCast_nonneg r.at_, han2⟩ : inR (r.at_ : Int) 0 ((n : Int) - 1) = true)] at h
        clear hc1 hc2 hc3 hr hlm hrok
        generalize r.at_ = ra at *
        generalize r.lost = rl at *
        generalize r.m = rm at *
        obtain ⟨ps, pn, pk, p0, p1, p2, p3⟩ := rm
        dsimp only at *
        generalize hLk : lastN (R.take k) src = LN at *
        clear hLk
        have hkn2 : (k : Int) < lo := by omega
        have hy0 := hasc'.out
        replace hKn := Lib.hid hKn
        go_upto_region 29 with fail
        by_cases hk0 : 0 < k
        case' pos =>
          obtain ⟨j, hj⟩ : ∃ j, k = j + 1 := ⟨k - 1, by omega⟩
          have hy : R[j]? = some (R[j]'(by rw [Hlo.out]; omega)) := List.getElem?_eq_getElem _
          generalize R[j]'(by rw [Hlo.out]; omega) = y at hy
          obtain ⟨b4, o4, e4, hc4⟩ := sA.out j _ (hLA.out j y hy)
          injection e4 with e4
          injection e4 with e4 e5 _
          subst e4 e5
          have c5 : ∀ W, Below wr.heap.size wr W → W.cell? ⟨b1, o1 + j, none⟩ = some (.int .i64 (y.at_ : Int)) := later (by simpa using hc4 0 _ rfl)
          have hya := hy0 j y hj hy
          have q3 : ¬ (ra : Int) ≤ (y.at_ : Int) := by omega
          have q5 : ¬ ra ≤ y.at_ := by omega
          generalize y.at_ = ya at *
          clear hc4 hy hy0 hasc'
          subst hj
          have q2 : (j : Int) < lo := by omega
          have q4 : (0 : Int) < (j : Int) + 1 := by omega
          have q6 : (j : Int) + 1 < lo := by omega
          have q7 : 0 ≤ (j : Int) + 1 := by omega
          have q8 : (j : Int) < 20 := by have := hRn'.out; omega
          refine wp_any (w0 := wr) ⟨[], [], [some 152, some 153, some 154, some 155, some 156, some 157, some 158, some 159, some 160, some 161, some 162, some 163, some 164, some 165, some 166, some 167, some 168, some 169, some 170, some 171, some 172, some 173, some 174, some 175, some 176, some 177, some 178, some 179, some 180, some 181, some 182, some 183, some 184, some 185, some 186, some 187, some 188], [[], [], [0, 1], [0, 1, 2], [], [4], [4, 5], [0, 1, 2, 3, 4, 5, 6], [0, 1, 2, 3, 4, 5, 6, 7], [0, 1, 2, 3, 4, 5, 6, 7, 8], [0, 1, 2, 3, 4, 5, 6, 7, 8, 9], [0, 1, 2, 3, 4, 5, 6, 7, 8, 9, 10], [0, 1, 2, 3, 4, 5, 6, 7, 8, 9, 10, 11], [0, 1, 2, 3, 4, 5, 6, 7, 8, 9, 10, 11, 12], [0, 1, 2, 3, 4, 5, 6, 7, 8, 9, 10, 11, 12], [0, 1, 2, 3, 4, 5, 6, 7, 8, 9, 10, 11, 12, 13, 14], [0, 1, 2, 3, 4, 5, 6, 7, 8, 9, 10, 11, 12, 13, 14, 15], [0, 1, 2, 3, 4, 5, 6, 7, 8, 9, 10, 11, 12], [0, 1, 2, 3, 4, 5, 6, 7, 8, 9, 10, 11, 12], [0, 1, 2, 3, 4, 5, 6, 7, 8, 9, 10, 11, 12, 18], [0, 1, 2, 3, 4, 5, 6, 7, 8, 9, 10, 11, 12, 17, 18, 19], [0, 1, 2, 3, 4, 5, 6, 7, 8, 9, 10, 11, 12, 17, 18, 19, 20], [0, 1, 2, 3, 4, 5, 6, 7, 8, 9, 10, 11, 12, 13, 14, 15, 16, 17, 18, 19, 20, 21], [0, 1, 2, 3, 4, 5, 6, 7, 8, 9, 10, 11, 12, 13, 14, 15, 16, 17, 18, 19, 20, 21, 22], [0, 1, 2, 3, 4, 5, 6, 7, 8, 9, 10, 11, 12, 13, 14, 15, 16, 17, 18, 19, 20, 21, 22, 23], [0, 1, 2, 3, 4, 5, 6, 7, 8, 9, 10, 11, 12, 13, 14, 15, 16, 17, 18, 19, 20, 21, 22, 23, 24], [0, 1, 2, 3, 4, 5, 6, 7, 8, 9, 10, 11, 12, 13, 14, 15, 16, 17, 18, 19, 20, 21, 22, 23, 24, 25], [0, 1, 2, 3, 4, 5, 6, 7, 8, 9, 10, 11, 12, 13, 14, 15, 16, 17, 18, 19, 20, 21, 22, 23, 24, 25], [0, 1, 2, 3, 4, 5, 6, 7, 8, 9, 10, 11, 12, 13, 14, 15, 16, 17, 18, 19, 20, 21, 22, 23, 24, 25, 26, 27], [0, 1, 2, 3, 4, 5, 6, 7, 8, 9, 10, 11, 12, 13, 14, 15, 16, 17, 18, 19, 20, 21, 22, 23, 24, 25, 26, 27, 28], [0, 1, 2, 3, 4, 5, 6, 7, 8, 9, 10, 11, 12, 13, 14, 15, 16, 17, 18, 19, 20, 21, 22, 23, 24, 25], [0, 1, 2, 3, 4, 5, 6, 7, 8, 9, 10, 11, 12, 13, 14, 15, 16, 17, 18, 19, 20, 21, 22, 23, 24, 25], [0, 1, 2, 3, 4, 5, 6, 7, 8, 9, 10, 11, 12, 13, 14, 15, 16, 17, 18, 19, 20, 21, 22, 23, 24, 25, 30, 31], [0, 1, 2, 3, 4, 5, 6, 7, 8, 9, 10, 11, 12, 13, 14, 15, 16, 17, 18, 19, 20, 21, 22, 23, 24, 25, 30, 31, 32], [0, 1, 2, 3, 4, 5, 6, 7, 8, 9, 10, 11, 12, 13, 14, 15, 16, 17, 18, 19, 20, 21, 22, 23, 24, 25, 30, 31, 32, 33], [0, 1, 2, 3, 4, 5, 6, 7, 8, 9, 10, 11, 12, 13, 14, 15, 16, 17, 18, 19, 20, 21, 22, 23, 24, 25, 26, 27, 28, 29, 30, 31, 32, 33, 34], [0, 1, 2, 3, 4, 5, 6, 7, 8, 9, 10, 11, 12, 13, 14, 15, 16, 17, 18, 19, 20, 21, 22, 23, 24, 25, 26, 27, 28, 29, 30, 31, 32, 33, 34, 35]], [[], [], [0, 1], [2], [], [4], [5], [3, 6], [7], [8], [9], [9, 10], [9, 11], [12], [12], [12, 13, 14], [12, 15], [12], [12], [12, 18], [12, 17, 19], [12, 20], [12, 16, 21], [9, 12, 22], [9, 23], [24], [25], [25], [25, 26, 27], [25, 28], [25], [25], [25, 30, 31], [25, 32], [25, 33], [25, 29, 34], [25, 35]]⟩ (fun _ => []) (by kernel_rfl) (by kernel_rfl) (by (with_reducible (repeat' (first | assumption | apply jA | apply jB | apply jC | apply jD | apply jE | apply jF | apply hb3 | omega | (simp; done) | (simp; omega) | (dsimp only; omega))))) (fun u => by simp only [putD, Act.put, List.setIfInBounds_toArray, List.set_cons_zero, List.set_cons_succ, Nat.zero_add, Nat.reduceAdd]; rfl) ?_
          apply RGW.on (i := 0) rfl
          · (simp only [gA, gB, gC] <;> rfl)
          · intro γ u W hcur hd
            clear hd
            (try dsimp only)
            refine ⟨rfl, ?_⟩
            go_simp <;> (try go_bits) <;> with_reducible rfl
          · exact fun _ _ _ => rfl
          · rfl
          dsimp only [nA, cA]
          apply RGW.on (i := 1) rfl
          · (simp only [gA, gB, gC] <;> rfl)
          · intro γ u W hcur hd
            clear hd
            (try dsimp only)
            refine ⟨rfl, ?_⟩
            go_simp <;> (try go_bits) <;> with_reducible rfl
          · exact fun _ _ _ => rfl
          · rfl
          dsimp only [nA, cA]
          apply RGW.on (i := 2) rfl
          · (simp only [gA, gB, gC] <;> rfl)
          · intro γ u W hcur hd
            obtain ⟨⟨h0, -, -⟩, ⟨h1, -, -⟩, -⟩ := hd
            dsimp only at h0 h1
            (try simp only [h0, h1])
            refine ⟨rfl, ?_⟩
            go_simp <;> (try go_bits) <;> with_reducible rfl
          · exact fun _ _ _ => rfl
          · rfl
          dsimp only [nA, cA]
          apply RGW.on (i := 3) rfl
          · (simp only [gA, gB, gC] <;> rfl)
          · intro γ u W hcur hd
            obtain ⟨⟨h2, -, -⟩, -⟩ := hd
            dsimp only at h2
            (try simp only [h2])
            refine ⟨rfl, ?_⟩
            go_simp <;> (try go_bits) <;> with_reducible rfl
          · exact fun _ _ _ => rfl
          · rfl
          dsimp only [nA, cA]
          apply RGW.on (i := 4) rfl
          · (simp only [gA, gB, gC] <;> rfl)
          · intro γ u W hcur hd
            clear hd
            (try dsimp only)
            refine ⟨rfl, ?_⟩
            go_simp <;> (try go_bits) <;> with_reducible rfl
          · exact fun _ _ _ => rfl
          · rfl
          dsimp only [nA, cA]
          apply RGW.on (i := 5) rfl
          · (simp only [gA, gB, gC] <;> rfl)
          · intro γ u W hcur hd
            obtain ⟨⟨h4, -, -⟩, -⟩ := hd
            dsimp only at h4
            (try simp only [h4])
            refine ⟨rfl, ?_⟩
            go_simp <;> (try go_bits) <;> with_reducible rfl
          · exact fun _ _ _ => rfl
          · rfl
          dsimp only [nA, cA]
          apply RGW.on (i := 6) rfl
          · (simp only [gA, gB, gC] <;> rfl)
          · intro γ u W hcur hd
            obtain ⟨⟨h5, -, -⟩, -⟩ := hd
            dsimp only at h5
            (try simp only [h5])
            refine ⟨rfl, ?_⟩
            go_simp <;> (try go_bits) <;> with_reducible rfl
          · exact fun _ _ _ => rfl
          · rfl
          dsimp only [nA, cA]
          apply RGW.call (i := 7) rfl
          · (simp only [gA, gB, gC] <;> rfl)
          · intro γ u W hcur hd
            obtain ⟨⟨h3, -, -⟩, ⟨h6, -, -⟩, -⟩ := hd
            dsimp only at h3 h6
            (try simp only [h3, h6])
            refine ⟨rfl, fun K hK => ?_⟩
            go_simp
            (go_at_call 21; (with_reducible refine (hcw.out _).mono ?_); rintro e w3 ⟨rfl, rfl⟩)
            (try dsimp only)
            exact hK.out _ _ rfl (by (with_reducible (repeat' (first | assumption | apply jA | apply jB | apply jC | apply jD | apply jE | apply jF | apply hb3 | omega | (simp; done) | (simp; omega) | (dsimp only; omega)))))
          · exact fun _ _ _ => rfl
          · rfl
          dsimp only [nA, cA]
          apply RGW.on (i := 8) rfl
          · (simp only [gA, gB, gC] <;> rfl)
          · intro γ u W hcur hd
            obtain ⟨⟨h7, -, -⟩, -⟩ := hd
            dsimp only at h7
            (try simp only [h7])
            refine ⟨rfl, ?_⟩
            go_simp <;> (try go_bits) <;> with_reducible rfl
          · exact fun _ _ _ => rfl
          · rfl
          dsimp only [nA, cA]
          apply RGW.on (i := 9) rfl
          · (simp only [gA, gB, gC] <;> rfl)
          · intro γ u W hcur hd
            obtain ⟨⟨h8, -, -⟩, -⟩ := hd
            dsimp only at h8
            (try simp only [h8])
            refine ⟨rfl, ?_⟩
            go_simp <;> (try go_bits) <;> with_reducible rfl
          · exact fun _ _ _ => rfl
          · rfl
          dsimp only [nA, cA]
          first
          | apply RGW.on (i := 10) rfl
            · (simp only [gA, gB, gC] <;> rfl)
            · intro γ u W hcur hd
              obtain ⟨⟨h9, -, -⟩, -⟩ := hd
              dsimp only at h9
              (try simp only [h9])
              refine ⟨?_, ?_⟩
              · (simp [Region.wanted, yielded, undef, *]; done)
              go_simp <;> (try go_bits) <;> with_reducible rfl
            · exact fun _ _ _ => rfl
            · rfl
          | apply RGW.off (i := 10) rfl
            · (simp only [gA, gB, gC] <;> rfl)
            · intro γ u W hcur hd
              obtain ⟨⟨h9, -, -⟩, -⟩ := hd
              dsimp only at h9
              (try simp only [h9])
              simp [Region.wanted, yielded, undef, *]
            · rfl
          dsimp only [nA, cA]
          first
          | apply RGW.on (i := 11) rfl
            · (simp only [gA, gB, gC] <;> rfl)
            · intro γ u W hcur hd
              obtain ⟨⟨h9, -, -⟩, ⟨h10, -, -⟩, -⟩ := hd
              dsimp only at h9 h10
              (try simp only [h9, h10])
              refine ⟨?_, ?_⟩
              · (simp [Region.wanted, yielded, undef, *]; done)
              go_simp <;> (try go_bits) <;> with_reducible rfl
            · exact fun _ _ _ => rfl
            · rfl
          | apply RGW.off (i := 11) rfl
            · (simp only [gA, gB, gC] <;> rfl)
            · intro γ u W hcur hd
              obtain ⟨⟨h9, -, -⟩, ⟨h10, -, -⟩, -⟩ := hd
              dsimp only at h9 h10
              (try simp only [h9, h10])
              simp [Region.wanted, yielded, undef, *]
            · rfl
          dsimp only [nA, cA]
          first
          | apply RGW.on (i := 12) rfl
            · (simp only [gA, gB, gC] <;> rfl)
            · intro γ u W hcur hd
              obtain ⟨⟨h9, -, -⟩, ⟨h11, -, -⟩, -⟩ := hd
              dsimp only at h9 h11
              (try simp only [h9, h11])
              refine ⟨?_, ?_⟩
              · (simp [Region.wanted, yielded, undef, *]; done)
              go_simp <;> (try go_bits) <;> with_reducible rfl
            · exact fun _ _ _ => rfl
            · rfl
          | apply RGW.off (i := 12) rfl
            · (simp only [gA, gB, gC] <;> rfl)
            · intro γ u W hcur hd
              obtain ⟨⟨h9, -, -⟩, ⟨h11, -, -⟩, -⟩ := hd
              dsimp only at h9 h11
              (try simp only [h9, h11])
              simp [Region.wanted, yielded, undef, *]
            · rfl
          dsimp only [nA, cA]
          first
          | apply RGW.on (i := 13) rfl
            · (simp only [gA, gB, gC] <;> rfl)
            · intro γ u W hcur hd
              obtain ⟨⟨h12, -, -⟩, -⟩ := hd
              dsimp only at h12
              (try simp only [h12])
              refine ⟨?_, ?_⟩
              · (simp [Region.wanted, yielded, undef, *]; done)
              go_simp <;> (try go_bits) <;> with_reducible rfl
            · exact fun _ _ _ => rfl
            · rfl
          | apply RGW.off (i := 13) rfl
            · (simp only [gA, gB, gC] <;> rfl)
            · intro γ u W hcur hd
              obtain ⟨⟨h12, -, -⟩, -⟩ := hd
              dsimp only at h12
              (try simp only [h12])
              simp [Region.wanted, yielded, undef, *]
            · rfl
          dsimp only [nA, cA]
          first
          | apply RGW.on (i := 14) rfl
            · (simp only [gA, gB, gC] <;> rfl)
            · intro γ u W hcur hd
              obtain ⟨⟨h12, -, -⟩, -⟩ := hd
              dsimp only at h12
              (try simp only [h12])
              refine ⟨?_, ?_⟩
              · (simp [Region.wanted, yielded, undef, *]; done)
              go_simp <;> (try go_bits) <;> with_reducible rfl
            · exact fun _ _ _ => rfl
            · rfl
          | apply RGW.off (i := 14) rfl
            · (simp only [gA, gB, gC] <;> rfl)
            · intro γ u W hcur hd
              obtain ⟨⟨h12, -, -⟩, -⟩ := hd
              dsimp only at h12
              (try simp only [h12])
              simp [Region.wanted, yielded, undef, *]
            · rfl
          dsimp only [nA, cA]
          first
          | apply RGW.on (i := 15) rfl
            · (simp only [gA, gB, gC] <;> rfl)
            · intro γ u W hcur hd
              obtain ⟨⟨h12, -, -⟩, ⟨h13, -, -⟩, ⟨h14, -, -⟩, -⟩ := hd
              dsimp only at h12 h13 h14
              (try simp only [h12, h13, h14])
              refine ⟨?_, ?_⟩
              · (simp [Region.wanted, yielded, undef, *]; done)
              go_simp <;> (try go_bits) <;> with_reducible rfl
            · exact fun _ _ _ => rfl
            · rfl
          | apply RGW.off (i := 15) rfl
            · (simp only [gA, gB, gC] <;> rfl)
            · intro γ u W hcur hd
              obtain ⟨⟨h12, -, -⟩, ⟨h13, -, -⟩, ⟨h14, -, -⟩, -⟩ := hd
              dsimp only at h12 h13 h14
              (try simp only [h12, h13, h14])
              simp [Region.wanted, yielded, undef, *]
            · rfl
          dsimp only [nA, cA]
          first
          | apply RGW.on (i := 16) rfl
            · (simp only [gA, gB, gC] <;> rfl)
            · intro γ u W hcur hd
              obtain ⟨⟨h12, -, -⟩, ⟨h15, -, -⟩, -⟩ := hd
              dsimp only at h12 h15
              (try simp only [h12, h15])
              refine ⟨?_, ?_⟩
              · (simp [Region.wanted, yielded, undef, *]; done)
              go_simp <;> (try go_bits) <;> with_reducible rfl
            · exact fun _ _ _ => rfl
            · rfl
          | apply RGW.off (i := 16) rfl
            · (simp only [gA, gB, gC] <;> rfl)
            · intro γ u W hcur hd
              obtain ⟨⟨h12, -, -⟩, ⟨h15, -, -⟩, -⟩ := hd
              dsimp only at h12 h15
              (try simp only [h12, h15])
              simp [Region.wanted, yielded, undef, *]
            · rfl
          dsimp only [nA, cA]
          first
          | apply RGW.on (i := 17) rfl
            · (simp only [gA, gB, gC] <;> rfl)
            · intro γ u W hcur hd
              obtain ⟨⟨h12, -, -⟩, -⟩ := hd
              dsimp only at h12
              (try simp only [h12])
              refine ⟨?_, ?_⟩
              · (simp [Region.wanted, yielded, undef, *]; done)
              go_simp <;> (try go_bits) <;> with_reducible rfl
            · exact fun _ _ _ => rfl
            · rfl
          | apply RGW.off (i := 17) rfl
            · (simp only [gA, gB, gC] <;> rfl)
            · intro γ u W hcur hd
              obtain ⟨⟨h12, -, -⟩, -⟩ := hd
              dsimp only at h12
              (try simp only [h12])
              simp [Region.wanted, yielded, undef, *]
            · rfl
          dsimp only [nA, cA]
          first
          | apply RGW.on (i := 18) rfl
            · (simp only [gA, gB, gC] <;> rfl)
            · intro γ u W hcur hd
              obtain ⟨⟨h12, -, -⟩, -⟩ := hd
              dsimp only at h12
              (try simp only [h12])
              refine ⟨?_, ?_⟩
              · (simp [Region.wanted, yielded, undef, *]; done)
              go_simp <;> (try go_bits) <;> with_reducible rfl
            · exact fun _ _ _ => rfl
            · rfl
          | apply RGW.off (i := 18) rfl
            · (simp only [gA, gB, gC] <;> rfl)
            · intro γ u W hcur hd
              obtain ⟨⟨h12, -, -⟩, -⟩ := hd
              dsimp only at h12
              (try simp only [h12])
              simp [Region.wanted, yielded, undef, *]
            · rfl
          dsimp only [nA, cA]
          first
          | apply RGW.on (i := 19) rfl
            · (simp only [gA, gB, gC] <;> rfl)
            · intro γ u W hcur hd
              obtain ⟨⟨h12, -, -⟩, ⟨h18, -, -⟩, -⟩ := hd
              dsimp only at h12 h18
              (try simp only [h12, h18])
              refine ⟨?_, ?_⟩
              · (simp [Region.wanted, yielded, undef, *]; done)
              go_simp <;> (try go_bits) <;> with_reducible rfl
            · exact fun _ _ _ => rfl
            · rfl
          | apply RGW.off (i := 19) rfl
            · (simp only [gA, gB, gC] <;> rfl)
            · intro γ u W hcur hd
              obtain ⟨⟨h12, -, -⟩, ⟨h18, -, -⟩, -⟩ := hd
              dsimp only at h12 h18
              (try simp only [h12, h18])
              simp [Region.wanted, yielded, undef, *]
            · rfl
          dsimp only [nA, cA]
          first
          | apply RGW.on (i := 20) rfl
            · (simp only [gA, gB, gC] <;> rfl)
            · intro γ u W hcur hd
              obtain ⟨⟨h12, -, -⟩, ⟨h17, -, -⟩, ⟨h19, -, -⟩, -⟩ := hd
              dsimp only at h12 h17 h19
              (try simp only [h12, h17, h19])
              refine ⟨?_, ?_⟩
              · (simp [Region.wanted, yielded, undef, *]; done)
              go_simp <;> (try go_bits) <;> with_reducible rfl
            · exact fun _ _ _ => rfl
            · rfl
          | apply RGW.off (i := 20) rfl
            · (simp only [gA, gB, gC] <;> rfl)
            · intro γ u W hcur hd
              obtain ⟨⟨h12, -, -⟩, ⟨h17, -, -⟩, ⟨h19, -, -⟩, -⟩ := hd
              dsimp only at h12 h17 h19
              (try simp only [h12, h17, h19])
              simp [Region.wanted, yielded, undef, *]
            · rfl
          dsimp only [nA, cA]
          first
          | apply RGW.on (i := 21) rfl
            · (simp only [gA, gB, gC] <;> rfl)
            · intro γ u W hcur hd
              obtain ⟨⟨h12, -, -⟩, ⟨h20, -, -⟩, -⟩ := hd
              dsimp only at h12 h20
              (try simp only [h12, h20])
              refine ⟨?_, ?_⟩
              · (simp [Region.wanted, yielded, undef, *]; done)
              go_simp <;> (try go_bits) <;> with_reducible rfl
            · exact fun _ _ _ => rfl
            · rfl
          | apply RGW.off (i := 21) rfl
            · (simp only [gA, gB, gC] <;> rfl)
            · intro γ u W hcur hd
              obtain ⟨⟨h12, -, -⟩, ⟨h20, -, -⟩, -⟩ := hd
              dsimp only at h12 h20
              (try simp only [h12, h20])
              simp [Region.wanted, yielded, undef, *]
            · rfl
          dsimp only [nA, cA]
          first
          | apply RGW.on (i := 22) rfl
            · (simp only [gA, gB, gC] <;> rfl)
            · intro γ u W hcur hd
              obtain ⟨⟨h12, -, -⟩, ⟨h16, -, -⟩, ⟨h21, -, -⟩, -⟩ := hd
              dsimp only at h12 h16 h21
              (try simp only [h12, h16, h21])
              refine ⟨?_, ?_⟩
              · (simp [Region.wanted, yielded, undef, *]; done)
              go_simp <;> (try go_bits) <;> with_reducible rfl
            · exact fun _ _ _ => rfl
            · rfl
          | apply RGW.off (i := 22) rfl
            · (simp only [gA, gB, gC] <;> rfl)
            · intro γ u W hcur hd
              obtain ⟨⟨h12, -, -⟩, ⟨h16, -, -⟩, ⟨h21, -, -⟩, -⟩ := hd
              dsimp only at h12 h16 h21
              (try simp only [h12, h16, h21])
              simp [Region.wanted, yielded, undef, *]
            · rfl
          dsimp only [nA, cA]
          first
          | apply RGW.on (i := 23) rfl
            · (simp only [gA, gB, gC] <;> rfl)
            · intro γ u W hcur hd
              obtain ⟨⟨h9, -, -⟩, ⟨h12, -, -⟩, ⟨h22, -, -⟩, -⟩ := hd
              dsimp only at h9 h12 h22
              (try simp only [h9, h12, h22])
              refine ⟨?_, ?_⟩
              · (simp [Region.wanted, yielded, undef, *]; done)
              go_simp <;> (try go_bits) <;> with_reducible rfl
            · exact fun _ _ _ => rfl
            · rfl
          | apply RGW.off (i := 23) rfl
            · (simp only [gA, gB, gC] <;> rfl)
            · intro γ u W hcur hd
              obtain ⟨⟨h9, -, -⟩, ⟨h12, -, -⟩, ⟨h22, -, -⟩, -⟩ := hd
              dsimp only at h9 h12 h22
              (try simp only [h9, h12, h22])
              simp [Region.wanted, yielded, undef, *]
            · rfl
          dsimp only [nA, cA]
          apply RGW.on (i := 24) rfl
          · (simp only [gA, gB, gC] <;> rfl)
          · intro γ u W hcur hd
            obtain ⟨⟨h9, -, -⟩, ⟨h23, -, -⟩, -⟩ := hd
            dsimp only at h9 h23
            (try simp only [h9, h23])
            refine ⟨rfl, ?_⟩
            go_simp <;> (try go_bits) <;> with_reducible rfl
          · exact fun _ _ _ => rfl
          · rfl
          dsimp only [nA, cA]
          apply RGW.on (i := 25) rfl
          · (simp only [gA, gB, gC] <;> rfl)
          · intro γ u W hcur hd
            obtain ⟨⟨h24, -, -⟩, -⟩ := hd
            dsimp only at h24
            (try simp only [h24])
            refine ⟨rfl, ?_⟩
            go_simp <;> (try go_bits) <;> with_reducible rfl
          · exact fun _ _ _ => rfl
          · rfl
          dsimp only [nA, cA]
          first
          | apply RGW.on (i := 26) rfl
            · (simp only [gA, gB, gC] <;> rfl)
            · intro γ u W hcur hd
              obtain ⟨⟨h25, -, -⟩, -⟩ := hd
              dsimp only at h25
              (try simp only [h25])
              refine ⟨?_, ?_⟩
              · (simp [Region.wanted, yielded, undef, *]; done)
              go_simp <;> (try go_bits) <;> with_reducible rfl
            · exact fun _ _ _ => rfl
            · rfl
          | apply RGW.off (i := 26) rfl
            · (simp only [gA, gB, gC] <;> rfl)
            · intro γ u W hcur hd
              obtain ⟨⟨h25, -, -⟩, -⟩ := hd
              dsimp only at h25
              (try simp only [h25])
              simp [Region.wanted, yielded, undef, *]
            · rfl
          dsimp only [nA, cA]
          first
          | apply RGW.on (i := 27) rfl
            · (simp only [gA, gB, gC] <;> rfl)
            · intro γ u W hcur hd
              obtain ⟨⟨h25, -, -⟩, -⟩ := hd
              dsimp only at h25
              (try simp only [h25])
              refine ⟨?_, ?_⟩
              · (simp [Region.wanted, yielded, undef, *]; done)
              go_simp <;> (try go_bits) <;> with_reducible rfl
            · exact fun _ _ _ => rfl
            · rfl
          | apply RGW.off (i := 27) rfl
            · (simp only [gA, gB, gC] <;> rfl)
            · intro γ u W hcur hd
              obtain ⟨⟨h25, -, -⟩, -⟩ := hd
              dsimp only at h25
              (try simp only [h25])
              simp [Region.wanted, yielded, undef, *]
            · rfl
          dsimp only [nA, cA]
          first
          | apply RGW.on (i := 28) rfl
            · (simp only [gA, gB, gC] <;> rfl)
            · intro γ u W hcur hd
              obtain ⟨⟨h25, -, -⟩, ⟨h26, -, -⟩, ⟨h27, -, -⟩, -⟩ := hd
              dsimp only at h25 h26 h27
              (try simp only [h25, h26, h27])
              refine ⟨?_, ?_⟩
              · (simp [Region.wanted, yielded, undef, *]; done)
              go_simp <;> (try go_bits) <;> with_reducible rfl
            · exact fun _ _ _ => rfl
            · rfl
          | apply RGW.off (i := 28) rfl
            · (simp only [gA, gB, gC] <;> rfl)
            · intro γ u W hcur hd
              obtain ⟨⟨h25, -, -⟩, ⟨h26, -, -⟩, ⟨h27, -, -⟩, -⟩ := hd
              dsimp only at h25 h26 h27
              (try simp only [h25, h26, h27])
              simp [Region.wanted, yielded, undef, *]
            · rfl
          dsimp only [nA, cA]
          first
          | apply RGW.on (i := 29) rfl
            · (simp only [gA, gB, gC] <;> rfl)
            · intro γ u W hcur hd
              obtain ⟨⟨h25, -, -⟩, ⟨h28, -, -⟩, -⟩ := hd
              dsimp only at h25 h28
              (try simp only [h25, h28])
              refine ⟨?_, ?_⟩
              · (simp [Region.wanted, yielded, undef, *]; done)
              go_simp <;> (try go_bits) <;> with_reducible rfl
            · exact fun _ _ _ => rfl
            · rfl
          | apply RGW.off (i := 29) rfl
            · (simp only [gA, gB, gC] <;> rfl)
            · intro γ u W hcur hd
              obtain ⟨⟨h25, -, -⟩, ⟨h28, -, -⟩, -⟩ := hd
              dsimp only at h25 h28
              (try simp only [h25, h28])
              simp [Region.wanted, yielded, undef, *]
            · rfl
          dsimp only [nA, cA]
          first
          | apply RGW.on (i := 30) rfl
            · (simp only [gA, gB, gC] <;> rfl)
            · intro γ u W hcur hd
              obtain ⟨⟨h25, -, -⟩, -⟩ := hd
              dsimp only at h25
              (try simp only [h25])
              refine ⟨?_, ?_⟩
              · (simp [Region.wanted, yielded, undef, *]; done)
              go_simp <;> (try go_bits) <;> with_reducible rfl
            · exact fun _ _ _ => rfl
            · rfl
          | apply RGW.off (i := 30) rfl
            · (simp only [gA, gB, gC] <;> rfl)
            · intro γ u W hcur hd
              obtain ⟨⟨h25, -, -⟩, -⟩ := hd
              dsimp only at h25
              (try simp only [h25])
              simp [Region.wanted, yielded, undef, *]
            · rfl
          dsimp only [nA, cA]
          first
          | apply RGW.on (i := 31) rfl
            · (simp only [gA, gB, gC] <;> rfl)
            · intro γ u W hcur hd
              obtain ⟨⟨h25, -, -⟩, -⟩ := hd
              dsimp only at h25
              (try simp only [h25])
              refine ⟨?_, ?_⟩
              · (simp [Region.wanted, yielded, undef, *]; done)
              go_simp <;> (try go_bits) <;> with_reducible rfl
            · exact fun _ _ _ => rfl
            · rfl
          | apply RGW.off (i := 31) rfl
            · (simp only [gA, gB, gC] <;> rfl)
            · intro γ u W hcur hd
              obtain ⟨⟨h25, -, -⟩, -⟩ := hd
              dsimp only at h25
              (try simp only [h25])
              simp [Region.wanted, yielded, undef, *]
            · rfl
          dsimp only [nA, cA]
          first
          | apply RGW.on (i := 32) rfl
            · (simp only [gA, gB, gC] <;> rfl)
            · intro γ u W hcur hd
              obtain ⟨⟨h25, -, -⟩, ⟨h30, -, -⟩, ⟨h31, -, -⟩, -⟩ := hd
              dsimp only at h25 h30 h31
              (try simp only [h25, h30, h31])
              refine ⟨?_, ?_⟩
              · (simp [Region.wanted, yielded, undef, *]; done)
              go_simp <;> (try go_bits) <;> with_reducible rfl
            · exact fun _ _ _ => rfl
            · rfl
          | apply RGW.off (i := 32) rfl
            · (simp only [gA, gB, gC] <;> rfl)
            · intro γ u W hcur hd
              obtain ⟨⟨h25, -, -⟩, ⟨h30, -, -⟩, ⟨h31, -, -⟩, -⟩ := hd
              dsimp only at h25 h30 h31
              (try simp only [h25, h30, h31])
              simp [Region.wanted, yielded, undef, *]
            · rfl
          dsimp only [nA, cA]
          first
          | apply RGW.on (i := 33) rfl
            · (simp only [gA, gB, gC] <;> rfl)
            · intro γ u W hcur hd
              obtain ⟨⟨h25, -, -⟩, ⟨h32, -, -⟩, -⟩ := hd
              dsimp only at h25 h32
              (try simp only [h25, h32])
              refine ⟨?_, ?_⟩
              · (simp [Region.wanted, yielded, undef, *]; done)
              go_simp <;> (try go_bits) <;> with_reducible rfl
            · exact fun _ _ _ => rfl
            · rfl
          | apply RGW.off (i := 33) rfl
            · (simp only [gA, gB, gC] <;> rfl)
            · intro γ u W hcur hd
              obtain ⟨⟨h25, -, -⟩, ⟨h32, -, -⟩, -⟩ := hd
              dsimp only at h25 h32
              (try simp only [h25, h32])
              simp [Region.wanted, yielded, undef, *]
            · rfl
          dsimp only [nA, cA]
          first
          | apply RGW.on (i := 34) rfl
            · (simp only [gA, gB, gC] <;> rfl)
            · intro γ u W hcur hd
              obtain ⟨⟨h25, -, -⟩, ⟨h33, -, -⟩, -⟩ := hd
              dsimp only at h25 h33
              (try simp only [h25, h33])
              refine ⟨?_, ?_⟩
              · (simp [Region.wanted, yielded, undef, *]; done)
              go_simp <;> (try go_bits) <;> with_reducible rfl
            · exact fun _ _ _ => rfl
            · rfl
          | apply RGW.off (i := 34) rfl
            · (simp only [gA, gB, gC] <;> rfl)
            · intro γ u W hcur hd
              obtain ⟨⟨h25, -, -⟩, ⟨h33, -, -⟩, -⟩ := hd
              dsimp only at h25 h33
              (try simp only [h25, h33])
              simp [Region.wanted, yielded, undef, *]
            · rfl
          dsimp only [nA, cA]
          first
          | apply RGW.on (i := 35) rfl
            · (simp only [gA, gB, gC] <;> rfl)
            · intro γ u W hcur hd
              obtain ⟨⟨h25, -, -⟩, ⟨h29, -, -⟩, ⟨h34, -, -⟩, -⟩ := hd
              dsimp only at h25 h29 h34
              (try simp only [h25, h29, h34])
              refine ⟨?_, ?_⟩
              · (simp [Region.wanted, yielded, undef, *]; done)
              go_simp <;> (try go_bits) <;> with_reducible rfl
            · exact fun _ _ _ => rfl
            · rfl
          | apply RGW.off (i := 35) rfl
            · (simp only [gA, gB, gC] <;> rfl)
            · intro γ u W hcur hd
              obtain ⟨⟨h25, -, -⟩, ⟨h29, -, -⟩, ⟨h34, -, -⟩, -⟩ := hd
              dsimp only at h25 h29 h34
              (try simp only [h25, h29, h34])
              simp [Region.wanted, yielded, undef, *]
            · rfl
          dsimp only [nA, cA]
          apply RGW.on (i := 36) rfl
          · (simp only [gA, gB, gC] <;> rfl)
          · intro γ u W hcur hd
            obtain ⟨⟨h25, -, -⟩, ⟨h35, -, -⟩, -⟩ := hd
            dsimp only at h25 h35
            (try simp only [h25, h35])
            refine ⟨rfl, ?_⟩
            go_simp <;> (try go_bits) <;> with_reducible rfl
          · exact fun _ _ _ => rfl
          · rfl
          dsimp only [nA, cA]
          refine RGW.fin (fun γ u wj hwj hd hdis => ?_)
          obtain ⟨⟨h0, -, -⟩, ⟨h1, -, -⟩, ⟨h2, -, -⟩, ⟨h3, -, -⟩, ⟨h4, -, -⟩, ⟨h5, -, -⟩, ⟨h6, -, -⟩, ⟨h7, -, -⟩, ⟨h8, -, -⟩, ⟨h9, -, -⟩, ⟨h10, -, -⟩, ⟨h11, -, -⟩, ⟨h12, -, -⟩, ⟨h13, -, -⟩, ⟨h14, -, -⟩, ⟨h15, -, -⟩, ⟨h16, -, -⟩, ⟨h17, -, -⟩, ⟨h18, -, -⟩, ⟨h19, -, -⟩, ⟨h20, -, -⟩, ⟨h21, -, -⟩, ⟨h22, -, -⟩, ⟨h23, -, -⟩, ⟨h24, -, -⟩, ⟨h25, -, -⟩, ⟨h26, -, -⟩, ⟨h27, -, -⟩, ⟨h28, -, -⟩, ⟨h29, -, -⟩, ⟨h30, -, -⟩, ⟨h31, -, -⟩, ⟨h32, -, -⟩, ⟨h33, -, -⟩, ⟨h34, -, -⟩, ⟨h35, -, -⟩, ⟨h36, -, -⟩, -⟩ := hd
          dsimp only at h0 h1 h2 h3 h4 h5 h6 h7 h8 h9 h10 h11 h12 h13 h14 h15 h16 h17 h18 h19 h20 h21 h22 h23 h24 h25 h26 h27 h28 h29 h30 h31 h32 h33 h34 h35 h36
          clear hdis
          simp only [h0, h1, h2, h3, h4, h5, h6, h7, h8, h9, h10, h11, h12, h13, h14, h15, h16, h17, h18, h19, h20, h21, h22, h23, h24, h25, h26, h27, h28, h29, h30, h31, h32, h33, h34, h35, h36]
          clear h36 h35 h34 h33 h32 h31 h30 h29 h28 h27 h26 h25 h24 h23 h22 h21 h20 h19 h18 h17 h16 h15 h14 h13 h12 h11 h10 h9 h8 h7 h6 h5 h4 h3 h2 h1 h0
          clear u
          simp only [List.map_nil]
          refine PlanW.done ?_
          have hb3 := bl_tt hwj
          have hcast : (j : Int) + 1 = ((j + 1 : Nat) : Int) := by omega
          rw [hcast]
          clear hcast q2 q3 q4 q5 q6 q8 c5
          generalize hkj : j + 1 = k at *
          have hkk := Lib.hid hkj
          clear hkj
        case' neg =>
          have q1 : ¬ (0 : Int) < (k : Int) := by omega
          clear hy0 hasc'
          refine wp_any (w0 := wr) ⟨[], [], [some 152, some 153, some 154, some 155, some 156, some 157, some 158, some 159, some 160, some 161, some 162, some 163, some 164, some 165, some 166, some 167, some 168, some 169, some 170, some 171, some 172, some 173, some 174, some 175, some 176, some 177, some 178, some 179, some 180, some 181, some 182, some 183, some 184, some 185, some 186, some 187, some 188], [[], [], [0, 1], [0, 1, 2], [], [4], [4, 5], [0, 1, 2, 3, 4, 5, 6], [0, 1, 2, 3, 4, 5, 6, 7], [0, 1, 2, 3, 4, 5, 6, 7, 8], [0, 1, 2, 3, 4, 5, 6, 7, 8, 9], [0, 1, 2, 3, 4, 5, 6, 7, 8, 9, 10], [0, 1, 2, 3, 4, 5, 6, 7, 8, 9, 10, 11], [0, 1, 2, 3, 4, 5, 6, 7, 8, 9, 10, 11, 12], [0, 1, 2, 3, 4, 5, 6, 7, 8, 9, 10, 11, 12], [0, 1, 2, 3, 4, 5, 6, 7, 8, 9, 10, 11, 12, 13, 14], [0, 1, 2, 3, 4, 5, 6, 7, 8, 9, 10, 11, 12, 13, 14, 15], [0, 1, 2, 3, 4, 5, 6, 7, 8, 9, 10, 11, 12], [0, 1, 2, 3, 4, 5, 6, 7, 8, 9, 10, 11, 12], [0, 1, 2, 3, 4, 5, 6, 7, 8, 9, 10, 11, 12, 18], [0, 1, 2, 3, 4, 5, 6, 7, 8, 9, 10, 11, 12, 17, 18, 19], [0, 1, 2, 3, 4, 5, 6, 7, 8, 9, 10, 11, 12, 17, 18, 19, 20], [0, 1, 2, 3, 4, 5, 6, 7, 8, 9, 10, 11, 12, 13, 14, 15, 16, 17, 18, 19, 20, 21], [0, 1, 2, 3, 4, 5, 6, 7, 8, 9, 10, 11, 12, 13, 14, 15, 16, 17, 18, 19, 20, 21, 22], [0, 1, 2, 3, 4, 5, 6, 7, 8, 9, 10, 11, 12, 13, 14, 15, 16, 17, 18, 19, 20, 21, 22, 23], [0, 1, 2, 3, 4, 5, 6, 7, 8, 9, 10, 11, 12, 13, 14, 15, 16, 17, 18, 19, 20, 21, 22, 23, 24], [0, 1, 2, 3, 4, 5, 6, 7, 8, 9, 10, 11, 12, 13, 14, 15, 16, 17, 18, 19, 20, 21, 22, 23, 24, 25], [0, 1, 2, 3, 4, 5, 6, 7, 8, 9, 10, 11, 12, 13, 14, 15, 16, 17, 18, 19, 20, 21, 22, 23, 24, 25], [0, 1, 2, 3, 4, 5, 6, 7, 8, 9, 10, 11, 12, 13, 14, 15, 16, 17, 18, 19, 20, 21, 22, 23, 24, 25, 26, 27], [0, 1, 2, 3, 4, 5, 6, 7, 8, 9, 10, 11, 12, 13, 14, 15, 16, 17, 18, 19, 20, 21, 22, 23, 24, 25, 26, 27, 28], [0, 1, 2, 3, 4, 5, 6, 7, 8, 9, 10, 11, 12, 13, 14, 15, 16, 17, 18, 19, 20, 21, 22, 23, 24, 25], [0, 1, 2, 3, 4, 5, 6, 7, 8, 9, 10, 11, 12, 13, 14, 15, 16, 17, 18, 19, 20, 21, 22, 23, 24, 25], [0, 1, 2, 3, 4, 5, 6, 7, 8, 9, 10, 11, 12, 13, 14, 15, 16, 17, 18, 19, 20, 21, 22, 23, 24, 25, 30, 31], [0, 1, 2, 3, 4, 5, 6, 7, 8, 9, 10, 11, 12, 13, 14, 15, 16, 17, 18, 19, 20, 21, 22, 23, 24, 25, 30, 31, 32], [0, 1, 2, 3, 4, 5, 6, 7, 8, 9, 10, 11, 12, 13, 14, 15, 16, 17, 18, 19, 20, 21, 22, 23, 24, 25, 30, 31, 32, 33], [0, 1, 2, 3, 4, 5, 6, 7, 8, 9, 10, 11, 12, 13, 14, 15, 16, 17, 18, 19, 20, 21, 22, 23, 24, 25, 26, 27, 28, 29, 30, 31, 32, 33, 34], [0, 1, 2, 3, 4, 5, 6, 7, 8, 9, 10, 11, 12, 13, 14, 15, 16, 17, 18, 19, 20, 21, 22, 23, 24, 25, 26, 27, 28, 29, 30, 31, 32, 33, 34, 35]], [[], [], [0, 1], [2], [], [4], [5], [3, 6], [7], [8], [9], [9, 10], [9, 11], [12], [12], [12, 13, 14], [12, 15], [12], [12], [12, 18], [12, 17, 19], [12, 20], [12, 16, 21], [9, 12, 22], [9, 23], [24], [25], [25], [25, 26, 27], [25, 28], [25], [25], [25, 30, 31], [25, 32], [25, 33], [25, 29, 34], [25, 35]]⟩ (fun _ => []) (by kernel_rfl) (by kernel_rfl) (by (with_reducible (repeat' (first | assumption | apply jA | apply jB | apply jC | apply jD | apply jE | apply jF | apply hb3 | omega | (simp; done) | (simp; omega) | (dsimp only; omega))))) (fun u => by simp only [putD, Act.put, List.setIfInBounds_toArray, List.set_cons_zero, List.set_cons_succ, Nat.zero_add, Nat.reduceAdd]; rfl) ?_
          apply RGW.on (i := 0) rfl
          · (simp only [gA, gB, gC] <;> rfl)
          · intro γ u W hcur hd
            clear hd
            (try dsimp only)
            refine ⟨rfl, ?_⟩
            go_simp <;> (try go_bits) <;> with_reducible rfl
          · exact fun _ _ _ => rfl
          · rfl
          dsimp only [nA, cA]
          apply RGW.on (i := 1) rfl
          · (simp only [gA, gB, gC] <;> rfl)
          · intro γ u W hcur hd
            clear hd
            (try dsimp only)
            refine ⟨rfl, ?_⟩
            go_simp <;> (try go_bits) <;> with_reducible rfl
          · exact fun _ _ _ => rfl
          · rfl
          dsimp only [nA, cA]
          apply RGW.on (i := 2) rfl
          · (simp only [gA, gB, gC] <;> rfl)
          · intro γ u W hcur hd
            obtain ⟨⟨h0, -, -⟩, ⟨h1, -, -⟩, -⟩ := hd
            dsimp only at h0 h1
            (try simp only [h0, h1])
            refine ⟨rfl, ?_⟩
            go_simp <;> (try go_bits) <;> with_reducible rfl
          · exact fun _ _ _ => rfl
          · rfl
          dsimp only [nA, cA]
          apply RGW.on (i := 3) rfl
          · (simp only [gA, gB, gC] <;> rfl)
          · intro γ u W hcur hd
            obtain ⟨⟨h2, -, -⟩, -⟩ := hd
            dsimp only at h2
            (try simp only [h2])
            refine ⟨rfl, ?_⟩
            go_simp <;> (try go_bits) <;> with_reducible rfl
          · exact fun _ _ _ => rfl
          · rfl
          dsimp only [nA, cA]
          apply RGW.on (i := 4) rfl
          · (simp only [gA, gB, gC] <;> rfl)
          · intro γ u W hcur hd
            clear hd
            (try dsimp only)
            refine ⟨rfl, ?_⟩
            go_simp <;> (try go_bits) <;> with_reducible rfl
          · exact fun _ _ _ => rfl
          · rfl
          dsimp only [nA, cA]
          apply RGW.on (i := 5) rfl
          · (simp only [gA, gB, gC] <;> rfl)
          · intro γ u W hcur hd
            obtain ⟨⟨h4, -, -⟩, -⟩ := hd
            dsimp only at h4
            (try simp only [h4])
            refine ⟨rfl, ?_⟩
            go_simp <;> (try go_bits) <;> with_reducible rfl
          · exact fun _ _ _ => rfl
          · rfl
          dsimp only [nA, cA]
          apply RGW.on (i := 6) rfl
          · (simp only [gA, gB, gC] <;> rfl)
          · intro γ u W hcur hd
            obtain ⟨⟨h5, -, -⟩, -⟩ := hd
            dsimp only at h5
            (try simp only [h5])
            refine ⟨rfl, ?_⟩
            go_simp <;> (try go_bits) <;> with_reducible rfl
          · exact fun _ _ _ => rfl
          · rfl
          dsimp only [nA, cA]
          apply RGW.call (i := 7) rfl
          · (simp only [gA, gB, gC] <;> rfl)
          · intro γ u W hcur hd
            obtain ⟨⟨h3, -, -⟩, ⟨h6, -, -⟩, -⟩ := hd
            dsimp only at h3 h6
            (try simp only [h3, h6])
            refine ⟨rfl, fun K hK => ?_⟩
            go_simp
            (go_at_call 21; (with_reducible refine (hcw.out _).mono ?_); rintro e w3 ⟨rfl, rfl⟩)
            (try dsimp only)
            exact hK.out _ _ rfl (by (with_reducible (repeat' (first | assumption | apply jA | apply jB | apply jC | apply jD | apply jE | apply jF | apply hb3 | omega | (simp; done) | (simp; omega) | (dsimp only; omega)))))
          · exact fun _ _ _ => rfl
          · rfl
          dsimp only [nA, cA]
          apply RGW.on (i := 8) rfl
          · (simp only [gA, gB, gC] <;> rfl)
          · intro γ u W hcur hd
            obtain ⟨⟨h7, -, -⟩, -⟩ := hd
            dsimp only at h7
            (try simp only [h7])
            refine ⟨rfl, ?_⟩
            go_simp <;> (try go_bits) <;> with_reducible rfl
          · exact fun _ _ _ => rfl
          · rfl
          dsimp only [nA, cA]
          apply RGW.on (i := 9) rfl
          · (simp only [gA, gB, gC] <;> rfl)
          · intro γ u W hcur hd
            obtain ⟨⟨h8, -, -⟩, -⟩ := hd
            dsimp only at h8
            (try simp only [h8])
            refine ⟨rfl, ?_⟩
            go_simp <;> (try go_bits) <;> with_reducible rfl
          · exact fun _ _ _ => rfl
          · rfl
          dsimp only [nA, cA]
          first
          | apply RGW.on (i := 10) rfl
            · (simp only [gA, gB, gC] <;> rfl)
            · intro γ u W hcur hd
              obtain ⟨⟨h9, -, -⟩, -⟩ := hd
              dsimp only at h9
              (try simp only [h9])
              refine ⟨?_, ?_⟩
              · (simp [Region.wanted, yielded, undef, *]; done)
              go_simp <;> (try go_bits) <;> with_reducible rfl
            · exact fun _ _ _ => rfl
            · rfl
          | apply RGW.off (i := 10) rfl
            · (simp only [gA, gB, gC] <;> rfl)
            · intro γ u W hcur hd
              obtain ⟨⟨h9, -, -⟩, -⟩ := hd
              dsimp only at h9
              (try simp only [h9])
              simp [Region.wanted, yielded, undef, *]
            · rfl
          dsimp only [nA, cA]
          first
          | apply RGW.on (i := 11) rfl
            · (simp only [gA, gB, gC] <;> rfl)
            · intro γ u W hcur hd
              obtain ⟨⟨h9, -, -⟩, ⟨h10, -, -⟩, -⟩ := hd
              dsimp only at h9 h10
              (try simp only [h9, h10])
              refine ⟨?_, ?_⟩
              · (simp [Region.wanted, yielded, undef, *]; done)
              go_simp <;> (try go_bits) <;> with_reducible rfl
            · exact fun _ _ _ => rfl
            · rfl
          | apply RGW.off (i := 11) rfl
            · (simp only [gA, gB, gC] <;> rfl)
            · intro γ u W hcur hd
              obtain ⟨⟨h9, -, -⟩, ⟨h10, -, -⟩, -⟩ := hd
              dsimp only at h9 h10
              (try simp only [h9, h10])
              simp [Region.wanted, yielded, undef, *]
            · rfl
          dsimp only [nA, cA]
          first
          | apply RGW.on (i := 12) rfl
            · (simp only [gA, gB, gC] <;> rfl)
            · intro γ u W hcur hd
              obtain ⟨⟨h9, -, -⟩, ⟨h11, -, -⟩, -⟩ := hd
              dsimp only at h9 h11
              (try simp only [h9, h11])
              refine ⟨?_, ?_⟩
              · (simp [Region.wanted, yielded, undef, *]; done)
              go_simp <;> (try go_bits) <;> with_reducible rfl
            · exact fun _ _ _ => rfl
            · rfl
          | apply RGW.off (i := 12) rfl
            · (simp only [gA, gB, gC] <;> rfl)
            · intro γ u W hcur hd
              obtain ⟨⟨h9, -, -⟩, ⟨h11, -, -⟩, -⟩ := hd
              dsimp only at h9 h11
              (try simp only [h9, h11])
              simp [Region.wanted, yielded, undef, *]
            · rfl
          dsimp only [nA, cA]
          first
          | apply RGW.on (i := 13) rfl
            · (simp only [gA, gB, gC] <;> rfl)
            · intro γ u W hcur hd
              obtain ⟨⟨h12, -, -⟩, -⟩ := hd
              dsimp only at h12
              (try simp only [h12])
              refine ⟨?_, ?_⟩
              · (simp [Region.wanted, yielded, undef, *]; done)
              go_simp <;> (try go_bits) <;> with_reducible rfl
            · exact fun _ _ _ => rfl
            · rfl
          | apply RGW.off (i := 13) rfl
            · (simp only [gA, gB, gC] <;> rfl)
            · intro γ u W hcur hd
              obtain ⟨⟨h12, -, -⟩, -⟩ := hd
              dsimp only at h12
              (try simp only [h12])
              simp [Region.wanted, yielded, undef, *]
            · rfl
          dsimp only [nA, cA]
          first
          | apply RGW.on (i := 14) rfl
            · (simp only [gA, gB, gC] <;> rfl)
            · intro γ u W hcur hd
              obtain ⟨⟨h12, -, -⟩, -⟩ := hd
              dsimp only at h12
              (try simp only [h12])
              refine ⟨?_, ?_⟩
              · (simp [Region.wanted, yielded, undef, *]; done)
              go_simp <;> (try go_bits) <;> with_reducible rfl
            · exact fun _ _ _ => rfl
            · rfl
          | apply RGW.off (i := 14) rfl
            · (simp only [gA, gB, gC] <;> rfl)
            · intro γ u W hcur hd
              obtain ⟨⟨h12, -, -⟩, -⟩ := hd
              dsimp only at h12
              (try simp only [h12])
              simp [Region.wanted, yielded, undef, *]
            · rfl
          dsimp only [nA, cA]
          first
          | apply RGW.on (i := 15) rfl
            · (simp only [gA, gB, gC] <;> rfl)
            · intro γ u W hcur hd
              obtain ⟨⟨h12, -, -⟩, ⟨h13, -, -⟩, ⟨h14, -, -⟩, -⟩ := hd
              dsimp only at h12 h13 h14
              (try simp only [h12, h13, h14])
              refine ⟨?_, ?_⟩
              · (simp [Region.wanted, yielded, undef, *]; done)
              go_simp <;> (try go_bits) <;> with_reducible rfl
            · exact fun _ _ _ => rfl
            · rfl
          | apply RGW.off (i := 15) rfl
            · (simp only [gA, gB, gC] <;> rfl)
            · intro γ u W hcur hd
              obtain ⟨⟨h12, -, -⟩, ⟨h13, -, -⟩, ⟨h14, -, -⟩, -⟩ := hd
              dsimp only at h12 h13 h14
              (try simp only [h12, h13, h14])
              simp [Region.wanted, yielded, undef, *]
            · rfl
          dsimp only [nA, cA]
          first
          | apply RGW.on (i := 16) rfl
            · (simp only [gA, gB, gC] <;> rfl)
            · intro γ u W hcur hd
              obtain ⟨⟨h12, -, -⟩, ⟨h15, -, -⟩, -⟩ := hd
              dsimp only at h12 h15
              (try simp only [h12, h15])
              refine ⟨?_, ?_⟩
              · (simp [Region.wanted, yielded, undef, *]; done)
              go_simp <;> (try go_bits) <;> with_reducible rfl
            · exact fun _ _ _ => rfl
            · rfl
          | apply RGW.off (i := 16) rfl
            · (simp only [gA, gB, gC] <;> rfl)
            · intro γ u W hcur hd
              obtain ⟨⟨h12, -, -⟩, ⟨h15, -, -⟩, -⟩ := hd
              dsimp only at h12 h15
              (try simp only [h12, h15])
              simp [Region.wanted, yielded, undef, *]
            · rfl
          dsimp only [nA, cA]
          first
          | apply RGW.on (i := 17) rfl
            · (simp only [gA, gB, gC] <;> rfl)
            · intro γ u W hcur hd
              obtain ⟨⟨h12, -, -⟩, -⟩ := hd
              dsimp only at h12
              (try simp only [h12])
              refine ⟨?_, ?_⟩
              · (simp [Region.wanted, yielded, undef, *]; done)
              go_simp <;> (try go_bits) <;> with_reducible rfl
            · exact fun _ _ _ => rfl
            · rfl
          | apply RGW.off (i := 17) rfl
            · (simp only [gA, gB, gC] <;> rfl)
            · intro γ u W hcur hd
              obtain ⟨⟨h12, -, -⟩, -⟩ := hd
              dsimp only at h12
              (try simp only [h12])
              simp [Region.wanted, yielded, undef, *]
            · rfl
          dsimp only [nA, cA]
          first
          | apply RGW.on (i := 18) rfl
            · (simp only [gA, gB, gC] <;> rfl)
            · intro γ u W hcur hd
              obtain ⟨⟨h12, -, -⟩, -⟩ := hd
              dsimp only at h12
              (try simp only [h12])
              refine ⟨?_, ?_⟩
              · (simp [Region.wanted, yielded, undef, *]; done)
              go_simp <;> (try go_bits) <;> with_reducible rfl
            · exact fun _ _ _ => rfl
            · rfl
          | apply RGW.off (i := 18) rfl
            · (simp only [gA, gB, gC] <;> rfl)
            · intro γ u W hcur hd
              obtain ⟨⟨h12, -, -⟩, -⟩ := hd
              dsimp only at h12
              (try simp only [h12])
              simp [Region.wanted, yielded, undef, *]
            · rfl
          dsimp only [nA, cA]
          first
          | apply RGW.on (i := 19) rfl
            · (simp only [gA, gB, gC] <;> rfl)
            · intro γ u W hcur hd
              obtain ⟨⟨h12, -, -⟩, ⟨h18, -, -⟩, -⟩ := hd
              dsimp only at h12 h18
              (try simp only [h12, h18])
              refine ⟨?_, ?_⟩
              · (simp [Region.wanted, yielded, undef, *]; done)
              go_simp <;> (try go_bits) <;> with_reducible rfl
            · exact fun _ _ _ => rfl
            · rfl
          | apply RGW.off (i := 19) rfl
            · (simp only [gA, gB, gC] <;> rfl)
            · intro γ u W hcur hd
              obtain ⟨⟨h12, -, -⟩, ⟨h18, -, -⟩, -⟩ := hd
              dsimp only at h12 h18
              (try simp only [h12, h18])
              simp [Region.wanted, yielded, undef, *]
            · rfl
          dsimp only [nA, cA]
          first
          | apply RGW.on (i := 20) rfl
            · (simp only [gA, gB, gC] <;> rfl)
            · intro γ u W hcur hd
              obtain ⟨⟨h12, -, -⟩, ⟨h17, -, -⟩, ⟨h19, -, -⟩, -⟩ := hd
              dsimp only at h12 h17 h19
              (try simp only [h12, h17, h19])
              refine ⟨?_, ?_⟩
              · (simp [Region.wanted, yielded, undef, *]; done)
              go_simp <;> (try go_bits) <;> with_reducible rfl
            · exact fun _ _ _ => rfl
            · rfl
          | apply RGW.off (i := 20) rfl
            · (simp only [gA, gB, gC] <;> rfl)
            · intro γ u W hcur hd
              obtain ⟨⟨h12, -, -⟩, ⟨h17, -, -⟩, ⟨h19, -, -⟩, -⟩ := hd
              dsimp only at h12 h17 h19
              (try simp only [h12, h17, h19])
              simp [Region.wanted, yielded, undef, *]
            · rfl
          dsimp only [nA, cA]
          first
          | apply RGW.on (i := 21) rfl
            · (simp only [gA, gB, gC] <;> rfl)
            · intro γ u W hcur hd
              obtain ⟨⟨h12, -, -⟩, ⟨h20, -, -⟩, -⟩ := hd
              dsimp only at h12 h20
              (try simp only [h12, h20])
              refine ⟨?_, ?_⟩
              · (simp [Region.wanted, yielded, undef, *]; done)
              go_simp <;> (try go_bits) <;> with_reducible rfl
            · exact fun _ _ _ => rfl
            · rfl
          | apply RGW.off (i := 21) rfl
            · (simp only [gA, gB, gC] <;> rfl)
            · intro γ u W hcur hd
              obtain ⟨⟨h12, -, -⟩, ⟨h20, -, -⟩, -⟩ := hd
              dsimp only at h12 h20
              (try simp only [h12, h20])
              simp [Region.wanted, yielded, undef, *]
            · rfl
          dsimp only [nA, cA]
          first
          | apply RGW.on (i := 22) rfl
            · (simp only [gA, gB, gC] <;> rfl)
            · intro γ u W hcur hd
              obtain ⟨⟨h12, -, -⟩, ⟨h16, -, -⟩, ⟨h21, -, -⟩, -⟩ := hd
              dsimp only at h12 h16 h21
              (try simp only [h12, h16, h21])
              refine ⟨?_, ?_⟩
              · (simp [Region.wanted, yielded, undef, *]; done)
              go_simp <;> (try go_bits) <;> with_reducible rfl
            · exact fun _ _ _ => rfl
            · rfl
          | apply RGW.off (i := 22) rfl
            · (simp only [gA, gB, gC] <;> rfl)
            · intro γ u W hcur hd
              obtain ⟨⟨h12, -, -⟩, ⟨h16, -, -⟩, ⟨h21, -, -⟩, -⟩ := hd
              dsimp only at h12 h16 h21
              (try simp only [h12, h16, h21])
              simp [Region.wanted, yielded, undef, *]
            · rfl
          dsimp only [nA, cA]
          first
          | apply RGW.on (i := 23) rfl
            · (simp only [gA, gB, gC] <;> rfl)
            · intro γ u W hcur hd
              obtain ⟨⟨h9, -, -⟩, ⟨h12, -, -⟩, ⟨h22, -, -⟩, -⟩ := hd
              dsimp only at h9 h12 h22
              (try simp only [h9, h12, h22])
              refine ⟨?_, ?_⟩
              · (simp [Region.wanted, yielded, undef, *]; done)
              go_simp <;> (try go_bits) <;> with_reducible rfl
            · exact fun _ _ _ => rfl
            · rfl
          | apply RGW.off (i := 23) rfl
            · (simp only [gA, gB, gC] <;> rfl)
            · intro γ u W hcur hd
              obtain ⟨⟨h9, -, -⟩, ⟨h12, -, -⟩, ⟨h22, -, -⟩, -⟩ := hd
              dsimp only at h9 h12 h22
              (try simp only [h9, h12, h22])
              simp [Region.wanted, yielded, undef, *]
            · rfl
          dsimp only [nA, cA]
          apply RGW.on (i := 24) rfl
          · (simp only [gA, gB, gC] <;> rfl)
          · intro γ u W hcur hd
            obtain ⟨⟨h9, -, -⟩, ⟨h23, -, -⟩, -⟩ := hd
            dsimp only at h9 h23
            (try simp only [h9, h23])
            refine ⟨rfl, ?_⟩
            go_simp <;> (try go_bits) <;> with_reducible rfl
          · exact fun _ _ _ => rfl
          · rfl
          dsimp only [nA, cA]
          apply RGW.on (i := 25) rfl
          · (simp only [gA, gB, gC] <;> rfl)
          · intro γ u W hcur hd
            obtain ⟨⟨h24, -, -⟩, -⟩ := hd
            dsimp only at h24
            (try simp only [h24])
            refine ⟨rfl, ?_⟩
            go_simp <;> (try go_bits) <;> with_reducible rfl
          · exact fun _ _ _ => rfl
          · rfl
          dsimp only [nA, cA]
          first
          | apply RGW.on (i := 26) rfl
            · (simp only [gA, gB, gC] <;> rfl)
            · intro γ u W hcur hd
              obtain ⟨⟨h25, -, -⟩, -⟩ := hd
              dsimp only at h25
              (try simp only [h25])
              refine ⟨?_, ?_⟩
              · (simp [Region.wanted, yielded, undef, *]; done)
              go_simp <;> (try go_bits) <;> with_reducible rfl
            · exact fun _ _ _ => rfl
            · rfl
          | apply RGW.off (i := 26) rfl
            · (simp only [gA, gB, gC] <;> rfl)
            · intro γ u W hcur hd
              obtain ⟨⟨h25, -, -⟩, -⟩ := hd
              dsimp only at h25
              (try simp only [h25])
              simp [Region.wanted, yielded, undef, *]
            · rfl
          dsimp only [nA, cA]
          first
          | apply RGW.on (i := 27) rfl
            · (simp only [gA, gB, gC] <;> rfl)
            · intro γ u W hcur hd
              obtain ⟨⟨h25, -, -⟩, -⟩ := hd
              dsimp only at h25
              (try simp only [h25])
              refine ⟨?_, ?_⟩
              · (simp [Region.wanted, yielded, undef, *]; done)
              go_simp <;> (try go_bits) <;> with_reducible rfl
            · exact fun _ _ _ => rfl
            · rfl
          | apply RGW.off (i := 27) rfl
            · (simp only [gA, gB, gC] <;> rfl)
            · intro γ u W hcur hd
              obtain ⟨⟨h25, -, -⟩, -⟩ := hd
              dsimp only at h25
              (try simp only [h25])
              simp [Region.wanted, yielded, undef, *]
            · rfl
          dsimp only [nA, cA]
          first
          | apply RGW.on (i := 28) rfl
            · (simp only [gA, gB, gC] <;> rfl)
            · intro γ u W hcur hd
              obtain ⟨⟨h25, -, -⟩, ⟨h26, -, -⟩, ⟨h27, -, -⟩, -⟩ := hd
              dsimp only at h25 h26 h27
              (try simp only [h25, h26, h27])
              refine ⟨?_, ?_⟩
              · (simp [Region.wanted, yielded, undef, *]; done)
              go_simp <;> (try go_bits) <;> with_reducible rfl
            · exact fun _ _ _ => rfl
            · rfl
          | apply RGW.off (i := 28) rfl
            · (simp only [gA, gB, gC] <;> rfl)
            · intro γ u W hcur hd
              obtain ⟨⟨h25, -, -⟩, ⟨h26, -, -⟩, ⟨h27, -, -⟩, -⟩ := hd
              dsimp only at h25 h26 h27
              (try simp only [h25, h26, h27])
              simp [Region.wanted, yielded, undef, *]
            · rfl
          dsimp only [nA, cA]
          first
          | apply RGW.on (i := 29) rfl
            · (simp only [gA, gB, gC] <;> rfl)
            · intro γ u W hcur hd
              obtain ⟨⟨h25, -, -⟩, ⟨h28, -, -⟩, -⟩ := hd
              dsimp only at h25 h28
              (try simp only [h25, h28])
              refine ⟨?_, ?_⟩
              · (simp [Region.wanted, yielded, undef, *]; done)
              go_simp <;> (try go_bits) <;> with_reducible rfl
            · exact fun _ _ _ => rfl
            · rfl
          | apply RGW.off (i := 29) rfl
            · (simp only [gA, gB, gC] <;> rfl)
            · intro γ u W hcur hd
              obtain ⟨⟨h25, -, -⟩, ⟨h28, -, -⟩, -⟩ := hd
              dsimp only at h25 h28
              (try simp only [h25, h28])
              simp [Region.wanted, yielded, undef, *]
            · rfl
          dsimp only [nA, cA]
          first
          | apply RGW.on (i := 30) rfl
            · (simp only [gA, gB, gC] <;> rfl)
            · intro γ u W hcur hd
              obtain ⟨⟨h25, -, -⟩, -⟩ := hd
              dsimp only at h25
              (try simp only [h25])
              refine ⟨?_, ?_⟩
              · (simp [Region.wanted, yielded, undef, *]; done)
              go_simp <;> (try go_bits) <;> with_reducible rfl
            · exact fun _ _ _ => rfl
            · rfl
          | apply RGW.off (i := 30) rfl
            · (simp only [gA, gB, gC] <;> rfl)
            · intro γ u W hcur hd
              obtain ⟨⟨h25, -, -⟩, -⟩ := hd
              dsimp only at h25
              (try simp only [h25])
              simp [Region.wanted, yielded, undef, *]
            · rfl
          dsimp only [nA, cA]
          first
          | apply RGW.on (i := 31) rfl
            · (simp only [gA, gB, gC] <;> rfl)
            · intro γ u W hcur hd
              obtain ⟨⟨h25, -, -⟩, -⟩ := hd
              dsimp only at h25
              (try simp only [h25])
              refine ⟨?_, ?_⟩
              · (simp [Region.wanted, yielded, undef, *]; done)
              go_simp <;> (try go_bits) <;> with_reducible rfl
            · exact fun _ _ _ => rfl
            · rfl
          | apply RGW.off (i := 31) rfl
            · (simp only [gA, gB, gC] <;> rfl)
            · intro γ u W hcur hd
              obtain ⟨⟨h25, -, -⟩, -⟩ := hd
              dsimp only at h25
              (try simp only [h25])
              simp [Region.wanted, yielded, undef, *]
            · rfl
          dsimp only [nA, cA]
          first
          | apply RGW.on (i := 32) rfl
            · (simp only [gA, gB, gC] <;> rfl)
            · intro γ u W hcur hd
              obtain ⟨⟨h25, -, -⟩, ⟨h30, -, -⟩, ⟨h31, -, -⟩, -⟩ := hd
              dsimp only at h25 h30 h31
              (try simp only [h25, h30, h31])
              refine ⟨?_, ?_⟩
              · (simp [Region.wanted, yielded, undef, *]; done)
              go_simp <;> (try go_bits) <;> with_reducible rfl
            · exact fun _ _ _ => rfl
            · rfl
          | apply RGW.off (i := 32) rfl
            · (simp only [gA, gB, gC] <;> rfl)
            · intro γ u W hcur hd
              obtain ⟨⟨h25, -, -⟩, ⟨h30, -, -⟩, ⟨h31, -, -⟩, -⟩ := hd
              dsimp only at h25 h30 h31
              (try simp only [h25, h30, h31])
              simp [Region.wanted, yielded, undef, *]
            · rfl
          dsimp only [nA, cA]
          first
          | apply RGW.on (i := 33) rfl
            · (simp only [gA, gB, gC] <;> rfl)
            · intro γ u W hcur hd
              obtain ⟨⟨h25, -, -⟩, ⟨h32, -, -⟩, -⟩ := hd
              dsimp only at h25 h32
              (try simp only [h25, h32])
              refine ⟨?_, ?_⟩
              · (simp [Region.wanted, yielded, undef, *]; done)
              go_simp <;> (try go_bits) <;> with_reducible rfl
            · exact fun _ _ _ => rfl
            · rfl
          | apply RGW.off (i := 33) rfl
            · (simp only [gA, gB, gC] <;> rfl)
            · intro γ u W hcur hd
              obtain ⟨⟨h25, -, -⟩, ⟨h32, -, -⟩, -⟩ := hd
              dsimp only at h25 h32
              (try simp only [h25, h32])
              simp [Region.wanted, yielded, undef, *]
            · rfl
          dsimp only [nA, cA]
          first
          | apply RGW.on (i := 34) rfl
            · (simp only [gA, gB, gC] <;> rfl)
            · intro γ u W hcur hd
              obtain ⟨⟨h25, -, -⟩, ⟨h33, -, -⟩, -⟩ := hd
              dsimp only at h25 h33
              (try simp only [h25, h33])
              refine ⟨?_, ?_⟩
              · (simp [Region.wanted, yielded, undef, *]; done)
              go_simp <;> (try go_bits) <;> with_reducible rfl
            · exact fun _ _ _ => rfl
            · rfl
          | apply RGW.off (i := 34) rfl
            · (simp only [gA, gB, gC] <;> rfl)
            · intro γ u W hcur hd
              obtain ⟨⟨h25, -, -⟩, ⟨h33, -, -⟩, -⟩ := hd
              dsimp only at h25 h33
              (try simp only [h25, h33])
              simp [Region.wanted, yielded, undef, *]
            · rfl
          dsimp only [nA, cA]
          first
          | apply RGW.on (i := 35) rfl
            · (simp only [gA, gB, gC] <;> rfl)
            · intro γ u W hcur hd
              obtain ⟨⟨h25, -, -⟩, ⟨h29, -, -⟩, ⟨h34, -, -⟩, -⟩ := hd
              dsimp only at h25 h29 h34
              (try simp only [h25, h29, h34])
              refine ⟨?_, ?_⟩
              · (simp [Region.wanted, yielded, undef, *]; done)
              go_simp <;> (try go_bits) <;> with_reducible rfl
            · exact fun _ _ _ => rfl
            · rfl
          | apply RGW.off (i := 35) rfl
            · (simp only [gA, gB, gC] <;> rfl)
            · intro γ u W hcur hd
              obtain ⟨⟨h25, -, -⟩, ⟨h29, -, -⟩, ⟨h34, -, -⟩, -⟩ := hd
              dsimp only at h25 h29 h34
              (try simp only [h25, h29, h34])
              simp [Region.wanted, yielded, undef, *]
            · rfl
          dsimp only [nA, cA]
          apply RGW.on (i := 36) rfl
          · (simp only [gA, gB, gC] <;> rfl)
          · intro γ u W hcur hd
            obtain ⟨⟨h25, -, -⟩, ⟨h35, -, -⟩, -⟩ := hd
            dsimp only at h25 h35
            (try simp only [h25, h35])
            refine ⟨rfl, ?_⟩
            go_simp <;> (try go_bits) <;> with_reducible rfl
          · exact fun _ _ _ => rfl
          · rfl
          dsimp only [nA, cA]
          refine RGW.fin (fun γ u wj hwj hd hdis => ?_)
          obtain ⟨⟨h0, -, -⟩, ⟨h1, -, -⟩, ⟨h2, -, -⟩, ⟨h3, -, -⟩, ⟨h4, -, -⟩, ⟨h5, -, -⟩, ⟨h6, -, -⟩, ⟨h7, -, -⟩, ⟨h8, -, -⟩, ⟨h9, -, -⟩, ⟨h10, -, -⟩, ⟨h11, -, -⟩, ⟨h12, -, -⟩, ⟨h13, -, -⟩, ⟨h14, -, -⟩, ⟨h15, -, -⟩, ⟨h16, -, -⟩, ⟨h17, -, -⟩, ⟨h18, -, -⟩, ⟨h19, -, -⟩, ⟨h20, -, -⟩, ⟨h21, -, -⟩, ⟨h22, -, -⟩, ⟨h23, -, -⟩, ⟨h24, -, -⟩, ⟨h25, -, -⟩, ⟨h26, -, -⟩, ⟨h27, -, -⟩, ⟨h28, -, -⟩, ⟨h29, -, -⟩, ⟨h30, -, -⟩, ⟨h31, -, -⟩, ⟨h32, -, -⟩, ⟨h33, -, -⟩, ⟨h34, -, -⟩, ⟨h35, -, -⟩, ⟨h36, -, -⟩, -⟩ := hd
          dsimp only at h0 h1 h2 h3 h4 h5 h6 h7 h8 h9 h10 h11 h12 h13 h14 h15 h16 h17 h18 h19 h20 h21 h22 h23 h24 h25 h26 h27 h28 h29 h30 h31 h32 h33 h34 h35 h36
          clear hdis
          simp only [h0, h1, h2, h3, h4, h5, h6, h7, h8, h9, h10, h11, h12, h13, h14, h15, h16, h17, h18, h19, h20, h21, h22, h23, h24, h25, h26, h27, h28, h29, h30, h31, h32, h33, h34, h35, h36]
          clear h36 h35 h34 h33 h32 h31 h30 h29 h28 h27 h26 h25 h24 h23 h22 h21 h20 h19 h18 h17 h16 h15 h14 h13 h12 h11 h10 h9 h8 h7 h6 h5 h4 h3 h2 h1 h0
          clear u
          simp only [List.map_nil]
          refine PlanW.done ?_
          have hb3 := bl_tt hwj
          have hkk : Hid (k = k) := rfl
        all_goals
          as_aux_lemma =>
            have hk20 : (k : Int) < 20 := by have := hRn'.out; have := h20n.out; omega
            have hb4 := bl_tr hb0 hwj
            have d1 := c1 wj hwj
            have d3 := c3 wj hwj
            have d4 := c4 wj hwj
            replace sA := Lib.hid (sA.out.below hwj)
            replace sB := Lib.hid (sB.out.below hwj)
            replace sC := Lib.hid (sC.out.below hwj)
            clear hb3 hb0 hwj c1 c2 c3 c4 hcw
            by_cases hps : ps = src
            rotate_left
            · have hq : (ps != src) = true := by simp [hps]
              have e1 := Lib.hid (show K (k + 1) = K k by rw [hKn.out, if_neg hps, List.append_nil])
              have e2 := Lib.hid (show lastN (R.take (k + 1)) src = LN by rw [hLn.out, if_neg hps])
              replace hps := Lib.hid hps
              go_wp2
              go_roundw
              case rel => exact ⟨k + 1, by omega, by go_num, by rw [e2.out], by rw [e1.out], hb4, sA.out, sB.out, sC.out⟩
              case measure => have hkj := hkk.out; simp [intOf]; omega
            subst hps
            have hq : (ps != ps) = false := by simp
            have e1 := Lib.hid (show K (k + 1) = K k ++ rl by rw [hKn.out, if_pos rfl])
            have e2 := Lib.hid (show lastN (R.take (k + 1)) ps = pn by rw [hLn.out, if_pos rfl])
            obtain ⟨hr1, hr2⟩ := hLo.out rfl
            have hCr' := Lib.hid fun j => hCr.out j rfl
            clear hLo hCr hKn hLn
            by_cases hLN : LN < 0
            · have hrl : rl = [] := by rw [hr1, lostOf, if_pos hLN]
              have hKl := Lib.hid (show (K (k + 1)).length = (K k).length by rw [e1.out, hrl, List.append_nil])
              have hng : ¬ 0 ≤ LN := by omega
              clear hr1 hr2 hCr' hrl e1
              go_wp2
              go_loopw [22, 23] (fun nu lo' wi => nu = .int .i64 LN ∧ lo' = .int .i64 ((K k).length : Nat) ∧ Below wj.heap.size wj wi) (fun _ _ _ => 0)
              case atStart => exact ⟨rfl, rfl, bl_refl _⟩
              case round =>
                obtain ⟨rfl, rfl, hbi⟩ := hrel
                have f1 := kcell hbi d1
                have f4 := kcell hbi d4
                clear d1 d3 d4
                go_wp2
                go_roundw
                case rel => exact ⟨k + 1, by omega, by go_num, by rw [e2.out], by rw [hKl.out], bl_tr hb4 hbi, sA.out.below hbi, sB.out.below hbi, sC.out.below hbi⟩
                case measure => have hkj := hkk.out; simp [intOf]; omega
            obtain ⟨g1, g127⟩ := hr2 (by omega)
            obtain ⟨d, hd⟩ : ∃ d : Nat, newN pn LN = d := ⟨(newN pn LN).toNat, by omega⟩
            rw [hd] at g1 g127
            have hrl : rl = lostL LN (d - 1) := by rw [hr1, lostOf, if_neg hLN, hd, Int.toNat_natCast]
            have hdd : Hid ((pn - LN + 256) % 256 = d) := hd
            have hCj := Lib.hid fun j (hj : j + 1 < d) => (show C[(K k).length + j]? = some ((LN + ((j : Int) + 1)) % 256) by rw [hCr'.out j (by rw [hrl, lostL_len]; omega), hrl, lostL_at _ _ _ (by omega)])
            have hKl := Lib.hid (show (K (k + 1)).length = (K k).length + (d - 1) by rw [e1.out, hrl, List.length_append, lostL_len])
            obtain ⟨lk, Hlk⟩ : ∃ q, Hid ((K k).length = q) := ⟨_, rfl⟩
            rw [Hlk.out] at hKl hCj ⊢
            obtain ⟨hn0, hn1⟩ := hnum
            have hbk1 := hbk.2
            clear hr1 hr2 hCr' hrl e1 hd hbk
            have hL0' : (0 : Int) ≤ LN := by omega
            have hdb : d ≤ 127 := by omega
            replace g1 := Lib.hid g1
            replace g127 := Lib.hid g127
            replace hLN := Lib.hid hLN
            go_wp2
            go_loopw [22, 23] (fun nu lo' wi => ∃ j : Nat, j + 1 ≤ d ∧ nu = .int .i64 ((LN + (j : Int)) % 256) ∧ lo' = .int .i64 ((lk : Int) + (j : Int)) ∧ Below wj.heap.size wj wi) (fun _ lo' _ => lk + d - (intOf lo').toNat)
            case atStart => exact ⟨0, by have := g1.out; omega, by congr 1; omega, by simp, bl_refl _⟩
            case round =>
              obtain ⟨j, hj, rfl, rfl, hbi⟩ := hrel
              have f1 := kcell hbi d1
              have f4 := kcell hbi d4
              obtain ⟨nj, Hnj⟩ : ∃ q : Int, Hid ((LN + (j : Int)) % 256 = q) := ⟨_, rfl⟩
              have hnj0 : 0 ≤ nj ∧ nj ≤ 255 := by have := Hnj.out; omega
              obtain ⟨hnj1, hnj2⟩ := hnj0
              rw [Hnj.out]
              by_cases hjd : j + 1 = d
              · have hq3 : ((nj + 1) % 256 != pn) = false := by
                  have h1 := Hnj.out
                  have h2 := hdd.out
                  have : (nj + 1) % 256 = pn := by omega
                  simp [this]
                have hl2 : Hid (((lk : Int) + (j : Int)) = (((K (k + 1)).length : Nat) : Int)) := Lib.hid (by have := hKl.out; omega)
                clear hCj d1 d3 d4
                replace hjd := Lib.hid hjd
                go_wp2
                go_roundw
                case rel => exact ⟨k + 1, by omega, by go_num, by rw [e2.out], by rw [← hl2.out], bl_tr hb4 hbi, sA.out.below hbi, sB.out.below hbi, sC.out.below hbi⟩
                case measure => have hkj := hkk.out; simp [intOf]; omega
              · have hq3 : ((nj + 1) % 256 != pn) = true := by
                  have h1 := Hnj.out
                  have h2 := hdd.out
                  have : (nj + 1) % 256 ≠ pn := by omega
                  simp [this]
                have hcv := hCj.out j (by omega)
                have hlt : lk + j < lc := by have := (List.getElem?_eq_some_iff.1 hcv).1; have := Hlc.out; omega
                obtain ⟨b6, o6, e6, hc6⟩ := sC.out (lk + j) _ hcv
                have hval : (LN + ((j : Int) + 1)) % 256 = (nj + 1) % 256 := by have h1 := Hnj.out; omega
                have f6 : wr.cell? ⟨b6, o6 + (lk + j), none⟩ = some (.int .i64 ((nj + 1) % 256)) := by
                  have := kcell hbi (hc6 0 _ rfl)
                  rw [hval] at this
                  simpa using this
                replace hval := Lib.hid hval
                replace hjd := Lib.hid hjd
                have hlt2 : (lk : Int) + (j : Int) < lc := by omega
                clear hCj hcv hc6
                subst e6
                go_wp2
                go_roundw
                case rel => exact ⟨j + 1, by have := hjd.out; omega, by first | (rw [← hval.out]; done) | (rw [← hval.out]; congr 1; done) | (rw [← hval.out]; congr 1; omega), by go_num, hbi⟩
                case measure => have := hjd.out; simp [intOf]; omega
    have hx : l[k]? = some (l[k]'(by rw [Hn.out]; exact hkn)) := List.getElem?_eq_getElem _
    generalize l[k]'(by rw [Hn.out]; exact hkn) = m at hx
    have hen' := Lib.hid (hen.out m)
    have hme' := Lib.hid (hme.out m)
    have hVs' := Lib.hid fun h => hVs.out k m hx h hVk
    obtain ⟨f1, f2, f3⟩ := hFs.out k m hx
    obtain ⟨l1, l2, l3⟩ := hFl.out k hk
    obtain ⟨l4, l5, l6⟩ := hFl.out (k + 1) hkn
    replace f1 := Lib.hid f1
    replace f2 := Lib.hid f2
    replace f3 := Lib.hid f3
    replace l4 := Lib.hid l4
    replace l5 := Lib.hid l5
    replace l6 := Lib.hid l6
    replace l1 := Lib.hid l1
    replace l2 := Lib.hid l2
    replace l3 := Lib.hid l3
    replace hVk := Lib.hid hVk
    obtain ⟨b, off, rfl, hc⟩ := Hs.out k m hx
    have d0 := kcell hb0 (hc 0 _ rfl)
    have d1 := kcell hb0 (hc 1 _ rfl)
    have d2 := kcell hb0 (hc 2 _ rfl)
    have d3 := kcell hb0 (hc 3 _ rfl)
    have d4 := kcell hb0 (hc 4 _ rfl)
    have d5 := kcell hb0 (hc 5 _ rfl)
    have d6 := kcell hb0 (hc 6 _ rfl)
    simp only [Nat.add_zero] at d0
    clear hc hx
    generalize msE m = me at *
    generalize fm m = f at *
    dsimp only [vMs, aMs] at hen' hme'
    have hkn2 : (k : Int) < n := by omega
    have hrlt5 := fun g hg => ownL_lt hr3.out.a g hg
    have hrlt6 := fun g hg => ownL_lt hr3.out.b g hg
    have hrlt7 := fun g hg => ownL_lt hr3.out.c g hg
    go_wp2_with fail
    refine (hme'.out _).mono ?_
    rintro e w3 ⟨rfl, hb1⟩
    by_cases hme0 : me = 0
    rotate_left
    · have hne : (me != 0) = true := by simp [hme0]
      replace hme0 := Lib.hid hme0
      go_wp2
      go_ret
      exact ⟨rfl, bl_tr hb0 hb1⟩
    have hen2 := Lib.hid (hen'.out hme0)
    have hVs2 := Lib.hid (hVs'.out hme0)
    subst hme0
    clear hen' hVs' hme'
    have hb3 := bl_tr hb0 hb1
    have e0 := kcell hb1 d0
    have e1 := kcell hb1 d1
    have e2 := kcell hb1 d2
    have e3 := kcell hb1 d3
    have e4 := kcell hb1 d4
    have e5 := kcell hb1 d5
    have e6 := kcell hb1 d6
    clear d0 d1 d2 d3 d4 d5 d6
    replace kO := kO.below hb1
    replace hr3 := Lib.hid (hr3.out.below hb1)
    have hlt3 := hb1.size
    clear hb1
    go_wp2_with fail
    refine (hen2.out _).mono ?_
    rintro e w4 ⟨rfl, hb1⟩
    clear e0 e1 e2 e3 e4 e5 e6
    replace hb0 := bl_tr hb3 hb1
    replace kO := kO.below hb1
    replace hr3 := Lib.hid (hr3.out.below hb1)
    replace hlt3 := Nat.le_trans hlt3 hb1.size
    clear hb1 hb3 hen2
    go_upto_region 13 with fail
    have k10 := Blk.new w4 40 (aFr f)
    have hbA := bl_al (.cells (aFr f) 40) (bl_refl w4)
    dsimp only [aFr] at k10 hbA
    replace hb0 := bl_tr hb0 hbA
    replace kO := kO.below hbA
    replace hr3 := Lib.hid (hr3.out.below hbA)
    generalize hg10 : w4.heap.size = g10 at *
    generalize w4.alloc (.cells #[.int .i64 f.a0, .int .i64 f.a1, .int .i64 f.a2, .int .i64 f.a3, .int .i64 f.a4, .int .i64 f.a5, .int .i64 f.a6, .int .i64 f.a7] 40) = w5 at *
    clear hbA hg10
    have LO := kO.cell
    go_wp2_with fail
    refine (heo.out _).mono ?_
    rintro e w6 ⟨rfl, hb1⟩
    replace hb0 := bl_tr hb0 hb1
    replace kO := kO.below hb1
    replace k10 := k10.below hb1
    replace hr3 := Lib.hid (hr3.out.below hb1)
    clear hb1 LO
    have hq10 := k10.lt
    go_upto_region 14 with fail
    have k12 := Blk.new w6 40 (aFr fo)
    have hbA := bl_al (.cells (aFr fo) 40) (bl_refl w6)
    dsimp only [aFr] at k12 hbA
    replace hb0 := bl_tr hb0 hbA
    replace kO := kO.below hbA
    replace k10 := k10.below hbA
    replace hr3 := Lib.hid (hr3.out.below hbA)
    generalize hg12 : w6.heap.size = g12 at *
    generalize w6.alloc (.cells #[.int .i64 fo.a0, .int .i64 fo.a1, .int .i64 fo.a2, .int .i64 fo.a3, .int .i64 fo.a4, .int .i64 fo.a5, .int .i64 fo.a6, .int .i64 fo.a7] 40) = w7 at *
    clear hbA hg12
    have L10 := k10.cell
    have hq12 := k12.lt
    have hoA := Lib.hid (own_below hr3.out.a (bl_al (.cells #[.int .i64 f.a0, .int .i64 f.a1, .int .i64 f.a2, .int .i64 f.a3, .int .i64 f.a4, .int .i64 f.a5, .int .i64 f.a6, .int .i64 f.a7] 40) (bl_refl w7)))
    rw [l1.out] at hoA
    have hszA := hb0.size
    go_wp2_with (at_builtin; refine wpList_append_own2 rfl _ _ 108 rfl D 40 i0 (.agg #[.int .i64 0, .int .i64 0, .int .i64 0, .int .i64 0, .int .i64 0, .int .i64 0, .int .i64 0, .int .i64 0]) 8 64 Tryd.underlying108 hi hz0 hz1 hz2 rfl (by decide) _ _ _ rfl hoA.out ⟨_, 0, none⟩ 1 1 (cFr f) rfl rfl ?c1 ?c2 ?c3 ?c4 ?c5 ?_)
    case c1 =>
      intro q u hq
      have hB := (Blk.new w7 40 (aFr f)).cell q
      rw [← cFr_arr] at hB
      have hadd : ∀ g, (⟨g, 0, none⟩ : Addr).add q = ⟨g, q, none⟩ := fun g => by unfold Addr.add; split <;> simp_all
      rw [hadd]
      exact hB.trans (by simpa using hq)
    case c2 => exact cFr_one f
    case c3 => unfold maxLen; omega
    case c4 => omega
    case c5 => have := hr3.out.ge; first | omega | (simp; omega)
    intro v9 w9 hown hg2 hd2
    have hd2' : ∀ q, v9.ownBlock = some q → u5.ownBlock = some q ∨ w7.heap.size ≤ q := fun q hq => (hd2 q hq).imp_right fun h => by first | omega | (simp at h; omega)
    have hr9 := (hr3.out.below (bl_al (.cells #[.int .i64 f.a0, .int .i64 f.a1, .int .i64 f.a2, .int .i64 f.a3, .int .i64 f.a4, .int .i64 f.a5, .int .i64 f.a6, .int .i64 f.a7] 40) (bl_refl w7)))
    have hown5 : w9.ownsRow D 40 8 v9 (F (k + 1)).length ((F (k + 1)).flatMap cFr) := by
      rw [l4.out, f1.out, List.flatMap_append]
      simpa using hown
    have hr10 := hr9.appG hown5 hg2 (fun q hq => by rw [World.size_alloc]; exact hd2 q hq)
    have hb9 := (bl_al (.cells #[.int .i64 f.a0, .int .i64 f.a1, .int .i64 f.a2, .int .i64 f.a3, .int .i64 f.a4, .int .i64 f.a5, .int .i64 f.a6, .int .i64 f.a7] 40) hb0).grown hg2 (by simp; omega) (fun q hq => by have := own_ge hoA.out q hq; omega)
    have kO9 := (kO.alloc (.cells #[.int .i64 f.a0, .int .i64 f.a1, .int .i64 f.a2, .int .i64 f.a3, .int .i64 f.a4, .int .i64 f.a5, .int .i64 f.a6, .int .i64 f.a7] 40)).grown hg2 (fun h => by have := own_ge hoA.out gO h.symm; omega)
    have k10' := (k10.alloc (.cells #[.int .i64 f.a0, .int .i64 f.a1, .int .i64 f.a2, .int .i64 f.a3, .int .i64 f.a4, .int .i64 f.a5, .int .i64 f.a6, .int .i64 f.a7] 40)).grown hg2 (fun h => by have := hrlt5 g10 (by simp [ownL, ← h]); omega)
    have k12' := (k12.alloc (.cells #[.int .i64 f.a0, .int .i64 f.a1, .int .i64 f.a2, .int .i64 f.a3, .int .i64 f.a4, .int .i64 f.a5, .int .i64 f.a6, .int .i64 f.a7] 40)).grown hg2 (fun h => by have := hrlt5 g12 (by simp [ownL, ← h]); omega)
    have hsz9 : w7.heap.size ≤ w9.heap.size := Nat.le_trans (by simp) hg2.size
    clear hr9 hown5 hown hg2 hd2 hd2' hoA L10 k10 k12 kO hb0 hr3 hszA
    have hDx := hr10.ge
    have hu6lt : ∀ x ∈ ownL u6, x < w9.heap.size := fun x hx => by have := hrlt6 x hx; omega
    have n10 : g10 ∉ ownL u6 := fun hx => by have := hrlt6 _ hx; omega
    have L10 := fun W hb => k10'.laterN (ownL u6) W hb n10
    replace hr10 := Lib.hid hr10
    have hGb : (2 * k : Nat) ≤ 40 := by omega
    have hoB := hr10.out.b
    go_upto_region 17 with fail
    rw [l2.out] at hoB
    refine wp_anyT (w0 := w9) 3 (ownL u6) ⟨[6, 7], [], [some 74, some 75, some 76, some 77, some 78, some 79, none, none], [[], [], [1], [0, 1, 2], [], [4], [0, 1, 2, 3, 4, 5], [0, 1, 2, 3, 4, 5, 6]], [[], [], [1], [0, 2], [], [4], [], []]⟩ (fun γ => ownL (γ 3).v) (by kernel_rfl) (by kernel_rfl) rfl (by (with_reducible (repeat' (first | assumption | apply jA | apply jB | apply jC | apply jD | apply jE | apply jF | apply hb3 | omega | (simp; done) | (simp; omega) | (dsimp only; omega))))) (fun u => by simp only [putD, Act.put, List.setIfInBounds_toArray, List.set_cons_zero, List.set_cons_succ, Nat.zero_add, Nat.reduceAdd]; rfl) ?_
    apply RGT.on (i := 0) rfl (by decide)
    · (simp only [gA, gB, gC] <;> rfl)
    · intro γ u W hcur hd
      clear hd
      (try dsimp only)
      refine ⟨rfl, ?_⟩
      go_simp <;> (try go_bits) <;> with_reducible rfl
    · exact fun _ _ _ => rfl
    dsimp only [nA, cA]
    apply RGT.on (i := 1) rfl (by decide)
    · (simp only [gA, gB, gC] <;> rfl)
    · intro γ u W hcur hd
      clear hd
      (try dsimp only)
      refine ⟨rfl, ?_⟩
      go_simp <;> (try go_bits) <;> with_reducible rfl
    · exact fun _ _ _ => rfl
    dsimp only [nA, cA]
    apply RGT.bslice (i := 2) rfl (by decide) hu6lt
    · (simp only [gA, gB, gC] <;> rfl)
    · intro γ u W hcur hd
      obtain ⟨⟨h1, -, -⟩, -⟩ := hd
      dsimp only at h1
      (try simp only [h1])
      refine ⟨rfl, fun K hK => ?_⟩
      go_simp
      exact hK.out _ _ rfl rfl
    · exact fun _ _ _ => rfl
    · rfl
    dsimp only [nA, cA]
    apply RGT.mut (⟨fun γ => (γ 3).v, fun γ W => W.ownsRow D 40 8 (γ 3).v (2 * k + 1) ((G k).flatMap cFr ++ cFr f) ∧ ∀ q, (γ 3).v.ownBlock = some q → Value.ownBlock u6 = some q ∨ w9.heap.size ≤ q, fun _ => []⟩) (i := 3) rfl rfl
    · (simp only [gA, gB, gC] <;> rfl)
    · intro γ u W hcur hd
      obtain ⟨⟨h0, -, -⟩, ⟨h2, r2, -⟩, -⟩ := hd
      dsimp only at h0 h2 r2
      (try simp only [h0, h2])
      refine ⟨rfl, fun K hK => ?_⟩
      (refine wp_appT _ _ rfl Tryd.underlying108 hi hz0 hz1 hz2 rfl (by decide) u6 (2 * k) _ (cFr f) rfl rfl (own_below hoB hcur) r2 rfl (cFr_one _) (by unfold maxLen; omega) (by omega) (Nat.le_trans hDx hcur.size) ?_; intro v' w' hown' hbx' hnew'; exact hK.out ⟨0, v', none, 0⟩ _ _ (by simp [up]) hbx' ⟨by simpa [up] using hown', fun q hq => (hnew' q (by simpa [up] using hq)).imp_right fun h => Nat.le_trans hcur.size h⟩ (by simp))
    · intro γ γ' hg
      have e0 := hg 3 (.inl rfl)
      exact ⟨by (try dsimp only); simp only [e0], fun W h => by (try dsimp only at h ⊢); simpa only [e0] using h⟩
    · intro γ W W' hbl hR
      first | exact hR.below hbl | exact ⟨own_below hR.1 hbl, hR.2⟩
    dsimp only [nA, cA]
    apply RGT.on (i := 4) rfl (by decide)
    · (simp only [gA, gB, gC] <;> rfl)
    · intro γ u W hcur hd
      clear hd
      (try dsimp only)
      refine ⟨rfl, ?_⟩
      go_simp <;> (try go_bits) <;> with_reducible rfl
    · exact fun _ _ _ => rfl
    dsimp only [nA, cA]
    apply RGT.bslice (i := 5) rfl (by decide) hu6lt
    · (simp only [gA, gB, gC] <;> rfl)
    · intro γ u W hcur hd
      obtain ⟨⟨h4, -, -⟩, -⟩ := hd
      dsimp only at h4
      (try simp only [h4])
      refine ⟨rfl, fun K hK => ?_⟩
      go_simp
      exact hK.out _ _ rfl rfl
    · exact fun _ _ _ => rfl
    · rfl
    dsimp only [nA, cA]
    refine RGT.skip (i := 6) rfl rfl ?_
    dsimp only [nA, cA]
    refine RGT.skip (i := 7) rfl rfl ?_
    dsimp only [nA, cA]
    refine RGT.fin (fun γ u wd hwd hd => ?_)
    obtain ⟨⟨h0, -, -⟩, ⟨h1, -, -⟩, ⟨h2, r2, b2⟩, ⟨h3, r3, -⟩, ⟨h4, -, -⟩, ⟨h5, r5, b5⟩, -⟩ := hd
    dsimp only at h0 h1 h2 h3 h4 h5 r2 r3 r5 b2 b5
    simp only [h0, h1, h2, h3, h4, h5]
    clear h5 h4 h3 h2 h1 h0
    replace b2 := b2 _ (List.mem_singleton.2 rfl)
    generalize hγ2 : (γ 2).n = g2 at *
    clear hγ2
    replace b5 := b5 _ (List.mem_singleton.2 rfl)
    generalize hγ5 : (γ 5).n = g5 at *
    clear hγ5
    clear u
    simp only [List.map_cons, List.map_nil]
    apply PlanW.step
    · (simp only [gA, gB, gC] <;> rfl)
    · rfl
    intro K hK
    (refine wp_appT _ _ rfl Tryd.underlying108 hi hz0 hz1 hz2 rfl (by decide) (γ 3).v (2 * k + 1) _ (cFr f) rfl rfl r3.1 r5 rfl (cFr_one _) (by unfold maxLen; omega) (by omega) (Nat.le_trans hDx hwd.size) ?_; intro v' w' hown' hbx' hnew'; refine hK.out _ _ hbx' (fun hcur => ?_))
    clear hK K
    try simp only [Act.put, List.setIfInBounds_toArray, List.set_cons_zero, List.set_cons_succ]
    apply PlanW.step
    · (simp only [gA, gB, gC] <;> rfl)
    · rfl
    intro K hK
    go_simp
    refine hK.out _ _ (by with_reducible first | assumption | exact bx_refl _ _) (fun hcur => ?_)
    clear hK K
    try simp only [Act.put, List.setIfInBounds_toArray, List.set_cons_zero, List.set_cons_succ]
    refine PlanW.done ?_
    have hin3 : ∀ x ∈ ownL (γ 3).v, D ≤ x ∧ (x ∈ ownL u6 ∨ w9.heap.size ≤ x) := fun x hx => by
      refine ⟨ownL_ge r3.1 x hx, ?_⟩
      unfold ownL at hx
      cases hv : (γ 3).v.ownBlock with
      | none => rw [hv] at hx; simp at hx
      | some q =>
        rw [hv] at hx
        obtain rfl : x = q := by simpa using hx
        exact (r3.2 x hv).imp (fun h => by simp [ownL, h]) id
    have hq1 := (hr10.out.rot).app (A' := G k ++ [f]) (by rw [List.length_append, l2.out, List.flatMap_append]; simpa using r3.1) hwd r3.2
    have hq2 := hq1.app (A' := G (k + 1)) (by rw [l5.out, f2.out, List.flatMap_append, List.flatMap_append]; simpa [Nat.mul_add] using hown') hbx' hnew'
    have hD6 : ∀ x ∈ ownL u6, D ≤ x := fun x hx => (hrlt6 x hx).1
    have hbE := bx_below (bx_below hb9 hwd (fun x hx => Nat.le_trans hDw (hD6 x hx))) hbx' (fun x hx => Nat.le_trans hDw (hin3 x hx).1)
    have nn : ∀ g, g < D ∨ (wr.heap.size ≤ g ∧ g < w9.heap.size) → g ∉ ownL u6 ∧ g ∉ ownL (γ 3).v := fun g hg => by
      have h6 : g ∉ ownL u6 := fun h => by have := hrlt6 g h; omega
      refine ⟨h6, fun h => ?_⟩
      have := hin3 g h
      rcases this.2 with h' | h'
      · exact h6 h'
      · omega
    have kOE := (kO9.keep (nn gO (by omega)).1 hwd).keep (nn gO (by omega)).2 hbx'
    have k10E := (k10'.keep (nn g10 (by omega)).1 hwd).keep (nn g10 (by omega)).2 hbx'
    have k12E := (k12'.keep (nn g12 (by omega)).1 hwd).keep (nn g12 (by omega)).2 hbx'
    have hszE : w9.heap.size ≤ w'.heap.size := Nat.le_trans hwd.size hbx'.size
    clear hcur hbx' hnew' hown' hwd r3 hin3 hD6 nn hq1 hr10 hb9 kO9 k10' k12' L10 hoB n10 hu6lt
    generalize w' = we at *
    generalize v' = v6 at *
    replace hq2 := hq2.rot
    have hDx := hq2.ge
    have hu7lt : ∀ x ∈ ownL u7, x < we.heap.size := fun x hx => by have := hrlt7 x hx; omega
    have n10 : g10 ∉ ownL u7 := fun hx => by have := hrlt7 _ hx; omega
    have n12 : g12 ∉ ownL u7 := fun hx => by have := hrlt7 _ hx; omega
    have L10 := fun W hb => k10E.laterN (ownL u7) W hb n10
    have L12 := fun W hb => k12E.laterN (ownL u7) W hb n12
    have hoB := hq2.a
    replace hq2 := Lib.hid hq2
    go_upto_region 18 with fail
    rw [l3.out] at hoB
    refine wp_anyT (w0 := we) 3 (ownL u7) ⟨[6, 7], [], [some 81, some 82, some 83, some 84, some 85, some 86, none, none], [[], [], [1], [0, 1, 2], [], [4], [0, 1, 2, 3, 4, 5], [0, 1, 2, 3, 4, 5, 6]], [[], [], [1], [0, 2], [], [4], [], []]⟩ (fun γ => ownL (γ 3).v) (by kernel_rfl) (by kernel_rfl) rfl (by (with_reducible (repeat' (first | assumption | apply jA | apply jB | apply jC | apply jD | apply jE | apply jF | apply hb3 | omega | (simp; done) | (simp; omega) | (dsimp only; omega))))) (fun u => by simp only [putD, Act.put, List.setIfInBounds_toArray, List.set_cons_zero, List.set_cons_succ, Nat.zero_add, Nat.reduceAdd]; rfl) ?_
    apply RGT.on (i := 0) rfl (by decide)
    · (simp only [gA, gB, gC] <;> rfl)
    · intro γ u W hcur hd
      clear hd
      (try dsimp only)
      refine ⟨rfl, ?_⟩
      go_simp <;> (try go_bits) <;> with_reducible rfl
    · exact fun _ _ _ => rfl
    dsimp only [nA, cA]
    apply RGT.on (i := 1) rfl (by decide)
    · (simp only [gA, gB, gC] <;> rfl)
    · intro γ u W hcur hd
      clear hd
      (try dsimp only)
      refine ⟨rfl, ?_⟩
      go_simp <;> (try go_bits) <;> with_reducible rfl
    · exact fun _ _ _ => rfl
    dsimp only [nA, cA]
    apply RGT.bslice (i := 2) rfl (by decide) hu7lt
    · (simp only [gA, gB, gC] <;> rfl)
    · intro γ u W hcur hd
      obtain ⟨⟨h1, -, -⟩, -⟩ := hd
      dsimp only at h1
      (try simp only [h1])
      refine ⟨rfl, fun K hK => ?_⟩
      go_simp
      exact hK.out _ _ rfl rfl
    · exact fun _ _ _ => rfl
    · rfl
    dsimp only [nA, cA]
    apply RGT.mut (⟨fun γ => (γ 3).v, fun γ W => W.ownsRow D 40 8 (γ 3).v (2 * k + 1) ((H k).flatMap cFr ++ cFr f) ∧ ∀ q, (γ 3).v.ownBlock = some q → Value.ownBlock u7 = some q ∨ we.heap.size ≤ q, fun _ => []⟩) (i := 3) rfl rfl
    · (simp only [gA, gB, gC] <;> rfl)
    · intro γ u W hcur hd
      obtain ⟨⟨h0, -, -⟩, ⟨h2, r2, -⟩, -⟩ := hd
      dsimp only at h0 h2 r2
      (try simp only [h0, h2])
      refine ⟨rfl, fun K hK => ?_⟩
      (refine wp_appT _ _ rfl Tryd.underlying108 hi hz0 hz1 hz2 rfl (by decide) u7 (2 * k) _ (cFr f) rfl rfl (own_below hoB hcur) r2 rfl (cFr_one _) (by unfold maxLen; omega) (by omega) (Nat.le_trans hDx hcur.size) ?_; intro v' w' hown' hbx' hnew'; exact hK.out ⟨0, v', none, 0⟩ _ _ (by simp [up]) hbx' ⟨by simpa [up] using hown', fun q hq => (hnew' q (by simpa [up] using hq)).imp_right fun h => Nat.le_trans hcur.size h⟩ (by simp))
    · intro γ γ' hg
      have e0 := hg 3 (.inl rfl)
      exact ⟨by (try dsimp only); simp only [e0], fun W h => by (try dsimp only at h ⊢); simpa only [e0] using h⟩
    · intro γ W W' hbl hR
      first | exact hR.below hbl | exact ⟨own_below hR.1 hbl, hR.2⟩
    dsimp only [nA, cA]
    apply RGT.on (i := 4) rfl (by decide)
    · (simp only [gA, gB, gC] <;> rfl)
    · intro γ u W hcur hd
      clear hd
      (try dsimp only)
      refine ⟨rfl, ?_⟩
      go_simp <;> (try go_bits) <;> with_reducible rfl
    · exact fun _ _ _ => rfl
    dsimp only [nA, cA]
    apply RGT.bslice (i := 5) rfl (by decide) hu7lt
    · (simp only [gA, gB, gC] <;> rfl)
    · intro γ u W hcur hd
      obtain ⟨⟨h4, -, -⟩, -⟩ := hd
      dsimp only at h4
      (try simp only [h4])
      refine ⟨rfl, fun K hK => ?_⟩
      go_simp
      exact hK.out _ _ rfl rfl
    · exact fun _ _ _ => rfl
    · rfl
    dsimp only [nA, cA]
    refine RGT.skip (i := 6) rfl rfl ?_
    dsimp only [nA, cA]
    refine RGT.skip (i := 7) rfl rfl ?_
    dsimp only [nA, cA]
    refine RGT.fin (fun γ u wf hwf hd => ?_)
    obtain ⟨⟨h0, -, -⟩, ⟨h1, -, -⟩, ⟨h2, r2, b2⟩, ⟨h3, r3, -⟩, ⟨h4, -, -⟩, ⟨h5, r5, b5⟩, -⟩ := hd
    dsimp only at h0 h1 h2 h3 h4 h5 r2 r3 r5 b2 b5
    simp only [h0, h1, h2, h3, h4, h5]
    clear h5 h4 h3 h2 h1 h0
    replace b2 := b2 _ (List.mem_singleton.2 rfl)
    generalize hγ2 : (γ 2).n = g2 at *
    clear hγ2
    replace b5 := b5 _ (List.mem_singleton.2 rfl)
    generalize hγ5 : (γ 5).n = g5 at *
    clear hγ5
    clear u
    simp only [List.map_cons, List.map_nil]
    apply PlanW.step
    · (simp only [gA, gB, gC] <;> rfl)
    · rfl
    intro K hK
    (refine wp_appT _ _ rfl Tryd.underlying108 hi hz0 hz1 hz2 rfl (by decide) (γ 3).v (2 * k + 1) _ (cFr fo) rfl rfl r3.1 r5 rfl (cFr_one _) (by unfold maxLen; omega) (by omega) (Nat.le_trans hDx hwf.size) ?_; intro v' w' hown' hbx' hnew'; refine hK.out _ _ hbx' (fun hcur => ?_))
    clear hK K
    try simp only [Act.put, List.setIfInBounds_toArray, List.set_cons_zero, List.set_cons_succ]
    apply PlanW.step
    · (simp only [gA, gB, gC] <;> rfl)
    · rfl
    intro K hK
    go_simp
    refine hK.out _ _ (by with_reducible first | assumption | exact bx_refl _ _) (fun hcur => ?_)
    clear hK K
    try simp only [Act.put, List.setIfInBounds_toArray, List.set_cons_zero, List.set_cons_succ]
    refine PlanW.done ?_
    have hin3 : ∀ x ∈ ownL (γ 3).v, D ≤ x ∧ (x ∈ ownL u7 ∨ we.heap.size ≤ x) := fun x hx => by
      refine ⟨ownL_ge r3.1 x hx, ?_⟩
      unfold ownL at hx
      cases hv : (γ 3).v.ownBlock with
      | none => rw [hv] at hx; simp at hx
      | some q =>
        rw [hv] at hx
        obtain rfl : x = q := by simpa using hx
        exact (r3.2 x hv).imp (fun h => by simp [ownL, h]) id
    have hq3 := hq2.out.app (A' := H k ++ [f]) (by rw [List.length_append, l3.out, List.flatMap_append]; simpa using r3.1) hwf r3.2
    have hq4 := hq3.app (A' := H (k + 1)) (by rw [l6.out, f3.out, List.flatMap_append, List.flatMap_append]; simpa [Nat.mul_add] using hown') hbx' hnew'
    have hD7 : ∀ x ∈ ownL u7, D ≤ x := fun x hx => (hrlt7 x hx).1
    have hbF := bx_below (bx_below hbE hwf (fun x hx => Nat.le_trans hDw (hD7 x hx))) hbx' (fun x hx => Nat.le_trans hDw (hin3 x hx).1)
    have kOF := (kOE.keep (fun h => by have := hD7 gO h; omega) hwf).keep (fun h => by have := (hin3 gO h).1; omega) hbx'
    replace hq4 := Lib.hid hq4.rot
    clear hcur hbx' hnew' hown' hwf r3 hin3 hD7 hq3 hq2 hbE kOE k10E k12E L10 L12 hoB n10 n12 hu7lt
    generalize w' = wg at *
    generalize v' = v7 at *
    go_wp2
    go_roundw
    case rel => exact ⟨k + 1, by omega, by go_num, hVs2.out, hbF, kOF, hq4.out⟩
    case measure => simp [intOf]; omega
end Go.Proofs.YtdlmkblmljhbfaaDoor
