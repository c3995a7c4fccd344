/-
  Walk: chapter 7 through its layers: sent again, and carried once.
-/
import Derived.Test.YtbdgblnccjpahaaGreatDoorVBusOnce6
import Derived.Test.YtbdgblnccjpahaaGreatDoorVBusOnce7
import Derived.Test.YtbdgblnccjpahaaGreatDoorVBusOnce3
import Derived.Test.YtbdgblnccjpahaaGreatDoorVBusOnce4
import Derived.Test.YtbdgblnccjpahaaGreatDoorUO12
import Derived.Test.YtbdgblnccjpahaaGreatDoorVBusOnce5
import Derived.Test.YtbdgblnccjpahaaGreatDoorUO9
import Derived.Deep.CutRange
set_option linter.unusedSimpArgs false
set_option linter.unusedVariables false
namespace Go.Proofs.YtbdgblnccjpahaaGreatDoor
open Go.RowKit Go.Shelf
attribute [local go_sem] bl_al bl_drew bl_drewN bl_refl bx_al bx_drew bx_drewN bx_refl
set_option maxRecDepth 20000
theorem tmod256 {n : Int} (h : 0 ≤ n) : n.tmod 256 = n % 256 := Int.tmod_eq_emod_of_nonneg h
theorem xor_b (b : Nat) (x : Int) (hb : b < 256) : bits .xor .i64 (b : Int) (1 + x % 255) = ((b ^^^ (1 + x % 255).toNat : Nat) : Int) := by
  have h := i64_xor b (1 + x % 255).toNat (by omega) (by omega)
  rw [show (((1 + x % 255).toNat : Nat) : Int) = 1 + x % 255 by omega] at h
  exact h
theorem fr_set {f : Fr} (h : ∀ n ∈ f.l, 0 ≤ n ∧ n ≤ 255) {q b e : Nat} (hb : f.l[q]? = some (b : Int)) : (aFr f).setIfInBounds q (.int .i64 ((b ^^^ e : Nat) : Int)) = aFr (errF f q e) := by
  have h1 : aFr f = (f.l.map (Value.int .i64)).toArray := rfl
  have h2 : aFr (errF f q e) = ((errF f q e).l.map (Value.int .i64)).toArray := rfl
  rw [h1, h2, errF_l h hb, List.map_set]
  simp
theorem rowF_step {f : Fr} {row : List Int} {j : Nat} {x : Int} (hx : row[j]? = some x) : rowF f row (j + 1) = rowF f row j ++ cpF f x := by rw [rowF, hx]
theorem rowB_step {row : List Int} {j : Nat} {x : Int} (hx : row[j]? = some x) : rowB row (j + 1) = (rowB row j || decide (x % 10 = 1)) := by rw [rowB, hx]
theorem snt_step {m : Ms} {rows : List Rw} {k : Nat} {r : Rw} (hr : rows[k]? = some r) : sntK m rows (k + 1) = sntK m rows k ++ rowF (frameOf (msI m k)) r.l r.l.length := by rw [sntK, hr]
theorem cam_step {m : Ms} {rows : List Rw} {k : Nat} {r : Rw} (hr : rows[k]? = some r) : camK m rows (k + 1) = camK m rows k ++ if rowB r.l r.l.length then [msI m k] else [] := by rw [camK, hr]
theorem snt_len (m : Ms) (rows : List Rw) : ∀ k, (∀ j r, j < k → rows[j]? = some r → r.l.length ≤ 4) → (sntK m rows k).length ≤ 4 * k
  | 0, _ => Nat.le_refl 0
  | k + 1, h => by
    have ih := snt_len m rows k fun j r hj hr => h j r (by omega) hr
    rw [sntK, List.length_append]
    cases hr : rows[k]? with
    | none => simp only [List.length_nil]; omega
    | some r =>
      have h1 := h k r (by omega) hr
      have h2 := rowF_len (frameOf (msI m k)) r.l r.l.length
      simp only
      omega
theorem cam_len (m : Ms) (rows : List Rw) : ∀ k, (camK m rows k).length ≤ k
  | 0 => Nat.le_refl 0
  | k + 1 => by
    have ih := cam_len m rows k
    rw [camK, List.length_append]
    cases rows[k]? with
    | none => simp only [List.length_nil]; omega
    | some r =>
      simp only
      split <;> simp <;> omega
theorem sl_atO {W : World} {B : Option Addr} {L : List Int} {k : Nat} {x : Int} (h : Sl cI 1 W B L) (hx : L[k]? = some x) : ∃ b o, B = some ⟨b, o, none⟩ ∧ ∀ W', Below W.heap.size W W' → W'.cell? ⟨b, o + k, none⟩ = some (.int .i64 x) := by
  obtain ⟨b, o, e, hc⟩ := h k x hx
  exact ⟨b, o, e, later (by simpa using hc 0 _ rfl)⟩
theorem lost0 {n : Nat} {src : Int} (h : n ≤ 60) (h2 : inR src 0 15 = true) : lostE n src = 0 :=
  (fst_cons _ _).2 ⟨(unl_zero (by decide)).2 (by simp; omega), (fst_cons _ _).2 ⟨(unl_zero (by decide)).2 h2, rfl⟩⟩
theorem gap0 (C : List Ms) : gapM C 0 = 0 := by
  unfold gapM
  split <;> simp
theorem gap1 {C : List Ms} {k j : Nat} {a b : Ms} (hj : k = j + 1) (ha : C[k]? = some a) (hb : C[j]? = some b) : gapM C k = (a.num - b.num) % 256 - 1 := by
  unfold gapM
  rw [ha, show k - 1 = j by omega, hb]
  simp
  omega
theorem OI.num {m : Ms} {S : List Fr} {C : List Ms} {n : Nat} (h : OI m S C n) : ∀ c ∈ C, 0 ≤ c.num ∧ c.num ≤ 255 := fun c hc => by
  obtain ⟨j, -, rfl⟩ := h.el c hc
  show 0 ≤ (m.num + j) % 256 ∧ (m.num + j) % 256 ≤ 255
  omega
set_option maxHeartbeats 0 in
theorem r_TopBusOnce (m : Ms) (rows : List Rw) (n : Nt) (A Ap Af Am : Option Addr) (c cp cf cm : Nat) (w : World) (hrs : Sl cRw 1 w A rows) (hrr : ∀ r ∈ rows, Sl cI 1 w r.A r.l) (hNR : NtR n Ap Af Am cp cf cm w) (hNl : (∀ f ∈ n.fs, ∀ r ∈ f.ws, r.l.length ≤ maxLen) ∧ ∀ d ∈ n.ms, d.r.l.length ≤ maxLen) (hE : Env w) :
    Calls Tryz.prog 4 #[vMs m, .slice A rows.length c, vNt Ap Af Am n.ps.length n.fs.length n.ms.length cp cf cm] w (Ret (.bool true) w) := by
  have HE := Lib.hid fun W (hb : Below w.heap.size w W) => hE.below hb
  have Hrs := Lib.hid fun W (hb : Below w.heap.size w W) => hrs.below hb
  have Hrr := Lib.hid fun r (hr : r ∈ rows) W (hb : Below w.heap.size w W) => (hrr r hr).below hb
  have hme := Lib.hid fun W : World => r_MessageErr m W
  have hNI := Lib.hid fun (h : netErr n = 0) W (hb : Below w.heap.size w W) => (net_in hNR h).below hb
  have hbs := Lib.hid fun W : World => (show Calls Tryz.prog 31 #[.agg #[.slice Ap n.ps.length cp, .slice Af n.fs.length cf, .slice Am n.ms.length cm]] W (Ret (.bool (bsmB n)) W) from r_busSmall n Ap Af Am cp cf cm W)
  have hne := Lib.hid fun (h : bsmB n = true) W (hb : Below w.heap.size w W) => (show Calls Tryz.prog 32 #[.agg #[.slice Ap n.ps.length cp, .slice Af n.fs.length cf, .slice Am n.ms.length cm]] W (Ret (.int .i64 (netErr n)) W) from r_NetErrW n Ap Af Am cp cf cm W ((net_wide hNR hNl h).below hb))
  have hcn := Lib.hid fun (h : netErr n = 0) W (hb : Below w.heap.size w W) => (show Calls Tryz.prog 35 #[.agg #[.slice Ap n.ps.length cp, .slice Af n.fs.length cf, .slice Am n.ms.length cm]] W (fun e w' => Below W.heap.size W w' ∧ ∃ (m : Nt) (Bp Bf Bm : Option Addr) (dp df dm : Nat), NtEq n m ∧ NtIn m Bp Bf Bm dp df dm w' ∧ e = .returned (.agg #[.slice Bp n.ps.length dp, .slice Bf n.fs.length df, .slice Bm n.ms.length dm])) from r_CopyNet n Ap Af Am cp cf cm W (hNI.out h W hb))
  have hfo := Lib.hid fun (h0 : netErr n = 0) (m : Nt) Bp Bf Bm dp df dm W (h : NtEq n m) (hm : NtIn m Bp Bf Bm dp df dm W) (hb : Below w.heap.size w W) => (show Calls Tryz.prog 34 #[.agg #[.slice Bp n.ps.length dp, .slice Bf n.fs.length df, .slice Bm n.ms.length dm]] W (Ret (.string ⟨(fmtNt n.cn).toArray⟩) W) from t_Format h0 h hm (HE.out W hb))
  have hpa := Lib.hid fun (h0 : netErr n = 0) W (hb : Below w.heap.size w W) => (show Calls Tryz.prog 33 #[.string ⟨(fmtNt n.cn).toArray⟩] W (fun e w' => Below W.heap.size W w' ∧ ∃ (m : Nt) (Bp Bf Bm : Option Addr) (dp df dm : Nat), NtEq n m ∧ NtIn m Bp Bf Bm dp df dm w' ∧ e = .returned (.tuple #[.agg #[.slice Bp n.ps.length dp, .slice Bf n.fs.length df, .slice Bm n.ms.length dm], .int .i64 0])) from t_Parse h0 (HE.out W hb))
  have hsa := Lib.hid fun (h0 : netErr n = 0) (m : Nt) Bp Bf Bm dp df dm W (h : NtEq n m) (hm : NtIn m Bp Bf Bm dp df dm W) (hb : Below w.heap.size w W) => (show Calls Tryz.prog 36 #[.agg #[.slice Bp n.ps.length dp, .slice Bf n.fs.length df, .slice Bm n.ms.length dm], .agg #[.slice Ap n.ps.length cp, .slice Af n.fs.length cf, .slice Am n.ms.length cm]] W (Ret (.bool true) W) from t_Same h hm (hNI.out h0 W hb))
  have hcu := Lib.hid fun (h0 : netErr n = 0) (m : Nt) Bp Bf Bm dp df dm W (h : NtEq n m) (hm : NtIn m Bp Bf Bm dp df dm W) (hb : Below w.heap.size w W) (k : Nat) (f : Fu) (hf : n.fs[k]? = some f) => (show Calls Tryz.prog 37 #[.agg #[.slice Bp n.ps.length dp, .slice Bf n.fs.length df, .slice Bm n.ms.length dm], .int .i64 (k : Nat)] W (fun e w' => Below W.heap.size W w' ∧ ∃ A c, e = .returned (.tuple #[.slice A (listS (cutS f n.ps.length)).length c, .int .i64 0]) ∧ Sl cI 1 w' A (listS (cutS f n.ps.length))) from t_Cut h0 h hm (HE.out W hb).tab k f hf)
  have hwo := Lib.hid fun (h0 : netErr n = 0) (m : Nt) Bp Bf Bm dp df dm W (h : NtEq n m) (hm : NtIn m Bp Bf Bm dp df dm W) (hb : Below w.heap.size w W) (k : Nat) (f : Fu) (hf : n.fs[k]? = some f) (A : Option Addr) (c : Nat) (hs : Sl cI 1 W A (listS (cutS f n.ps.length))) => (show Calls Tryz.prog 38 #[.agg #[.slice Bp n.ps.length dp, .slice Bf n.fs.length df, .slice Bm n.ms.length dm], .slice A (listS (cutS f n.ps.length)).length c] W (fun e w' => Below W.heap.size W w' ∧ ∃ A2 c2 L, e = .returned (.tuple #[.slice A2 (List.length L) c2, .int .i64 0]) ∧ Sl cI 1 w' A2 L ∧ L.length ≤ 1000 ∧ L.contains (k : Int) = false) from t_Works h0 h hm (HE.out W hb).tab k f hf A c hs)
  clear hrs hrr hE hNR hNl hNI HE
  change Calls Tryz.prog 4 #[.agg #[.int .i64 m.src, .int .i64 m.num, .int .i64 m.kind, .int .i64 m.d0, .int .i64 m.d1, .int .i64 m.d2, .int .i64 m.d3], .slice A rows.length c, .agg #[.slice Ap n.ps.length cp, .slice Af n.fs.length cf, .slice Am n.ms.length cm]] w _
  obtain ⟨np, Hp⟩ : ∃ k, Hid (n.ps.length = k) := ⟨_, rfl⟩
  obtain ⟨nf, Hf⟩ : ∃ k, Hid (n.fs.length = k) := ⟨_, rfl⟩
  obtain ⟨nm, Hm⟩ : ∃ k, Hid (n.ms.length = k) := ⟨_, rfl⟩
  rw [Hp.out, Hf.out, Hm.out] at hbs hne hcn hfo hpa hsa hcu hwo ⊢
  go_enter Tryz.func4, Tryz.ntmps4
  go_upto_region 1 with fail
  first
  | apply absB2 (w0 := w) (g0 := w.heap.size) (g1 := w.heap.size + 1)
  | apply absTB2 (w0 := w) (g0 := w.heap.size) (g1 := w.heap.size + 1)
  | apply absIB2 (w0 := w) (g0 := w.heap.size) (g1 := w.heap.size + 1)
  iterate 3 (focus exact zL)
  try clear hb3
  try clear hb0
  try clear k0
  try clear k1
  intro wa hb0 k0 k1
  (try simp only [List.setIfInBounds_toArray, List.set_cons_zero, List.set_cons_succ] at k0 k1)
  go_wp2_with fail
  refine (r_busShown wa).mono ?_
  rintro e w1 ⟨rfl, hb1⟩
  replace hb0 := bl_tr hb0 hb1
  replace k0 := k0.below hb1
  replace k1 := k1.below hb1
  clear hb1
  have L0 := k0.cell
  by_cases hM : msE m = 0
  rotate_left
  · have hM' : (msE m != 0) = true := by simp [hM]
    generalize msE m = E at *
    replace hM := Lib.hid hM
    go_wp2_with (go_at_call 24; (with_reducible refine (hme.out _).mono ?_); rintro e w4 ⟨rfl, hb4⟩; replace hb0 := bl_tr hb0 hb4)
    go_ret
    exact ⟨rfl, hb0⟩
  have hme1 : Hid (∀ W : World, Calls Tryz.prog 24 #[.agg #[.int .i64 m.src, .int .i64 m.num, .int .i64 m.kind, .int .i64 m.d0, .int .i64 m.d1, .int .i64 m.d2, .int .i64 m.d3]] W (Ret (.int .i64 0) W)) := fun W => by
    have := hme.out W
    rw [hM] at this
    exact this
  clear hme
  go_wp2_with fail
  refine (hme1.out _).mono ?_
  rintro e w2 ⟨rfl, hb1⟩
  replace hb0 := bl_tr hb0 hb1
  replace k0 := k0.below hb1
  replace k1 := k1.below hb1
  clear hb1 L0 hme1
  by_cases h12 : (rows.length : Int) ≤ 12
  rotate_left
  · have h12' : (12 : Int) < rows.length := by omega
    clear h12
    generalize rows.length = nr at *
    go_wp2
    go_ret
    exact ⟨rfl, hb0⟩
  have h12' : ¬ (12 : Int) < rows.length := by omega
  have hr12 : rows.length ≤ 12 := by omega
  clear h12
  have hen : Hid (∀ (k : Nat) (W : World), Calls Tryz.prog 25 #[vMs (msI m k)] W (Ret (.tuple #[vFr (frameOf (msI m k)), .int .i64 0]) W)) := fun k W => by
    have := c_Encoded (msI m k) W
    rw [encS, if_pos (msI_ok hM k)] at this
    exact this
  have hfb := Lib.hid fun k : Nat => frame_bytes (msI_ok hM k)
  have hmb := ms_ok hM
  simp only [List.mem_cons, List.not_mem_nil, or_false, forall_eq_or_imp, forall_eq] at hmb
  obtain ⟨-, hmb1, -, hmb3, -⟩ := hmb
  have hOI := Lib.hid fun k (hk : k ≤ 100) => snt_OI hM rows k hk
  have hSl := Lib.hid fun k h => snt_len m rows k h
  have hCl := Lib.hid fun k => cam_len m rows k
  have hS0 : Hid (sntK m rows 0 = []) := rfl
  have hC0 : Hid (camK m rows 0 = []) := rfl
  have hSs := Lib.hid fun k r (hr : rows[k]? = some r) => snt_step (m := m) hr
  have hCs := Lib.hid fun k r (hr : rows[k]? = some r) => cam_step (m := m) hr
  obtain ⟨S, hS⟩ : ∃ S : Nat → List Fr, ∀ k, sntK m rows k = S k := ⟨_, fun _ => rfl⟩
  obtain ⟨C, hC⟩ : ∃ C : Nat → List Ms, ∀ k, camK m rows k = C k := ⟨_, fun _ => rfl⟩
  simp only [hS, hC] at hOI hSl hCl hS0 hC0 hSs hCs
  clear hS hC
  replace hM := Lib.hid hM
  obtain ⟨i0, hi, hy0, hy1, hy2⟩ := info_parts infoFr
  obtain ⟨i1, hi1, hx0, hx1, hx2⟩ := info_parts infoMs
  have hD := hb0.size
  obtain ⟨D, hDe⟩ : ∃ D, Hid (w2.heap.size = D) := ⟨_, rfl⟩
  go_wp2
  go_loopw [7, 8, 9] (fun u v i wr => ∃ k : Nat, k ≤ rows.length ∧ i = .int .i64 k ∧ Below w2.heap.size w2 wr ∧ TO w2.heap.size u v (S k) (C k) wr ∧ ∀ j r, j < k → rows[j]? = some r → r.l.length ≤ 4) (fun _ _ i _ => rows.length - (intOf i).toNat)
  case atStart => exact ⟨0, Nat.zero_le _, rfl, bl_refl w2, by rw [hS0.out, hC0.out]; exact TO.nil (Nat.le_refl _), fun j r hj => by omega⟩
  case round =>
    obtain ⟨k, hk, rfl, hb1, hto, hr4⟩ := hrel
    replace hto := Lib.hid hto
    replace hr4 := Lib.hid hr4
    by_cases hkn : k < rows.length
    · focus
        obtain ⟨wo, hwo⟩ : ∃ wo, wo = wr := ⟨_, rfl⟩
        subst hwo
        have hr : rows[k]? = some rows[k] := List.getElem?_eq_getElem hkn
        generalize rows[k] = r at hr
        have hrl := Lib.hid (Hrr.out r (List.mem_of_getElem? hr))
        have hSk := Lib.hid (hSs.out k r hr)
        have hCk := Lib.hid (hCs.out k r hr)
        obtain ⟨b1, o1, rfl, hc⟩ := Hrs.out w2 hb0 k r hr
        have LR : ∀ W, Below w2.heap.size w2 W → W.cell? ⟨b1, o1 + k, none⟩ = some (.slice r.A r.l.length r.c) := later (by simpa using hc 0 _ rfl)
        have hkn2 : (k : Int) < rows.length := by omega
        have L1 := LR wo hb1
        clear hc hSs hCs
        by_cases h4 : (r.l.length : Int) ≤ 4
        rotate_left
        · have h4' : (4 : Int) < r.l.length := by omega
          have hbe := bl_tr hb0 hb1
          clear h4
          generalize r.l.length = rn at *
          go_wp2
          go_ret
          exact ⟨rfl, hbe⟩
        have h4' : ¬ (4 : Int) < r.l.length := by omega
        have HB := Lib.hid hb0
        have K0 := k0.below hb1
        have L0 := K0.cell
        clear hb0
        go_upto_region 13 with fail
        first
        | apply absB1 (w0 := wo) (g0 := wo.heap.size)
        | apply absTB1 (w0 := wo) (g0 := wo.heap.size)
        | apply absIB1 (w0 := wo) (g0 := wo.heap.size)
        iterate 2 (focus exact zL)
        try clear hb3
        try clear hb0
        try clear k2
        intro wb hb0 k2
        (try simp only [List.setIfInBounds_toArray, List.set_cons_zero, List.set_cons_succ] at k2)
        have hbq := bl_tr hb1 hb0
        have L0 := (k0.below hbq).cell
        have L2 := k2.cell
        have F2 := k2.frozen
        have ht1 : (m.num + (k : Int)).tmod 256 = (m.num + k) % 256 := tmod256 (by omega)
        have ht2 : (m.d0 + 7 * (k : Int)).tmod 256 = (m.d0 + 7 * k) % 256 := tmod256 (by omega)
        go_upto_region 14 with fail
        first
        | apply absB1 (w0 := wo) (g0 := wo.heap.size)
        | apply absTB1 (w0 := wo) (g0 := wo.heap.size)
        | apply absIB1 (w0 := wo) (g0 := wo.heap.size)
        iterate 2 (focus exact zL)
        try clear hb3
        try clear hb0
        try clear k2
        intro wc hb0 k2
        (try simp only [List.setIfInBounds_toArray, List.set_cons_zero, List.set_cons_succ] at k2)
        have hbq := bl_tr hb1 hb0
        have L0 := (k0.below hbq).cell
        have L2 := k2.cell
        have F2 := k2.frozen
        go_upto_region 15 with fail
        first
        | apply absB1 (w0 := wo) (g0 := wo.heap.size)
        | apply absTB1 (w0 := wo) (g0 := wo.heap.size)
        | apply absIB1 (w0 := wo) (g0 := wo.heap.size)
        iterate 2 (focus exact zL)
        try clear hb3
        try clear hb0
        try clear k2
        intro wd hb0 k2
        (try simp only [List.setIfInBounds_toArray, List.set_cons_zero, List.set_cons_succ] at k2)
        have hmi : Hid (aMs (msI m k) = #[.int .i64 m.src, .int .i64 ((m.num + k) % 256), .int .i64 m.kind, .int .i64 ((m.d0 + 7 * k) % 256), .int .i64 m.d1, .int .i64 m.d2, .int .i64 m.d3]) := rfl
        obtain ⟨fm, hfm⟩ : ∃ fm, Hid (frameOf (msI m k) = fm) := ⟨_, rfl⟩
        have henk := Lib.hid fun W : World => (show Calls Tryz.prog 25 #[.agg #[.int .i64 m.src, .int .i64 ((m.num + k) % 256), .int .i64 m.kind, .int .i64 ((m.d0 + 7 * k) % 256), .int .i64 m.d1, .int .i64 m.d2, .int .i64 m.d3]] W (Ret (.tuple #[.agg #[.int .i64 fm.a0, .int .i64 fm.a1, .int .i64 fm.a2, .int .i64 fm.a3, .int .i64 fm.a4, .int .i64 fm.a5, .int .i64 fm.a6, .int .i64 fm.a7], .int .i64 0]) W) from by
          have := hen.out k W
          rw [hfm.out] at this
          exact this)
        have hfbk := hfb.out k
        have hSk2 := hSk.out
        rw [hfm.out] at hfbk hSk2
        replace hfbk := Lib.hid hfbk
        replace hSk2 := Lib.hid hSk2
        have hgs : Hid (C k = C k) := rfl
        have L2 := k2.cell
        clear hbq L0 L1 F2 ht1 ht2 hmb1 hmb3 hSk hen hfb hfm
        go_wp2_with fail
        refine (henk.out _).mono ?_
        rintro e we ⟨rfl, hb9⟩
        replace hb0 := bl_tr hb0 hb9
        replace k2 := k2.below hb9
        clear hb9 L2 henk
        have hq2 := k2.lt
        go_upto_region 16 with fail
        first
        | apply absB2 (w0 := wo) (g0 := wo.heap.size) (g1 := we.heap.size)
        | apply absTB2 (w0 := wo) (g0 := wo.heap.size) (g1 := we.heap.size)
        | apply absIB2 (w0 := wo) (g0 := wo.heap.size) (g1 := we.heap.size)
        iterate 3 (focus exact zL)
        try clear hb3
        try clear hb0
        try clear k2
        try clear k3
        intro wf hb0 k2 k3
        (try simp only [List.setIfInBounds_toArray, List.set_cons_zero, List.set_cons_succ] at k2 k3)
        have hbF := bl_tr hb1 hb0
        have hq3 := k3.lt
        have hti : Hid (TI w2.heap.size wo.heap.size we.heap.size u7 u8 (S k) (C k) (msI m k) fm wf) := Lib.hid ⟨hto.out.below hb0, by rw [hmi.out]; exact k2, k3, fun q hq => by
          have := (hto.out.a.lt q hq).2
          omega⟩
        obtain ⟨g2, hg2⟩ : ∃ g, wo.heap.size = g := ⟨_, rfl⟩
        obtain ⟨g3, hg3⟩ : ∃ g, we.heap.size = g := ⟨_, rfl⟩
        rw [hg2, hg3] at hti
        rw [hg2] at hq2 ⊢
        rw [hg3] at hq3 ⊢
        have hR0 : Hid (rowF fm r.l 0 = [] ∧ rowB r.l 0 = false) := ⟨rfl, rfl⟩
        have hRs := Lib.hid fun j x (hx : r.l[j]? = some x) => (show rowF fm r.l (j + 1) = rowF fm r.l j ++ cpF fm x ∧ rowB r.l (j + 1) = (rowB r.l j || decide (x % 10 = 1)) from ⟨rowF_step hx, rowB_step hx⟩)
        have hRl := Lib.hid fun j => rowF_len fm r.l j
        have hSl1 : (S k).length ≤ 4 * k := hSl.out k hr4.out
        obtain ⟨RF, hRF⟩ : ∃ RF : Nat → List Fr, ∀ j, rowF fm r.l j = RF j := ⟨_, fun _ => rfl⟩
        obtain ⟨RB, hRB⟩ : ∃ RB : Nat → Bool, ∀ j, rowB r.l j = RB j := ⟨_, fun _ => rfl⟩
        simp only [hRF, hRB] at hR0 hRs hRl hSk2 hCk
        clear hRF hRB k2 k3 hto hb0 hb1 hmi hq2 hq3 hg2 hg3 L2
        go_wp2
        go_loopw [7, 13, 14] (fun u b i wi => ∃ j : Nat, j ≤ r.l.length ∧ i = .int .i64 j ∧ b = .bool (RB j) ∧ Below w2.heap.size w2 wi ∧ TI w2.heap.size g2 g3 u u8 (S k ++ RF j) (C k) (msI m k) fm wi) (fun _ _ i _ => r.l.length - (intOf i).toNat)
        case atStart => exact ⟨0, Nat.zero_le _, rfl, by rw [hR0.out.2], hbF, by rw [hR0.out.1, List.append_nil]; exact hti.out⟩
        case round =>
          clear hbF hti
          obtain ⟨j, hj, rfl, rfl, hb1, hti⟩ := hrel
          replace hti := Lib.hid hti
          have LRw := LR wr hb1
          by_cases hjn : j < r.l.length
          · have hx : r.l[j]? = some r.l[j] := List.getElem?_eq_getElem hjn
            generalize r.l[j] = x at hx
            obtain ⟨e1, e2⟩ := hRs.out j x hx
            obtain ⟨rA, rc, rl⟩ := r
            dsimp only at *
            obtain ⟨b2, o2, rfl, hc2⟩ := (hrl.out wr (bl_tr HB.out hb1)) j x hx
            have LX : ∀ W, Below wr.heap.size wr W → W.cell? ⟨b2, o2 + j, none⟩ = some (.int .i64 x) := later (by simpa using hc2 0 _ rfl)
            have LX0 := LX wr (bl_refl wr)
            have hjn2 : (j : Int) < rl.length := by omega
            have hm10 := Lib.hid fun W : World => r_Mod x 10 W (by decide) (by decide)
            have hm255 := Lib.hid fun W : World => r_Mod x 255 W (by decide) (by decide)
            have hjb := hRl.out j
            clear hc2 hx hRs
            go_wp2_with fail
            refine (hm10.out _).mono ?_
            rintro e w9 ⟨rfl, rfl⟩
            clear hm10 LX0
            unfold cpF at e1
            by_cases h0 : x % 10 = 0
            · rw [if_pos h0, List.append_nil] at e1
              rw [decide_eq_false (by omega), Bool.or_false] at e2
              replace e1 := Lib.hid e1
              replace e2 := Lib.hid e2
              go_wp2
              go_roundw
              case rel => exact ⟨j + 1, by omega, by go_num, by rw [e2.out], hb1, by rw [e1.out]; exact hti.out⟩
              case measure => simp [intOf]; omega
            rw [if_neg h0] at e1
            have h0' : (x % 10 == 0) = false := by simp [h0]
            have L3 := hti.out.k3.cell
            have hq3 := hti.out.k3.lt
            go_upto_region 25 with fail
            clear h0'
            first
            | apply absB1 (w0 := wr) (g0 := wr.heap.size)
            | apply absTB1 (w0 := wr) (g0 := wr.heap.size)
            | apply absIB1 (w0 := wr) (g0 := wr.heap.size)
            iterate 2 (focus exact zL)
            try clear hb3
            try clear hb0
            try clear k4
            intro wg hb0 k4
            (try simp only [List.setIfInBounds_toArray, List.set_cons_zero, List.set_cons_succ] at k4)
            clear L3
            by_cases h1 : x % 10 = 1
            case' pos =>
              rw [if_pos h1] at e1
              rw [decide_eq_true h1, Bool.or_true] at e2
              generalize x % 10 = cc at *
              subst h1
              replace e1 := Lib.hid e1
              replace e2 := Lib.hid e2
              obtain ⟨ff, hff⟩ : ∃ ff, Hid (fm = ff) := ⟨_, rfl⟩
              rw [hff.out] at e1 k4
              clear LX hm255 h0
              go_upto_region 28 with fail
              obtain ⟨wz, hwz⟩ : ∃ wz, wz = wg := ⟨_, rfl⟩
              subst hwz
            case' neg =>
              rw [if_neg h1] at e1
              rw [decide_eq_false h1, Bool.or_false] at e2
              obtain ⟨q, hq⟩ : ∃ q : Nat, x % 10 = (q : Int) + 2 := ⟨(x % 10).toNat - 2, by omega⟩
              have hq8 : q < 8 := by omega
              rw [show (x % 10).toNat - 2 = q by omega] at e1
              generalize x % 10 = cc at *
              subst hq
              obtain ⟨E, hE⟩ : ∃ E : Int, x % 255 = E := ⟨_, rfl⟩
              have hE0 : 0 ≤ E ∧ E ≤ 254 := by omega
              have hbyte := hfbk.out
              have hbq : fm.l[q]? = some (fm.l[q]'(by exact hq8)) := List.getElem?_eq_getElem _
              obtain ⟨b, hb⟩ : ∃ b : Nat, fm.l[q]'(by exact hq8) = (b : Int) := ⟨(fm.l[q]'(by exact hq8)).toNat, by have := hbyte _ (List.getElem_mem (show q < fm.l.length from hq8)); omega⟩
              have hb256 : b < 256 := by have := hbyte _ (List.getElem_mem (show q < fm.l.length from hq8)); omega
              rw [hb] at hbq
              have hxor := xor_b b x hb256
              have hset := Lib.hid (fr_set (e := (1 + x % 255).toNat) hbyte hbq)
              rw [hE] at hxor hset hm255 e1
              obtain ⟨z, hz⟩ : ∃ z : Nat, b ^^^ (1 + E).toNat = z := ⟨_, rfl⟩
              rw [hz] at hxor hset
              replace k4 : Blk wg wr.heap.size 62 (aFr fm) := k4
              have LC : ∀ W, Below wg.heap.size wg W → W.cell? ⟨wr.heap.size, q, none⟩ = some (.int .i64 b) := later (by rw [k4.cell, show aFr fm = (fm.l.map (Value.int .i64)).toArray from rfl]; simp [hbq])
              have FC : ∀ W, Below wg.heap.size wg W → W.frozen? ⟨wr.heap.size, q, none⟩ = false := fun W hb => (k4.below hb).frozen _
              have LX1 : ∀ W, Below wg.heap.size wg W → W.cell? ⟨b2, o2 + j, none⟩ = some (.int .i64 x) := fun W hW => LX W (bl_tr hb0 hW)
              have LR1 : ∀ W, Below wg.heap.size wg W → W.cell? ⟨b1, o1 + k, none⟩ = some (.slice (some ⟨b2, o2, none⟩) rl.length rc) := fun W hW => LR W (bl_tr hb1 (bl_tr hb0 hW))
              have h2' : (1 : Int) < (q : Int) + 2 := by omega
              have hq8' : (q : Int) < 8 := by omega
              replace e1 := Lib.hid e1
              replace e2 := Lib.hid e2
              replace hz := Lib.hid hz
              replace hE := Lib.hid hE
              clear LX h0 h1 hbyte hbq hb
              go_upto_region 26 with fail
              refine wp_any (w0 := wg) ⟨[17], [], [some 99, some 100, some 101, some 102, some 103, some 104, some 105, some 106, some 107, some 108, some 109, some 110, some 111, some 112, some 113, some 114, some 115, none], [[], [0], [], [2], [2, 3], [2, 3, 4], [], [], [6, 7], [6, 7, 8], [], [6, 7, 8, 9, 10], [6, 7, 8, 9, 10, 11], [6, 7, 8, 9, 10, 11, 12], [6, 7, 8, 9, 10, 11, 12, 13], [2, 3, 4, 5, 6, 7, 8, 9, 10, 11, 12, 13, 14], [0, 1, 2, 3, 4, 5, 6, 7, 8, 9, 10, 11, 12, 13, 14, 15], [0, 1, 2, 3, 4, 5, 6, 7, 8, 9, 10, 11, 12, 13, 14, 15, 16]], [[], [0], [], [2], [3], [4], [], [], [6, 7], [8], [], [9, 10], [11], [12], [13], [5, 14], [1], []]⟩ (fun _ => [wr.heap.size]) (by kernel_rfl) (by kernel_rfl) (by (exact zE)) (fun u => by simp only [putD, Act.put, List.setIfInBounds_toArray, List.set_cons_zero, List.set_cons_succ, Nat.zero_add, Nat.reduceAdd]; rfl) ?_
              apply RGW.on (i := 0) rfl
              · exact zG
              · intro γ u W hcur hd
                clear hd
                (try dsimp only)
                exact ⟨rfl, zS⟩
              · exact zC
              · rfl
              dsimp only [nA, cA]
              apply RGW.on (i := 1) rfl
              · exact zG
              · intro γ u W hcur hd
                obtain ⟨⟨h0, -, -⟩, -⟩ := hd
                dsimp only at h0
                (try simp only [h0])
                exact ⟨rfl, zS⟩
              · exact zC
              · rfl
              dsimp only [nA, cA]
              apply RGW.on (i := 2) rfl
              · exact zG
              · intro γ u W hcur hd
                clear hd
                (try dsimp only)
                exact ⟨rfl, zS⟩
              · exact zC
              · rfl
              dsimp only [nA, cA]
              apply RGW.on (i := 3) rfl
              · exact zG
              · intro γ u W hcur hd
                obtain ⟨⟨h2, -, -⟩, -⟩ := hd
                dsimp only at h2
                (try simp only [h2])
                exact ⟨rfl, zS⟩
              · exact zC
              · rfl
              dsimp only [nA, cA]
              apply RGW.on (i := 4) rfl
              · exact zG
              · intro γ u W hcur hd
                obtain ⟨⟨h3, -, -⟩, -⟩ := hd
                dsimp only at h3
                (try simp only [h3])
                exact ⟨rfl, zS⟩
              · exact zC
              · rfl
              dsimp only [nA, cA]
              apply RGW.on (i := 5) rfl
              · exact zG
              · intro γ u W hcur hd
                obtain ⟨⟨h4, -, -⟩, -⟩ := hd
                dsimp only at h4
                (try simp only [h4])
                exact ⟨rfl, zS⟩
              · exact zC
              · rfl
              dsimp only [nA, cA]
              apply RGW.on (i := 6) rfl
              · exact zG
              · intro γ u W hcur hd
                clear hd
                (try dsimp only)
                exact ⟨rfl, zS⟩
              · exact zC
              · rfl
              dsimp only [nA, cA]
              apply RGW.on (i := 7) rfl
              · exact zG
              · intro γ u W hcur hd
                clear hd
                (try dsimp only)
                exact ⟨rfl, zS⟩
              · exact zC
              · rfl
              dsimp only [nA, cA]
              apply RGW.on (i := 8) rfl
              · exact zG
              · intro γ u W hcur hd
                obtain ⟨⟨h6, -, -⟩, ⟨h7, -, -⟩, -⟩ := hd
                dsimp only at h6 h7
                (try simp only [h6, h7])
                exact ⟨rfl, zS⟩
              · exact zC
              · rfl
              dsimp only [nA, cA]
              apply RGW.on (i := 9) rfl
              · exact zG
              · intro γ u W hcur hd
                obtain ⟨⟨h8, -, -⟩, -⟩ := hd
                dsimp only at h8
                (try simp only [h8])
                exact ⟨rfl, zS⟩
              · exact zC
              · rfl
              dsimp only [nA, cA]
              apply RGW.on (i := 10) rfl
              · exact zG
              · intro γ u W hcur hd
                clear hd
                (try dsimp only)
                exact ⟨rfl, zS⟩
              · exact zC
              · rfl
              dsimp only [nA, cA]
              apply RGW.on (i := 11) rfl
              · exact zG
              · intro γ u W hcur hd
                obtain ⟨⟨h9, -, -⟩, ⟨h10, -, -⟩, -⟩ := hd
                dsimp only at h9 h10
                (try simp only [h9, h10])
                exact ⟨rfl, zS⟩
              · exact zC
              · rfl
              dsimp only [nA, cA]
              apply RGW.on (i := 12) rfl
              · exact zG
              · intro γ u W hcur hd
                obtain ⟨⟨h11, -, -⟩, -⟩ := hd
                dsimp only at h11
                (try simp only [h11])
                exact ⟨rfl, zS⟩
              · exact zC
              · rfl
              dsimp only [nA, cA]
              apply RGW.call (i := 13) rfl
              · exact zG
              · intro γ u W hcur hd
                obtain ⟨⟨h12, -, -⟩, -⟩ := hd
                dsimp only at h12
                (try simp only [h12])
                refine ⟨rfl, fun K hK => ?_⟩
                go_simp
                (go_at_call 26; (with_reducible refine (hm255.out _).mono ?_); rintro e w3 ⟨rfl, rfl⟩)
                (try dsimp only)
                exact hK.out _ _ rfl (by (exact zE))
              · exact zC
              · rfl
              dsimp only [nA, cA]
              apply RGW.on (i := 14) rfl
              · exact zG
              · intro γ u W hcur hd
                obtain ⟨⟨h13, -, -⟩, -⟩ := hd
                dsimp only at h13
                (try simp only [h13])
                exact ⟨rfl, zS⟩
              · exact zC
              · rfl
              dsimp only [nA, cA]
              apply RGW.on (i := 15) rfl
              · exact zG
              · intro γ u W hcur hd
                obtain ⟨⟨h5, -, -⟩, ⟨h14, -, -⟩, -⟩ := hd
                dsimp only at h5 h14
                (try simp only [h5, h14])
                exact ⟨rfl, zS⟩
              · exact zC
              · rfl
              dsimp only [nA, cA]
              apply RGW.on (i := 16) rfl
              · exact zG
              · intro γ u W hcur hd
                obtain ⟨⟨h1, -, -⟩, -⟩ := hd
                dsimp only at h1
                (try simp only [h1])
                exact ⟨rfl, zS⟩
              · exact zC
              · rfl
              dsimp only [nA, cA]
              refine RGW.skip (i := 17) rfl rfl ?_
              dsimp only [nA, cA]
              refine RGW.fin (fun γ u wh hwh hd hdis => ?_)
              obtain ⟨⟨h0, -, -⟩, ⟨h1, -, -⟩, ⟨h2, -, -⟩, ⟨h3, -, -⟩, ⟨h4, -, -⟩, ⟨h5, -, -⟩, ⟨h6, -, -⟩, ⟨h7, -, -⟩, ⟨h8, -, -⟩, ⟨h9, -, -⟩, ⟨h10, -, -⟩, ⟨h11, -, -⟩, ⟨h12, -, -⟩, ⟨h13, -, -⟩, ⟨h14, -, -⟩, ⟨h15, -, -⟩, ⟨h16, -, -⟩, -⟩ := hd
              dsimp only at h0 h1 h2 h3 h4 h5 h6 h7 h8 h9 h10 h11 h12 h13 h14 h15 h16
              clear hdis
              simp only [h0, h1, h2, h3, h4, h5, h6, h7, h8, h9, h10, h11, h12, h13, h14, h15, h16]
              clear h16 h15 h14 h13 h12 h11 h10 h9 h8 h7 h6 h5 h4 h3 h2 h1 h0
              clear u
              simp only [List.map_cons, List.map_nil]
              apply PlanW.step
              · exact zG
              · rfl
              intro K hK
              first
              | refine wp_store_keep (X := [wr.heap.size]) (w0 := wh) rfl rfl rfl (by with_reducible first | exact bx_refl _ _ | assumption) (by with_reducible first | assumption | (apply Blk.below (hb := hwh); assumption)) (by simp) (by kernel_rfl) (by rfl) (by simp [Value.oneCell']) (fun hres1 hcur => ?_)
                refine hK.out _ _ hcur (fun _ => ?_)
              | go_simp
                refine hK.out _ _ (by (exact zX)) (fun hcur => ?_)
              clear hK K
              try simp only [Act.put, List.setIfInBounds_toArray, List.set_cons_zero, List.set_cons_succ]
              refine PlanW.done ?_
              have hb3 := bl_tt hwh
              have k5 := (k4.below hwh).set q (.int .i64 (z : Int))
              rw [hset.out] at k5
              have hbS : Below wr.heap.size wr (wh.setCell ⟨wr.heap.size, q, none⟩ (.int .i64 (z : Int))) := bl_set (Nat.le_refl _) _ (bl_tr hb0 hwh)
              obtain ⟨ff, hff⟩ : ∃ ff, Hid (errF fm q (1 + E).toNat = ff) := ⟨_, rfl⟩
              replace e1 := Lib.hid (e1.out.trans (by rw [hff.out]))
              rw [hff.out] at k5
              generalize wh.setCell ⟨wr.heap.size, q, none⟩ (.int .i64 (z : Int)) = wz at *
              clear k4 hb0 hwh LC FC LX1 LR1 hset hxor
              have hb0 := hbS
              have k4 := k5
              clear hbS k5
              go_upto_region 28 with fail
            all_goals
              replace k4 : Blk wz wr.heap.size 62 #[.int .i64 ff.a0, .int .i64 ff.a1, .int .i64 ff.a2, .int .i64 ff.a3, .int .i64 ff.a4, .int .i64 ff.a5, .int .i64 ff.a6, .int .i64 ff.a7] := k4
              have L4 := k4.cell
              have hbW := bl_tr hb1 hb0
              have htz := Lib.hid (hti.out.below hb0)
              have hln : (S k ++ RF j).length ≤ 60 := by rw [List.length_append]; omega
              have hoA := Lib.hid (own_below htz.out.t.a (bl_al (.cells #[.int .i64 ff.a0, .int .i64 ff.a1, .int .i64 ff.a2, .int .i64 ff.a3, .int .i64 ff.a4, .int .i64 ff.a5, .int .i64 ff.a6, .int .i64 ff.a7] 62) (bl_refl wz)))
              have hge := htz.out.t.ge
              go_wp2_with (at_builtin; refine wpList_append_own2 rfl _ _ 60 rfl w2.heap.size 62 i0 (.agg #[.int .i64 0, .int .i64 0, .int .i64 0, .int .i64 0, .int .i64 0, .int .i64 0, .int .i64 0, .int .i64 0]) 8 64 Tryz.underlying60 hi hy0 hy1 hy2 rfl (by decide) _ _ _ rfl hoA.out ⟨_, 0, none⟩ 1 1 (cFr ff) rfl rfl ?c1 ?c2 ?c3 ?c4 ?c5 ?_)
              case c1 =>
                intro j' u hj'
                match j', hj' with
                | 0, hj' => simp [cFr, Fr.l] at hj'; subst hj'; simp [Addr.add]
                | 1, hj' => simp [cFr, Fr.l] at hj'; subst hj'; simp [Addr.add]
                | 2, hj' => simp [cFr, Fr.l] at hj'; subst hj'; simp [Addr.add]
                | 3, hj' => simp [cFr, Fr.l] at hj'; subst hj'; simp [Addr.add]
                | 4, hj' => simp [cFr, Fr.l] at hj'; subst hj'; simp [Addr.add]
                | 5, hj' => simp [cFr, Fr.l] at hj'; subst hj'; simp [Addr.add]
                | 6, hj' => simp [cFr, Fr.l] at hj'; subst hj'; simp [Addr.add]
                | 7, hj' => simp [cFr, Fr.l] at hj'; subst hj'; simp [Addr.add]
                | j' + 8, hj' => simp [cFr, Fr.l] at hj'
              case c2 => exact cFr_one2 ff
              case c3 => unfold maxLen; omega
              case c4 => omega
              case c5 => simp; omega
              intro v1 w9 hown hg2 hd2
              have hti9 := Lib.hid ((htz.out.below (bl_al (.cells #[.int .i64 ff.a0, .int .i64 ff.a1, .int .i64 ff.a2, .int .i64 ff.a3, .int .i64 ff.a4, .int .i64 ff.a5, .int .i64 ff.a6, .int .i64 ff.a7] 62) (bl_refl wz))).appF (S' := S k ++ RF (j + 1)) (by
                rw [e1.out, ← List.append_assoc, List.length_append, List.flatMap_append]
                simpa using hown) hg2 (by simpa using hd2))
              have hb9 : Below w2.heap.size w2 w9 := (bl_al (.cells #[.int .i64 ff.a0, .int .i64 ff.a1, .int .i64 ff.a2, .int .i64 ff.a3, .int .i64 ff.a4, .int .i64 ff.a5, .int .i64 ff.a6, .int .i64 ff.a7] 62) hbW).grown hg2 (by simp; omega) (own_ge hoA.out)
              clear hown hg2 hd2 hoA k4 L4
              go_wp2
              go_roundw
              case rel => exact ⟨j + 1, by omega, by go_num, by rw [e2.out], hb9, hti9.out⟩
              case measure => simp [intOf]; omega
          · have e : r.l.length = j := by omega
            have hs9 := hSk2.out
            have hc9 := hCk.out
            rw [e] at hs9 hc9
            have hr9 : Hid (∀ j' r', j' < k + 1 → rows[j']? = some r' → r'.l.length ≤ 4) := fun j' r' h1 h2 => by
              by_cases h3 : j' < k
              · exact hr4.out j' r' h3 h2
              · obtain rfl : j' = k := by omega
                rw [hr] at h2
                rw [← Option.some.inj h2]
                omega
            clear hRs hR0 hRl hSk2 hCk hrl hfbk
            cases hB : RB j
            · rw [hB, if_neg (by decide), List.append_nil] at hc9
              replace hs9 := Lib.hid hs9
              replace hc9 := Lib.hid hc9
              go_wp2
              go_roundw
              case rel => exact ⟨k + 1, by omega, by go_num, hb1, by rw [hs9.out, hc9.out]; exact hti.out.t, hr9.out⟩
              case measure => simp [intOf]; omega
            · rw [hB, if_pos rfl] at hc9
              replace hs9 := Lib.hid hs9
              replace hc9 := Lib.hid hc9
              have k2 : Blk wr g2 52 #[.int .i64 m.src, .int .i64 ((m.num + k) % 256), .int .i64 m.kind, .int .i64 ((m.d0 + 7 * k) % 256), .int .i64 m.d1, .int .i64 m.d2, .int .i64 m.d3] := hti.out.k2
              have L2 := k2.cell
              have hln : (C k).length ≤ 60 := by have := hCl.out k; omega
              have hoA := Lib.hid (own_below hti.out.t.b (bl_al (.cells #[.int .i64 m.src, .int .i64 ((m.num + k) % 256), .int .i64 m.kind, .int .i64 ((m.d0 + 7 * k) % 256), .int .i64 m.d1, .int .i64 m.d2, .int .i64 m.d3] 52) (bl_refl wr)))
              have hge := hti.out.t.ge
              go_wp2_with (at_builtin; refine wpList_append_own2 rfl _ _ 61 rfl w2.heap.size 52 i1 (.agg #[.int .i64 0, .int .i64 0, .int .i64 0, .int .i64 0, .int .i64 0, .int .i64 0, .int .i64 0]) 7 56 Tryz.underlying61 hi1 hx0 hx1 hx2 rfl (by decide) _ _ _ rfl hoA.out ⟨_, 0, none⟩ 1 1 (cMs (msI m k)) rfl rfl ?c1 ?c2 ?c3 ?c4 ?c5 ?_)
              case c1 =>
                intro j' u hj'
                match j', hj' with
                | 0, hj' => simp [cMs, msI] at hj'; subst hj'; simp [Addr.add]
                | 1, hj' => simp [cMs, msI] at hj'; subst hj'; simp [Addr.add]
                | 2, hj' => simp [cMs, msI] at hj'; subst hj'; simp [Addr.add]
                | 3, hj' => simp [cMs, msI] at hj'; subst hj'; simp [Addr.add]
                | 4, hj' => simp [cMs, msI] at hj'; subst hj'; simp [Addr.add]
                | 5, hj' => simp [cMs, msI] at hj'; subst hj'; simp [Addr.add]
                | 6, hj' => simp [cMs, msI] at hj'; subst hj'; simp [Addr.add]
                | j' + 7, hj' => simp [cMs, msI] at hj'
              case c2 => exact cMs_one (msI m k)
              case c3 => unfold maxLen; omega
              case c4 => omega
              case c5 => simp; omega
              intro v1 w9 hown hg2' hd2
              have hto9 := Lib.hid ((hti.out.t.below (bl_al (.cells #[.int .i64 m.src, .int .i64 ((m.num + k) % 256), .int .i64 m.kind, .int .i64 ((m.d0 + 7 * k) % 256), .int .i64 m.d1, .int .i64 m.d2, .int .i64 m.d3] 52) (bl_refl wr))).appM (C' := C k ++ [msI m k]) (by
                rw [List.length_append, List.flatMap_append]
                simpa using hown) hg2' (by simpa using hd2))
              have hb9 : Below w2.heap.size w2 w9 := (bl_al (.cells #[.int .i64 m.src, .int .i64 ((m.num + k) % 256), .int .i64 m.kind, .int .i64 ((m.d0 + 7 * k) % 256), .int .i64 m.d1, .int .i64 m.d2, .int .i64 m.d3] 52) hb1).grown hg2' (by simp; omega) (own_ge hoA.out)
              clear hown hg2' hd2 hoA k2 L2
              go_wp2
              go_roundw
              case rel => exact ⟨k + 1, by omega, by go_num, hb9, by rw [hs9.out, hc9.out]; exact hto9.out, hr9.out⟩
              case measure => simp [intOf]; omega
    · have e : k = rows.length := by omega
      subst e
      have hO := hOI.out rows.length (by omega)
      have hSn : (S rows.length).length ≤ 48 := by have := hSl.out _ hr4.out; omega
      have hCn : (C rows.length).length ≤ 12 := by have := hCl.out rows.length; omega
      clear hOI hSl hCl hS0 hC0 hSs hCs hr4 hen hfb hmb1 hmb3 Hrs Hrr hkn
      generalize S rows.length = S0 at *
      generalize C rows.length = C0 at *
      have ho7 := hto.out.a
      have ho8 := hto.out.b
      clear hto
      obtain ⟨A7, c7, e7⟩ := own_slice ho7
      obtain ⟨A8, c8, e8⟩ := own_slice ho8
      subst e7 e8
      have s7 := Lib.hid (own_slC (cs := cFr) (fun _ => rfl) (by decide) ho7)
      have s8 := Lib.hid (own_slC (cs := cMs) (fun _ => rfl) (by decide) ho8)
      clear ho7 ho8
      have hb2 := bl_tr hb0 hb1
      have K0 := Lib.hid (k0.below hb1)
      have K1 := Lib.hid (k1.below hb1)
      have hAcc := Lib.hid hO.len
      have hAt := Lib.hid fun k c (hc : C0[k]? = some c) => hO.at_ hc
      have hLs := Lib.hid hO.ls
      have hNum := Lib.hid hO.num
      have hNb := Lib.hid fun k => numK_bd C0 k
      have hsr := (msE_ok hM.out).1
      have hcp := Lib.hid fun A' c' W (h : Sl cFr 8 W A' S0) => (show Calls Tryz.prog 28 #[.slice A' S0.length c'] W (fun e w' => ∃ A2 c2, e = .returned (.slice A2 S0.length c2) ∧ Below W.heap.size W w' ∧ Sl cFr 8 w' A2 S0) from
        (r_CopyFrames S0 A' c' W h (by omega)).mono fun e w' ⟨A2, c2, h1, h2, h3, _⟩ => ⟨A2, c2, h1, h2, h3⟩)
      have hAc := Lib.hid fun A' c' W (h : Sl cFr 8 W A' S0) => (show Calls Tryz.prog 27 #[.slice A' S0.length c'] W (fun e w' => Below W.heap.size W w' ∧ ∃ A2 c2, e = .returned (.tuple #[.slice A2 C0.length c2, .int .i64 0]) ∧ Sl cI 1 w' A2 ((acS S0).map atI)) from
        (c_AcceptedOf S0 A' c' W h (by omega)).mono fun e w' ⟨h1, _, h2⟩ => by
          obtain ⟨A2, c2, h3, h4⟩ := h2 (by omega)
          rw [hAcc.out] at h3
          refine ⟨h1, A2, c2, h3, own_sl (L := (acS S0).map atI) (by rw [List.length_map]; exact h4)⟩)
      have hLo := Lib.hid fun A' c' W (h : Sl cFr 8 W A' S0) => (show Calls Tryz.prog 29 #[.slice A' S0.length c', .int .i64 m.src] W (fun e w' => Below W.heap.size W w' ∧ ∃ A2 c2, e = .returned (.tuple #[.slice A2 (lostS S0 m.src).length c2, .int .i64 0])) from
        (c_LostOf S0 m.src A' c' W h (by omega)).mono fun e w' ⟨h1, _, h2⟩ => by
          obtain ⟨A2, c2, h3, h4⟩ := h2 (lost0 (by omega) (inR_iff.2 hsr))
          exact ⟨h1, A2, c2, h3⟩)
      obtain ⟨nu, hnu⟩ : ∃ nu : Nat → Int, ∀ k, numK C0 k = nu k := ⟨_, fun _ => rfl⟩
      have hn0 : Hid (numK C0 0 = 0) := rfl
      have hns : Hid (∀ k, numK C0 (k + 1) = numK C0 k + gapM C0 k) := fun _ => rfl
      have hg0 := Lib.hid (gap0 C0)
      have hg1 := Lib.hid fun k j a b (h1 : k = j + 1) (h2 : C0[k]? = some a) (h3 : C0[j]? = some b) => gap1 h1 h2 h3
      simp only [hnu] at hLs hNb hn0 hns
      clear hnu hO hAcc
      generalize (lostS S0 m.src).length = LL at *
      generalize (acS S0).map atI = LA at *
      replace hsr := Lib.hid hsr
      clear hb0 hb1 k0 k1
      go_wp2_with fail
      refine (hcp.out _ _ _ s7.out).mono ?_
      rintro e w3 ⟨A2, c2, rfl, hb3, s2⟩
      replace hb2 := bl_tr hb2 hb3
      replace s7 := Lib.hid (s7.out.below hb3)
      replace s8 := Lib.hid (s8.out.below hb3)
      replace K0 := Lib.hid (K0.out.below hb3)
      replace K1 := Lib.hid (K1.out.below hb3)
      clear hb3
      go_wp2_with fail
      refine (hAc.out _ _ _ s2).mono ?_
      rintro e w4 ⟨hb3, A3, c3, rfl, s3⟩
      replace hb2 := bl_tr hb2 hb3
      replace s7 := Lib.hid (s7.out.below hb3)
      replace s8 := Lib.hid (s8.out.below hb3)
      replace K0 := Lib.hid (K0.out.below hb3)
      replace K1 := Lib.hid (K1.out.below hb3)
      clear hb3 s2 hAc
      have LK : ∀ W, Below w4.heap.size w4 W → W.cell? ⟨w.heap.size, 0, none⟩ = some (.int .i64 m.src) := later (by rw [K0.out.cell]; rfl)
      have hcp4 := Lib.hid fun W (hW : Below w4.heap.size w4 W) => hcp.out A7 c7 W (s7.out.below hW)
      clear hcp
      go_upto_region 32 with fail
      refine wp_any (w0 := w4) ⟨[], [], [some 132, some 133, some 134, some 135, some 136, some 131, some 137, some 138, some 19, some 20], [[], [0], [], [2], [0, 1, 2, 3], [0, 1, 2, 3, 4], [0, 1, 2, 3, 4, 5], [0, 1, 2, 3, 4, 5], [0, 1, 2, 3, 4, 5, 6], [0, 1, 2, 3, 4, 5, 6, 7, 8]], [[], [0], [], [2], [1, 3], [1, 4], [1, 4, 5], [1, 4, 5], [1, 4, 6], [1, 4, 7]]⟩ (fun _ => []) (by kernel_rfl) (by kernel_rfl) (by (exact zE)) (fun u => by simp only [putD, Act.put, List.setIfInBounds_toArray, List.set_cons_zero, List.set_cons_succ, Nat.zero_add, Nat.reduceAdd]; rfl) ?_
      apply RGW.on (i := 0) rfl
      · exact zG
      · intro γ u W hcur hd
        clear hd
        (try dsimp only)
        exact ⟨rfl, zS⟩
      · exact zC
      · rfl
      dsimp only [nA, cA]
      apply RGW.gh (⟨fun γ => .slice (γ 1).A S0.length (γ 1).c, fun γ W => Sl cFr 8 W (γ 1).A S0, fun _ => []⟩) (i := 1) rfl
      · exact zG
      · intro γ u W hcur hd
        obtain ⟨⟨h0, -, -⟩, -⟩ := hd
        dsimp only at h0
        (try simp only [h0])
        refine ⟨rfl, fun K hK => ?_⟩
        go_simp
        first
        | (go_at_call 28; (with_reducible refine (hcp4.out _ hcur).mono ?_); rintro e w3 ⟨Ax, cx, rfl, hb3, hox⟩; dsimp only; exact hK.out ⟨0, undef, Ax, cx⟩ _ _ (by simp [up]) hb3 (by simpa [up] using hox) (by simp))
        | (go_at_call 29; (with_reducible refine (hLo.out _ _ _ r1).mono ?_); rintro e w3 ⟨hb3, Ax, cx, rfl⟩; dsimp only; exact hK.out ⟨0, undef, Ax, cx⟩ _ _ (by simp [up]) hb3 trivial (by simp))
      · first
        | exact zC
        | intro γ γ' hg
          try dsimp only
          have e1 := hg 1 (by decide)
          simp only [e1]
          try exact ⟨trivial, fun _ h => h⟩
      · intro γ W W' hbl hR
        first | exact hR.below hbl | exact own_below hR hbl | exact trivial | exact ⟨hR.1.below hbl, hR.2⟩
      · rfl
      dsimp only [nA, cA]
      apply RGW.on (i := 2) rfl
      · exact zG
      · intro γ u W hcur hd
        clear hd
        (try dsimp only)
        exact ⟨rfl, zS⟩
      · exact zC
      · rfl
      dsimp only [nA, cA]
      apply RGW.on (i := 3) rfl
      · exact zG
      · intro γ u W hcur hd
        obtain ⟨⟨h2, -, -⟩, -⟩ := hd
        dsimp only at h2
        (try simp only [h2])
        exact ⟨rfl, zS⟩
      · exact zC
      · rfl
      dsimp only [nA, cA]
      apply RGW.gh (⟨fun γ => .tuple #[.slice (γ 4).A LL (γ 4).c, .int .i64 0], fun _ _ => True, fun _ => []⟩) (i := 4) rfl
      · exact zG
      · intro γ u W hcur hd
        obtain ⟨⟨h1, r1, -⟩, ⟨h3, -, -⟩, -⟩ := hd
        dsimp only at h1 h3 r1
        (try simp only [h1, h3])
        refine ⟨rfl, fun K hK => ?_⟩
        go_simp
        first
        | (go_at_call 28; (with_reducible refine (hcp4.out _ hcur).mono ?_); rintro e w3 ⟨Ax, cx, rfl, hb3, hox⟩; dsimp only; exact hK.out ⟨0, undef, Ax, cx⟩ _ _ (by simp [up]) hb3 (by simpa [up] using hox) (by simp))
        | (go_at_call 29; (with_reducible refine (hLo.out _ _ _ r1).mono ?_); rintro e w3 ⟨hb3, Ax, cx, rfl⟩; dsimp only; exact hK.out ⟨0, undef, Ax, cx⟩ _ _ (by simp [up]) hb3 trivial (by simp))
      · first
        | exact zC
        | intro γ γ' hg
          try dsimp only
          have e1 := hg 1 (by decide)
          have e4 := hg 4 (by decide)
          simp only [e1, e4]
          try exact ⟨trivial, fun _ h => h⟩
      · intro γ W W' hbl hR
        first | exact hR.below hbl | exact own_below hR hbl | exact trivial | exact ⟨hR.1.below hbl, hR.2⟩
      · rfl
      dsimp only [nA, cA]
      apply RGW.on (i := 5) rfl
      · exact zG
      · intro γ u W hcur hd
        obtain ⟨⟨h1, r1, -⟩, ⟨h4, r4, -⟩, -⟩ := hd
        dsimp only at h1 h4 r1 r4
        (try simp only [h1, h4])
        exact ⟨rfl, zS⟩
      · first
        | exact zC
        | intro γ γ' hg
          try dsimp only
          have e1 := hg 1 (by decide)
          have e4 := hg 4 (by decide)
          simp only [e1, e4]
      · rfl
      dsimp only [nA, cA]
      apply RGW.on (i := 6) rfl
      · exact zG
      · intro γ u W hcur hd
        obtain ⟨⟨h1, r1, -⟩, ⟨h4, r4, -⟩, ⟨h5, -, -⟩, -⟩ := hd
        dsimp only at h1 h4 h5 r1 r4
        (try simp only [h1, h4, h5])
        exact ⟨rfl, zS⟩
      · first
        | exact zC
        | intro γ γ' hg
          try dsimp only
          have e1 := hg 1 (by decide)
          have e4 := hg 4 (by decide)
          simp only [e1, e4]
      · rfl
      dsimp only [nA, cA]
      apply RGW.on (i := 7) rfl
      · exact zG
      · intro γ u W hcur hd
        obtain ⟨⟨h1, r1, -⟩, ⟨h4, r4, -⟩, ⟨h5, -, -⟩, -⟩ := hd
        dsimp only at h1 h4 h5 r1 r4
        (try simp only [h1, h4, h5])
        exact ⟨rfl, zS⟩
      · first
        | exact zC
        | intro γ γ' hg
          try dsimp only
          have e1 := hg 1 (by decide)
          have e4 := hg 4 (by decide)
          simp only [e1, e4]
      · rfl
      dsimp only [nA, cA]
      apply RGW.on (i := 8) rfl
      · exact zG
      · intro γ u W hcur hd
        obtain ⟨⟨h1, r1, -⟩, ⟨h4, r4, -⟩, ⟨h6, -, -⟩, -⟩ := hd
        dsimp only at h1 h4 h6 r1 r4
        (try simp only [h1, h4, h6])
        exact ⟨rfl, zS⟩
      · first
        | exact zC
        | intro γ γ' hg
          try dsimp only
          have e1 := hg 1 (by decide)
          have e4 := hg 4 (by decide)
          simp only [e1, e4]
      · rfl
      dsimp only [nA, cA]
      apply RGW.on (i := 9) rfl
      · exact zG
      · intro γ u W hcur hd
        obtain ⟨⟨h1, r1, -⟩, ⟨h4, r4, -⟩, ⟨h7, -, -⟩, -⟩ := hd
        dsimp only at h1 h4 h7 r1 r4
        (try simp only [h1, h4, h7])
        exact ⟨rfl, zS⟩
      · first
        | exact zC
        | intro γ γ' hg
          try dsimp only
          have e1 := hg 1 (by decide)
          have e4 := hg 4 (by decide)
          simp only [e1, e4]
      · rfl
      dsimp only [nA, cA]
      refine RGW.fin (fun γ u w5 hw5 hd hdis => ?_)
      obtain ⟨⟨h0, -, -⟩, ⟨h1, r1, b1⟩, ⟨h2, -, -⟩, ⟨h3, -, -⟩, ⟨h4, r4, b4⟩, ⟨h5, -, -⟩, ⟨h6, -, -⟩, ⟨h7, -, -⟩, ⟨h8, -, -⟩, ⟨h9, -, -⟩, -⟩ := hd
      dsimp only at h0 h1 h2 h3 h4 h5 h6 h7 h8 h9 r1 r4 b1 b4
      clear hdis
      simp only [h0, h1, h2, h3, h4, h5, h6, h7, h8, h9]
      clear h9 h8 h7 h6 h5 h4 h3 h2 h1 h0
      clear u
      simp only [List.map_nil]
      refine PlanW.done ?_
      have hb3 := bl_tt hw5
      replace s7 := Lib.hid (s7.out.below hw5)
      replace s8 := Lib.hid (s8.out.below hw5)
      replace s3 := Lib.hid (s3.below hw5)
      replace K0 := Lib.hid (K0.out.below hw5)
      replace K1 := Lib.hid (K1.out.below hw5)
      replace hb2 := bl_tr hb2 hw5
      generalize (γ 4).A = A4
      generalize (γ 4).c = c4
      clear LK hcp4 hLo hw5 r1 b1 hb3
      go_wp2
      go_loopw [21, 22] (fun a i wr => ∃ k : Nat, k ≤ C0.length ∧ i = .int .i64 k ∧ a = .int .i64 (nu k) ∧ Below w5.heap.size w5 wr) (fun _ i _ => C0.length - (intOf i).toNat)
      case atStart => exact ⟨0, Nat.zero_le _, rfl, by rw [hn0.out], bl_refl w5⟩
      case round =>
        obtain ⟨k, hk, rfl, rfl, hb1⟩ := hrel
        obtain ⟨wq, hwq⟩ : ∃ wq, wq = wr := ⟨_, rfl⟩
        subst hwq
        by_cases hkn : k < C0.length
        · as_aux_lemma =>
            have hc : C0[k]? = some C0[k] := List.getElem?_eq_getElem hkn
            generalize C0[k] = c at hc
            obtain ⟨a, f, hA, haS, hfS, hdec⟩ := hAt.out k c hc
            obtain ⟨hc0, hc1⟩ := hNum.out c (List.mem_of_getElem? hc)
            have hbk := hNb.out k
            have hns' := hns.out k
            have hde := Lib.hid fun W : World => (show Calls Tryz.prog 30 #[vFr f] W (Ret (.tuple #[vMs c, .int .i64 0]) W) from by
              have := c_Decoded f W
              rw [hdec] at this
              exact this)
            have hwi := Lib.hid fun W : World => (show Calls Tryz.prog 12 #[.int .i64 a, .int .i64 0, .int .i64 ((S0.length : Int) - 1)] W (Same (.bool true) W) from by
              have h := r_Within (a : Int) 0 ((S0.length : Int) - 1) W
              rw [show inR (a : Int) 0 ((S0.length : Int) - 1) = true from inR_iff.2 (by omega)] at h
              exact h)
            have hmE := Lib.hid fun W : World => eqMs_self c W
            have hg1' := Lib.hid fun j b (h1 : k = j + 1) (h3 : C0[j]? = some b) => hg1.out k j c b h1 hc h3
            obtain ⟨b3, o3, rfl, L3⟩ := sl_atO (s3.out.below hb1) hA
            obtain ⟨b7, o7, rfl, hc7⟩ := (s7.out.below hb1) a f hfS
            have hs8 := Lib.hid (s8.out.below hb1)
            obtain ⟨b8, o8, rfl, hc8⟩ := hs8.out k c hc
            have hc8' := Lib.hid fun j b (h3 : C0[j]? = some b) => hs8.out j b h3
            obtain ⟨f0, f1, f2, f3, f4, f5, f6, f7⟩ := f
            obtain ⟨m0, m1, m2, m3, m4, m5, m6⟩ := c
            have F0 : wq.cell? ⟨b7, o7 + a * 8, none⟩ = some (.int .i64 f0) := by simpa using hc7 0 _ rfl
            have F1 := hc7 1 _ rfl
            have F2 := hc7 2 _ rfl
            have F3 := hc7 3 _ rfl
            have F4 := hc7 4 _ rfl
            have F5 := hc7 5 _ rfl
            have F6 := hc7 6 _ rfl
            have F7 := hc7 7 _ rfl
            have M0 : ∀ W, Below wq.heap.size wq W → W.cell? ⟨b8, o8 + k * 7, none⟩ = some (.int .i64 m0) := later (by simpa using hc8 0 _ rfl)
            have M1 : ∀ W, Below wq.heap.size wq W → W.cell? ⟨b8, o8 + k * 7 + 1, none⟩ = some (.int .i64 m1) := later (hc8 1 _ rfl)
            have M2 : ∀ W, Below wq.heap.size wq W → W.cell? ⟨b8, o8 + k * 7 + 2, none⟩ = some (.int .i64 m2) := later (hc8 2 _ rfl)
            have M3 : ∀ W, Below wq.heap.size wq W → W.cell? ⟨b8, o8 + k * 7 + 3, none⟩ = some (.int .i64 m3) := later (hc8 3 _ rfl)
            have M4 : ∀ W, Below wq.heap.size wq W → W.cell? ⟨b8, o8 + k * 7 + 4, none⟩ = some (.int .i64 m4) := later (hc8 4 _ rfl)
            have M5 : ∀ W, Below wq.heap.size wq W → W.cell? ⟨b8, o8 + k * 7 + 5, none⟩ = some (.int .i64 m5) := later (hc8 5 _ rfl)
            have M6 : ∀ W, Below wq.heap.size wq W → W.cell? ⟨b8, o8 + k * 7 + 6, none⟩ = some (.int .i64 m6) := later (hc8 6 _ rfl)
            have hkn2 : (k : Int) < C0.length := by omega
            have haS2 : (a : Int) < S0.length := by omega
            have L3' := L3 wq (bl_refl wq)
            dsimp only at hc0 hc1
            clear hc7 hc8 hA hfS hdec hAt L3 hNb hns hg1 hn0 hLs s3 s7 s8 K0 K1
            go_wp2_with fail
            refine (hwi.out _).mono ?_
            rintro e w9 ⟨rfl, rfl⟩
            clear hwi
            go_wp2_with fail
            refine (hde.out _).mono ?_
            rintro e w9 ⟨rfl, hb9⟩
            clear hde L3' F0 F1 F2 F3 F4 F5 F6 F7
            have hmE' : ∀ W : World, (Op.equalIn 10000 52 (.agg #[.int .i64 m0, .int .i64 m1, .int .i64 m2, .int .i64 m3, .int .i64 m4, .int .i64 m5, .int .i64 m6]) (.agg #[.int .i64 m0, .int .i64 m1, .int .i64 m2, .int .i64 m3, .int .i64 m4, .int .i64 m5, .int .i64 m6])).run Tryz.prog W = .ok true W := hmE.out
            clear hmE
            go_upto_region 42 with fail
            first
            | apply absB1 (w0 := w9) (g0 := w9.heap.size)
            | apply absTB1 (w0 := w9) (g0 := w9.heap.size)
            | apply absIB1 (w0 := w9) (g0 := w9.heap.size)
            iterate 2 (focus exact zL)
            try clear hb3
            try clear hb0
            try clear k23
            intro wy hb0 k23
            (try simp only [List.setIfInBounds_toArray, List.set_cons_zero, List.set_cons_succ] at k23)
            have hby := bl_tr hb9 hb0
            have N0 : ∀ W, Below wy.heap.size wy W → W.cell? ⟨b8, o8 + k * 7, none⟩ = some (.int .i64 m0) := fun W h => M0 W (bl_tr hby h)
            have N1 : ∀ W, Below wy.heap.size wy W → W.cell? ⟨b8, o8 + k * 7 + 1, none⟩ = some (.int .i64 m1) := fun W h => M1 W (bl_tr hby h)
            have N2 : ∀ W, Below wy.heap.size wy W → W.cell? ⟨b8, o8 + k * 7 + 2, none⟩ = some (.int .i64 m2) := fun W h => M2 W (bl_tr hby h)
            have N3 : ∀ W, Below wy.heap.size wy W → W.cell? ⟨b8, o8 + k * 7 + 3, none⟩ = some (.int .i64 m3) := fun W h => M3 W (bl_tr hby h)
            have N4 : ∀ W, Below wy.heap.size wy W → W.cell? ⟨b8, o8 + k * 7 + 4, none⟩ = some (.int .i64 m4) := fun W h => M4 W (bl_tr hby h)
            have N5 : ∀ W, Below wy.heap.size wy W → W.cell? ⟨b8, o8 + k * 7 + 5, none⟩ = some (.int .i64 m5) := fun W h => M5 W (bl_tr hby h)
            have N6 : ∀ W, Below wy.heap.size wy W → W.cell? ⟨b8, o8 + k * 7 + 6, none⟩ = some (.int .i64 m6) := fun W h => M6 W (bl_tr hby h)
            have hs8y := Lib.hid fun j b (h3 : C0[j]? = some b) => hc8'.out j b h3
            clear M0 M1 M2 M3 M4 M5 M6 hb9 hb0
            have Lk23 := k23.later
            have Fk23 := k23.laterF
            have Qk23 := k23.lt
            refine wp_any (w0 := wy) ⟨[], [], [some 178, some 179, some 180, some 181, some 182, some 183, some 184, some 185, some 186, some 187], [[], [0], [0, 1], [0, 1, 2], [0, 1, 2], [0, 1, 2], [0, 1, 2, 4, 5], [0, 1, 2, 4, 5, 6], [0, 1, 2, 3, 4, 5, 6, 7], [0, 1, 2, 3, 4, 5, 6, 7, 8]], [[], [0], [1], [2], [2], [2], [2, 4, 5], [2, 6], [2, 3, 7], [2, 8]]⟩ (fun _ => []) (by kernel_rfl) (by kernel_rfl) (by (exact zE)) (fun u => by simp only [putD, Act.put, List.setIfInBounds_toArray, List.set_cons_zero, List.set_cons_succ, Nat.zero_add, Nat.reduceAdd]; rfl) ?_
            apply RGW.on (i := 0) rfl
            · exact zG
            · intro γ u W hcur hd
              clear hd
              (try dsimp only)
              exact ⟨rfl, zS⟩
            · exact zC
            · rfl
            dsimp only [nA, cA]
            apply RGW.on (i := 1) rfl
            · exact zG
            · intro γ u W hcur hd
              obtain ⟨⟨h0, -, -⟩, -⟩ := hd
              dsimp only at h0
              (try simp only [h0])
              exact ⟨rfl, zS⟩
            · exact zC
            · rfl
            dsimp only [nA, cA]
            apply RGW.on (i := 2) rfl
            · exact zG
            · intro γ u W hcur hd
              obtain ⟨⟨h1, -, -⟩, -⟩ := hd
              dsimp only at h1
              (try simp only [h1])
              exact ⟨rfl, zS⟩
            · exact zC
            · rfl
            dsimp only [nA, cA]
            first
            | apply RGW.on (i := 3) rfl
              · exact zG
              · intro γ u W hcur hd
                obtain ⟨⟨h2, -, -⟩, -⟩ := hd
                dsimp only at h2
                (try simp only [h2])
                refine ⟨?_, ?_⟩
                · (simp [Region.wanted, yielded, undef, *]; done)
                exact zS
              · exact zC
              · rfl
            | apply RGW.off (i := 3) rfl
              · exact zG
              · intro γ u W hcur hd
                obtain ⟨⟨h2, -, -⟩, -⟩ := hd
                dsimp only at h2
                (try simp only [h2])
                simp [Region.wanted, yielded, undef, *]
              · rfl
            dsimp only [nA, cA]
            first
            | apply RGW.on (i := 4) rfl
              · exact zG
              · intro γ u W hcur hd
                obtain ⟨⟨h2, -, -⟩, -⟩ := hd
                dsimp only at h2
                (try simp only [h2])
                refine ⟨?_, ?_⟩
                · (simp [Region.wanted, yielded, undef, *]; done)
                exact zS
              · exact zC
              · rfl
            | apply RGW.off (i := 4) rfl
              · exact zG
              · intro γ u W hcur hd
                obtain ⟨⟨h2, -, -⟩, -⟩ := hd
                dsimp only at h2
                (try simp only [h2])
                simp [Region.wanted, yielded, undef, *]
              · rfl
            dsimp only [nA, cA]
            first
            | apply RGW.on (i := 5) rfl
              · exact zG
              · intro γ u W hcur hd
                obtain ⟨⟨h2, -, -⟩, -⟩ := hd
                dsimp only at h2
                (try simp only [h2])
                refine ⟨?_, ?_⟩
                · (simp [Region.wanted, yielded, undef, *]; done)
                exact zS
              · exact zC
              · rfl
            | apply RGW.off (i := 5) rfl
              · exact zG
              · intro γ u W hcur hd
                obtain ⟨⟨h2, -, -⟩, -⟩ := hd
                dsimp only at h2
                (try simp only [h2])
                simp [Region.wanted, yielded, undef, *]
              · rfl
            dsimp only [nA, cA]
            first
            | apply RGW.on (i := 6) rfl
              · exact zG
              · intro γ u W hcur hd
                obtain ⟨⟨h2, -, -⟩, ⟨h4, -, -⟩, ⟨h5, -, -⟩, -⟩ := hd
                dsimp only at h2 h4 h5
                (try simp only [h2, h4, h5])
                refine ⟨?_, ?_⟩
                · (simp [Region.wanted, yielded, undef, *]; done)
                exact zS
              · exact zC
              · rfl
            | apply RGW.off (i := 6) rfl
              · exact zG
              · intro γ u W hcur hd
                obtain ⟨⟨h2, -, -⟩, ⟨h4, -, -⟩, ⟨h5, -, -⟩, -⟩ := hd
                dsimp only at h2 h4 h5
                (try simp only [h2, h4, h5])
                simp [Region.wanted, yielded, undef, *]
              · rfl
            dsimp only [nA, cA]
            first
            | apply RGW.on (i := 7) rfl
              · exact zG
              · intro γ u W hcur hd
                obtain ⟨⟨h2, -, -⟩, ⟨h6, -, -⟩, -⟩ := hd
                dsimp only at h2 h6
                (try simp only [h2, h6])
                refine ⟨?_, ?_⟩
                · (simp [Region.wanted, yielded, undef, *]; done)
                exact zS
              · exact zC
              · rfl
            | apply RGW.off (i := 7) rfl
              · exact zG
              · intro γ u W hcur hd
                obtain ⟨⟨h2, -, -⟩, ⟨h6, -, -⟩, -⟩ := hd
                dsimp only at h2 h6
                (try simp only [h2, h6])
                simp [Region.wanted, yielded, undef, *]
              · rfl
            dsimp only [nA, cA]
            first
            | apply RGW.on (i := 8) rfl
              · exact zG
              · intro γ u W hcur hd
                obtain ⟨⟨h2, -, -⟩, ⟨h3, -, -⟩, ⟨h7, -, -⟩, -⟩ := hd
                dsimp only at h2 h3 h7
                (try simp only [h2, h3, h7])
                refine ⟨?_, ?_⟩
                · (simp [Region.wanted, yielded, undef, *]; done)
                exact zS
              · exact zC
              · rfl
            | apply RGW.off (i := 8) rfl
              · exact zG
              · intro γ u W hcur hd
                obtain ⟨⟨h2, -, -⟩, ⟨h3, -, -⟩, ⟨h7, -, -⟩, -⟩ := hd
                dsimp only at h2 h3 h7
                (try simp only [h2, h3, h7])
                simp [Region.wanted, yielded, undef, *]
              · rfl
            dsimp only [nA, cA]
            apply RGW.on (i := 9) rfl
            · exact zG
            · intro γ u W hcur hd
              obtain ⟨⟨h2, -, -⟩, ⟨h8, -, -⟩, -⟩ := hd
              dsimp only at h2 h8
              (try simp only [h2, h8])
              exact ⟨rfl, zS⟩
            · exact zC
            · rfl
            dsimp only [nA, cA]
            refine RGW.fin (fun γ u wz hwz hd hdis => ?_)
            obtain ⟨⟨h0, -, -⟩, ⟨h1, -, -⟩, ⟨h2, -, -⟩, ⟨h3, -, -⟩, ⟨h4, -, -⟩, ⟨h5, -, -⟩, ⟨h6, -, -⟩, ⟨h7, -, -⟩, ⟨h8, -, -⟩, ⟨h9, -, -⟩, -⟩ := hd
            dsimp only at h0 h1 h2 h3 h4 h5 h6 h7 h8 h9
            clear hdis
            simp only [h0, h1, h2, h3, h4, h5, h6, h7, h8, h9]
            clear h9 h8 h7 h6 h5 h4 h3 h2 h1 h0
            clear u
            simp only [List.map_nil]
            refine PlanW.done ?_
            have hb3 := bl_tt hwz
            have hbz := bl_tr hby hwz
            have P1 : ∀ W, Below wz.heap.size wz W → W.cell? ⟨b8, o8 + k * 7 + 1, none⟩ = some (.int .i64 m1) := fun W h => N1 W (bl_tr hwz h)
            clear N0 N1 N2 N3 N4 N5 N6 hmE' Lk23 Fk23 Qk23 k23 hwz hby
            have hbe := bl_tr hb1 hbz
            by_cases hk0 : k = 0
            · have e2 := Lib.hid (show nu (k + 1) = nu k by rw [hns', hk0, hg0.out]; omega)
              have hk0' : ¬ (0 : Int) < (k : Int) := by omega
              replace hk0 := Lib.hid hk0
              clear hns' hg1' P1 hc8' hs8y
              go_wp2
              go_roundw
              case rel => exact ⟨k + 1, by omega, by go_num, by rw [e2.out], hbe⟩
              case measure => simp [intOf]; omega
            · obtain ⟨j, hj⟩ : ∃ j, k = j + 1 := ⟨k - 1, by omega⟩
              have hcj : C0[j]? = some (C0[j]'(by omega)) := List.getElem?_eq_getElem _
              generalize C0[j]'(by omega) = b at hcj
              have hb255 := hNum.out b (List.mem_of_getElem? hcj)
              have e2 := Lib.hid (show nu (k + 1) = nu k + (m1 - b.num) % 256 - 1 by rw [hns', hg1'.out j b hj hcj]; omega)
              obtain ⟨b9, o9, e9, hc9⟩ := hs8y.out j b hcj
              injection e9 with e9
              injection e9 with e9 e10
              subst e9 e10
              have Q1 : ∀ W, Below wz.heap.size wz W → W.cell? ⟨b8, o8 + j * 7 + 1, none⟩ = some (.int .i64 b.num) := fun W h => later (hc9 1 _ rfl) W (bl_tr hbz h)
              have hj1 : (k : Int) - 1 = (j : Int) := by omega
              have hj2 : (j : Int) < C0.length := by omega
              have hk0' : (0 : Int) < (k : Int) := by omega
              have hmo := Lib.hid fun W : World => r_Mod (m1 - b.num) 256 W (by decide) (by decide)
              obtain ⟨g, hg⟩ : ∃ g : Int, (m1 - b.num) % 256 = g := ⟨_, rfl⟩
              have hg9 : 0 ≤ g ∧ g ≤ 255 := by omega
              rw [hg] at hmo e2
              replace hg := Lib.hid hg
              replace hj := Lib.hid hj
              clear hns' hg1' hc8' hs8y hc9 hk0
              go_upto_region 45 with fail
              clear hk0'
              rename 0 < k => hzz
              clear hzz
              refine wp_any (w0 := wz) ⟨[16], [], [some 190, some 191, some 192, some 193, some 194, some 195, some 196, some 197, some 198, some 199, some 200, some 201, some 202, some 203, some 204, some 205, none], [[], [], [], [1, 2], [1, 2, 3], [1, 2, 3, 4], [], [], [7], [6, 7, 8], [6, 7, 8, 9], [6, 7, 8, 9, 10], [1, 2, 3, 4, 5, 6, 7, 8, 9, 10, 11], [1, 2, 3, 4, 5, 6, 7, 8, 9, 10, 11, 12], [0, 1, 2, 3, 4, 5, 6, 7, 8, 9, 10, 11, 12, 13], [0, 1, 2, 3, 4, 5, 6, 7, 8, 9, 10, 11, 12, 13, 14], [0, 1, 2, 3, 4, 5, 6, 7, 8, 9, 10, 11, 12, 13, 14, 15]], [[], [], [], [1, 2], [3], [4], [], [], [7], [6, 8], [9], [10], [5, 11], [12], [0, 13], [14], []]⟩ (fun _ => []) (by kernel_rfl) (by kernel_rfl) (by (exact zE)) (fun u => by simp only [putD, Act.put, List.setIfInBounds_toArray, List.set_cons_zero, List.set_cons_succ, Nat.zero_add, Nat.reduceAdd]; rfl) ?_
              apply RGW.on (i := 0) rfl
              · exact zG
              · intro γ u W hcur hd
                clear hd
                (try dsimp only)
                exact ⟨rfl, zS⟩
              · exact zC
              · rfl
              dsimp only [nA, cA]
              apply RGW.on (i := 1) rfl
              · exact zG
              · intro γ u W hcur hd
                clear hd
                (try dsimp only)
                exact ⟨rfl, zS⟩
              · exact zC
              · rfl
              dsimp only [nA, cA]
              apply RGW.on (i := 2) rfl
              · exact zG
              · intro γ u W hcur hd
                clear hd
                (try dsimp only)
                exact ⟨rfl, zS⟩
              · exact zC
              · rfl
              dsimp only [nA, cA]
              apply RGW.on (i := 3) rfl
              · exact zG
              · intro γ u W hcur hd
                obtain ⟨⟨h1, -, -⟩, ⟨h2, -, -⟩, -⟩ := hd
                dsimp only at h1 h2
                (try simp only [h1, h2])
                exact ⟨rfl, zS⟩
              · exact zC
              · rfl
              dsimp only [nA, cA]
              apply RGW.on (i := 4) rfl
              · exact zG
              · intro γ u W hcur hd
                obtain ⟨⟨h3, -, -⟩, -⟩ := hd
                dsimp only at h3
                (try simp only [h3])
                exact ⟨rfl, zS⟩
              · exact zC
              · rfl
              dsimp only [nA, cA]
              apply RGW.on (i := 5) rfl
              · exact zG
              · intro γ u W hcur hd
                obtain ⟨⟨h4, -, -⟩, -⟩ := hd
                dsimp only at h4
                (try simp only [h4])
                exact ⟨rfl, zS⟩
              · exact zC
              · rfl
              dsimp only [nA, cA]
              apply RGW.on (i := 6) rfl
              · exact zG
              · intro γ u W hcur hd
                clear hd
                (try dsimp only)
                exact ⟨rfl, zS⟩
              · exact zC
              · rfl
              dsimp only [nA, cA]
              apply RGW.on (i := 7) rfl
              · exact zG
              · intro γ u W hcur hd
                clear hd
                (try dsimp only)
                exact ⟨rfl, zS⟩
              · exact zC
              · rfl
              dsimp only [nA, cA]
              apply RGW.on (i := 8) rfl
              · exact zG
              · intro γ u W hcur hd
                obtain ⟨⟨h7, -, -⟩, -⟩ := hd
                dsimp only at h7
                (try simp only [h7])
                exact ⟨rfl, zS⟩
              · exact zC
              · rfl
              dsimp only [nA, cA]
              apply RGW.on (i := 9) rfl
              · exact zG
              · intro γ u W hcur hd
                obtain ⟨⟨h6, -, -⟩, ⟨h8, -, -⟩, -⟩ := hd
                dsimp only at h6 h8
                (try simp only [h6, h8])
                exact ⟨rfl, zS⟩
              · exact zC
              · rfl
              dsimp only [nA, cA]
              apply RGW.on (i := 10) rfl
              · exact zG
              · intro γ u W hcur hd
                obtain ⟨⟨h9, -, -⟩, -⟩ := hd
                dsimp only at h9
                (try simp only [h9])
                exact ⟨rfl, zS⟩
              · exact zC
              · rfl
              dsimp only [nA, cA]
              apply RGW.on (i := 11) rfl
              · exact zG
              · intro γ u W hcur hd
                obtain ⟨⟨h10, -, -⟩, -⟩ := hd
                dsimp only at h10
                (try simp only [h10])
                exact ⟨rfl, zS⟩
              · exact zC
              · rfl
              dsimp only [nA, cA]
              apply RGW.on (i := 12) rfl
              · exact zG
              · intro γ u W hcur hd
                obtain ⟨⟨h5, -, -⟩, ⟨h11, -, -⟩, -⟩ := hd
                dsimp only at h5 h11
                (try simp only [h5, h11])
                exact ⟨rfl, zS⟩
              · exact zC
              · rfl
              dsimp only [nA, cA]
              apply RGW.call (i := 13) rfl
              · exact zG
              · intro γ u W hcur hd
                obtain ⟨⟨h12, -, -⟩, -⟩ := hd
                dsimp only at h12
                (try simp only [h12])
                refine ⟨rfl, fun K hK => ?_⟩
                go_simp
                (go_at_call 26; (with_reducible refine (hmo.out _).mono ?_); rintro e w3 ⟨rfl, rfl⟩)
                (try dsimp only)
                exact hK.out _ _ rfl (by (exact zE))
              · exact zC
              · rfl
              dsimp only [nA, cA]
              apply RGW.on (i := 14) rfl
              · exact zG
              · intro γ u W hcur hd
                obtain ⟨⟨h0, -, -⟩, ⟨h13, -, -⟩, -⟩ := hd
                dsimp only at h0 h13
                (try simp only [h0, h13])
                exact ⟨rfl, zS⟩
              · exact zC
              · rfl
              dsimp only [nA, cA]
              apply RGW.on (i := 15) rfl
              · exact zG
              · intro γ u W hcur hd
                obtain ⟨⟨h14, -, -⟩, -⟩ := hd
                dsimp only at h14
                (try simp only [h14])
                exact ⟨rfl, zS⟩
              · exact zC
              · rfl
              dsimp only [nA, cA]
              refine RGW.skip (i := 16) rfl rfl ?_
              dsimp only [nA, cA]
              refine RGW.fin (fun γ u wv hwv hd hdis => ?_)
              obtain ⟨⟨h0, -, -⟩, ⟨h1, -, -⟩, ⟨h2, -, -⟩, ⟨h3, -, -⟩, ⟨h4, -, -⟩, ⟨h5, -, -⟩, ⟨h6, -, -⟩, ⟨h7, -, -⟩, ⟨h8, -, -⟩, ⟨h9, -, -⟩, ⟨h10, -, -⟩, ⟨h11, -, -⟩, ⟨h12, -, -⟩, ⟨h13, -, -⟩, ⟨h14, -, -⟩, ⟨h15, -, -⟩, -⟩ := hd
              dsimp only at h0 h1 h2 h3 h4 h5 h6 h7 h8 h9 h10 h11 h12 h13 h14 h15
              clear hdis
              simp only [h0, h1, h2, h3, h4, h5, h6, h7, h8, h9, h10, h11, h12, h13, h14, h15]
              clear h15 h14 h13 h12 h11 h10 h9 h8 h7 h6 h5 h4 h3 h2 h1 h0
              clear u
              simp only [List.map_cons, List.map_nil]
              apply PlanW.step
              · exact zG
              · rfl
              intro K hK
              go_simp
              refine hK.out _ _ (by with_reducible first | assumption | exact bx_refl _ _) (fun hcur => ?_)
              clear hK K
              try simp only [Act.put, List.setIfInBounds_toArray, List.set_cons_zero, List.set_cons_succ]
              refine PlanW.done ?_
              have hb3 := bl_tt hwv
              replace hbe := bl_tr hbe hwv
              clear P1 Q1 hmo
              go_wp2
              go_roundw
              case rel => exact ⟨k + 1, by omega, by go_num, by rw [e2.out], hbe⟩
              case measure => simp [intOf]; omega
        · have e : k = C0.length := by omega
          subst e
          have e2 : nu C0.length = (LL : Int) := hLs.out.symm
          rw [e2]
          have hbw := bl_tr hb2 hb1
          have k1 := K1.out.below hb1
          clear hLs e2 hb1 hb2 K0 K1 hNb hn0 hns hg0 hg1 hAt hNum s3 s7 s8 hkn
          as_aux_lemma =>
            generalize C0.length = cn at *
            generalize S0.length = sn at *
            have L1 := k1.cell
            go_upto_region 48 with fail
            go_wp2_with fail
            refine (hbs.out _).mono ?_
            rintro e w6 ⟨rfl, hb6⟩
            replace hbw := bl_tr hbw hb6
            replace k1 := k1.below hb6
            clear L1 hb6 hbs
            cases hB : bsmB n
            · clear hne hcn hfo hpa hsa hcu hwo
              go_wp2
              go_ret
              exact ⟨rfl, hbw⟩
            have hnf10 : nf ≤ 10 := by
              unfold bsmB at hB
              simp only [Bool.and_eq_true, decide_eq_true_eq] at hB
              have := Hf.out
              omega
            have hne1 := Lib.hid (hne.out hB)
            have L1 := k1.cell
            clear hne
            go_wp2_with fail
            refine (hne1.out _ hbw).mono ?_
            rintro e w7 ⟨rfl, hb7⟩
            replace hbw := bl_tr hbw hb7
            replace k1 := k1.below hb7
            clear L1 hb7 hne1
            by_cases h0 : netErr n = 0
            rotate_left
            · have h0' : (netErr n != 0) = true := by simp [h0]
              clear hcn hfo hpa hsa hcu hwo
              generalize netErr n = E at *
              replace h0 := Lib.hid h0
              go_wp2
              go_ret
              exact ⟨rfl, hbw⟩
            replace hcn := Lib.hid (hcn.out h0)
            replace hfo := Lib.hid (hfo.out h0)
            replace hpa := Lib.hid (hpa.out h0)
            replace hsa := Lib.hid (hsa.out h0)
            replace hcu := Lib.hid (hcu.out h0)
            replace hwo := Lib.hid (hwo.out h0)
            generalize (fmtNt n.cn).toArray = XS at *
            rw [h0]
            clear h0
            have L1 := k1.cell
            go_wp2_with fail
            refine (hcn.out _ hbw).mono ?_
            rintro e w8 ⟨hb8, q8, Bp, Bf, Bm, dp, df, dm, he8, hn8, rfl⟩
            replace hbw := bl_tr hbw hb8
            replace k1 := k1.below hb8
            clear L1 hb8
            go_wp2_with fail
            refine (hfo.out _ _ _ _ _ _ _ _ he8 hn8 hbw).mono ?_
            rintro e w9 ⟨rfl, hb9⟩
            replace hbw := bl_tr hbw hb9
            replace k1 := k1.below hb9
            clear hb9 he8 hn8 hfo
            go_wp2_with fail
            refine (hpa.out _ hbw).mono ?_
            rintro e w10 ⟨hb10, q, Bp, Bf, Bm, dp, df, dm, hq, hn10, rfl⟩
            replace hbw := bl_tr hbw hb10
            replace k1 := k1.below hb10
            clear hb10 hpa
            replace hq := Lib.hid hq
            go_upto_region 51 with fail
            have hq1 := k1.lt
            first
            | apply absB1 (w0 := w10) (g0 := w10.heap.size)
            | apply absTB1 (w0 := w10) (g0 := w10.heap.size)
            | apply absIB1 (w0 := w10) (g0 := w10.heap.size)
            iterate 2 (focus exact zL)
            try clear hb3
            try clear hb0
            try clear k25
            intro w11 hb0 k25
            (try simp only [List.setIfInBounds_toArray, List.set_cons_zero, List.set_cons_succ] at k25)
            replace hbw := bl_tr hbw hb0
            replace k1 := k1.below hb0
            replace hn10 := Lib.hid (hn10.below hb0)
            clear hb0
            have L1 := k1.cell
            have L25 := k25.cell
            go_wp2_with fail
            refine (hsa.out _ _ _ _ _ _ _ _ hq.out hn10.out hbw).mono ?_
            rintro e w12 ⟨rfl, hb12⟩
            replace hbw := bl_tr hbw hb12
            replace k1 := k1.below hb12
            replace k25 := k25.below hb12
            replace hn10 := Lib.hid (hn10.out.below hb12)
            obtain ⟨g25, hg25⟩ : ∃ g, w10.heap.size = g := ⟨_, rfl⟩
            rw [hg25] at k25 ⊢
            clear L1 L25 hb12 hsa hg25 hq1
            go_wp2
            go_loopw [27] (fun i wr => ∃ k : Nat, k ≤ nf ∧ i = .int .i64 k ∧ Below w12.heap.size w12 wr) (fun i _ => nf - (intOf i).toNat)
            case atStart => exact ⟨0, Nat.zero_le _, rfl, bl_refl w12⟩
            case round =>
              obtain ⟨k, hk, rfl, hb1⟩ := hrel
              have hbr := bl_tr hbw hb1
              have k1r := k1.below hb1
              have k25r := k25.below hb1
              have hn25 := Lib.hid (hn10.out.below hb1)
              have L1 := k1r.cell
              have L25 := k25r.cell
              by_cases hkn : k < nf
              · have hx : n.fs[k]? = some (n.fs[k]'(by rw [Hf.out]; exact hkn)) := List.getElem?_eq_getElem _
                generalize n.fs[k]'(by rw [Hf.out]; exact hkn) = f at hx
                have hcuk := Lib.hid (hcu.out q Bp Bf Bm dp df dm wr hq.out hn25.out hbr k f hx)
                have hwok := Lib.hid fun (q' : Nt) Cp Cf Cm ep ef em W (h : NtEq n q') (hm : NtIn q' Cp Cf Cm ep ef em W) (hb : Below w.heap.size w W) A c hs => hwo.out q' Cp Cf Cm ep ef em W h hm hb k f hx A c hs
                have hll := listS_len (cutS f np)
                generalize listS (cutS f np) = CL at *
                have hkn2 : (k : Int) < nf := by omega
                clear hcu hwo hx hn25
                go_wp2_with fail
                refine hcuk.out.mono ?_
                rintro e z1 ⟨hz1, A1, c1, rfl, hs1⟩
                have hbc := bl_tr hb1 hz1
                replace hbr := bl_tr hbr hz1
                replace k1r := k1r.below hz1
                clear hz1 L1 L25 hcuk
                have L1 := k1r.cell
                go_wp2_with fail
                refine (hcn.out _ hbr).mono ?_
                rintro e z2 ⟨hz2, q2, Cp, Cf, Cm, ep, ef, em, hq2, hn2, rfl⟩
                replace hbc := bl_tr hbc hz2
                replace hbr := bl_tr hbr hz2
                replace hs1 := hs1.below hz2
                clear hz2 L1 hcn
                go_wp2_with fail
                refine (r_CopyInts CL A1 c1 _ hs1 (by omega)).mono ?_
                rintro e z3 ⟨A3, c3, rfl, hz3, ho3⟩
                replace hbc := bl_tr hbc hz3
                replace hbr := bl_tr hbr hz3
                replace hn2 := hn2.below hz3
                clear hz3 hs1
                go_wp2_with fail
                refine (hwok.out _ _ _ _ _ _ _ _ hq2 hn2 hbr A3 c3 (own_sl ho3)).mono ?_
                rintro e z4 ⟨hz4, A5, c5, L, rfl, hs5, hl5, hL⟩
                replace hbc := bl_tr hbc hz4
                have hha := Lib.hid (r_Has L k A5 c5 z4 hs5 hl5)
                rw [hL] at hha
                clear hz4 ho3 hn2 hq2 hwok hL hs5
                go_wp2_with fail
                refine hha.out.mono ?_
                rintro e z5 ⟨rfl, hz5⟩
                replace hbc := bl_tr hbc hz5
                clear hha
                go_wp2
                go_roundw
                case rel => exact ⟨k + 1, by omega, by go_num, hbc⟩
                case measure => simp [intOf]; omega
              · have e : k = nf := by omega
                clear hcn hcu hwo
                go_wp2
                go_ret
                exact ⟨rfl, hbr⟩
end Go.Proofs.YtbdgblnccjpahaaGreatDoor
