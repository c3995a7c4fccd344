/-
  Walk: the answers of readings for a box.
  Walk: a box carried back.
  Walks: a box carried, from the library's outside: the checks, then the move.
-/
import Derived.Test.YtephimmamkafoaaGreatT11
import Derived.Test.YtephimmamkafoaaGreatT5
import Derived.Test.YtephimmamkafoaaGreatT2
import Derived.Test.YtephimmamkafoaaGreatT6
set_option linter.unusedSimpArgs false
set_option linter.unusedVariables false
namespace Go.Proofs.YtephimmamkafoaaGreat
open Go.RowKit Go.Shelf
attribute [local go_sem] bl_al bl_drew bl_drewN bl_refl bx_al bx_drew bx_drewN bx_refl
set_option maxRecDepth 20000
/-- The answer of what is measured and what is permitted: no, maybe, yes. -/
def ans (m : Rg × Rg) : Int := if m.2.lo ≤ m.1.lo ∧ m.1.hi ≤ m.2.hi then 2 else if m.1.hi < m.2.lo ∨ m.2.hi < m.1.lo then 0 else 1
theorem ans_eq (ml mh pl ph : Int) : ans (⟨ml, mh⟩, ⟨pl, ph⟩) = if decide (pl ≤ ml) && decide (mh ≤ ph) then 2 else if decide (mh < pl) || decide (ph < ml) then 0 else 1 := by simp [ans]
def ansTo (f : Nat → Int) (k : Nat) : List Int := (List.range k).map f
theorem ansTo_succ (f : Nat → Int) (k : Nat) : ansTo f (k + 1) = ansTo f k ++ [f k] := by simp [ansTo, List.range_succ]
theorem ansTo_len (f : Nat → Int) (k : Nat) : (ansTo f k).length = k := by simp [ansTo]
def ansAt (bs : List Bc) (a : Bx) (l : List Rd) (k : Nat) : Int := ((l[k]?).map fun r => ans (measS bs a r)).getD 0
def ansS (n : Nt) (b : Bx) (l : List Rd) : List Int := if wrongE n b l = 0 then ansTo (ansAt n.bs b l) l.length else []
/-- A slice of the call's own, and an error. -/
def RetE (L : List Int) (x : Int) (w : World) (e : Ending) (w' : World) : Prop :=
  ∃ A c, e = .returned (.tuple #[.slice A L.length c, .int .i64 x]) ∧ Below w.heap.size w w' ∧ w'.ownsRow w.heap.size 3 1 (.slice A L.length c) L.length (L.map (.int .i64))
theorem RetE.of {L : List Int} {w w' : World} {v : Value} {x : Int} (hb : Below w.heap.size w w') (h : w'.ownsRow w.heap.size 3 1 v L.length (L.map (.int .i64))) : RetE L x w (.returned (.tuple #[v, .int .i64 x])) w' := by
  obtain ⟨A, c, e, h1, h2⟩ := RetI.of hb h
  injection e with e
  exact ⟨A, c, by rw [e], h1, h2⟩
set_option maxHeartbeats 8000000 in
theorem c_AnswersOf (n : Nt) (b : Bx) (l : List Rd) (A A' : Option Addr) (c c' : Nat) (w : World) (hn : NtIn n A c w) (hl : Sl cRd 4 w A' l) (hll : l.length ≤ 1000) (hlb : n.bs.length ≤ 1000) :
    Calls Tryz.prog 41 #[vNt n.world (.slice A n.bs.length c), vBx b, .slice A' l.length c'] w (RetE (ansS n b l) (wrongE n b l) w) := by
  obtain ⟨i0, hi0, hz0, hz1, hz2⟩ := info_parts info3
  have hco := Lib.hid fun (W : World) (hb : Below w.heap.size w W) => c_openBox n b A c W (hn.below hb)
  have hcv := Lib.hid fun (W : World) (hb : Below w.heap.size w W) => c_readingsErr n l A A' c c' W (hn.below hb) (hl.below hb) hll hlb
  have hms := Lib.hid fun (h : wrongE n b l = 0) (W : World) (hb : Below w.heap.size w W) (r : Rd) (hm : r ∈ l) => c_measured n.world b n.bs A c r W (hn.sl.below hb) hlb (wrong_ok h).1.in ((wrong_ok h).2.2 r hm)
  have hme : Hid (wrongE n b l = fstE [boxErr n b, readsErr n l]) := rfl
  have hs1 : Hid (wrongE n b l ≠ 0 → ansS n b l = []) := fun h => by rw [ansS, if_neg h]
  have hs2 : Hid (wrongE n b l = 0 → ansS n b l = ansTo (ansAt n.bs b l) l.length) := fun h => by rw [ansS, if_pos h]
  have hfk : Hid (∀ k x, l[k]? = some x → ansAt n.bs b l k = ans (measS n.bs b x)) := fun k x h => by simp [ansAt, h]
  have Hl := Lib.hid hl
  clear hn hl
  generalize n.bs.length = nl at *
  obtain ⟨ll, Hn⟩ : ∃ k, Hid (l.length = k) := ⟨_, rfl⟩
  rw [Hn.out] at hll hcv hs2 ⊢
  go_enter Tryz.func41, Tryz.ntmps41
  go_wp2_with fail
  refine Calls.mono (hco.out _ ?_) ?_
  · solve_by_elim (maxDepth := 60) only [bl_al, bl_drew, bl_drewN, bl_refl, *]
  rintro e w3 ⟨rfl, hb3⟩
  replace hb3 := bl_tt hb3
  apply absX1 (w0 := w) (w := w3) (g0 := w.heap.size)
  iterate 2 (focus ((with_reducible (repeat' (first | assumption | apply jA | apply jB | apply jC | apply jD | apply jE | apply jF | apply hb3 | apply jG | apply jH | apply jI | apply jJ | apply jK | apply hb3x | (apply jL; first | (simp; done) | rfl) | apply jM | apply jN | apply jO | apply jP | apply jQ | apply jR | apply jS | apply jT (hb := hb3 _ (jA _)) | omega | (simp; done) | (simp; omega) | (dsimp only; omega)))); done))
  intro wa hb0' k0'
  (try simp only [List.setIfInBounds_toArray, List.set_cons_zero, List.set_cons_succ] at k0')
  try clear hb3
  try clear hb0
  try clear k0
  have hb0 := hb0'; clear hb0'
  have k0 := k0'; clear k0'
  have Lk0 := k0.later
  have Fk0 := k0.laterF
  have Qk0 := k0.lt
  go_upto_region 2 with fail
  apply absB3 (w0 := w) (g0 := w.heap.size) (g1 := wa.heap.size) (g2 := wa.heap.size + 1)
  iterate 4 (focus ((with_reducible (repeat' (first | assumption | apply jA | apply jB | apply jC | apply jD | apply jE | apply jF | apply hb3 | apply jG | apply jH | apply jI | apply jJ | apply jK | apply hb3x | (apply jL; first | (simp; done) | rfl) | apply jM | apply jN | apply jO | apply jP | apply jQ | apply jR | apply jS | apply jT (hb := hb3 _ (jA _)) | omega | (simp; done) | (simp; omega) | (dsimp only; omega)))); done))
  intro wb hb0' k0' k5' k6'
  (try simp only [List.setIfInBounds_toArray, List.set_cons_zero, List.set_cons_succ] at k0' k5' k6')
  try clear hb3
  try clear Lk0
  try clear Fk0
  try clear Qk0
  try clear hb0
  try clear k0
  try clear k5
  try clear k6
  have hb0 := hb0'; clear hb0'
  have k0 := k0'; clear k0'
  have k5 := k5'; clear k5'
  have k6 := k6'; clear k6'
  have Lk0 := k0.later
  have Fk0 := k0.laterF
  have Qk0 := k0.lt
  have Lk5 := k5.later
  have Fk5 := k5.laterF
  have Qk5 := k5.lt
  have Lk6 := k6.later
  have Fk6 := k6.laterF
  have Qk6 := k6.lt
  go_upto_region 3 with (first | (go_at_call 85; (with_reducible refine (hcv.out _ (bl_tr hb0 (by (with_reducible (repeat' (first | assumption | apply jA | apply jB | apply jC | apply jD | apply jE | apply jF | apply hb3 | omega | (simp; done) | (simp; omega) | (dsimp only; omega))))))).mono ?_); rintro e w3 ⟨rfl, hb3⟩; replace hb3 := bl_tt hb3) | (go_at_call 48; (with_reducible refine (c_first2 (by (with_reducible (repeat' (first | assumption | (apply jL; first | (simp; done) | rfl) | apply jM | apply jN | apply jO | apply jP | apply jQ | apply jR | apply jS | apply jT (hb := hb3 _ (jA _)) | omega | (simp; done) | (simp; omega) | (dsimp only; omega)))))).mono ?_); rintro e w3 ⟨rfl, rfl⟩))
  apply absB3 (w0 := w) (g0 := w.heap.size) (g1 := wa.heap.size) (g2 := wa.heap.size + 1)
  iterate 4 (focus ((with_reducible (repeat' (first | assumption | apply jA | apply jB | apply jC | apply jD | apply jE | apply jF | apply hb3 | apply jG | apply jH | apply jI | apply jJ | apply jK | apply hb3x | (apply jL; first | (simp; done) | rfl) | apply jM | apply jN | apply jO | apply jP | apply jQ | apply jR | apply jS | apply jT (hb := hb3 _ (jA _)) | omega | (simp; done) | (simp; omega) | (dsimp only; omega)))); done))
  intro wc hb0' k0' k5' k6'
  (try simp only [List.setIfInBounds_toArray, List.set_cons_zero, List.set_cons_succ] at k0' k5' k6')
  try clear hb3
  try clear Lk0
  try clear Fk0
  try clear Qk0
  try clear Lk5
  try clear Fk5
  try clear Qk5
  try clear Lk6
  try clear Fk6
  try clear Qk6
  try clear hb0
  try clear k0
  try clear k5
  try clear k6
  have hb0 := hb0'; clear hb0'
  have k0 := k0'; clear k0'
  have k5 := k5'; clear k5'
  have k6 := k6'; clear k6'
  have Lk0 := k0.later
  have Fk0 := k0.laterF
  have Qk0 := k0.lt
  have Lk5 := k5.later
  have Fk5 := k5.laterF
  have Qk5 := k5.lt
  have Lk6 := k6.later
  have Fk6 := k6.laterF
  have Qk6 := k6.lt
  rw [← hme.out]
  by_cases h0 : wrongE n b l = 0
  · have h0' : (wrongE n b l != 0) = false := by simp [h0]
    have hms' := Lib.hid (hms.out h0)
    have hs := Lib.hid (hs2.out h0)
    replace h0 := Lib.hid h0
    clear hs1 hs2 hms hco hcv hme
    go_wp2
    go_loopw [11, 34] (fun v i wr => ∃ k : Nat, k ≤ ll ∧ i = .int .i64 k ∧ Below wc.heap.size wc wr ∧ wr.ownsRow wc.heap.size 3 1 v (ansTo (ansAt n.bs b l) k).length ((ansTo (ansAt n.bs b l) k).map (.int .i64))) (fun _ i _ => ll - (intOf i).toNat)
    case atStart => exact ⟨0, Nat.zero_le _, rfl, Below.refl _ _, World.ownsRow_nil _ _ _ _⟩
    case round =>
      obtain ⟨k, hk, rfl, hb, hown⟩ := hrel
      rw [ansTo_len] at hown
      by_cases hlt : k < ll
      · have hx : l[k]? = some (l[k]'(by rw [Hn.out]; exact hlt)) := List.getElem?_eq_getElem _
        generalize l[k]'(by rw [Hn.out]; exact hlt) = x at hx
        obtain ⟨bb, off, hA, hc⟩ := Hl.out k x hx
        have hm : x ∈ l := List.mem_of_getElem? hx
        have hwr : Below w.heap.size w wr := bl_tr hb0 hb
        have c0 : ∀ W, Below wr.heap.size wr W → W.cell? ⟨bb, off + k * 4, none⟩ = some (.int .i64 x.kind) := later (kcell hwr (hc 0 _ rfl))
        have c1 : ∀ W, Below wr.heap.size wr W → W.cell? ⟨bb, off + k * 4 + 1, none⟩ = some (.int .i64 x.idx) := later (kcell hwr (hc 1 _ rfl))
        have c2 : ∀ W, Below wr.heap.size wr W → W.cell? ⟨bb, off + k * 4 + 2, none⟩ = some (.int .i64 x.v.lo) := later (kcell hwr (hc 2 _ rfl))
        have c3 : ∀ W, Below wr.heap.size wr W → W.cell? ⟨bb, off + k * 4 + 3, none⟩ = some (.int .i64 x.v.hi) := later (kcell hwr (hc 3 _ rfl))
        clear hc
        subst hA
        have hfk := Lib.hid (hfk.out k x hx)
        have hca := Lib.hid fun (W : World) (h : Below wr.heap.size wr W) => hms'.out W (bl_tr hwr h) x hm
        have hsz := hb.size
        replace hown := Lib.hid hown
        replace hx := Lib.hid hx
        have k5 := k5.below hb
        have k6 := k6.below hb
        clear Lk0 Lk5 Lk6 Fk0 Fk5 Fk6 Qk0 Qk5 Qk6
        have hb0' := hb0
        have hb0 := bl_refl wr
        have Lk5 := k5.later
        have Fk5 := k5.laterF
        have Qk5 := k5.lt
        have Lk6 := k6.later
        have Fk6 := k6.laterF
        have Qk6 := k6.lt
        generalize measS n.bs b x = M at *
        obtain ⟨⟨ml, mh⟩, ⟨pl, ph⟩⟩ := M
        dsimp only at hca
        go_upto_region 9 with fail
        apply absB3 (w0 := wr) (g0 := wa.heap.size) (g1 := wa.heap.size + 1) (g2 := wr.heap.size)
        iterate 4 (focus ((with_reducible (repeat' (first | assumption | apply jA | apply jB | apply jC | apply jD | apply jE | apply jF | apply hb3 | apply jG | apply jH | apply jI | apply jJ | apply jK | apply hb3x | (apply jL; first | (simp; done) | rfl) | apply jM | apply jN | apply jO | apply jP | apply jQ | apply jR | apply jS | apply jT (hb := hb3 _ (jA _)) | omega | (simp; done) | (simp; omega) | (dsimp only; omega)))); done))
        intro wf hb0' k5' k6' k7'
        (try simp only [List.setIfInBounds_toArray, List.set_cons_zero, List.set_cons_succ] at k5' k6' k7')
        try clear hb3
        try clear Lk5
        try clear Fk5
        try clear Qk5
        try clear Lk6
        try clear Fk6
        try clear Qk6
        try clear hb0
        try clear k5
        try clear k6
        try clear k7
        have hb0 := hb0'; clear hb0'
        have k5 := k5'; clear k5'
        have k6 := k6'; clear k6'
        have k7 := k7'; clear k7'
        have Lk5 := k5.later
        have Fk5 := k5.laterF
        have Qk5 := k5.lt
        have Lk6 := k6.later
        have Fk6 := k6.laterF
        have Qk6 := k6.lt
        have Lk7 := k7.later
        have Fk7 := k7.laterF
        have Qk7 := k7.lt
        go_upto_region 11 with (go_at_call 91; (with_reducible refine (hca.out _ (bl_tr hb0 (by (with_reducible (repeat' (first | assumption | apply jA | apply jB | apply jC | apply jD | apply jE | apply jF | apply hb3 | omega | (simp; done) | (simp; omega) | (dsimp only; omega))))))).mono ?_); rintro e w3 ⟨rfl, hb3⟩; replace hb3 := bl_tt hb3)
        apply absB5 (w0 := wr) (g0 := wa.heap.size) (g1 := wa.heap.size + 1) (g2 := wr.heap.size) (g3 := w3.heap.size) (g4 := w3.heap.size + 1)
        iterate 6 (focus ((with_reducible (repeat' (first | assumption | apply jA | apply jB | apply jC | apply jD | apply jE | apply jF | apply hb3 | apply jG | apply jH | apply jI | apply jJ | apply jK | apply hb3x | (apply jL; first | (simp; done) | rfl) | apply jM | apply jN | apply jO | apply jP | apply jQ | apply jR | apply jS | apply jT (hb := hb3 _ (jA _)) | omega | (simp; done) | (simp; omega) | (dsimp only; omega)))); done))
        intro wx hb0' k5' k6' k7' k8' k9'
        (try simp only [List.setIfInBounds_toArray, List.set_cons_zero, List.set_cons_succ] at k5' k6' k7' k8' k9')
        try clear hb3
        try clear Lk5
        try clear Fk5
        try clear Qk5
        try clear Lk6
        try clear Fk6
        try clear Qk6
        try clear Lk7
        try clear Fk7
        try clear Qk7
        try clear hb0
        try clear k5
        try clear k6
        try clear k7
        try clear k8
        try clear k9
        have hb0 := hb0'; clear hb0'
        have k5 := k5'; clear k5'
        have k6 := k6'; clear k6'
        have k7 := k7'; clear k7'
        have k8 := k8'; clear k8'
        have k9 := k9'; clear k9'
        have Lk5 := k5.later
        have Fk5 := k5.laterF
        have Qk5 := k5.lt
        have Lk6 := k6.later
        have Fk6 := k6.laterF
        have Qk6 := k6.lt
        have Lk7 := k7.later
        have Fk7 := k7.laterF
        have Qk7 := k7.lt
        have Lk8 := k8.later
        have Fk8 := k8.laterF
        have Qk8 := k8.lt
        have Lk9 := k9.later
        have Fk9 := k9.laterF
        have Qk9 := k9.lt
        have hown := Lib.hid (own_below hown.out hb0)
        have hbx := bl_tr hb hb0
        have hszx := hbx.size
        clear hca c0 c1 c2 c3
        obtain ⟨b1, q1⟩ : ∃ b, decide (pl ≤ ml) = b := ⟨_, rfl⟩
        obtain ⟨b2, q2⟩ : ∃ b, decide (mh ≤ ph) = b := ⟨_, rfl⟩
        obtain ⟨b3, q3⟩ : ∃ b, decide (mh < pl) = b := ⟨_, rfl⟩
        obtain ⟨b4, q4⟩ : ∃ b, decide (ph < ml) = b := ⟨_, rfl⟩
        cases b1
        · cases b3
          · cases b4
            · have hv : Hid (ans (⟨ml, mh⟩, ⟨pl, ph⟩) = 1) := by refine Lib.hid ?_; rw [ans_eq]; simp only [q1, q3, q4] <;> rfl
              go_wp2_with (at_builtin; refine wpList_append_own _ rfl _ _ 78 rfl wc.heap.size 3 i0 (.int .i64 0) 1 8 Tryz.underlying78 hi0 hz0 hz1 hz2 rfl (by decide) _ _ _ rfl (hown.out.alloc _) ⟨wx.heap.size, 0, none⟩ 1 1 [.int .i64 1] rfl rfl ?c1 ?c2 ?c3 ?c4 ?c5 ?_)
              try case c1 =>
                intro j u hj
                match j, hj with
                | 0, hj => simp at hj; subst hj; simp [Addr.add]
              try case c2 => intro u hu; simp at hu; subst hu; rfl
              try case c3 => unfold maxLen; omega
              try case c4 => omega
              try case c5 => simp; omega
              intro v' w1 hown2 hgrow _
              have hb1 : Below wc.heap.size wc w1 := (bl_al _ hbx).grown hgrow (by simp; omega) (own_ge hown.out)
              clear hgrow hown
              replace hown2 := Lib.hid hown2
              go_wp2
              go_roundw
              case rel => exact ⟨k + 1, by omega, by go_num, hb1, by rw [ansTo_succ, hfk.out, hv.out]; simpa [ansTo] using hown2.out⟩
              case measure => simp [intOf]; omega
            · have hv : Hid (ans (⟨ml, mh⟩, ⟨pl, ph⟩) = 0) := by refine Lib.hid ?_; rw [ans_eq]; simp only [q1, q3, q4] <;> rfl
              go_wp2_with (at_builtin; refine wpList_append_own _ rfl _ _ 78 rfl wc.heap.size 3 i0 (.int .i64 0) 1 8 Tryz.underlying78 hi0 hz0 hz1 hz2 rfl (by decide) _ _ _ rfl (hown.out.alloc _) ⟨wx.heap.size, 0, none⟩ 1 1 [.int .i64 0] rfl rfl ?c1 ?c2 ?c3 ?c4 ?c5 ?_)
              try case c1 =>
                intro j u hj
                match j, hj with
                | 0, hj => simp at hj; subst hj; simp [Addr.add]
              try case c2 => intro u hu; simp at hu; subst hu; rfl
              try case c3 => unfold maxLen; omega
              try case c4 => omega
              try case c5 => simp; omega
              intro v' w1 hown2 hgrow _
              have hb1 : Below wc.heap.size wc w1 := (bl_al _ hbx).grown hgrow (by simp; omega) (own_ge hown.out)
              clear hgrow hown
              replace hown2 := Lib.hid hown2
              go_wp2
              go_roundw
              case rel => exact ⟨k + 1, by omega, by go_num, hb1, by rw [ansTo_succ, hfk.out, hv.out]; simpa [ansTo] using hown2.out⟩
              case measure => simp [intOf]; omega
          · have hv : Hid (ans (⟨ml, mh⟩, ⟨pl, ph⟩) = 0) := by refine Lib.hid ?_; rw [ans_eq]; simp only [q1, q3] <;> rfl
            go_wp2_with (at_builtin; refine wpList_append_own _ rfl _ _ 78 rfl wc.heap.size 3 i0 (.int .i64 0) 1 8 Tryz.underlying78 hi0 hz0 hz1 hz2 rfl (by decide) _ _ _ rfl (hown.out.alloc _) ⟨wx.heap.size, 0, none⟩ 1 1 [.int .i64 0] rfl rfl ?c1 ?c2 ?c3 ?c4 ?c5 ?_)
            try case c1 =>
              intro j u hj
              match j, hj with
              | 0, hj => simp at hj; subst hj; simp [Addr.add]
            try case c2 => intro u hu; simp at hu; subst hu; rfl
            try case c3 => unfold maxLen; omega
            try case c4 => omega
            try case c5 => simp; omega
            intro v' w1 hown2 hgrow _
            have hb1 : Below wc.heap.size wc w1 := (bl_al _ hbx).grown hgrow (by simp; omega) (own_ge hown.out)
            clear hgrow hown
            replace hown2 := Lib.hid hown2
            go_wp2
            go_roundw
            case rel => exact ⟨k + 1, by omega, by go_num, hb1, by rw [ansTo_succ, hfk.out, hv.out]; simpa [ansTo] using hown2.out⟩
            case measure => simp [intOf]; omega
        · cases b2
          · cases b3
            · cases b4
              · have hv : Hid (ans (⟨ml, mh⟩, ⟨pl, ph⟩) = 1) := by refine Lib.hid ?_; rw [ans_eq]; simp only [q1, q2, q3, q4] <;> rfl
                go_wp2_with (at_builtin; refine wpList_append_own _ rfl _ _ 78 rfl wc.heap.size 3 i0 (.int .i64 0) 1 8 Tryz.underlying78 hi0 hz0 hz1 hz2 rfl (by decide) _ _ _ rfl (hown.out.alloc _) ⟨wx.heap.size, 0, none⟩ 1 1 [.int .i64 1] rfl rfl ?c1 ?c2 ?c3 ?c4 ?c5 ?_)
                try case c1 =>
                  intro j u hj
                  match j, hj with
                  | 0, hj => simp at hj; subst hj; simp [Addr.add]
                try case c2 => intro u hu; simp at hu; subst hu; rfl
                try case c3 => unfold maxLen; omega
                try case c4 => omega
                try case c5 => simp; omega
                intro v' w1 hown2 hgrow _
                have hb1 : Below wc.heap.size wc w1 := (bl_al _ hbx).grown hgrow (by simp; omega) (own_ge hown.out)
                clear hgrow hown
                replace hown2 := Lib.hid hown2
                go_wp2
                go_roundw
                case rel => exact ⟨k + 1, by omega, by go_num, hb1, by rw [ansTo_succ, hfk.out, hv.out]; simpa [ansTo] using hown2.out⟩
                case measure => simp [intOf]; omega
              · have hv : Hid (ans (⟨ml, mh⟩, ⟨pl, ph⟩) = 0) := by refine Lib.hid ?_; rw [ans_eq]; simp only [q1, q2, q3, q4] <;> rfl
                go_wp2_with (at_builtin; refine wpList_append_own _ rfl _ _ 78 rfl wc.heap.size 3 i0 (.int .i64 0) 1 8 Tryz.underlying78 hi0 hz0 hz1 hz2 rfl (by decide) _ _ _ rfl (hown.out.alloc _) ⟨wx.heap.size, 0, none⟩ 1 1 [.int .i64 0] rfl rfl ?c1 ?c2 ?c3 ?c4 ?c5 ?_)
                try case c1 =>
                  intro j u hj
                  match j, hj with
                  | 0, hj => simp at hj; subst hj; simp [Addr.add]
                try case c2 => intro u hu; simp at hu; subst hu; rfl
                try case c3 => unfold maxLen; omega
                try case c4 => omega
                try case c5 => simp; omega
                intro v' w1 hown2 hgrow _
                have hb1 : Below wc.heap.size wc w1 := (bl_al _ hbx).grown hgrow (by simp; omega) (own_ge hown.out)
                clear hgrow hown
                replace hown2 := Lib.hid hown2
                go_wp2
                go_roundw
                case rel => exact ⟨k + 1, by omega, by go_num, hb1, by rw [ansTo_succ, hfk.out, hv.out]; simpa [ansTo] using hown2.out⟩
                case measure => simp [intOf]; omega
            · have hv : Hid (ans (⟨ml, mh⟩, ⟨pl, ph⟩) = 0) := by refine Lib.hid ?_; rw [ans_eq]; simp only [q1, q2, q3] <;> rfl
              go_wp2_with (at_builtin; refine wpList_append_own _ rfl _ _ 78 rfl wc.heap.size 3 i0 (.int .i64 0) 1 8 Tryz.underlying78 hi0 hz0 hz1 hz2 rfl (by decide) _ _ _ rfl (hown.out.alloc _) ⟨wx.heap.size, 0, none⟩ 1 1 [.int .i64 0] rfl rfl ?c1 ?c2 ?c3 ?c4 ?c5 ?_)
              try case c1 =>
                intro j u hj
                match j, hj with
                | 0, hj => simp at hj; subst hj; simp [Addr.add]
              try case c2 => intro u hu; simp at hu; subst hu; rfl
              try case c3 => unfold maxLen; omega
              try case c4 => omega
              try case c5 => simp; omega
              intro v' w1 hown2 hgrow _
              have hb1 : Below wc.heap.size wc w1 := (bl_al _ hbx).grown hgrow (by simp; omega) (own_ge hown.out)
              clear hgrow hown
              replace hown2 := Lib.hid hown2
              go_wp2
              go_roundw
              case rel => exact ⟨k + 1, by omega, by go_num, hb1, by rw [ansTo_succ, hfk.out, hv.out]; simpa [ansTo] using hown2.out⟩
              case measure => simp [intOf]; omega
          · have hv : Hid (ans (⟨ml, mh⟩, ⟨pl, ph⟩) = 2) := by refine Lib.hid ?_; rw [ans_eq]; simp only [q1, q2] <;> rfl
            go_wp2_with (at_builtin; refine wpList_append_own _ rfl _ _ 78 rfl wc.heap.size 3 i0 (.int .i64 0) 1 8 Tryz.underlying78 hi0 hz0 hz1 hz2 rfl (by decide) _ _ _ rfl (hown.out.alloc _) ⟨wx.heap.size, 0, none⟩ 1 1 [.int .i64 2] rfl rfl ?c1 ?c2 ?c3 ?c4 ?c5 ?_)
            try case c1 =>
              intro j u hj
              match j, hj with
              | 0, hj => simp at hj; subst hj; simp [Addr.add]
            try case c2 => intro u hu; simp at hu; subst hu; rfl
            try case c3 => unfold maxLen; omega
            try case c4 => omega
            try case c5 => simp; omega
            intro v' w1 hown2 hgrow _
            have hb1 : Below wc.heap.size wc w1 := (bl_al _ hbx).grown hgrow (by simp; omega) (own_ge hown.out)
            clear hgrow hown
            replace hown2 := Lib.hid hown2
            go_wp2
            go_roundw
            case rel => exact ⟨k + 1, by omega, by go_num, hb1, by rw [ansTo_succ, hfk.out, hv.out]; simpa [ansTo] using hown2.out⟩
            case measure => simp [intOf]; omega
      · go_wp2
        go_ret2
        have : k = ll := by omega
        subst this
        rw [hs.out]
        rw [h0.out]
        exact RetE.of (bl_tr hb0 hb) (own_mono hb0.size (by rw [ansTo_len]; exact hown))
  · have h0' : (wrongE n b l != 0) = true := by simp [h0]
    have hs := Lib.hid (hs1.out h0)
    replace h0 := Lib.hid h0
    clear hs1 hs2 hms hco hcv hme
    go_wp2
    go_ret2
    rw [hs.out]
    exact ⟨none, 0, rfl, hb0, World.ownsRow_nil _ _ _ _⟩
end Go.Proofs.YtephimmamkafoaaGreat
namespace Go.Proofs.YtephimmamkafoaaGreat
open Go.RowKit Go.Shelf
attribute [local go_sem] bl_al bl_drew bl_drewN bl_refl bx_al bx_drew bx_drewN bx_refl index_b0 index_b1 index_b2
set_option maxRecDepth 20000
set_option maxHeartbeats 4000000 in
theorem c_back (wd a : Bx) (m : Mv) (s : Value) (w : World) (ha : a.in 10000) (hm : m.ok) :
    Calls Tryz.prog 66 #[vON wd s, vBx a, vMv m] w (Ret (.tuple #[vBx (back wd a m), .bool (back wd a m).ordered]) w) := by
  have hmn : Hid (Mv.ok ⟨m.ticks, ⟨⟨-m.speed.x.hi, -m.speed.x.lo⟩, ⟨-m.speed.y.hi, -m.speed.y.lo⟩, ⟨-m.speed.z.hi, -m.speed.z.lo⟩⟩⟩) := hm.neg
  have hain := Lib.hid ha
  obtain ⟨h1, h2, ⟨u1, u2, u3, u4⟩, ⟨v1, v2, v3, v4⟩, ⟨w1, w2, w3, w4⟩⟩ := hm
  clear ha
  go_enter Tryz.func66, Tryz.ntmps66
  go_wp2_with ((go_at_call 74; (with_reducible refine (c_of m.speed _).mono ?_); rintro e w3 ⟨rfl, hb3⟩; replace hb3 := bl_tt hb3))
  apply absB5 (w0 := w) (g0 := w.heap.size) (g1 := w.heap.size + 1) (g2 := w.heap.size + 2) (g3 := w.heap.size + 3) (g4 := w.heap.size + 4)
  iterate 6 (focus ((with_reducible (repeat' (first | assumption | apply jA | apply jB | apply jC | apply jD | apply jE | apply jF | apply hb3 | apply jG | apply jH | apply jI | apply jJ | apply jK | apply hb3x | (apply jL; first | (simp; done) | rfl) | apply jM | apply jN | apply jO | apply jP | apply jQ | apply jR | apply jS | apply jT (hb := hb3 _ (jA _)) | omega | (simp; done) | (simp; omega) | (dsimp only; omega)))); done))
  intro wa hb0' k0' k1' k2' k3' k4'
  (try simp only [List.setIfInBounds_toArray, List.set_cons_zero, List.set_cons_succ] at k0' k1' k2' k3' k4')
  try clear hb3
  try clear hb0
  try clear k0
  try clear k1
  try clear k2
  try clear k3
  try clear k4
  have hb0 := hb0'; clear hb0'
  have k0 := k0'; clear k0'
  have k1 := k1'; clear k1'
  have k2 := k2'; clear k2'
  have k3 := k3'; clear k3'
  have k4 := k4'; clear k4'
  have Lk0 := k0.later
  have Fk0 := k0.laterF
  have Qk0 := k0.lt
  have Lk1 := k1.later
  have Fk1 := k1.laterF
  have Qk1 := k1.lt
  have Lk2 := k2.later
  have Fk2 := k2.laterF
  have Qk2 := k2.lt
  have Lk3 := k3.later
  have Fk3 := k3.laterF
  have Qk3 := k3.lt
  have Lk4 := k4.later
  have Fk4 := k4.laterF
  have Qk4 := k4.lt
  refine wp_loop_rounds 4 ?_
  rw [rounds_succ]
  go_wp2
  apply absRB5 (w0 := w) (g0 := w.heap.size) (g1 := w.heap.size + 1) (g2 := w.heap.size + 2) (g3 := w.heap.size + 3) (g4 := w.heap.size + 4)
  iterate 6 (focus ((with_reducible (repeat' (first | assumption | apply jA | apply jB | apply jC | apply jD | apply jE | apply jF | apply hb3 | apply jG | apply jH | apply jI | apply jJ | apply jK | apply hb3x | (apply jL; first | (simp; done) | rfl) | apply jM | apply jN | apply jO | apply jP | apply jQ | apply jR | apply jS | apply jT (hb := hb3 _ (jA _)) | omega | (simp; done) | (simp; omega) | (dsimp only; omega)))); done))
  intro wa hb0' k0' k1' k2' k3' k4'
  (try simp only [List.setIfInBounds_toArray, List.set_cons_zero, List.set_cons_succ] at k0' k1' k2' k3' k4')
  try clear hb3
  try clear Lk0
  try clear Fk0
  try clear Qk0
  try clear Lk1
  try clear Fk1
  try clear Qk1
  try clear Lk2
  try clear Fk2
  try clear Qk2
  try clear Lk3
  try clear Fk3
  try clear Qk3
  try clear Lk4
  try clear Fk4
  try clear Qk4
  try clear hb0
  try clear k0
  try clear k1
  try clear k2
  try clear k3
  try clear k4
  have hb0 := hb0'; clear hb0'
  have k0 := k0'; clear k0'
  have k1 := k1'; clear k1'
  have k2 := k2'; clear k2'
  have k3 := k3'; clear k3'
  have k4 := k4'; clear k4'
  have Lk0 := k0.later
  have Fk0 := k0.laterF
  have Qk0 := k0.lt
  have Lk1 := k1.later
  have Fk1 := k1.laterF
  have Qk1 := k1.lt
  have Lk2 := k2.later
  have Fk2 := k2.laterF
  have Qk2 := k2.lt
  have Lk3 := k3.later
  have Fk3 := k3.laterF
  have Qk3 := k3.lt
  have Lk4 := k4.later
  have Fk4 := k4.laterF
  have Qk4 := k4.lt
  rw [rounds_succ]
  go_wp2
  apply absRB5 (w0 := w) (g0 := w.heap.size) (g1 := w.heap.size + 1) (g2 := w.heap.size + 2) (g3 := w.heap.size + 3) (g4 := w.heap.size + 4)
  iterate 6 (focus ((with_reducible (repeat' (first | assumption | apply jA | apply jB | apply jC | apply jD | apply jE | apply jF | apply hb3 | apply jG | apply jH | apply jI | apply jJ | apply jK | apply hb3x | (apply jL; first | (simp; done) | rfl) | apply jM | apply jN | apply jO | apply jP | apply jQ | apply jR | apply jS | apply jT (hb := hb3 _ (jA _)) | omega | (simp; done) | (simp; omega) | (dsimp only; omega)))); done))
  intro wa hb0' k0' k1' k2' k3' k4'
  (try simp only [List.setIfInBounds_toArray, List.set_cons_zero, List.set_cons_succ] at k0' k1' k2' k3' k4')
  try clear hb3
  try clear Lk0
  try clear Fk0
  try clear Qk0
  try clear Lk1
  try clear Fk1
  try clear Qk1
  try clear Lk2
  try clear Fk2
  try clear Qk2
  try clear Lk3
  try clear Fk3
  try clear Qk3
  try clear Lk4
  try clear Fk4
  try clear Qk4
  try clear hb0
  try clear k0
  try clear k1
  try clear k2
  try clear k3
  try clear k4
  have hb0 := hb0'; clear hb0'
  have k0 := k0'; clear k0'
  have k1 := k1'; clear k1'
  have k2 := k2'; clear k2'
  have k3 := k3'; clear k3'
  have k4 := k4'; clear k4'
  have Lk0 := k0.later
  have Fk0 := k0.laterF
  have Qk0 := k0.lt
  have Lk1 := k1.later
  have Fk1 := k1.laterF
  have Qk1 := k1.lt
  have Lk2 := k2.later
  have Fk2 := k2.laterF
  have Qk2 := k2.lt
  have Lk3 := k3.later
  have Fk3 := k3.laterF
  have Qk3 := k3.lt
  have Lk4 := k4.later
  have Fk4 := k4.laterF
  have Qk4 := k4.lt
  rw [rounds_succ]
  go_wp2
  apply absRB5 (w0 := w) (g0 := w.heap.size) (g1 := w.heap.size + 1) (g2 := w.heap.size + 2) (g3 := w.heap.size + 3) (g4 := w.heap.size + 4)
  iterate 6 (focus ((with_reducible (repeat' (first | assumption | apply jA | apply jB | apply jC | apply jD | apply jE | apply jF | apply hb3 | apply jG | apply jH | apply jI | apply jJ | apply jK | apply hb3x | (apply jL; first | (simp; done) | rfl) | apply jM | apply jN | apply jO | apply jP | apply jQ | apply jR | apply jS | apply jT (hb := hb3 _ (jA _)) | omega | (simp; done) | (simp; omega) | (dsimp only; omega)))); done))
  intro wb hb0' k0' k1' k2' k3' k4'
  (try simp only [List.setIfInBounds_toArray, List.set_cons_zero, List.set_cons_succ] at k0' k1' k2' k3' k4')
  try clear hb3
  try clear Lk0
  try clear Fk0
  try clear Qk0
  try clear Lk1
  try clear Fk1
  try clear Qk1
  try clear Lk2
  try clear Fk2
  try clear Qk2
  try clear Lk3
  try clear Fk3
  try clear Qk3
  try clear Lk4
  try clear Fk4
  try clear Qk4
  try clear hb0
  try clear k0
  try clear k1
  try clear k2
  try clear k3
  try clear k4
  have hb0 := hb0'; clear hb0'
  have k0 := k0'; clear k0'
  have k1 := k1'; clear k1'
  have k2 := k2'; clear k2'
  have k3 := k3'; clear k3'
  have k4 := k4'; clear k4'
  have Lk0 := k0.later
  have Fk0 := k0.laterF
  have Qk0 := k0.lt
  have Lk1 := k1.later
  have Fk1 := k1.laterF
  have Qk1 := k1.lt
  have Lk2 := k2.later
  have Fk2 := k2.laterF
  have Qk2 := k2.lt
  have Lk3 := k3.later
  have Fk3 := k3.laterF
  have Qk3 := k3.lt
  have Lk4 := k4.later
  have Fk4 := k4.laterF
  have Qk4 := k4.lt
  rw [rounds_succ]
  go_wp2
  refine wp_any (w0 := wb) ⟨[10, 11], [], [some 28, some 29, some 30, some 31, some 32, some 33, some 34, some 35, some 36, some 37, none, none], [[], [], [], [2], [], [4], [2, 3, 4, 5], [0, 1, 2, 3, 4, 5, 6], [0, 1, 2, 3, 4, 5, 6, 7], [0, 1, 2, 3, 4, 5, 6, 7], [0, 1, 2, 3, 4, 5, 6, 7, 8, 9], [0, 1, 2, 3, 4, 5, 6, 7, 8, 9, 10]], [[], [], [], [2], [], [4], [3, 5], [0, 1, 6], [7], [7], [], []]⟩ (fun _ => [w.heap.size + 3]) (by kernel_rfl) (by kernel_rfl) (by (with_reducible (repeat' (first | assumption | apply jA | apply jB | apply jC | apply jD | apply jE | apply jF | apply hb3 | omega | (simp; done) | (simp; omega) | (dsimp only; omega))))) (fun u => by simp only [putD, Act.put, List.setIfInBounds_toArray, List.set_cons_zero, List.set_cons_succ, Nat.zero_add, Nat.reduceAdd]; rfl) ?_
  apply RGW.on (i := 0) rfl
  · (simp only [gA, gB, gC] <;> rfl)
  · intro γ u W hcur hd
    clear hd
    (try dsimp only)
    refine ⟨rfl, ?_⟩
    go_simp <;> (try go_bits) <;> with_reducible rfl
  · exact fun _ _ _ => rfl
  · rfl
  dsimp only [nA, cA]
  apply RGW.on (i := 1) rfl
  · (simp only [gA, gB, gC] <;> rfl)
  · intro γ u W hcur hd
    clear hd
    (try dsimp only)
    refine ⟨rfl, ?_⟩
    go_simp <;> (try go_bits) <;> with_reducible rfl
  · exact fun _ _ _ => rfl
  · rfl
  dsimp only [nA, cA]
  apply RGW.on (i := 2) rfl
  · (simp only [gA, gB, gC] <;> rfl)
  · intro γ u W hcur hd
    clear hd
    (try dsimp only)
    refine ⟨rfl, ?_⟩
    go_simp <;> (try go_bits) <;> with_reducible rfl
  · exact fun _ _ _ => rfl
  · rfl
  dsimp only [nA, cA]
  apply RGW.on (i := 3) rfl
  · (simp only [gA, gB, gC] <;> rfl)
  · intro γ u W hcur hd
    obtain ⟨⟨h2, -, -⟩, -⟩ := hd
    dsimp only at h2
    (try simp only [h2])
    refine ⟨rfl, ?_⟩
    go_simp <;> (try go_bits) <;> with_reducible rfl
  · exact fun _ _ _ => rfl
  · rfl
  dsimp only [nA, cA]
  apply RGW.on (i := 4) rfl
  · (simp only [gA, gB, gC] <;> rfl)
  · intro γ u W hcur hd
    clear hd
    (try dsimp only)
    refine ⟨rfl, ?_⟩
    go_simp <;> (try go_bits) <;> with_reducible rfl
  · exact fun _ _ _ => rfl
  · rfl
  dsimp only [nA, cA]
  apply RGW.call (i := 5) rfl
  · (simp only [gA, gB, gC] <;> rfl)
  · intro γ u W hcur hd
    obtain ⟨⟨h4, -, -⟩, -⟩ := hd
    dsimp only at h4
    (try simp only [h4])
    refine ⟨rfl, fun K hK => ?_⟩
    go_simp
    (go_at_call 59; (with_reducible refine (c_box ⟨⟨-m.speed.x.hi, -m.speed.x.lo⟩, ⟨-m.speed.y.hi, -m.speed.y.lo⟩, ⟨-m.speed.z.hi, -m.speed.z.lo⟩⟩ _).mono ?_); rintro e w3 ⟨rfl, hb3⟩; replace hb3 := bl_tt hb3)
    (try dsimp only)
    exact hK.out _ _ rfl (by (with_reducible (repeat' (first | assumption | apply jA | apply jB | apply jC | apply jD | apply jE | apply jF | apply hb3 | omega | (simp; done) | (simp; omega) | (dsimp only; omega)))))
  · exact fun _ _ _ => rfl
  · rfl
  dsimp only [nA, cA]
  apply RGW.on (i := 6) rfl
  · (simp only [gA, gB, gC] <;> rfl)
  · intro γ u W hcur hd
    obtain ⟨⟨h3, -, -⟩, ⟨h5, -, -⟩, -⟩ := hd
    dsimp only at h3 h5
    (try simp only [h3, h5])
    refine ⟨rfl, ?_⟩
    go_simp <;> (try go_bits) <;> with_reducible rfl
  · exact fun _ _ _ => rfl
  · rfl
  dsimp only [nA, cA]
  apply RGW.call (i := 7) rfl
  · (simp only [gA, gB, gC] <;> rfl)
  · intro γ u W hcur hd
    obtain ⟨⟨h0, -, -⟩, ⟨h1, -, -⟩, ⟨h6, -, -⟩, -⟩ := hd
    dsimp only at h0 h1 h6
    (try simp only [h0, h1, h6])
    refine ⟨rfl, fun K hK => ?_⟩
    go_simp
    (go_at_call 83; (with_reducible refine (c_carried wd a ⟨m.ticks, ⟨⟨-m.speed.x.hi, -m.speed.x.lo⟩, ⟨-m.speed.y.hi, -m.speed.y.lo⟩, ⟨-m.speed.z.hi, -m.speed.z.lo⟩⟩⟩ s _ hain.out hmn.out).mono ?_); rintro e w3 ⟨rfl, hb3⟩; replace hb3 := bl_tt hb3)
    (try dsimp only)
    exact hK.out _ _ rfl (by (with_reducible (repeat' (first | assumption | apply jA | apply jB | apply jC | apply jD | apply jE | apply jF | apply hb3 | omega | (simp; done) | (simp; omega) | (dsimp only; omega)))))
  · exact fun _ _ _ => rfl
  · rfl
  dsimp only [nA, cA]
  apply RGW.on (i := 8) rfl
  · (simp only [gA, gB, gC] <;> rfl)
  · intro γ u W hcur hd
    obtain ⟨⟨h7, -, -⟩, -⟩ := hd
    dsimp only at h7
    (try simp only [h7])
    refine ⟨rfl, ?_⟩
    go_simp <;> (try go_bits) <;> with_reducible rfl
  · exact fun _ _ _ => rfl
  · rfl
  dsimp only [nA, cA]
  apply RGW.on (i := 9) rfl
  · (simp only [gA, gB, gC] <;> rfl)
  · intro γ u W hcur hd
    obtain ⟨⟨h7, -, -⟩, -⟩ := hd
    dsimp only at h7
    (try simp only [h7])
    refine ⟨rfl, ?_⟩
    go_simp <;> (try go_bits) <;> with_reducible rfl
  · exact fun _ _ _ => rfl
  · rfl
  dsimp only [nA, cA]
  refine RGW.skip (i := 10) rfl rfl ?_
  dsimp only [nA, cA]
  refine RGW.skip (i := 11) rfl rfl ?_
  dsimp only [nA, cA]
  refine RGW.fin (fun γ u wc hwc hd hdis => ?_)
  obtain ⟨⟨h0, -, -⟩, ⟨h1, -, -⟩, ⟨h2, -, -⟩, ⟨h3, -, -⟩, ⟨h4, -, -⟩, ⟨h5, -, -⟩, ⟨h6, -, -⟩, ⟨h7, -, -⟩, ⟨h8, -, -⟩, ⟨h9, -, -⟩, -⟩ := hd
  dsimp only at h0 h1 h2 h3 h4 h5 h6 h7 h8 h9
  clear hdis
  simp only [h0, h1, h2, h3, h4, h5, h6, h7, h8, h9]
  clear h9 h8 h7 h6 h5 h4 h3 h2 h1 h0
  clear u
  simp only [List.map_cons, List.map_nil]
  apply PlanW.step
  · (simp only [gA, gB, gC] <;> rfl)
  · rfl
  intro K hK
  refine wp_store_keep (X := [w.heap.size + 3]) (w0 := wc) rfl rfl rfl (by with_reducible first | exact bx_refl _ _ | assumption) (by with_reducible first | assumption | (apply Blk.below (hb := hwc); assumption)) (by simp) (by kernel_rfl) (by rfl) (by simp [Value.oneCell']) (fun hres1 hcur => ?_)
  refine hK.out _ _ hcur (fun _ => ?_)
  clear hK K
  try simp only [Act.put, List.setIfInBounds_toArray, List.set_cons_zero, List.set_cons_succ]
  apply PlanW.step
  · (simp only [gA, gB, gC] <;> rfl)
  · rfl
  intro K hK
  go_simp
  refine hK.out _ _ (by (with_reducible (repeat' (first | assumption | apply jG | apply jH | apply jI | apply jJ | apply jK | apply hb3x | omega | (simp; done) | (simp; omega) | (dsimp only; omega))))) (fun hcur => ?_)
  clear hK K
  try simp only [Act.put, List.setIfInBounds_toArray, List.set_cons_zero, List.set_cons_succ]
  refine PlanW.done ?_
  have hb3 := bl_tt hwc
  have hr := hres1.cell
  have hb1 := bl_tt hwc w hb0
  go_wp2
  refine bodyPost_ret (v := .tuple #[vBx (back wd a m), .bool (back wd a m).ordered]) (by simp [results, Tryz.results66, go_sem, hr]; repeat' (first | rfl | apply And.intro)) rfl ⟨rfl, ?_⟩
  exact hcur.below (by simp) hb1
end Go.Proofs.YtephimmamkafoaaGreat
namespace Go.Proofs.YtephimmamkafoaaGreat
open Go.RowKit Go.Shelf
attribute [local go_sem] bl_al bl_drew bl_drewN bl_refl bx_al bx_drew bx_drewN bx_refl
set_option maxRecDepth 20000
def movedE (n : Nt) (b : Bx) (m : Mv) : Int := fstE [boxErr n b, mvErr m]
def movedS (n : Nt) (b : Bx) (m : Mv) (g : Bx) : Bx × Int := if movedE n b m = 0 then (if g.ordered then (g, 0) else (bx0, 12)) else (bx0, movedE n b m)
set_option maxHeartbeats 4000000 in
theorem c_moved (f : FuncId) (n : Nt) (b g : Bx) (m : Mv) (A : Option Addr) (c : Nat) (w : World) (hn : NtIn n A c w) (he : Enters Tryz.prog f)
    (hf : movedE n b m = 0 → ∀ s W, Calls Tryz.prog f #[vON n.world s, vBx b, vMv m] W (Ret (.tuple #[vBx g, .bool g.ordered]) W)) :
    Calls Tryz.prog 82 #[vNt n.world (.slice A n.bs.length c), vBx b, vMv m, .func (.func f) #[] #[]] w (Ret (.tuple #[vBx (movedS n b m g).1, .int .i64 (movedS n b m g).2]) w) := by
  have he' : ∀ args w, (callFunc f args).run Tryz.prog w = .ok (.enter f args) w := he
  clear he
  have hco := Lib.hid fun (W : World) (hb : Below w.heap.size w W) => c_openBox n b A c W (hn.below hb)
  have hfe := Lib.hid hf
  have hme : Hid (movedE n b m = fstE [boxErr n b, mvErr m]) := rfl
  have hs1 : Hid (movedE n b m = 0 → g.ordered = true → movedS n b m g = (g, 0)) := fun h h' => by simp [movedS, h, h']
  have hs2 : Hid (movedE n b m = 0 → g.ordered = false → movedS n b m g = (bx0, 12)) := fun h h' => by simp [movedS, h, h']
  have hs3 : Hid (movedE n b m ≠ 0 → movedS n b m g = (bx0, movedE n b m)) := fun h => by simp [movedS, h]
  clear hn hf
  generalize n.bs.length = nl at *
  go_enter Tryz.func82, Tryz.ntmps82
  go_wp2_with fail
  refine Calls.mono (hco.out _ ?_) ?_
  · solve_by_elim (maxDepth := 60) only [bl_al, bl_drew, bl_drewN, bl_refl, *]
  rintro e w3 ⟨rfl, hb3⟩
  replace hb3 := bl_tt hb3
  apply absX4 (w0 := w) (w := w3) (g0 := w.heap.size) (g1 := w.heap.size + 1) (g2 := w.heap.size + 2) (g3 := w.heap.size + 3)
  iterate 5 (focus ((with_reducible (repeat' (first | assumption | apply jA | apply jB | apply jC | apply jD | apply jE | apply jF | apply hb3 | apply jG | apply jH | apply jI | apply jJ | apply jK | apply hb3x | (apply jL; first | (simp; done) | rfl) | apply jM | apply jN | apply jO | apply jP | apply jQ | apply jR | apply jS | apply jT (hb := hb3 _ (jA _)) | omega | (simp; done) | (simp; omega) | (dsimp only; omega)))); done))
  intro wa hb0' k0' k1' k2' k3'
  (try simp only [List.setIfInBounds_toArray, List.set_cons_zero, List.set_cons_succ] at k0' k1' k2' k3')
  try clear hb3
  try clear hb0
  try clear k0
  try clear k1
  try clear k2
  try clear k3
  have hb0 := hb0'; clear hb0'
  have k0 := k0'; clear k0'
  have k1 := k1'; clear k1'
  have k2 := k2'; clear k2'
  have k3 := k3'; clear k3'
  have Lk0 := k0.later
  have Fk0 := k0.laterF
  have Qk0 := k0.lt
  have Lk1 := k1.later
  have Fk1 := k1.laterF
  have Qk1 := k1.lt
  have Lk2 := k2.later
  have Fk2 := k2.laterF
  have Qk2 := k2.lt
  have Lk3 := k3.later
  have Fk3 := k3.laterF
  have Qk3 := k3.lt
  have hwa : w.heap.size + 4 ≤ wa.heap.size := by have := k3.lt; omega
  go_upto_region 2 with fail
  apply absB6 (w0 := w) (g0 := w.heap.size) (g1 := w.heap.size + 1) (g2 := w.heap.size + 2) (g3 := w.heap.size + 3) (g4 := wa.heap.size) (g5 := wa.heap.size + 1)
  iterate 7 (focus ((with_reducible (repeat' (first | assumption | apply jA | apply jB | apply jC | apply jD | apply jE | apply jF | apply hb3 | apply jG | apply jH | apply jI | apply jJ | apply jK | apply hb3x | (apply jL; first | (simp; done) | rfl) | apply jM | apply jN | apply jO | apply jP | apply jQ | apply jR | apply jS | apply jT (hb := hb3 _ (jA _)) | omega | (simp; done) | (simp; omega) | (dsimp only; omega)))); done))
  intro wb hb0' k0' k1' k2' k3' k4' k5'
  (try simp only [List.setIfInBounds_toArray, List.set_cons_zero, List.set_cons_succ] at k0' k1' k2' k3' k4' k5')
  try clear hb3
  try clear Lk0
  try clear Fk0
  try clear Qk0
  try clear Lk1
  try clear Fk1
  try clear Qk1
  try clear Lk2
  try clear Fk2
  try clear Qk2
  try clear Lk3
  try clear Fk3
  try clear Qk3
  try clear hb0
  try clear k0
  try clear k1
  try clear k2
  try clear k3
  try clear k4
  try clear k5
  have hb0 := hb0'; clear hb0'
  have k0 := k0'; clear k0'
  have k1 := k1'; clear k1'
  have k2 := k2'; clear k2'
  have k3 := k3'; clear k3'
  have k4 := k4'; clear k4'
  have k5 := k5'; clear k5'
  have Lk0 := k0.later
  have Fk0 := k0.laterF
  have Qk0 := k0.lt
  have Lk1 := k1.later
  have Fk1 := k1.laterF
  have Qk1 := k1.lt
  have Lk2 := k2.later
  have Fk2 := k2.laterF
  have Qk2 := k2.lt
  have Lk3 := k3.later
  have Fk3 := k3.laterF
  have Qk3 := k3.lt
  have Lk4 := k4.later
  have Fk4 := k4.laterF
  have Qk4 := k4.lt
  have Lk5 := k5.later
  have Fk5 := k5.laterF
  have Qk5 := k5.lt
  go_upto_region 3 with (first | (go_at_call 52; (with_reducible refine (c_moveErr m _).mono ?_); rintro e w3 ⟨rfl, hb3⟩; replace hb3 := bl_tt hb3) | (go_at_call 48; (with_reducible refine (c_first2 (Blk.new _ _ _)).mono ?_); rintro e w3 ⟨rfl, rfl⟩))
  apply absB6 (w0 := w) (g0 := w.heap.size) (g1 := w.heap.size + 1) (g2 := w.heap.size + 2) (g3 := w.heap.size + 3) (g4 := wa.heap.size) (g5 := wa.heap.size + 1)
  iterate 7 (focus ((with_reducible (repeat' (first | assumption | apply jA | apply jB | apply jC | apply jD | apply jE | apply jF | apply hb3 | apply jG | apply jH | apply jI | apply jJ | apply jK | apply hb3x | (apply jL; first | (simp; done) | rfl) | apply jM | apply jN | apply jO | apply jP | apply jQ | apply jR | apply jS | apply jT (hb := hb3 _ (jA _)) | omega | (simp; done) | (simp; omega) | (dsimp only; omega)))); done))
  intro wc hb0' k0' k1' k2' k3' k4' k5'
  (try simp only [List.setIfInBounds_toArray, List.set_cons_zero, List.set_cons_succ] at k0' k1' k2' k3' k4' k5')
  try clear hb3
  try clear Lk0
  try clear Fk0
  try clear Qk0
  try clear Lk1
  try clear Fk1
  try clear Qk1
  try clear Lk2
  try clear Fk2
  try clear Qk2
  try clear Lk3
  try clear Fk3
  try clear Qk3
  try clear Lk4
  try clear Fk4
  try clear Qk4
  try clear Lk5
  try clear Fk5
  try clear Qk5
  try clear hb0
  try clear k0
  try clear k1
  try clear k2
  try clear k3
  try clear k4
  try clear k5
  have hb0 := hb0'; clear hb0'
  have k0 := k0'; clear k0'
  have k1 := k1'; clear k1'
  have k2 := k2'; clear k2'
  have k3 := k3'; clear k3'
  have k4 := k4'; clear k4'
  have k5 := k5'; clear k5'
  have Lk0 := k0.later
  have Fk0 := k0.laterF
  have Qk0 := k0.lt
  have Lk1 := k1.later
  have Fk1 := k1.laterF
  have Qk1 := k1.lt
  have Lk2 := k2.later
  have Fk2 := k2.laterF
  have Qk2 := k2.lt
  have Lk3 := k3.later
  have Fk3 := k3.laterF
  have Qk3 := k3.lt
  have Lk4 := k4.later
  have Fk4 := k4.laterF
  have Qk4 := k4.lt
  have Lk5 := k5.later
  have Fk5 := k5.laterF
  have Qk5 := k5.lt
  rw [← hme.out]
  by_cases h0 : movedE n b m = 0
  · have h0' : (movedE n b m != 0) = false := by simp [h0]
    replace h0 := Lib.hid h0
    cases hg : g.ordered
    all_goals
      have hcall := hfe.out h0.out
      rw [hg] at hcall
      replace hcall := Lib.hid hcall
      go_wp2_with fail
      refine Calls.mono (hcall.out _ _) ?_
      rintro e w3 ⟨rfl, hb3⟩
      replace hb3 := bl_tt hb3
      apply absX6 (w0 := w) (w := w3) (g0 := w.heap.size) (g1 := w.heap.size + 1) (g2 := w.heap.size + 2) (g3 := w.heap.size + 3) (g4 := wa.heap.size) (g5 := wa.heap.size + 1)
      iterate 7 (focus ((with_reducible (repeat' (first | assumption | apply jA | apply jB | apply jC | apply jD | apply jE | apply jF | apply hb3 | apply jG | apply jH | apply jI | apply jJ | apply jK | apply hb3x | (apply jL; first | (simp; done) | rfl) | apply jM | apply jN | apply jO | apply jP | apply jQ | apply jR | apply jS | apply jT (hb := hb3 _ (jA _)) | omega | (simp; done) | (simp; omega) | (dsimp only; omega)))); done))
      intro wd hb0' k0' k1' k2' k3' k4' k5'
      (try simp only [List.setIfInBounds_toArray, List.set_cons_zero, List.set_cons_succ] at k0' k1' k2' k3' k4' k5')
      try clear hb3
      try clear Lk0
      try clear Fk0
      try clear Qk0
      try clear Lk1
      try clear Fk1
      try clear Qk1
      try clear Lk2
      try clear Fk2
      try clear Qk2
      try clear Lk3
      try clear Fk3
      try clear Qk3
      try clear Lk4
      try clear Fk4
      try clear Qk4
      try clear Lk5
      try clear Fk5
      try clear Qk5
      try clear hb0
      try clear k0
      try clear k1
      try clear k2
      try clear k3
      try clear k4
      try clear k5
      have hb0 := hb0'; clear hb0'
      have k0 := k0'; clear k0'
      have k1 := k1'; clear k1'
      have k2 := k2'; clear k2'
      have k3 := k3'; clear k3'
      have k4 := k4'; clear k4'
      have k5 := k5'; clear k5'
      have Lk0 := k0.later
      have Fk0 := k0.laterF
      have Qk0 := k0.lt
      have Lk1 := k1.later
      have Fk1 := k1.laterF
      have Qk1 := k1.lt
      have Lk2 := k2.later
      have Fk2 := k2.laterF
      have Qk2 := k2.lt
      have Lk3 := k3.later
      have Fk3 := k3.laterF
      have Qk3 := k3.lt
      have Lk4 := k4.later
      have Fk4 := k4.laterF
      have Qk4 := k4.lt
      have Lk5 := k5.later
      have Fk5 := k5.laterF
      have Qk5 := k5.lt
      go_upto_region 6 with fail
      apply absB6 (w0 := w) (g0 := w.heap.size) (g1 := w.heap.size + 1) (g2 := w.heap.size + 2) (g3 := w.heap.size + 3) (g4 := wa.heap.size) (g5 := wa.heap.size + 1)
      iterate 7 (focus ((with_reducible (repeat' (first | assumption | apply jA | apply jB | apply jC | apply jD | apply jE | apply jF | apply hb3 | apply jG | apply jH | apply jI | apply jJ | apply jK | apply hb3x | (apply jL; first | (simp; done) | rfl) | apply jM | apply jN | apply jO | apply jP | apply jQ | apply jR | apply jS | apply jT (hb := hb3 _ (jA _)) | omega | (simp; done) | (simp; omega) | (dsimp only; omega)))); done))
      intro we hb0' k0' k1' k2' k3' k4' k5'
      (try simp only [List.setIfInBounds_toArray, List.set_cons_zero, List.set_cons_succ] at k0' k1' k2' k3' k4' k5')
      try clear hb3
      try clear Lk0
      try clear Fk0
      try clear Qk0
      try clear Lk1
      try clear Fk1
      try clear Qk1
      try clear Lk2
      try clear Fk2
      try clear Qk2
      try clear Lk3
      try clear Fk3
      try clear Qk3
      try clear Lk4
      try clear Fk4
      try clear Qk4
      try clear Lk5
      try clear Fk5
      try clear Qk5
      try clear hb0
      try clear k0
      try clear k1
      try clear k2
      try clear k3
      try clear k4
      try clear k5
      have hb0 := hb0'; clear hb0'
      have k0 := k0'; clear k0'
      have k1 := k1'; clear k1'
      have k2 := k2'; clear k2'
      have k3 := k3'; clear k3'
      have k4 := k4'; clear k4'
      have k5 := k5'; clear k5'
      have Lk0 := k0.later
      have Fk0 := k0.laterF
      have Qk0 := k0.lt
      have Lk1 := k1.later
      have Fk1 := k1.laterF
      have Qk1 := k1.lt
      have Lk2 := k2.later
      have Fk2 := k2.laterF
      have Qk2 := k2.lt
      have Lk3 := k3.later
      have Fk3 := k3.laterF
      have Qk3 := k3.lt
      have Lk4 := k4.later
      have Fk4 := k4.laterF
      have Qk4 := k4.lt
      have Lk5 := k5.later
      have Fk5 := k5.laterF
      have Qk5 := k5.lt
      go_wp2_with ((go_at_call 59; (with_reducible refine (c_box g _).mono ?_); rintro e w3 ⟨rfl, hb3⟩; replace hb3 := bl_tt hb3))
      apply absPB6 (w0 := w) (g0 := w.heap.size) (g1 := w.heap.size + 1) (g2 := w.heap.size + 2) (g3 := w.heap.size + 3) (g4 := wa.heap.size) (g5 := wa.heap.size + 1)
      iterate 7 (focus ((with_reducible (repeat' (first | assumption | apply jA | apply jB | apply jC | apply jD | apply jE | apply jF | apply hb3 | apply jG | apply jH | apply jI | apply jJ | apply jK | apply hb3x | (apply jL; first | (simp; done) | rfl) | apply jM | apply jN | apply jO | apply jP | apply jQ | apply jR | apply jS | apply jT (hb := hb3 _ (jA _)) | omega | (simp; done) | (simp; omega) | (dsimp only; omega)))); done))
      intro wf hb0' k0' k1' k2' k3' k4' k5'
      (try simp only [List.setIfInBounds_toArray, List.set_cons_zero, List.set_cons_succ] at k0' k1' k2' k3' k4' k5')
      try clear hb3
      try clear Lk0
      try clear Fk0
      try clear Qk0
      try clear Lk1
      try clear Fk1
      try clear Qk1
      try clear Lk2
      try clear Fk2
      try clear Qk2
      try clear Lk3
      try clear Fk3
      try clear Qk3
      try clear Lk4
      try clear Fk4
      try clear Qk4
      try clear Lk5
      try clear Fk5
      try clear Qk5
      try clear hb0
      try clear k0
      try clear k1
      try clear k2
      try clear k3
      try clear k4
      try clear k5
      have hb0 := hb0'; clear hb0'
      have k0 := k0'; clear k0'
      have k1 := k1'; clear k1'
      have k2 := k2'; clear k2'
      have k3 := k3'; clear k3'
      have k4 := k4'; clear k4'
      have k5 := k5'; clear k5'
      have hr := k3.cell
      first
      | refine bodyPost_ret (v := .tuple #[vBx (movedS n b m g).1, .int .i64 (movedS n b m g).2]) (by rw [hs2.out h0.out hg]; simp [results, Tryz.results82, go_sem, hr, bx0]; done) rfl ⟨rfl, hb0⟩
      | refine bodyPost_ret (v := .tuple #[vBx (movedS n b m g).1, .int .i64 (movedS n b m g).2]) (by rw [hs1.out h0.out hg]; simp [results, Tryz.results82, go_sem, hr]; done) rfl ⟨rfl, hb0⟩
  · have h0' : (movedE n b m != 0) = true := by simp [h0]
    replace h0 := Lib.hid h0
    go_wp2
    apply absPB6 (w0 := w) (g0 := w.heap.size) (g1 := w.heap.size + 1) (g2 := w.heap.size + 2) (g3 := w.heap.size + 3) (g4 := wa.heap.size) (g5 := wa.heap.size + 1)
    iterate 7 (focus ((with_reducible (repeat' (first | assumption | apply jA | apply jB | apply jC | apply jD | apply jE | apply jF | apply hb3 | apply jG | apply jH | apply jI | apply jJ | apply jK | apply hb3x | (apply jL; first | (simp; done) | rfl) | apply jM | apply jN | apply jO | apply jP | apply jQ | apply jR | apply jS | apply jT (hb := hb3 _ (jA _)) | omega | (simp; done) | (simp; omega) | (dsimp only; omega)))); done))
    intro wf hb0' k0' k1' k2' k3' k4' k5'
    (try simp only [List.setIfInBounds_toArray, List.set_cons_zero, List.set_cons_succ] at k0' k1' k2' k3' k4' k5')
    try clear hb3
    try clear hb0
    try clear k0
    try clear k1
    try clear k2
    try clear k3
    try clear k4
    try clear k5
    have hb0 := hb0'; clear hb0'
    have k0 := k0'; clear k0'
    have k1 := k1'; clear k1'
    have k2 := k2'; clear k2'
    have k3 := k3'; clear k3'
    have k4 := k4'; clear k4'
    have k5 := k5'; clear k5'
    have hr := k3.cell
    refine bodyPost_ret (v := .tuple #[vBx (movedS n b m g).1, .int .i64 (movedS n b m g).2]) (by rw [hs3.out h0.out]; simp [results, Tryz.results82, go_sem, hr, bx0]) rfl ⟨rfl, hb0⟩
theorem c_Carried (n : Nt) (b : Bx) (m : Mv) (A : Option Addr) (c : Nat) (w : World) (hn : NtIn n A c w) :
    Calls Tryz.prog 32 #[vNt n.world (.slice A n.bs.length c), vBx b, vMv m] w (Ret (.tuple #[vBx (movedS n b m (carried n.world b m)).1, .int .i64 (movedS n b m (carried n.world b m)).2]) w) := by
  have hcm := Lib.hid fun (W : World) (hb : Below w.heap.size w W) => c_moved 83 n b (carried n.world b m) m A c W (hn.below hb) (enters_of Tryz.func83 (by kernel_rfl) rfl) (fun h s W => by
    obtain ⟨h1, h2⟩ := fst_cons.1 h
    rw [fst_one] at h2
    exact c_carried n.world b m s W (box_ok h1).in (mv_ok h2))
  clear hn
  generalize n.bs.length = nl at *
  go_enter Tryz.func32, Tryz.ntmps32
  go_wp2_with fail
  refine Calls.mono (hcm.out _ ?_) ?_
  · solve_by_elim (maxDepth := 60) only [bl_al, bl_drew, bl_drewN, bl_refl, *]
  rintro e w3 ⟨rfl, hb3⟩
  replace hb3 := bl_tt hb3
  apply absX1 (w0 := w) (w := w3) (g0 := w.heap.size + 3)
  iterate 2 (focus ((with_reducible (repeat' (first | assumption | apply jA | apply jB | apply jC | apply jD | apply jE | apply jF | apply hb3 | apply jG | apply jH | apply jI | apply jJ | apply jK | apply hb3x | (apply jL; first | (simp; done) | rfl) | apply jM | apply jN | apply jO | apply jP | apply jQ | apply jR | apply jS | apply jT (hb := hb3 _ (jA _)) | omega | (simp; done) | (simp; omega) | (dsimp only; omega)))); done))
  intro wa hb0' k3'
  (try simp only [List.setIfInBounds_toArray, List.set_cons_zero, List.set_cons_succ] at k3')
  try clear hb3
  try clear hb0
  try clear k3
  have hb0 := hb0'; clear hb0'
  have k3 := k3'; clear k3'
  have Lk3 := k3.later
  have Fk3 := k3.laterF
  have Qk3 := k3.lt
  go_wp2
  apply absPB1 (w0 := w) (g0 := w.heap.size + 3)
  iterate 2 (focus ((with_reducible (repeat' (first | assumption | apply jA | apply jB | apply jC | apply jD | apply jE | apply jF | apply hb3 | apply jG | apply jH | apply jI | apply jJ | apply jK | apply hb3x | (apply jL; first | (simp; done) | rfl) | apply jM | apply jN | apply jO | apply jP | apply jQ | apply jR | apply jS | apply jT (hb := hb3 _ (jA _)) | omega | (simp; done) | (simp; omega) | (dsimp only; omega)))); done))
  intro wf hb0' k3'
  (try simp only [List.setIfInBounds_toArray, List.set_cons_zero, List.set_cons_succ] at k3')
  try clear hb3
  try clear Lk3
  try clear Fk3
  try clear Qk3
  try clear hb0
  try clear k3
  have hb0 := hb0'; clear hb0'
  have k3 := k3'; clear k3'
  have hr := k3.cell
  refine bodyPost_ret (v := .tuple #[vBx (movedS n b m (carried n.world b m)).1, .int .i64 (movedS n b m (carried n.world b m)).2]) (by simp [results, Tryz.results32, go_sem, hr]) rfl ⟨rfl, hb0⟩
end Go.Proofs.YtephimmamkafoaaGreat
