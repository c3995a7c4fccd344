/-
  Walk: the answers of readings for a box.
  Walk: a box carried back.
  Walks: a box carried, from the library's outside: the checks, then the move.
  Walks: the depth for ranges of pressure and density.
  The document's examples: what the specification answers at them.
-/
import Derived.Test.YtephimmamkafoaaGreatU11
import Derived.Test.YtephimmamkafoaaGreatU5
import Derived.Test.YtephimmamkafoaaGreatU3
import Derived.Test.YtephimmamkafoaaGreatU6
import Derived.Test.YtephimmamkafoaaGreatU4
set_option linter.unusedSimpArgs false
set_option linter.unusedVariables false
namespace Go.Proofs.YtephimmamkafoaaGreat
open Go.RowKit Go.Shelf
attribute [local go_sem] bl_al bl_drew bl_drewN bl_refl bx_al bx_drew bx_drewN bx_refl
set_option maxRecDepth 20000
/-- The answer of what is measured and what is permitted: no, maybe, yes. -/
def ans (m : Rg × Rg) : Int := if m.2.lo ≤ m.1.lo ∧ m.1.hi ≤ m.2.hi then 2 else if m.1.hi < m.2.lo ∨ m.2.hi < m.1.lo then 0 else 1
theorem ans_eq (ml mh pl ph : Int) : ans (⟨ml, mh⟩, ⟨pl, ph⟩) = if decide (pl ≤ ml) && decide (mh ≤ ph) then 2 else if decide (mh < pl) || decide (ph < ml) then 0 else 1 := by simp [ans]
def ansTo (f : Nat → Int) (k : Nat) : List Int := (List.range k).map f
theorem ansTo_succ (f : Nat → Int) (k : Nat) : ansTo f (k + 1) = ansTo f k ++ [f k] := by simp [ansTo, List.range_succ]
theorem ansTo_len (f : Nat → Int) (k : Nat) : (ansTo f k).length = k := by simp [ansTo]
def ansAt (bs : List Bc) (a : Bx) (l : List Rd) (k : Nat) : Int := ((l[k]?).map fun r => ans (measS bs a r)).getD 0
def ansS (n : Nt) (b : Bx) (l : List Rd) : List Int := if wrongE n b l = 0 then ansTo (ansAt n.bs b l) l.length else []
/-- A slice of the call's own, and an error. -/
def RetE (L : List Int) (x : Int) (w : World) (e : Ending) (w' : World) : Prop :=
  ∃ A c, e = .returned (.tuple #[.slice A L.length c, .int .i64 x]) ∧ Below w.heap.size w w' ∧ w'.ownsRow w.heap.size 3 1 (.slice A L.length c) L.length (L.map (.int .i64))
theorem RetE.of {L : List Int} {w w' : World} {v : Value} {x : Int} (hb : Below w.heap.size w w') (h : w'.ownsRow w.heap.size 3 1 v L.length (L.map (.int .i64))) : RetE L x w (.returned (.tuple #[v, .int .i64 x])) w' := by
  obtain ⟨A, c, e, h1, h2⟩ := RetI.of hb h
  injection e with e
  exact ⟨A, c, by rw [e], h1, h2⟩
set_option maxHeartbeats 8000000 in
theorem c_AnswersOf (n : Nt) (b : Bx) (l : List Rd) (A A' : Option Addr) (c c' : Nat) (w : World) (hn : NtIn n A c w) (hl : Sl cRd 4 w A' l) (hll : l.length ≤ 1000) (hlb : n.bs.length ≤ 1000) :
    Calls Tryz.prog 41 #[vNt n.world (.slice A n.bs.length c), vBx b, .slice A' l.length c'] w (RetE (ansS n b l) (wrongE n b l) w) := by
  obtain ⟨i0, hi0, hz0, hz1, hz2⟩ := info_parts info3
  have hco := Lib.hid fun (W : World) (hb : Below w.heap.size w W) => c_openBox n b A c W (hn.below hb)
  have hcv := Lib.hid fun (W : World) (hb : Below w.heap.size w W) => c_readingsErr n l A A' c c' W (hn.below hb) (hl.below hb) hll hlb
  have hms := Lib.hid fun (h : wrongE n b l = 0) (W : World) (hb : Below w.heap.size w W) (r : Rd) (hm : r ∈ l) => c_measured n.world b n.bs A c r W (hn.sl.below hb) hlb (wrong_ok h).1.in ((wrong_ok h).2.2 r hm)
  have hme : Hid (wrongE n b l = fstE [boxErr n b, readsErr n l]) := rfl
  have hs1 : Hid (wrongE n b l ≠ 0 → ansS n b l = []) := fun h => by rw [ansS, if_neg h]
  have hs2 : Hid (wrongE n b l = 0 → ansS n b l = ansTo (ansAt n.bs b l) l.length) := fun h => by rw [ansS, if_pos h]
  have hfk : Hid (∀ k x, l[k]? = some x → ansAt n.bs b l k = ans (measS n.bs b x)) := fun k x h => by simp [ansAt, h]
  have Hl := Lib.hid hl
  clear hn hl
  generalize n.bs.length = nl at *
  obtain ⟨ll, Hn⟩ : ∃ k, Hid (l.length = k) := ⟨_, rfl⟩
  rw [Hn.out] at hll hcv hs2 ⊢
  go_enter Tryz.func41, Tryz.ntmps41
  go_wp2_with fail
  refine Calls.mono (hco.out _ ?_) ?_
  · solve_by_elim (maxDepth := 60) only [bl_al, bl_drew, bl_drewN, bl_refl, *]
  rintro e w3 ⟨rfl, hb3⟩
  replace hb3 := bl_tt hb3
  apply absX1 (w0 := w) (w := w3) (g0 := w.heap.size)
  iterate 2 (focus exact zL)
  try clear hb3
  try clear hb0
  try clear k0
  intro wa hb0 k0
  (try simp only [List.setIfInBounds_toArray, List.set_cons_zero, List.set_cons_succ] at k0)
  have Lk0 := k0.later
  have Fk0 := k0.laterF
  have Qk0 := k0.lt
  go_upto_region 2 with fail
  apply absB3 (w0 := w) (g0 := w.heap.size) (g1 := wa.heap.size) (g2 := wa.heap.size + 1)
  iterate 4 (focus exact zL)
  try clear hb3
  try clear Lk0
  try clear Fk0
  try clear Qk0
  try clear hb0
  try clear k0
  try clear k5
  try clear k6
  intro wb hb0 k0 k5 k6
  (try simp only [List.setIfInBounds_toArray, List.set_cons_zero, List.set_cons_succ] at k0 k5 k6)
  have Lk0 := k0.later
  have Fk0 := k0.laterF
  have Qk0 := k0.lt
  have Lk5 := k5.later
  have Fk5 := k5.laterF
  have Qk5 := k5.lt
  have Lk6 := k6.later
  have Fk6 := k6.laterF
  have Qk6 := k6.lt
  go_upto_region 3 with (first | (go_at_call 85; (with_reducible refine (hcv.out _ (bl_tr hb0 (by (exact zE)))).mono ?_); rintro e w3 ⟨rfl, hb3⟩; replace hb3 := bl_tt hb3) | (go_at_call 48; (with_reducible refine (c_first2 (by (exact zK))).mono ?_); rintro e w3 ⟨rfl, rfl⟩))
  apply absB3 (w0 := w) (g0 := w.heap.size) (g1 := wa.heap.size) (g2 := wa.heap.size + 1)
  iterate 4 (focus exact zL)
  try clear hb3
  try clear Lk0
  try clear Fk0
  try clear Qk0
  try clear Lk5
  try clear Fk5
  try clear Qk5
  try clear Lk6
  try clear Fk6
  try clear Qk6
  try clear hb0
  try clear k0
  try clear k5
  try clear k6
  intro wc hb0 k0 k5 k6
  (try simp only [List.setIfInBounds_toArray, List.set_cons_zero, List.set_cons_succ] at k0 k5 k6)
  have Lk0 := k0.later
  have Fk0 := k0.laterF
  have Qk0 := k0.lt
  have Lk5 := k5.later
  have Fk5 := k5.laterF
  have Qk5 := k5.lt
  have Lk6 := k6.later
  have Fk6 := k6.laterF
  have Qk6 := k6.lt
  rw [← hme.out]
  by_cases h0 : wrongE n b l = 0
  · have h0' : (wrongE n b l != 0) = false := by simp [h0]
    have hms' := Lib.hid (hms.out h0)
    have hs := Lib.hid (hs2.out h0)
    replace h0 := Lib.hid h0
    clear hs1 hs2 hms hco hcv hme
    go_wp2
    go_loopw [11, 34] (fun v i wr => ∃ k : Nat, k ≤ ll ∧ i = .int .i64 k ∧ Below wc.heap.size wc wr ∧ wr.ownsRow wc.heap.size 3 1 v (ansTo (ansAt n.bs b l) k).length ((ansTo (ansAt n.bs b l) k).map (.int .i64))) (fun _ i _ => ll - (intOf i).toNat)
    case atStart => exact ⟨0, Nat.zero_le _, rfl, Below.refl _ _, World.ownsRow_nil _ _ _ _⟩
    case round =>
      obtain ⟨k, hk, rfl, hb, hown⟩ := hrel
      rw [ansTo_len] at hown
      by_cases hlt : k < ll
      · have hx : l[k]? = some (l[k]'(by rw [Hn.out]; exact hlt)) := List.getElem?_eq_getElem _
        generalize l[k]'(by rw [Hn.out]; exact hlt) = x at hx
        obtain ⟨bb, off, hA, hc⟩ := Hl.out k x hx
        have hm : x ∈ l := List.mem_of_getElem? hx
        have hwr : Below w.heap.size w wr := bl_tr hb0 hb
        have c0 : ∀ W, Below wr.heap.size wr W → W.cell? ⟨bb, off + k * 4, none⟩ = some (.int .i64 x.kind) := later (kcell hwr (hc 0 _ rfl))
        have c1 : ∀ W, Below wr.heap.size wr W → W.cell? ⟨bb, off + k * 4 + 1, none⟩ = some (.int .i64 x.idx) := later (kcell hwr (hc 1 _ rfl))
        have c2 : ∀ W, Below wr.heap.size wr W → W.cell? ⟨bb, off + k * 4 + 2, none⟩ = some (.int .i64 x.v.lo) := later (kcell hwr (hc 2 _ rfl))
        have c3 : ∀ W, Below wr.heap.size wr W → W.cell? ⟨bb, off + k * 4 + 3, none⟩ = some (.int .i64 x.v.hi) := later (kcell hwr (hc 3 _ rfl))
        clear hc
        subst hA
        have hfk := Lib.hid (hfk.out k x hx)
        have hca := Lib.hid fun (W : World) (h : Below wr.heap.size wr W) => hms'.out W (bl_tr hwr h) x hm
        have hsz := hb.size
        replace hown := Lib.hid hown
        replace hx := Lib.hid hx
        have k5 := k5.below hb
        have k6 := k6.below hb
        clear Lk0 Lk5 Lk6 Fk0 Fk5 Fk6 Qk0 Qk5 Qk6
        have hb0' := hb0
        have hb0 := bl_refl wr
        have Lk5 := k5.later
        have Fk5 := k5.laterF
        have Qk5 := k5.lt
        have Lk6 := k6.later
        have Fk6 := k6.laterF
        have Qk6 := k6.lt
        generalize measS n.bs b x = M at *
        obtain ⟨⟨ml, mh⟩, ⟨pl, ph⟩⟩ := M
        dsimp only at hca
        go_upto_region 9 with fail
        apply absB3 (w0 := wr) (g0 := wa.heap.size) (g1 := wa.heap.size + 1) (g2 := wr.heap.size)
        iterate 4 (focus exact zL)
        try clear hb3
        try clear Lk5
        try clear Fk5
        try clear Qk5
        try clear Lk6
        try clear Fk6
        try clear Qk6
        try clear hb0
        try clear k5
        try clear k6
        try clear k7
        intro wf hb0 k5 k6 k7
        (try simp only [List.setIfInBounds_toArray, List.set_cons_zero, List.set_cons_succ] at k5 k6 k7)
        have Lk5 := k5.later
        have Fk5 := k5.laterF
        have Qk5 := k5.lt
        have Lk6 := k6.later
        have Fk6 := k6.laterF
        have Qk6 := k6.lt
        have Lk7 := k7.later
        have Fk7 := k7.laterF
        have Qk7 := k7.lt
        go_upto_region 11 with (go_at_call 91; (with_reducible refine (hca.out _ (bl_tr hb0 (by (exact zE)))).mono ?_); rintro e w3 ⟨rfl, hb3⟩; replace hb3 := bl_tt hb3)
        apply absB5 (w0 := wr) (g0 := wa.heap.size) (g1 := wa.heap.size + 1) (g2 := wr.heap.size) (g3 := w3.heap.size) (g4 := w3.heap.size + 1)
        iterate 6 (focus exact zL)
        try clear hb3
        try clear Lk5
        try clear Fk5
        try clear Qk5
        try clear Lk6
        try clear Fk6
        try clear Qk6
        try clear Lk7
        try clear Fk7
        try clear Qk7
        try clear hb0
        try clear k5
        try clear k6
        try clear k7
        try clear k8
        try clear k9
        intro wx hb0 k5 k6 k7 k8 k9
        (try simp only [List.setIfInBounds_toArray, List.set_cons_zero, List.set_cons_succ] at k5 k6 k7 k8 k9)
        have Lk5 := k5.later
        have Fk5 := k5.laterF
        have Qk5 := k5.lt
        have Lk6 := k6.later
        have Fk6 := k6.laterF
        have Qk6 := k6.lt
        have Lk7 := k7.later
        have Fk7 := k7.laterF
        have Qk7 := k7.lt
        have Lk8 := k8.later
        have Fk8 := k8.laterF
        have Qk8 := k8.lt
        have Lk9 := k9.later
        have Fk9 := k9.laterF
        have Qk9 := k9.lt
        have hown := Lib.hid (own_below hown.out hb0)
        have hbx := bl_tr hb hb0
        have hszx := hbx.size
        clear hca c0 c1 c2 c3
        obtain ⟨b1, q1⟩ : ∃ b, decide (pl ≤ ml) = b := ⟨_, rfl⟩
        obtain ⟨b2, q2⟩ : ∃ b, decide (mh ≤ ph) = b := ⟨_, rfl⟩
        obtain ⟨b3, q3⟩ : ∃ b, decide (mh < pl) = b := ⟨_, rfl⟩
        obtain ⟨b4, q4⟩ : ∃ b, decide (ph < ml) = b := ⟨_, rfl⟩
        cases b1
        · cases b3
          · cases b4
            · have hv : Hid (ans (⟨ml, mh⟩, ⟨pl, ph⟩) = 1) := by refine Lib.hid ?_; rw [ans_eq]; simp only [q1, q3, q4] <;> rfl
              go_wp2_with (at_builtin; refine wpList_append_own _ rfl _ _ 78 rfl wc.heap.size 3 i0 (.int .i64 0) 1 8 Tryz.underlying78 hi0 hz0 hz1 hz2 rfl (by decide) _ _ _ rfl (hown.out.alloc _) ⟨wx.heap.size, 0, none⟩ 1 1 [.int .i64 1] rfl rfl ?c1 ?c2 ?c3 ?c4 ?c5 ?_)
              try case c1 =>
                intro j u hj
                match j, hj with
                | 0, hj => simp at hj; subst hj; simp [Addr.add]
              try case c2 => intro u hu; simp at hu; subst hu; rfl
              try case c3 => unfold maxLen; omega
              try case c4 => omega
              try case c5 => simp; omega
              intro v' w1 hown2 hgrow _
              have hb1 : Below wc.heap.size wc w1 := (bl_al _ hbx).grown hgrow (by simp; omega) (own_ge hown.out)
              clear hgrow hown
              replace hown2 := Lib.hid hown2
              go_wp2
              go_roundw
              case rel => exact ⟨k + 1, by omega, by go_num, hb1, by rw [ansTo_succ, hfk.out, hv.out]; simpa [ansTo] using hown2.out⟩
              case measure => simp [intOf]; omega
            · have hv : Hid (ans (⟨ml, mh⟩, ⟨pl, ph⟩) = 0) := by refine Lib.hid ?_; rw [ans_eq]; simp only [q1, q3, q4] <;> rfl
              go_wp2_with (at_builtin; refine wpList_append_own _ rfl _ _ 78 rfl wc.heap.size 3 i0 (.int .i64 0) 1 8 Tryz.underlying78 hi0 hz0 hz1 hz2 rfl (by decide) _ _ _ rfl (hown.out.alloc _) ⟨wx.heap.size, 0, none⟩ 1 1 [.int .i64 0] rfl rfl ?c1 ?c2 ?c3 ?c4 ?c5 ?_)
              try case c1 =>
                intro j u hj
                match j, hj with
                | 0, hj => simp at hj; subst hj; simp [Addr.add]
              try case c2 => intro u hu; simp at hu; subst hu; rfl
              try case c3 => unfold maxLen; omega
              try case c4 => omega
              try case c5 => simp; omega
              intro v' w1 hown2 hgrow _
              have hb1 : Below wc.heap.size wc w1 := (bl_al _ hbx).grown hgrow (by simp; omega) (own_ge hown.out)
              clear hgrow hown
              replace hown2 := Lib.hid hown2
              go_wp2
              go_roundw
              case rel => exact ⟨k + 1, by omega, by go_num, hb1, by rw [ansTo_succ, hfk.out, hv.out]; simpa [ansTo] using hown2.out⟩
              case measure => simp [intOf]; omega
          · have hv : Hid (ans (⟨ml, mh⟩, ⟨pl, ph⟩) = 0) := by refine Lib.hid ?_; rw [ans_eq]; simp only [q1, q3] <;> rfl
            go_wp2_with (at_builtin; refine wpList_append_own _ rfl _ _ 78 rfl wc.heap.size 3 i0 (.int .i64 0) 1 8 Tryz.underlying78 hi0 hz0 hz1 hz2 rfl (by decide) _ _ _ rfl (hown.out.alloc _) ⟨wx.heap.size, 0, none⟩ 1 1 [.int .i64 0] rfl rfl ?c1 ?c2 ?c3 ?c4 ?c5 ?_)
            try case c1 =>
              intro j u hj
              match j, hj with
              | 0, hj => simp at hj; subst hj; simp [Addr.add]
            try case c2 => intro u hu; simp at hu; subst hu; rfl
            try case c3 => unfold maxLen; omega
            try case c4 => omega
            try case c5 => simp; omega
            intro v' w1 hown2 hgrow _
            have hb1 : Below wc.heap.size wc w1 := (bl_al _ hbx).grown hgrow (by simp; omega) (own_ge hown.out)
            clear hgrow hown
            replace hown2 := Lib.hid hown2
            go_wp2
            go_roundw
            case rel => exact ⟨k + 1, by omega, by go_num, hb1, by rw [ansTo_succ, hfk.out, hv.out]; simpa [ansTo] using hown2.out⟩
            case measure => simp [intOf]; omega
        · cases b2
          · cases b3
            · cases b4
              · have hv : Hid (ans (⟨ml, mh⟩, ⟨pl, ph⟩) = 1) := by refine Lib.hid ?_; rw [ans_eq]; simp only [q1, q2, q3, q4] <;> rfl
                go_wp2_with (at_builtin; refine wpList_append_own _ rfl _ _ 78 rfl wc.heap.size 3 i0 (.int .i64 0) 1 8 Tryz.underlying78 hi0 hz0 hz1 hz2 rfl (by decide) _ _ _ rfl (hown.out.alloc _) ⟨wx.heap.size, 0, none⟩ 1 1 [.int .i64 1] rfl rfl ?c1 ?c2 ?c3 ?c4 ?c5 ?_)
                try case c1 =>
                  intro j u hj
                  match j, hj with
                  | 0, hj => simp at hj; subst hj; simp [Addr.add]
                try case c2 => intro u hu; simp at hu; subst hu; rfl
                try case c3 => unfold maxLen; omega
                try case c4 => omega
                try case c5 => simp; omega
                intro v' w1 hown2 hgrow _
                have hb1 : Below wc.heap.size wc w1 := (bl_al _ hbx).grown hgrow (by simp; omega) (own_ge hown.out)
                clear hgrow hown
                replace hown2 := Lib.hid hown2
                go_wp2
                go_roundw
                case rel => exact ⟨k + 1, by omega, by go_num, hb1, by rw [ansTo_succ, hfk.out, hv.out]; simpa [ansTo] using hown2.out⟩
                case measure => simp [intOf]; omega
              · have hv : Hid (ans (⟨ml, mh⟩, ⟨pl, ph⟩) = 0) := by refine Lib.hid ?_; rw [ans_eq]; simp only [q1, q2, q3, q4] <;> rfl
                go_wp2_with (at_builtin; refine wpList_append_own _ rfl _ _ 78 rfl wc.heap.size 3 i0 (.int .i64 0) 1 8 Tryz.underlying78 hi0 hz0 hz1 hz2 rfl (by decide) _ _ _ rfl (hown.out.alloc _) ⟨wx.heap.size, 0, none⟩ 1 1 [.int .i64 0] rfl rfl ?c1 ?c2 ?c3 ?c4 ?c5 ?_)
                try case c1 =>
                  intro j u hj
                  match j, hj with
                  | 0, hj => simp at hj; subst hj; simp [Addr.add]
                try case c2 => intro u hu; simp at hu; subst hu; rfl
                try case c3 => unfold maxLen; omega
                try case c4 => omega
                try case c5 => simp; omega
                intro v' w1 hown2 hgrow _
                have hb1 : Below wc.heap.size wc w1 := (bl_al _ hbx).grown hgrow (by simp; omega) (own_ge hown.out)
                clear hgrow hown
                replace hown2 := Lib.hid hown2
                go_wp2
                go_roundw
                case rel => exact ⟨k + 1, by omega, by go_num, hb1, by rw [ansTo_succ, hfk.out, hv.out]; simpa [ansTo] using hown2.out⟩
                case measure => simp [intOf]; omega
            · have hv : Hid (ans (⟨ml, mh⟩, ⟨pl, ph⟩) = 0) := by refine Lib.hid ?_; rw [ans_eq]; simp only [q1, q2, q3] <;> rfl
              go_wp2_with (at_builtin; refine wpList_append_own _ rfl _ _ 78 rfl wc.heap.size 3 i0 (.int .i64 0) 1 8 Tryz.underlying78 hi0 hz0 hz1 hz2 rfl (by decide) _ _ _ rfl (hown.out.alloc _) ⟨wx.heap.size, 0, none⟩ 1 1 [.int .i64 0] rfl rfl ?c1 ?c2 ?c3 ?c4 ?c5 ?_)
              try case c1 =>
                intro j u hj
                match j, hj with
                | 0, hj => simp at hj; subst hj; simp [Addr.add]
              try case c2 => intro u hu; simp at hu; subst hu; rfl
              try case c3 => unfold maxLen; omega
              try case c4 => omega
              try case c5 => simp; omega
              intro v' w1 hown2 hgrow _
              have hb1 : Below wc.heap.size wc w1 := (bl_al _ hbx).grown hgrow (by simp; omega) (own_ge hown.out)
              clear hgrow hown
              replace hown2 := Lib.hid hown2
              go_wp2
              go_roundw
              case rel => exact ⟨k + 1, by omega, by go_num, hb1, by rw [ansTo_succ, hfk.out, hv.out]; simpa [ansTo] using hown2.out⟩
              case measure => simp [intOf]; omega
          · have hv : Hid (ans (⟨ml, mh⟩, ⟨pl, ph⟩) = 2) := by refine Lib.hid ?_; rw [ans_eq]; simp only [q1, q2] <;> rfl
            go_wp2_with (at_builtin; refine wpList_append_own _ rfl _ _ 78 rfl wc.heap.size 3 i0 (.int .i64 0) 1 8 Tryz.underlying78 hi0 hz0 hz1 hz2 rfl (by decide) _ _ _ rfl (hown.out.alloc _) ⟨wx.heap.size, 0, none⟩ 1 1 [.int .i64 2] rfl rfl ?c1 ?c2 ?c3 ?c4 ?c5 ?_)
            try case c1 =>
              intro j u hj
              match j, hj with
              | 0, hj => simp at hj; subst hj; simp [Addr.add]
            try case c2 => intro u hu; simp at hu; subst hu; rfl
            try case c3 => unfold maxLen; omega
            try case c4 => omega
            try case c5 => simp; omega
            intro v' w1 hown2 hgrow _
            have hb1 : Below wc.heap.size wc w1 := (bl_al _ hbx).grown hgrow (by simp; omega) (own_ge hown.out)
            clear hgrow hown
            replace hown2 := Lib.hid hown2
            go_wp2
            go_roundw
            case rel => exact ⟨k + 1, by omega, by go_num, hb1, by rw [ansTo_succ, hfk.out, hv.out]; simpa [ansTo] using hown2.out⟩
            case measure => simp [intOf]; omega
      · go_wp2
        go_ret2
        have : k = ll := by omega
        subst this
        rw [hs.out]
        rw [h0.out]
        exact RetE.of (bl_tr hb0 hb) (own_mono hb0.size (by rw [ansTo_len]; exact hown))
  · have h0' : (wrongE n b l != 0) = true := by simp [h0]
    have hs := Lib.hid (hs1.out h0)
    replace h0 := Lib.hid h0
    clear hs1 hs2 hms hco hcv hme
    go_wp2
    go_ret2
    rw [hs.out]
    exact ⟨none, 0, rfl, hb0, World.ownsRow_nil _ _ _ _⟩
end Go.Proofs.YtephimmamkafoaaGreat
namespace Go.Proofs.YtephimmamkafoaaGreat
open Go.RowKit Go.Shelf
attribute [local go_sem] bl_al bl_drew bl_drewN bl_refl bx_al bx_drew bx_drewN bx_refl index_b0 index_b1 index_b2
set_option maxRecDepth 20000
set_option maxHeartbeats 4000000 in
theorem c_back (wd a : Bx) (m : Mv) (s : Value) (w : World) (ha : a.in 10000) (hm : m.ok) :
    Calls Tryz.prog 66 #[vON wd s, vBx a, vMv m] w (Ret (.tuple #[vBx (back wd a m), .bool (back wd a m).ordered]) w) := by
  have hmn : Hid (Mv.ok ⟨m.ticks, ⟨⟨-m.speed.x.hi, -m.speed.x.lo⟩, ⟨-m.speed.y.hi, -m.speed.y.lo⟩, ⟨-m.speed.z.hi, -m.speed.z.lo⟩⟩⟩) := hm.neg
  have hain := Lib.hid ha
  obtain ⟨h1, h2, ⟨u1, u2, u3, u4⟩, ⟨v1, v2, v3, v4⟩, ⟨w1, w2, w3, w4⟩⟩ := hm
  clear ha
  go_enter Tryz.func66, Tryz.ntmps66
  go_wp2_with ((go_at_call 74; (with_reducible refine (c_of m.speed _).mono ?_); rintro e w3 ⟨rfl, hb3⟩; replace hb3 := bl_tt hb3))
  apply absB5 (w0 := w) (g0 := w.heap.size) (g1 := w.heap.size + 1) (g2 := w.heap.size + 2) (g3 := w.heap.size + 3) (g4 := w.heap.size + 4)
  iterate 6 (focus exact zL)
  try clear hb3
  try clear hb0
  try clear k0
  try clear k1
  try clear k2
  try clear k3
  try clear k4
  intro wa hb0 k0 k1 k2 k3 k4
  (try simp only [List.setIfInBounds_toArray, List.set_cons_zero, List.set_cons_succ] at k0 k1 k2 k3 k4)
  have Lk0 := k0.later
  have Fk0 := k0.laterF
  have Qk0 := k0.lt
  have Lk1 := k1.later
  have Fk1 := k1.laterF
  have Qk1 := k1.lt
  have Lk2 := k2.later
  have Fk2 := k2.laterF
  have Qk2 := k2.lt
  have Lk3 := k3.later
  have Fk3 := k3.laterF
  have Qk3 := k3.lt
  have Lk4 := k4.later
  have Fk4 := k4.laterF
  have Qk4 := k4.lt
  refine wp_loop_rounds 4 ?_
  rw [rounds_succ]
  go_wp2
  apply absRB5 (w0 := w) (g0 := w.heap.size) (g1 := w.heap.size + 1) (g2 := w.heap.size + 2) (g3 := w.heap.size + 3) (g4 := w.heap.size + 4)
  iterate 6 (focus exact zL)
  try clear hb3
  try clear Lk0
  try clear Fk0
  try clear Qk0
  try clear Lk1
  try clear Fk1
  try clear Qk1
  try clear Lk2
  try clear Fk2
  try clear Qk2
  try clear Lk3
  try clear Fk3
  try clear Qk3
  try clear Lk4
  try clear Fk4
  try clear Qk4
  try clear hb0
  try clear k0
  try clear k1
  try clear k2
  try clear k3
  try clear k4
  intro wa hb0 k0 k1 k2 k3 k4
  (try simp only [List.setIfInBounds_toArray, List.set_cons_zero, List.set_cons_succ] at k0 k1 k2 k3 k4)
  have Lk0 := k0.later
  have Fk0 := k0.laterF
  have Qk0 := k0.lt
  have Lk1 := k1.later
  have Fk1 := k1.laterF
  have Qk1 := k1.lt
  have Lk2 := k2.later
  have Fk2 := k2.laterF
  have Qk2 := k2.lt
  have Lk3 := k3.later
  have Fk3 := k3.laterF
  have Qk3 := k3.lt
  have Lk4 := k4.later
  have Fk4 := k4.laterF
  have Qk4 := k4.lt
  rw [rounds_succ]
  go_wp2
  apply absRB5 (w0 := w) (g0 := w.heap.size) (g1 := w.heap.size + 1) (g2 := w.heap.size + 2) (g3 := w.heap.size + 3) (g4 := w.heap.size + 4)
  iterate 6 (focus exact zL)
  try clear hb3
  try clear Lk0
  try clear Fk0
  try clear Qk0
  try clear Lk1
  try clear Fk1
  try clear Qk1
  try clear Lk2
  try clear Fk2
  try clear Qk2
  try clear Lk3
  try clear Fk3
  try clear Qk3
  try clear Lk4
  try clear Fk4
  try clear Qk4
  try clear hb0
  try clear k0
  try clear k1
  try clear k2
  try clear k3
  try clear k4
  intro wa hb0 k0 k1 k2 k3 k4
  (try simp only [List.setIfInBounds_toArray, List.set_cons_zero, List.set_cons_succ] at k0 k1 k2 k3 k4)
  have Lk0 := k0.later
  have Fk0 := k0.laterF
  have Qk0 := k0.lt
  have Lk1 := k1.later
  have Fk1 := k1.laterF
  have Qk1 := k1.lt
  have Lk2 := k2.later
  have Fk2 := k2.laterF
  have Qk2 := k2.lt
  have Lk3 := k3.later
  have Fk3 := k3.laterF
  have Qk3 := k3.lt
  have Lk4 := k4.later
  have Fk4 := k4.laterF
  have Qk4 := k4.lt
  rw [rounds_succ]
  go_wp2
  apply absRB5 (w0 := w) (g0 := w.heap.size) (g1 := w.heap.size + 1) (g2 := w.heap.size + 2) (g3 := w.heap.size + 3) (g4 := w.heap.size + 4)
  iterate 6 (focus exact zL)
  try clear hb3
  try clear Lk0
  try clear Fk0
  try clear Qk0
  try clear Lk1
  try clear Fk1
  try clear Qk1
  try clear Lk2
  try clear Fk2
  try clear Qk2
  try clear Lk3
  try clear Fk3
  try clear Qk3
  try clear Lk4
  try clear Fk4
  try clear Qk4
  try clear hb0
  try clear k0
  try clear k1
  try clear k2
  try clear k3
  try clear k4
  intro wb hb0 k0 k1 k2 k3 k4
  (try simp only [List.setIfInBounds_toArray, List.set_cons_zero, List.set_cons_succ] at k0 k1 k2 k3 k4)
  have Lk0 := k0.later
  have Fk0 := k0.laterF
  have Qk0 := k0.lt
  have Lk1 := k1.later
  have Fk1 := k1.laterF
  have Qk1 := k1.lt
  have Lk2 := k2.later
  have Fk2 := k2.laterF
  have Qk2 := k2.lt
  have Lk3 := k3.later
  have Fk3 := k3.laterF
  have Qk3 := k3.lt
  have Lk4 := k4.later
  have Fk4 := k4.laterF
  have Qk4 := k4.lt
  rw [rounds_succ]
  go_wp2
  refine wp_any (w0 := wb) ⟨[10, 11], [], [some 28, some 29, some 30, some 31, some 32, some 33, some 34, some 35, some 36, some 37, none, none], [[], [], [], [2], [], [4], [2, 3, 4, 5], [0, 1, 2, 3, 4, 5, 6], [0, 1, 2, 3, 4, 5, 6, 7], [0, 1, 2, 3, 4, 5, 6, 7], [0, 1, 2, 3, 4, 5, 6, 7, 8, 9], [0, 1, 2, 3, 4, 5, 6, 7, 8, 9, 10]], [[], [], [], [2], [], [4], [3, 5], [0, 1, 6], [7], [7], [], []]⟩ (fun _ => [w.heap.size + 3]) (by kernel_rfl) (by kernel_rfl) (by (exact zE)) (fun u => by simp only [putD, Act.put, List.setIfInBounds_toArray, List.set_cons_zero, List.set_cons_succ, Nat.zero_add, Nat.reduceAdd]; rfl) ?_
  apply RGW.on (i := 0) rfl
  · exact zG
  · intro γ u W hcur hd
    clear hd
    (try dsimp only)
    exact ⟨rfl, zS⟩
  · exact zC
  · rfl
  dsimp only [nA, cA]
  apply RGW.on (i := 1) rfl
  · exact zG
  · intro γ u W hcur hd
    clear hd
    (try dsimp only)
    exact ⟨rfl, zS⟩
  · exact zC
  · rfl
  dsimp only [nA, cA]
  apply RGW.on (i := 2) rfl
  · exact zG
  · intro γ u W hcur hd
    clear hd
    (try dsimp only)
    exact ⟨rfl, zS⟩
  · exact zC
  · rfl
  dsimp only [nA, cA]
  apply RGW.on (i := 3) rfl
  · exact zG
  · intro γ u W hcur hd
    obtain ⟨⟨h2, -, -⟩, -⟩ := hd
    dsimp only at h2
    (try simp only [h2])
    exact ⟨rfl, zS⟩
  · exact zC
  · rfl
  dsimp only [nA, cA]
  apply RGW.on (i := 4) rfl
  · exact zG
  · intro γ u W hcur hd
    clear hd
    (try dsimp only)
    exact ⟨rfl, zS⟩
  · exact zC
  · rfl
  dsimp only [nA, cA]
  apply RGW.call (i := 5) rfl
  · exact zG
  · intro γ u W hcur hd
    obtain ⟨⟨h4, -, -⟩, -⟩ := hd
    dsimp only at h4
    (try simp only [h4])
    refine ⟨rfl, fun K hK => ?_⟩
    go_simp
    (go_at_call 59; (with_reducible refine (c_box ⟨⟨-m.speed.x.hi, -m.speed.x.lo⟩, ⟨-m.speed.y.hi, -m.speed.y.lo⟩, ⟨-m.speed.z.hi, -m.speed.z.lo⟩⟩ _).mono ?_); rintro e w3 ⟨rfl, hb3⟩; replace hb3 := bl_tt hb3)
    (try dsimp only)
    exact hK.out _ _ rfl (by (exact zE))
  · exact zC
  · rfl
  dsimp only [nA, cA]
  apply RGW.on (i := 6) rfl
  · exact zG
  · intro γ u W hcur hd
    obtain ⟨⟨h3, -, -⟩, ⟨h5, -, -⟩, -⟩ := hd
    dsimp only at h3 h5
    (try simp only [h3, h5])
    exact ⟨rfl, zS⟩
  · exact zC
  · rfl
  dsimp only [nA, cA]
  apply RGW.call (i := 7) rfl
  · exact zG
  · intro γ u W hcur hd
    obtain ⟨⟨h0, -, -⟩, ⟨h1, -, -⟩, ⟨h6, -, -⟩, -⟩ := hd
    dsimp only at h0 h1 h6
    (try simp only [h0, h1, h6])
    refine ⟨rfl, fun K hK => ?_⟩
    go_simp
    (go_at_call 83; (with_reducible refine (c_carried wd a ⟨m.ticks, ⟨⟨-m.speed.x.hi, -m.speed.x.lo⟩, ⟨-m.speed.y.hi, -m.speed.y.lo⟩, ⟨-m.speed.z.hi, -m.speed.z.lo⟩⟩⟩ s _ hain.out hmn.out).mono ?_); rintro e w3 ⟨rfl, hb3⟩; replace hb3 := bl_tt hb3)
    (try dsimp only)
    exact hK.out _ _ rfl (by (exact zE))
  · exact zC
  · rfl
  dsimp only [nA, cA]
  apply RGW.on (i := 8) rfl
  · exact zG
  · intro γ u W hcur hd
    obtain ⟨⟨h7, -, -⟩, -⟩ := hd
    dsimp only at h7
    (try simp only [h7])
    exact ⟨rfl, zS⟩
  · exact zC
  · rfl
  dsimp only [nA, cA]
  apply RGW.on (i := 9) rfl
  · exact zG
  · intro γ u W hcur hd
    obtain ⟨⟨h7, -, -⟩, -⟩ := hd
    dsimp only at h7
    (try simp only [h7])
    exact ⟨rfl, zS⟩
  · exact zC
  · rfl
  dsimp only [nA, cA]
  refine RGW.skip (i := 10) rfl rfl ?_
  dsimp only [nA, cA]
  refine RGW.skip (i := 11) rfl rfl ?_
  dsimp only [nA, cA]
  refine RGW.fin (fun γ u wc hwc hd hdis => ?_)
  obtain ⟨⟨h0, -, -⟩, ⟨h1, -, -⟩, ⟨h2, -, -⟩, ⟨h3, -, -⟩, ⟨h4, -, -⟩, ⟨h5, -, -⟩, ⟨h6, -, -⟩, ⟨h7, -, -⟩, ⟨h8, -, -⟩, ⟨h9, -, -⟩, -⟩ := hd
  dsimp only at h0 h1 h2 h3 h4 h5 h6 h7 h8 h9
  clear hdis
  simp only [h0, h1, h2, h3, h4, h5, h6, h7, h8, h9]
  clear h9 h8 h7 h6 h5 h4 h3 h2 h1 h0
  clear u
  simp only [List.map_cons, List.map_nil]
  apply PlanW.step
  · exact zG
  · rfl
  intro K hK
  refine wp_store_keep (X := [w.heap.size + 3]) (w0 := wc) rfl rfl rfl (by with_reducible first | exact bx_refl _ _ | assumption) (by with_reducible first | assumption | (apply Blk.below (hb := hwc); assumption)) (by simp) (by kernel_rfl) (by rfl) (by simp [Value.oneCell']) (fun hres1 hcur => ?_)
  refine hK.out _ _ hcur (fun _ => ?_)
  clear hK K
  try simp only [Act.put, List.setIfInBounds_toArray, List.set_cons_zero, List.set_cons_succ]
  apply PlanW.step
  · exact zG
  · rfl
  intro K hK
  go_simp
  refine hK.out _ _ (by (exact zX)) (fun hcur => ?_)
  clear hK K
  try simp only [Act.put, List.setIfInBounds_toArray, List.set_cons_zero, List.set_cons_succ]
  refine PlanW.done ?_
  have hb3 := bl_tt hwc
  have hr := hres1.cell
  have hb1 := bl_tt hwc w hb0
  go_wp2
  refine bodyPost_ret (v := .tuple #[vBx (back wd a m), .bool (back wd a m).ordered]) (by simp [results, Tryz.results66, go_sem, hr]; repeat' (first | rfl | apply And.intro)) rfl ⟨rfl, ?_⟩
  exact hcur.below (by simp) hb1
end Go.Proofs.YtephimmamkafoaaGreat
namespace Go.Proofs.YtephimmamkafoaaGreat
open Go.RowKit Go.Shelf
attribute [local go_sem] bl_al bl_drew bl_drewN bl_refl bx_al bx_drew bx_drewN bx_refl
set_option maxRecDepth 20000
def movedE (n : Nt) (b : Bx) (m : Mv) : Int := fstE [boxErr n b, mvErr m]
def movedS (n : Nt) (b : Bx) (m : Mv) (g : Bx) : Bx × Int := if movedE n b m = 0 then (if g.ordered then (g, 0) else (bx0, 12)) else (bx0, movedE n b m)
set_option maxHeartbeats 4000000 in
theorem c_moved (f : FuncId) (n : Nt) (b g : Bx) (m : Mv) (A : Option Addr) (c : Nat) (w : World) (hn : NtIn n A c w) (he : Enters Tryz.prog f)
    (hf : movedE n b m = 0 → ∀ s W, Calls Tryz.prog f #[vON n.world s, vBx b, vMv m] W (Ret (.tuple #[vBx g, .bool g.ordered]) W)) :
    Calls Tryz.prog 82 #[vNt n.world (.slice A n.bs.length c), vBx b, vMv m, .func (.func f) #[] #[]] w (Ret (.tuple #[vBx (movedS n b m g).1, .int .i64 (movedS n b m g).2]) w) := by
  have he' : ∀ args w, (callFunc f args).run Tryz.prog w = .ok (.enter f args) w := he
  clear he
  have hco := Lib.hid fun (W : World) (hb : Below w.heap.size w W) => c_openBox n b A c W (hn.below hb)
  have hfe := Lib.hid hf
  have hme : Hid (movedE n b m = fstE [boxErr n b, mvErr m]) := rfl
  have hs1 : Hid (movedE n b m = 0 → g.ordered = true → movedS n b m g = (g, 0)) := fun h h' => by simp [movedS, h, h']
  have hs2 : Hid (movedE n b m = 0 → g.ordered = false → movedS n b m g = (bx0, 12)) := fun h h' => by simp [movedS, h, h']
  have hs3 : Hid (movedE n b m ≠ 0 → movedS n b m g = (bx0, movedE n b m)) := fun h => by simp [movedS, h]
  clear hn hf
  generalize n.bs.length = nl at *
  go_enter Tryz.func82, Tryz.ntmps82
  go_wp2_with fail
  refine Calls.mono (hco.out _ ?_) ?_
  · solve_by_elim (maxDepth := 60) only [bl_al, bl_drew, bl_drewN, bl_refl, *]
  rintro e w3 ⟨rfl, hb3⟩
  replace hb3 := bl_tt hb3
  apply absX4 (w0 := w) (w := w3) (g0 := w.heap.size) (g1 := w.heap.size + 1) (g2 := w.heap.size + 2) (g3 := w.heap.size + 3)
  iterate 5 (focus exact zL)
  try clear hb3
  try clear hb0
  try clear k0
  try clear k1
  try clear k2
  try clear k3
  intro wa hb0 k0 k1 k2 k3
  (try simp only [List.setIfInBounds_toArray, List.set_cons_zero, List.set_cons_succ] at k0 k1 k2 k3)
  have Lk0 := k0.later
  have Fk0 := k0.laterF
  have Qk0 := k0.lt
  have Lk1 := k1.later
  have Fk1 := k1.laterF
  have Qk1 := k1.lt
  have Lk2 := k2.later
  have Fk2 := k2.laterF
  have Qk2 := k2.lt
  have Lk3 := k3.later
  have Fk3 := k3.laterF
  have Qk3 := k3.lt
  have hwa : w.heap.size + 4 ≤ wa.heap.size := by have := k3.lt; omega
  go_upto_region 2 with fail
  apply absB6 (w0 := w) (g0 := w.heap.size) (g1 := w.heap.size + 1) (g2 := w.heap.size + 2) (g3 := w.heap.size + 3) (g4 := wa.heap.size) (g5 := wa.heap.size + 1)
  iterate 7 (focus exact zL)
  try clear hb3
  try clear Lk0
  try clear Fk0
  try clear Qk0
  try clear Lk1
  try clear Fk1
  try clear Qk1
  try clear Lk2
  try clear Fk2
  try clear Qk2
  try clear Lk3
  try clear Fk3
  try clear Qk3
  try clear hb0
  try clear k0
  try clear k1
  try clear k2
  try clear k3
  try clear k4
  try clear k5
  intro wb hb0 k0 k1 k2 k3 k4 k5
  (try simp only [List.setIfInBounds_toArray, List.set_cons_zero, List.set_cons_succ] at k0 k1 k2 k3 k4 k5)
  have Lk0 := k0.later
  have Fk0 := k0.laterF
  have Qk0 := k0.lt
  have Lk1 := k1.later
  have Fk1 := k1.laterF
  have Qk1 := k1.lt
  have Lk2 := k2.later
  have Fk2 := k2.laterF
  have Qk2 := k2.lt
  have Lk3 := k3.later
  have Fk3 := k3.laterF
  have Qk3 := k3.lt
  have Lk4 := k4.later
  have Fk4 := k4.laterF
  have Qk4 := k4.lt
  have Lk5 := k5.later
  have Fk5 := k5.laterF
  have Qk5 := k5.lt
  go_upto_region 3 with (first | (go_at_call 52; (with_reducible refine (c_moveErr m _).mono ?_); rintro e w3 ⟨rfl, hb3⟩; replace hb3 := bl_tt hb3) | (go_at_call 48; (with_reducible refine (c_first2 (Blk.new _ _ _)).mono ?_); rintro e w3 ⟨rfl, rfl⟩))
  apply absB6 (w0 := w) (g0 := w.heap.size) (g1 := w.heap.size + 1) (g2 := w.heap.size + 2) (g3 := w.heap.size + 3) (g4 := wa.heap.size) (g5 := wa.heap.size + 1)
  iterate 7 (focus exact zL)
  try clear hb3
  try clear Lk0
  try clear Fk0
  try clear Qk0
  try clear Lk1
  try clear Fk1
  try clear Qk1
  try clear Lk2
  try clear Fk2
  try clear Qk2
  try clear Lk3
  try clear Fk3
  try clear Qk3
  try clear Lk4
  try clear Fk4
  try clear Qk4
  try clear Lk5
  try clear Fk5
  try clear Qk5
  try clear hb0
  try clear k0
  try clear k1
  try clear k2
  try clear k3
  try clear k4
  try clear k5
  intro wc hb0 k0 k1 k2 k3 k4 k5
  (try simp only [List.setIfInBounds_toArray, List.set_cons_zero, List.set_cons_succ] at k0 k1 k2 k3 k4 k5)
  have Lk0 := k0.later
  have Fk0 := k0.laterF
  have Qk0 := k0.lt
  have Lk1 := k1.later
  have Fk1 := k1.laterF
  have Qk1 := k1.lt
  have Lk2 := k2.later
  have Fk2 := k2.laterF
  have Qk2 := k2.lt
  have Lk3 := k3.later
  have Fk3 := k3.laterF
  have Qk3 := k3.lt
  have Lk4 := k4.later
  have Fk4 := k4.laterF
  have Qk4 := k4.lt
  have Lk5 := k5.later
  have Fk5 := k5.laterF
  have Qk5 := k5.lt
  rw [← hme.out]
  by_cases h0 : movedE n b m = 0
  · have h0' : (movedE n b m != 0) = false := by simp [h0]
    replace h0 := Lib.hid h0
    cases hg : g.ordered
    all_goals
      have hcall := hfe.out h0.out
      rw [hg] at hcall
      replace hcall := Lib.hid hcall
      go_wp2_with fail
      refine Calls.mono (hcall.out _ _) ?_
      rintro e w3 ⟨rfl, hb3⟩
      replace hb3 := bl_tt hb3
      apply absX6 (w0 := w) (w := w3) (g0 := w.heap.size) (g1 := w.heap.size + 1) (g2 := w.heap.size + 2) (g3 := w.heap.size + 3) (g4 := wa.heap.size) (g5 := wa.heap.size + 1)
      iterate 7 (focus exact zL)
      try clear hb3
      try clear Lk0
      try clear Fk0
      try clear Qk0
      try clear Lk1
      try clear Fk1
      try clear Qk1
      try clear Lk2
      try clear Fk2
      try clear Qk2
      try clear Lk3
      try clear Fk3
      try clear Qk3
      try clear Lk4
      try clear Fk4
      try clear Qk4
      try clear Lk5
      try clear Fk5
      try clear Qk5
      try clear hb0
      try clear k0
      try clear k1
      try clear k2
      try clear k3
      try clear k4
      try clear k5
      intro wd hb0 k0 k1 k2 k3 k4 k5
      (try simp only [List.setIfInBounds_toArray, List.set_cons_zero, List.set_cons_succ] at k0 k1 k2 k3 k4 k5)
      have Lk0 := k0.later
      have Fk0 := k0.laterF
      have Qk0 := k0.lt
      have Lk1 := k1.later
      have Fk1 := k1.laterF
      have Qk1 := k1.lt
      have Lk2 := k2.later
      have Fk2 := k2.laterF
      have Qk2 := k2.lt
      have Lk3 := k3.later
      have Fk3 := k3.laterF
      have Qk3 := k3.lt
      have Lk4 := k4.later
      have Fk4 := k4.laterF
      have Qk4 := k4.lt
      have Lk5 := k5.later
      have Fk5 := k5.laterF
      have Qk5 := k5.lt
      go_upto_region 6 with fail
      apply absB6 (w0 := w) (g0 := w.heap.size) (g1 := w.heap.size + 1) (g2 := w.heap.size + 2) (g3 := w.heap.size + 3) (g4 := wa.heap.size) (g5 := wa.heap.size + 1)
      iterate 7 (focus exact zL)
      try clear hb3
      try clear Lk0
      try clear Fk0
      try clear Qk0
      try clear Lk1
      try clear Fk1
      try clear Qk1
      try clear Lk2
      try clear Fk2
      try clear Qk2
      try clear Lk3
      try clear Fk3
      try clear Qk3
      try clear Lk4
      try clear Fk4
      try clear Qk4
      try clear Lk5
      try clear Fk5
      try clear Qk5
      try clear hb0
      try clear k0
      try clear k1
      try clear k2
      try clear k3
      try clear k4
      try clear k5
      intro we hb0 k0 k1 k2 k3 k4 k5
      (try simp only [List.setIfInBounds_toArray, List.set_cons_zero, List.set_cons_succ] at k0 k1 k2 k3 k4 k5)
      have Lk0 := k0.later
      have Fk0 := k0.laterF
      have Qk0 := k0.lt
      have Lk1 := k1.later
      have Fk1 := k1.laterF
      have Qk1 := k1.lt
      have Lk2 := k2.later
      have Fk2 := k2.laterF
      have Qk2 := k2.lt
      have Lk3 := k3.later
      have Fk3 := k3.laterF
      have Qk3 := k3.lt
      have Lk4 := k4.later
      have Fk4 := k4.laterF
      have Qk4 := k4.lt
      have Lk5 := k5.later
      have Fk5 := k5.laterF
      have Qk5 := k5.lt
      go_wp2_with ((go_at_call 59; (with_reducible refine (c_box g _).mono ?_); rintro e w3 ⟨rfl, hb3⟩; replace hb3 := bl_tt hb3))
      apply absPB6 (w0 := w) (g0 := w.heap.size) (g1 := w.heap.size + 1) (g2 := w.heap.size + 2) (g3 := w.heap.size + 3) (g4 := wa.heap.size) (g5 := wa.heap.size + 1)
      iterate 7 (focus exact zL)
      try clear hb3
      try clear Lk0
      try clear Fk0
      try clear Qk0
      try clear Lk1
      try clear Fk1
      try clear Qk1
      try clear Lk2
      try clear Fk2
      try clear Qk2
      try clear Lk3
      try clear Fk3
      try clear Qk3
      try clear Lk4
      try clear Fk4
      try clear Qk4
      try clear Lk5
      try clear Fk5
      try clear Qk5
      try clear hb0
      try clear k0
      try clear k1
      try clear k2
      try clear k3
      try clear k4
      try clear k5
      intro wf hb0 k0 k1 k2 k3 k4 k5
      (try simp only [List.setIfInBounds_toArray, List.set_cons_zero, List.set_cons_succ] at k0 k1 k2 k3 k4 k5)
      have hr := k3.cell
      first
      | refine bodyPost_ret (v := .tuple #[vBx (movedS n b m g).1, .int .i64 (movedS n b m g).2]) (by rw [hs2.out h0.out hg]; simp [results, Tryz.results82, go_sem, hr, bx0]; done) rfl ⟨rfl, hb0⟩
      | refine bodyPost_ret (v := .tuple #[vBx (movedS n b m g).1, .int .i64 (movedS n b m g).2]) (by rw [hs1.out h0.out hg]; simp [results, Tryz.results82, go_sem, hr]; done) rfl ⟨rfl, hb0⟩
  · have h0' : (movedE n b m != 0) = true := by simp [h0]
    replace h0 := Lib.hid h0
    go_wp2
    apply absPB6 (w0 := w) (g0 := w.heap.size) (g1 := w.heap.size + 1) (g2 := w.heap.size + 2) (g3 := w.heap.size + 3) (g4 := wa.heap.size) (g5 := wa.heap.size + 1)
    iterate 7 (focus exact zL)
    try clear hb3
    try clear hb0
    try clear k0
    try clear k1
    try clear k2
    try clear k3
    try clear k4
    try clear k5
    intro wf hb0 k0 k1 k2 k3 k4 k5
    (try simp only [List.setIfInBounds_toArray, List.set_cons_zero, List.set_cons_succ] at k0 k1 k2 k3 k4 k5)
    have hr := k3.cell
    refine bodyPost_ret (v := .tuple #[vBx (movedS n b m g).1, .int .i64 (movedS n b m g).2]) (by rw [hs3.out h0.out]; simp [results, Tryz.results82, go_sem, hr, bx0]) rfl ⟨rfl, hb0⟩
theorem c_Carried (n : Nt) (b : Bx) (m : Mv) (A : Option Addr) (c : Nat) (w : World) (hn : NtIn n A c w) :
    Calls Tryz.prog 32 #[vNt n.world (.slice A n.bs.length c), vBx b, vMv m] w (Ret (.tuple #[vBx (movedS n b m (carried n.world b m)).1, .int .i64 (movedS n b m (carried n.world b m)).2]) w) := by
  have hcm := Lib.hid fun (W : World) (hb : Below w.heap.size w W) => c_moved 83 n b (carried n.world b m) m A c W (hn.below hb) (enters_of Tryz.func83 (by kernel_rfl) rfl) (fun h s W => by
    obtain ⟨h1, h2⟩ := fst_cons.1 h
    rw [fst_one] at h2
    exact c_carried n.world b m s W (box_ok h1).in (mv_ok h2))
  clear hn
  generalize n.bs.length = nl at *
  go_enter Tryz.func32, Tryz.ntmps32
  go_wp2_with fail
  refine Calls.mono (hcm.out _ ?_) ?_
  · solve_by_elim (maxDepth := 60) only [bl_al, bl_drew, bl_drewN, bl_refl, *]
  rintro e w3 ⟨rfl, hb3⟩
  replace hb3 := bl_tt hb3
  apply absX1 (w0 := w) (w := w3) (g0 := w.heap.size + 3)
  iterate 2 (focus exact zL)
  try clear hb3
  try clear hb0
  try clear k3
  intro wa hb0 k3
  (try simp only [List.setIfInBounds_toArray, List.set_cons_zero, List.set_cons_succ] at k3)
  have Lk3 := k3.later
  have Fk3 := k3.laterF
  have Qk3 := k3.lt
  go_wp2
  apply absPB1 (w0 := w) (g0 := w.heap.size + 3)
  iterate 2 (focus exact zL)
  try clear hb3
  try clear Lk3
  try clear Fk3
  try clear Qk3
  try clear hb0
  try clear k3
  intro wf hb0 k3
  (try simp only [List.setIfInBounds_toArray, List.set_cons_zero, List.set_cons_succ] at k3)
  have hr := k3.cell
  refine bodyPost_ret (v := .tuple #[vBx (movedS n b m (carried n.world b m)).1, .int .i64 (movedS n b m (carried n.world b m)).2]) (by simp [results, Tryz.results32, go_sem, hr]) rfl ⟨rfl, hb0⟩
end Go.Proofs.YtephimmamkafoaaGreat
namespace Go.Proofs.YtephimmamkafoaaGreat
open Go.RowKit Go.Shelf
attribute [local go_sem] bl_al bl_drew bl_drewN bl_refl bx_al bx_drew bx_drewN bx_refl
set_option maxRecDepth 20000
def insd (r : Rg) (lo hi : Int) : Bool := inR r.lo lo hi && inR r.hi lo hi
def depthErr (p d : Rg) : Int := fstE [unl (insd p 0 1000000 && insd d 1 2000) 2, unl (decide (p.lo ≤ p.hi) && decide (d.lo ≤ d.hi)) 9]
def depth (p d : Rg) : Rg := ⟨p.lo * 1000 / d.hi, (p.hi * 1000 + d.lo - 1) / d.lo⟩
def depthS (p d : Rg) : Rg × Int := if depthErr p d = 0 then (depth p d, 0) else (⟨0, 0⟩, depthErr p d)
set_option maxHeartbeats 1000000 in
theorem c_insd (r : Rg) (lo hi : Int) (w : World) : Calls Tryz.prog 84 #[vRg r, .int .i64 lo, .int .i64 hi] w (Ret (.bool (insd r lo hi)) w) := by
  unfold insd
  cases hA : inR r.lo lo hi
  all_goals
    replace hA := Lib.hid hA
    go_enter Tryz.func84, Tryz.ntmps84
    go_wp2_with (go_at_call 75; (with_reducible refine (c_within _ _ _ _).mono ?_); rintro e w3 ⟨rfl, rfl⟩; (try rw [hA.out]))
    go_ret
    exact ⟨by simp, by solve_by_elim (maxDepth := 60) only [bl_al, bl_drew, bl_drewN, bl_refl, *]⟩
set_option maxHeartbeats 4000000 in
theorem c_DepthIn (p d : Rg) (w : World) : Calls Tryz.prog 36 #[vRg p, vRg d] w (Ret (.tuple #[vRg (depthS p d).1, .int .i64 (depthS p d).2]) w) := by
  have hs1 : Hid (depthErr p d = 0 → depthS p d = (depth p d, 0)) := fun h => by simp [depthS, h]
  have hs2 : Hid (depthErr p d ≠ 0 → depthS p d = (⟨0, 0⟩, depthErr p d)) := fun h => by simp [depthS, h]
  have hdz : Hid (depthErr p d = 0 → (insd p 0 1000000 = true ∧ insd d 1 2000 = true)) := fun h => by
    unfold depthErr at h
    by_cases h1 : (insd p 0 1000000 && insd d 1 2000) = true
    · simpa using h1
    · simp [fstE, unl, h1] at h
  have hde : Hid (depthErr p d = fstE [unl (insd p 0 1000000 && insd d 1 2000) 2, unl (decide (p.lo ≤ p.hi) && decide (d.lo ≤ d.hi)) 9]) := rfl
  obtain ⟨bA, hA⟩ : ∃ b, insd p 0 1000000 = b := ⟨_, rfl⟩
  obtain ⟨bB, hB⟩ : ∃ b, decide (p.lo ≤ p.hi) = b := ⟨_, rfl⟩
  have hcp := Lib.hid fun W : World => hA ▸ c_insd p 0 1000000 W
  rw [hA, hB] at hde
  replace hA := Lib.hid hA
  cases bA
  all_goals cases bB
  all_goals
    replace hde : Hid (depthErr p d = _) := Lib.hid hde.out
    simp only [Bool.false_and, Bool.true_and] at hde
    go_enter Tryz.func36, Tryz.ntmps36
    go_wp2
    apply absB3 (w0 := w) (g0 := w.heap.size) (g1 := w.heap.size + 1) (g2 := w.heap.size + 2)
    iterate 4 (focus exact zL)
    try clear hb3
    try clear hb0
    try clear k0
    try clear k1
    try clear k2
    intro wb hb0 k0 k1 k2
    (try simp only [List.setIfInBounds_toArray, List.set_cons_zero, List.set_cons_succ] at k0 k1 k2)
    have Lk0 := k0.later
    have Fk0 := k0.laterF
    have Qk0 := k0.lt
    have Lk1 := k1.later
    have Fk1 := k1.laterF
    have Qk1 := k1.lt
    have Lk2 := k2.later
    have Fk2 := k2.laterF
    have Qk2 := k2.lt
    refine wp_any (w0 := wb) ⟨[], [], [some 8, some 9, some 10, some 11, some 12, some 13, some 14, some 15, some 16, some 17, some 18, some 19, some 20, some 21, some 22, some 23, some 24, some 25, some 26, some 27, some 28, some 29, some 30, some 31, some 7], [[], [], [0, 1], [0, 1, 2], [0, 1, 2, 3], [0, 1, 2, 3], [0, 1, 2, 3, 4, 5], [0, 1, 2, 3, 4, 5, 6], [0, 1, 2, 3, 4, 5, 6, 7], [], [9], [], [11], [9, 10, 11, 12], [0, 1, 2, 3, 4, 5, 6, 7, 8, 9, 10, 11, 12, 13], [0, 1, 2, 3, 4, 5, 6, 7, 8, 9, 10, 11, 12, 13, 14], [0, 1, 2, 3, 4, 5, 6, 7, 8, 9, 10, 11, 12, 13, 14, 15], [0, 1, 2, 3, 4, 5, 6, 7, 8, 9, 10, 11, 12, 13, 14], [0, 1, 2, 3, 4, 5, 6, 7, 8, 9, 10, 11, 12, 13, 14, 17], [0, 1, 2, 3, 4, 5, 6, 7, 8, 9, 10, 11, 12, 13, 14, 15, 16, 17, 18], [0, 1, 2, 3, 4, 5, 6, 7, 8, 9, 10, 11, 12, 13, 14, 15, 16, 17, 18, 19], [0, 1, 2, 3, 4, 5, 6, 7, 8, 9, 10, 11, 12, 13, 14, 15, 16, 17, 18, 19, 20], [0, 1, 2, 3, 4, 5, 6, 7, 8, 9, 10, 11, 12, 13, 14, 15, 16, 17, 18, 19, 20, 21], [0, 1, 2, 3, 4, 5, 6, 7, 8, 9, 10, 11, 12, 13, 14, 15, 16, 17, 18, 19, 20, 21, 22], [0, 1, 2, 3, 4, 5, 6, 7, 8, 9, 10, 11, 12, 13, 14, 15, 16, 17, 18, 19, 20, 21, 22, 23]], [[], [], [0, 1], [2], [3], [3], [3, 4, 5], [3, 6], [7], [], [9], [], [11], [10, 12], [13], [14], [14, 15], [14], [14, 17], [14, 16, 18], [14, 19], [20], [8, 21], [22], [22, 23]]⟩ (fun _ => []) (by kernel_rfl) (by kernel_rfl) (by (exact zE)) (fun u => by simp only [putD, Act.put, List.setIfInBounds_toArray, List.set_cons_zero, List.set_cons_succ, Nat.zero_add, Nat.reduceAdd]; rfl) ?_
    apply RGW.on (i := 0) rfl
    · exact zG
    · intro γ u W hcur hd
      clear hd
      (try dsimp only)
      exact ⟨rfl, zS⟩
    · exact zC
    · rfl
    dsimp only [nA, cA]
    apply RGW.on (i := 1) rfl
    · exact zG
    · intro γ u W hcur hd
      clear hd
      (try dsimp only)
      exact ⟨rfl, zS⟩
    · exact zC
    · rfl
    dsimp only [nA, cA]
    apply RGW.call (i := 2) rfl
    · exact zG
    · intro γ u W hcur hd
      obtain ⟨⟨h0, -, -⟩, ⟨h1, -, -⟩, -⟩ := hd
      dsimp only at h0 h1
      (try simp only [h0, h1])
      refine ⟨rfl, fun K hK => ?_⟩
      go_simp
      (go_at_call 84; (first | (with_reducible refine (hcp.out _).mono ?_) | (with_reducible refine (c_insd d 1 2000 _).mono ?_)); rintro e w3 ⟨rfl, hb3⟩; replace hb3 := bl_tt hb3)
      (try dsimp only)
      exact hK.out _ _ rfl (by (exact zE))
    · exact zC
    · rfl
    dsimp only [nA, cA]
    apply RGW.on (i := 3) rfl
    · exact zG
    · intro γ u W hcur hd
      obtain ⟨⟨h2, -, -⟩, -⟩ := hd
      dsimp only at h2
      (try simp only [h2])
      exact ⟨rfl, zS⟩
    · exact zC
    · rfl
    dsimp only [nA, cA]
    first
    | apply RGW.on (i := 4) rfl
      · exact zG
      · intro γ u W hcur hd
        obtain ⟨⟨h3, -, -⟩, -⟩ := hd
        dsimp only at h3
        (try simp only [h3])
        refine ⟨?_, ?_⟩
        · (simp [Region.wanted, yielded, undef, *]; done)
        exact zS
      · exact zC
      · rfl
    | apply RGW.off (i := 4) rfl
      · exact zG
      · intro γ u W hcur hd
        obtain ⟨⟨h3, -, -⟩, -⟩ := hd
        dsimp only at h3
        (try simp only [h3])
        simp [Region.wanted, yielded, undef, *]
      · rfl
    dsimp only [nA, cA]
    first
    | apply RGW.on (i := 5) rfl
      · exact zG
      · intro γ u W hcur hd
        obtain ⟨⟨h3, -, -⟩, -⟩ := hd
        dsimp only at h3
        (try simp only [h3])
        refine ⟨?_, ?_⟩
        · (simp [Region.wanted, yielded, undef, *]; done)
        exact zS
      · exact zC
      · rfl
    | apply RGW.off (i := 5) rfl
      · exact zG
      · intro γ u W hcur hd
        obtain ⟨⟨h3, -, -⟩, -⟩ := hd
        dsimp only at h3
        (try simp only [h3])
        simp [Region.wanted, yielded, undef, *]
      · rfl
    dsimp only [nA, cA]
    first
    | apply RGW.call (i := 6) rfl
      · exact zG
      · intro γ u W hcur hd
        obtain ⟨⟨h3, -, -⟩, ⟨h4, -, -⟩, ⟨h5, -, -⟩, -⟩ := hd
        dsimp only at h3 h4 h5
        (try simp only [h3, h4, h5])
        refine ⟨?_, fun K hK => ?_⟩
        · (simp [Region.wanted, yielded, undef, *]; done)
        go_simp
        (go_at_call 84; (first | (with_reducible refine (hcp.out _).mono ?_) | (with_reducible refine (c_insd d 1 2000 _).mono ?_)); rintro e w3 ⟨rfl, hb3⟩; replace hb3 := bl_tt hb3)
        (try dsimp only)
        exact hK.out _ _ rfl (by (exact zE))
      · exact zC
      · rfl
    | apply RGW.off (i := 6) rfl
      · exact zG
      · intro γ u W hcur hd
        obtain ⟨⟨h3, -, -⟩, ⟨h4, -, -⟩, ⟨h5, -, -⟩, -⟩ := hd
        dsimp only at h3 h4 h5
        (try simp only [h3, h4, h5])
        simp [Region.wanted, yielded, undef, *]
      · rfl
    dsimp only [nA, cA]
    apply RGW.on (i := 7) rfl
    · exact zG
    · intro γ u W hcur hd
      obtain ⟨⟨h3, -, -⟩, ⟨h6, -, -⟩, -⟩ := hd
      dsimp only at h3 h6
      (try simp only [h3, h6])
      exact ⟨rfl, zS⟩
    · exact zC
    · rfl
    dsimp only [nA, cA]
    apply RGW.call (i := 8) rfl
    · exact zG
    · intro γ u W hcur hd
      obtain ⟨⟨h7, -, -⟩, -⟩ := hd
      dsimp only at h7
      (try simp only [h7])
      refine ⟨rfl, fun K hK => ?_⟩
      go_simp
      (go_at_call 49; (with_reducible refine (c_unless _ _ _).mono ?_); rintro e w3 ⟨rfl, rfl⟩)
      (try dsimp only)
      exact hK.out _ _ rfl (by (exact zE))
    · exact zC
    · rfl
    dsimp only [nA, cA]
    apply RGW.on (i := 9) rfl
    · exact zG
    · intro γ u W hcur hd
      clear hd
      (try dsimp only)
      exact ⟨rfl, zS⟩
    · exact zC
    · rfl
    dsimp only [nA, cA]
    apply RGW.on (i := 10) rfl
    · exact zG
    · intro γ u W hcur hd
      obtain ⟨⟨h9, -, -⟩, -⟩ := hd
      dsimp only at h9
      (try simp only [h9])
      exact ⟨rfl, zS⟩
    · exact zC
    · rfl
    dsimp only [nA, cA]
    apply RGW.on (i := 11) rfl
    · exact zG
    · intro γ u W hcur hd
      clear hd
      (try dsimp only)
      exact ⟨rfl, zS⟩
    · exact zC
    · rfl
    dsimp only [nA, cA]
    apply RGW.on (i := 12) rfl
    · exact zG
    · intro γ u W hcur hd
      obtain ⟨⟨h11, -, -⟩, -⟩ := hd
      dsimp only at h11
      (try simp only [h11])
      exact ⟨rfl, zS⟩
    · exact zC
    · rfl
    dsimp only [nA, cA]
    apply RGW.on (i := 13) rfl
    · exact zG
    · intro γ u W hcur hd
      obtain ⟨⟨h10, -, -⟩, ⟨h12, -, -⟩, -⟩ := hd
      dsimp only at h10 h12
      (try simp only [h10, h12])
      exact ⟨rfl, zS⟩
    · exact zC
    · rfl
    dsimp only [nA, cA]
    apply RGW.on (i := 14) rfl
    · exact zG
    · intro γ u W hcur hd
      obtain ⟨⟨h13, -, -⟩, -⟩ := hd
      dsimp only at h13
      (try simp only [h13])
      exact ⟨rfl, zS⟩
    · exact zC
    · rfl
    dsimp only [nA, cA]
    first
    | apply RGW.on (i := 15) rfl
      · exact zG
      · intro γ u W hcur hd
        obtain ⟨⟨h14, -, -⟩, -⟩ := hd
        dsimp only at h14
        (try simp only [h14])
        refine ⟨?_, ?_⟩
        · (simp [Region.wanted, yielded, undef, *]; done)
        exact zS
      · exact zC
      · rfl
    | apply RGW.off (i := 15) rfl
      · exact zG
      · intro γ u W hcur hd
        obtain ⟨⟨h14, -, -⟩, -⟩ := hd
        dsimp only at h14
        (try simp only [h14])
        simp [Region.wanted, yielded, undef, *]
      · rfl
    dsimp only [nA, cA]
    first
    | apply RGW.on (i := 16) rfl
      · exact zG
      · intro γ u W hcur hd
        obtain ⟨⟨h14, -, -⟩, ⟨h15, -, -⟩, -⟩ := hd
        dsimp only at h14 h15
        (try simp only [h14, h15])
        refine ⟨?_, ?_⟩
        · (simp [Region.wanted, yielded, undef, *]; done)
        exact zS
      · exact zC
      · rfl
    | apply RGW.off (i := 16) rfl
      · exact zG
      · intro γ u W hcur hd
        obtain ⟨⟨h14, -, -⟩, ⟨h15, -, -⟩, -⟩ := hd
        dsimp only at h14 h15
        (try simp only [h14, h15])
        simp [Region.wanted, yielded, undef, *]
      · rfl
    dsimp only [nA, cA]
    first
    | apply RGW.on (i := 17) rfl
      · exact zG
      · intro γ u W hcur hd
        obtain ⟨⟨h14, -, -⟩, -⟩ := hd
        dsimp only at h14
        (try simp only [h14])
        refine ⟨?_, ?_⟩
        · (simp [Region.wanted, yielded, undef, *]; done)
        exact zS
      · exact zC
      · rfl
    | apply RGW.off (i := 17) rfl
      · exact zG
      · intro γ u W hcur hd
        obtain ⟨⟨h14, -, -⟩, -⟩ := hd
        dsimp only at h14
        (try simp only [h14])
        simp [Region.wanted, yielded, undef, *]
      · rfl
    dsimp only [nA, cA]
    first
    | apply RGW.on (i := 18) rfl
      · exact zG
      · intro γ u W hcur hd
        obtain ⟨⟨h14, -, -⟩, ⟨h17, -, -⟩, -⟩ := hd
        dsimp only at h14 h17
        (try simp only [h14, h17])
        refine ⟨?_, ?_⟩
        · (simp [Region.wanted, yielded, undef, *]; done)
        exact zS
      · exact zC
      · rfl
    | apply RGW.off (i := 18) rfl
      · exact zG
      · intro γ u W hcur hd
        obtain ⟨⟨h14, -, -⟩, ⟨h17, -, -⟩, -⟩ := hd
        dsimp only at h14 h17
        (try simp only [h14, h17])
        simp [Region.wanted, yielded, undef, *]
      · rfl
    dsimp only [nA, cA]
    first
    | apply RGW.on (i := 19) rfl
      · exact zG
      · intro γ u W hcur hd
        obtain ⟨⟨h14, -, -⟩, ⟨h16, -, -⟩, ⟨h18, -, -⟩, -⟩ := hd
        dsimp only at h14 h16 h18
        (try simp only [h14, h16, h18])
        refine ⟨?_, ?_⟩
        · (simp [Region.wanted, yielded, undef, *]; done)
        exact zS
      · exact zC
      · rfl
    | apply RGW.off (i := 19) rfl
      · exact zG
      · intro γ u W hcur hd
        obtain ⟨⟨h14, -, -⟩, ⟨h16, -, -⟩, ⟨h18, -, -⟩, -⟩ := hd
        dsimp only at h14 h16 h18
        (try simp only [h14, h16, h18])
        simp [Region.wanted, yielded, undef, *]
      · rfl
    dsimp only [nA, cA]
    apply RGW.on (i := 20) rfl
    · exact zG
    · intro γ u W hcur hd
      obtain ⟨⟨h14, -, -⟩, ⟨h19, -, -⟩, -⟩ := hd
      dsimp only at h14 h19
      (try simp only [h14, h19])
      exact ⟨rfl, zS⟩
    · exact zC
    · rfl
    dsimp only [nA, cA]
    apply RGW.call (i := 21) rfl
    · exact zG
    · intro γ u W hcur hd
      obtain ⟨⟨h20, -, -⟩, -⟩ := hd
      dsimp only at h20
      (try simp only [h20])
      refine ⟨rfl, fun K hK => ?_⟩
      go_simp
      (go_at_call 49; (with_reducible refine (c_unless _ _ _).mono ?_); rintro e w3 ⟨rfl, rfl⟩)
      (try dsimp only)
      exact hK.out _ _ rfl (by (exact zE))
    · exact zC
    · rfl
    dsimp only [nA, cA]
    apply RGW.bslice (i := 22) rfl
    · exact zG
    · intro γ u W hcur hd
      obtain ⟨⟨h8, -, -⟩, ⟨h21, -, -⟩, -⟩ := hd
      dsimp only at h8 h21
      (try simp only [h8, h21])
      refine ⟨rfl, fun K hK => ?_⟩
      go_simp
      exact hK.out _ _ rfl rfl
    · exact zC
    · rfl
    · rfl
    dsimp only [nA, cA]
    apply RGW.call (i := 23) rfl
    · exact zG
    · intro γ u W hcur hd
      obtain ⟨⟨h22, r22, -⟩, -⟩ := hd
      dsimp only at h22 r22
      have L22 := r22.cell
      (try simp only [h22])
      refine ⟨rfl, fun K hK => ?_⟩
      go_simp
      (go_at_call 48; (with_reducible refine (c_first2 (by assumption)).mono ?_); rintro e w3 ⟨rfl, rfl⟩)
      (try dsimp only)
      exact hK.out _ _ rfl (by (exact zE))
    · exact zC
    · rfl
    dsimp only [nA, cA]
    apply RGW.on (i := 24) rfl
    · exact zG
    · intro γ u W hcur hd
      obtain ⟨⟨h22, r22, -⟩, ⟨h23, -, -⟩, -⟩ := hd
      dsimp only at h22 h23 r22
      have L22 := r22.cell
      (try simp only [h22, h23])
      exact ⟨rfl, zS⟩
    · exact zC
    · rfl
    dsimp only [nA, cA]
    refine RGW.fin (fun γ u wc hwc hd hdis => ?_)
    obtain ⟨⟨h0, -, -⟩, ⟨h1, -, -⟩, ⟨h2, -, -⟩, ⟨h3, -, -⟩, ⟨h4, -, -⟩, ⟨h5, -, -⟩, ⟨h6, -, -⟩, ⟨h7, -, -⟩, ⟨h8, -, -⟩, ⟨h9, -, -⟩, ⟨h10, -, -⟩, ⟨h11, -, -⟩, ⟨h12, -, -⟩, ⟨h13, -, -⟩, ⟨h14, -, -⟩, ⟨h15, -, -⟩, ⟨h16, -, -⟩, ⟨h17, -, -⟩, ⟨h18, -, -⟩, ⟨h19, -, -⟩, ⟨h20, -, -⟩, ⟨h21, -, -⟩, ⟨h22, r22, b22⟩, ⟨h23, -, -⟩, ⟨h24, -, -⟩, -⟩ := hd
    dsimp only at h0 h1 h2 h3 h4 h5 h6 h7 h8 h9 h10 h11 h12 h13 h14 h15 h16 h17 h18 h19 h20 h21 h22 h23 h24 r22 b22
    clear hdis
    simp only [h0, h1, h2, h3, h4, h5, h6, h7, h8, h9, h10, h11, h12, h13, h14, h15, h16, h17, h18, h19, h20, h21, h22, h23, h24]
    clear h24 h23 h22 h21 h20 h19 h18 h17 h16 h15 h14 h13 h12 h11 h10 h9 h8 h7 h6 h5 h4 h3 h2 h1 h0
    replace b22 := b22 _ (List.mem_singleton.2 rfl)
    generalize hγ22 : (γ 22).n = g22 at *
    clear hγ22
    clear u
    simp only [List.map_nil]
    refine PlanW.done ?_
    have hb3 := bl_tt hwc
    apply absTB3 (w0 := w) (g0 := w.heap.size) (g1 := w.heap.size + 1) (g2 := w.heap.size + 2)
    iterate 4 (focus exact zL)
    try clear hb3
    try clear Lk0
    try clear Fk0
    try clear Qk0
    try clear Lk1
    try clear Fk1
    try clear Qk1
    try clear Lk2
    try clear Fk2
    try clear Qk2
    try clear hb0
    try clear k0
    try clear k1
    try clear k2
    intro wd hb0 k0 k1 k2
    (try simp only [List.setIfInBounds_toArray, List.set_cons_zero, List.set_cons_succ] at k0 k1 k2)
    have Lk0 := k0.later
    have Fk0 := k0.laterF
    have Qk0 := k0.lt
    have Lk1 := k1.later
    have Fk1 := k1.laterF
    have Qk1 := k1.lt
    have Lk2 := k2.later
    have Fk2 := k2.laterF
    have Qk2 := k2.lt
    rw [← hde.out]
    by_cases h0 : depthErr p d = 0
    · obtain ⟨i1, i2⟩ := hdz.out h0
      simp only [insd, Bool.and_eq_true, inR_iff] at i1 i2
      obtain ⟨⟨a1, a2⟩, a3, a4⟩ := i1
      obtain ⟨⟨c1, c2⟩, c3, c4⟩ := i2
      have d1 : d.hi ≠ 0 := by omega
      have d2 : d.lo ≠ 0 := by omega
      have h0' : (depthErr p d != 0) = false := by simp [h0]
      replace h0 := Lib.hid h0
      go_wp2
      refine wp_any (w0 := wd) ⟨[17, 18], [], [some 36, some 37, some 38, some 39, some 40, some 41, some 42, some 43, some 44, some 45, some 46, some 47, some 48, some 49, some 50, some 51, some 52, none, none], [[], [0], [0, 1], [], [3], [0, 1, 2, 3, 4], [], [6], [6, 7], [], [9], [6, 7, 8, 9, 10], [6, 7, 8, 9, 10, 11], [], [13], [6, 7, 8, 9, 10, 11, 12, 13, 14], [0, 1, 2, 3, 4, 5, 6, 7, 8, 9, 10, 11, 12, 13, 14, 15], [0, 1, 2, 3, 4, 5, 6, 7, 8, 9, 10, 11, 12, 13, 14, 15, 16], [0, 1, 2, 3, 4, 5, 6, 7, 8, 9, 10, 11, 12, 13, 14, 15, 16, 17]], [[], [0], [1], [], [3], [2, 4], [], [6], [7], [], [9], [8, 10], [11], [], [13], [12, 14], [5, 15], [], []]⟩ (fun _ => [w.heap.size + 2]) (by kernel_rfl) (by kernel_rfl) (by (exact zE)) (fun u => by simp only [putD, Act.put, List.setIfInBounds_toArray, List.set_cons_zero, List.set_cons_succ, Nat.zero_add, Nat.reduceAdd]; rfl) ?_
      apply RGW.on (i := 0) rfl
      · exact zG
      · intro γ u W hcur hd
        clear hd
        (try dsimp only)
        exact ⟨rfl, zS⟩
      · exact zC
      · rfl
      dsimp only [nA, cA]
      apply RGW.on (i := 1) rfl
      · exact zG
      · intro γ u W hcur hd
        obtain ⟨⟨h0, -, -⟩, -⟩ := hd
        dsimp only at h0
        (try simp only [h0])
        exact ⟨rfl, zS⟩
      · exact zC
      · rfl
      dsimp only [nA, cA]
      apply RGW.on (i := 2) rfl
      · exact zG
      · intro γ u W hcur hd
        obtain ⟨⟨h1, -, -⟩, -⟩ := hd
        dsimp only at h1
        (try simp only [h1])
        exact ⟨rfl, zS⟩
      · exact zC
      · rfl
      dsimp only [nA, cA]
      apply RGW.on (i := 3) rfl
      · exact zG
      · intro γ u W hcur hd
        clear hd
        (try dsimp only)
        exact ⟨rfl, zS⟩
      · exact zC
      · rfl
      dsimp only [nA, cA]
      apply RGW.on (i := 4) rfl
      · exact zG
      · intro γ u W hcur hd
        obtain ⟨⟨h3, -, -⟩, -⟩ := hd
        dsimp only at h3
        (try simp only [h3])
        exact ⟨rfl, zS⟩
      · exact zC
      · rfl
      dsimp only [nA, cA]
      apply RGW.on (i := 5) rfl
      · exact zG
      · intro γ u W hcur hd
        obtain ⟨⟨h2, -, -⟩, ⟨h4, -, -⟩, -⟩ := hd
        dsimp only at h2 h4
        (try simp only [h2, h4])
        exact ⟨rfl, zS⟩
      · exact zC
      · rfl
      dsimp only [nA, cA]
      apply RGW.on (i := 6) rfl
      · exact zG
      · intro γ u W hcur hd
        clear hd
        (try dsimp only)
        exact ⟨rfl, zS⟩
      · exact zC
      · rfl
      dsimp only [nA, cA]
      apply RGW.on (i := 7) rfl
      · exact zG
      · intro γ u W hcur hd
        obtain ⟨⟨h6, -, -⟩, -⟩ := hd
        dsimp only at h6
        (try simp only [h6])
        exact ⟨rfl, zS⟩
      · exact zC
      · rfl
      dsimp only [nA, cA]
      apply RGW.on (i := 8) rfl
      · exact zG
      · intro γ u W hcur hd
        obtain ⟨⟨h7, -, -⟩, -⟩ := hd
        dsimp only at h7
        (try simp only [h7])
        exact ⟨rfl, zS⟩
      · exact zC
      · rfl
      dsimp only [nA, cA]
      apply RGW.on (i := 9) rfl
      · exact zG
      · intro γ u W hcur hd
        clear hd
        (try dsimp only)
        exact ⟨rfl, zS⟩
      · exact zC
      · rfl
      dsimp only [nA, cA]
      apply RGW.on (i := 10) rfl
      · exact zG
      · intro γ u W hcur hd
        obtain ⟨⟨h9, -, -⟩, -⟩ := hd
        dsimp only at h9
        (try simp only [h9])
        exact ⟨rfl, zS⟩
      · exact zC
      · rfl
      dsimp only [nA, cA]
      apply RGW.on (i := 11) rfl
      · exact zG
      · intro γ u W hcur hd
        obtain ⟨⟨h8, -, -⟩, ⟨h10, -, -⟩, -⟩ := hd
        dsimp only at h8 h10
        (try simp only [h8, h10])
        exact ⟨rfl, zS⟩
      · exact zC
      · rfl
      dsimp only [nA, cA]
      apply RGW.on (i := 12) rfl
      · exact zG
      · intro γ u W hcur hd
        obtain ⟨⟨h11, -, -⟩, -⟩ := hd
        dsimp only at h11
        (try simp only [h11])
        exact ⟨rfl, zS⟩
      · exact zC
      · rfl
      dsimp only [nA, cA]
      apply RGW.on (i := 13) rfl
      · exact zG
      · intro γ u W hcur hd
        clear hd
        (try dsimp only)
        exact ⟨rfl, zS⟩
      · exact zC
      · rfl
      dsimp only [nA, cA]
      apply RGW.on (i := 14) rfl
      · exact zG
      · intro γ u W hcur hd
        obtain ⟨⟨h13, -, -⟩, -⟩ := hd
        dsimp only at h13
        (try simp only [h13])
        exact ⟨rfl, zS⟩
      · exact zC
      · rfl
      dsimp only [nA, cA]
      apply RGW.on (i := 15) rfl
      · exact zG
      · intro γ u W hcur hd
        obtain ⟨⟨h12, -, -⟩, ⟨h14, -, -⟩, -⟩ := hd
        dsimp only at h12 h14
        (try simp only [h12, h14])
        exact ⟨rfl, zS⟩
      · exact zC
      · rfl
      dsimp only [nA, cA]
      apply RGW.on (i := 16) rfl
      · exact zG
      · intro γ u W hcur hd
        obtain ⟨⟨h5, -, -⟩, ⟨h15, -, -⟩, -⟩ := hd
        dsimp only at h5 h15
        (try simp only [h5, h15])
        exact ⟨rfl, zS⟩
      · exact zC
      · rfl
      dsimp only [nA, cA]
      refine RGW.skip (i := 17) rfl rfl ?_
      dsimp only [nA, cA]
      refine RGW.skip (i := 18) rfl rfl ?_
      dsimp only [nA, cA]
      refine RGW.fin (fun γ u we hwe hd hdis => ?_)
      obtain ⟨⟨h0, -, -⟩, ⟨h1, -, -⟩, ⟨h2, -, -⟩, ⟨h3, -, -⟩, ⟨h4, -, -⟩, ⟨h5, -, -⟩, ⟨h6, -, -⟩, ⟨h7, -, -⟩, ⟨h8, -, -⟩, ⟨h9, -, -⟩, ⟨h10, -, -⟩, ⟨h11, -, -⟩, ⟨h12, -, -⟩, ⟨h13, -, -⟩, ⟨h14, -, -⟩, ⟨h15, -, -⟩, ⟨h16, -, -⟩, -⟩ := hd
      dsimp only at h0 h1 h2 h3 h4 h5 h6 h7 h8 h9 h10 h11 h12 h13 h14 h15 h16
      clear hdis
      simp only [h0, h1, h2, h3, h4, h5, h6, h7, h8, h9, h10, h11, h12, h13, h14, h15, h16]
      clear h16 h15 h14 h13 h12 h11 h10 h9 h8 h7 h6 h5 h4 h3 h2 h1 h0
      clear u
      simp only [List.map_cons, List.map_nil]
      apply PlanW.step
      · exact zG
      · rfl
      intro K hK
      refine wp_store_keep (X := [w.heap.size + 2]) (w0 := we) rfl rfl rfl (by with_reducible first | exact bx_refl _ _ | assumption) (by with_reducible first | assumption | (apply Blk.below (hb := hwe); assumption)) (by simp) (by kernel_rfl) (by rfl) (by simp [Value.oneCell']) (fun hres1 hcur => ?_)
      refine hK.out _ _ hcur (fun _ => ?_)
      clear hK K
      try simp only [Act.put, List.setIfInBounds_toArray, List.set_cons_zero, List.set_cons_succ]
      apply PlanW.step
      · exact zG
      · rfl
      intro K hK
      go_simp
      refine hK.out _ _ (by (exact zX)) (fun hcur => ?_)
      clear hK K
      try simp only [Act.put, List.setIfInBounds_toArray, List.set_cons_zero, List.set_cons_succ]
      refine PlanW.done ?_
      have hb3 := bl_tt hwe
      have hr := hres1.cell
      have hb1 := hb3 _ hb0
      go_wp2
      refine bodyPost_ret (v := .tuple #[vRg (depthS p d).1, .int .i64 (depthS p d).2]) (by rw [hs1.out h0.out]; simp [results, Tryz.results36, go_sem, hr, depth]) rfl ⟨rfl, ?_⟩
      exact hcur.below (by simp) hb1
    · have h0' : (depthErr p d != 0) = true := by simp [h0]
      replace h0 := Lib.hid h0
      go_wp2
      apply absPB3 (w0 := w) (g0 := w.heap.size) (g1 := w.heap.size + 1) (g2 := w.heap.size + 2)
      iterate 4 (focus exact zL)
      try clear hb3
      try clear Lk0
      try clear Fk0
      try clear Qk0
      try clear Lk1
      try clear Fk1
      try clear Qk1
      try clear Lk2
      try clear Fk2
      try clear Qk2
      try clear hb0
      try clear k0
      try clear k1
      try clear k2
      intro wf hb0 k0 k1 k2
      (try simp only [List.setIfInBounds_toArray, List.set_cons_zero, List.set_cons_succ] at k0 k1 k2)
      have hr := k2.cell
      refine bodyPost_ret (v := .tuple #[vRg (depthS p d).1, .int .i64 (depthS p d).2]) (by rw [hs2.out h0.out]; simp [results, Tryz.results36, go_sem, hr]) rfl ⟨rfl, hb0⟩
end Go.Proofs.YtephimmamkafoaaGreat
namespace Go.Proofs.YtephimmamkafoaaGreat
open Go.RowKit
def net0 : Nt := ⟨⟨⟨-10, 10⟩, ⟨-10, 10⟩, ⟨0, 20⟩⟩, [⟨⟨#[97]⟩, ⟨0, 0, 0⟩⟩, ⟨⟨#[98]⟩, ⟨6, 0, 0⟩⟩]⟩
def start0 : Bx := ⟨⟨0, 4⟩, ⟨0, 0⟩, ⟨3, 3⟩⟩
def move0 : Mv := ⟨2, ⟨⟨1, 3⟩, ⟨0, 1⟩, ⟨-1, 0⟩⟩⟩
def field0 : Bx := ⟨⟨0, 6⟩, ⟨0, 0⟩, ⟨0, 4⟩⟩
def reads0 : List Rd := [⟨0, 0, ⟨5, 5⟩⟩, ⟨0, 1, ⟨5, 5⟩⟩, ⟨1, 2, ⟨0, 1⟩⟩]
def asks0 : List Rd := [⟨0, 1, ⟨3, 7⟩⟩, ⟨0, 1, ⟨1, 3⟩⟩, ⟨1, 0, ⟨4, 9⟩⟩]
def ivN : Nat → Int → List Int
  | 0, _ => []
  | n + 1, lo => lo :: ivN n (lo + 1)
theorem iv_eq : ∀ (n : Nat) (lo hi : Int), (hi + 1 - lo).toNat = n → iv lo hi = ivN n lo
  | 0, lo, hi, h => by rw [iv_nil (by omega)]; rfl
  | n + 1, lo, hi, h => by rw [iv_cons (by omega), iv_eq n (lo + 1) hi (by omega)]; rfl
def ptsN (b : Bx) : List Pl := (ivN (b.x.hi + 1 - b.x.lo).toNat b.x.lo).flatMap fun x => (ivN (b.y.hi + 1 - b.y.lo).toNat b.y.lo).flatMap fun y => (ivN (b.z.hi + 1 - b.z.lo).toNat b.z.lo).map fun z => ⟨x, y, z⟩
theorem pts_eq (b : Bx) : b.pts = ptsN b := by
  unfold Bx.pts R1 R2 R3 ptsN
  rw [iv_eq _ b.x.lo b.x.hi rfl, iv_eq _ b.y.lo b.y.hi rfl, iv_eq _ b.z.lo b.z.hi rfl]
theorem ev_carried : movedS net0 start0 move0 (carried net0.world start0 move0) = (⟨⟨2, 10⟩, ⟨0, 2⟩, ⟨1, 3⟩⟩, 0) := by decide +kernel
theorem ev_depth : depthS ⟨10, 11⟩ ⟨1000, 1100⟩ = (⟨9, 11⟩, 0) := by decide +kernel
theorem ev_wrong : wrongS net0 field0 reads0 = ([0], ⟨1, 0, 0⟩, 0) := by
  unfold wrongS wrongBest
  rw [pts_eq]
  decide +kernel
theorem ev_voted : votedS net0 field0 ⟨reads0, 1⟩ = (⟨⟨1, 5⟩, ⟨0, 0⟩, ⟨0, 4⟩⟩, 3, 0) := by
  unfold votedS votesB
  rw [pts_eq]
  decide +kernel
theorem ev_ans : ansS net0 start0 asks0 = [2, 0, 1] ∧ wrongE net0 start0 asks0 = 0 := by decide +kernel
end Go.Proofs.YtephimmamkafoaaGreat
