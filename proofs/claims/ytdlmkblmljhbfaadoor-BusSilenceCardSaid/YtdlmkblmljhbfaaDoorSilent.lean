/-
  Walk: the ranges of silence, by the reference.
-/
import Derived.Test.YtdlmkblmljhbfaaDoorHeard
namespace Go.Proofs.YtdlmkblmljhbfaaDoor
set_option linter.unusedSimpArgs false
set_option linter.unusedVariables false
open Go.RowKit Go.Shelf
attribute [local go_sem] bl_al bl_drew bl_drewN bl_refl bx_al bx_drew bx_drewN bx_refl
set_option maxRecDepth 20000
def rAcc (l : List Int) (t lo hi : Int) (k : Nat) : List Rg := if k ≤ l.length then accK l t lo hi k else silS l ⟨lo, hi⟩ t
def rFr (l : List Int) (t lo : Int) (k : Nat) : Int := if k ≤ l.length then frK l t lo k else frK l t lo l.length
theorem rAcc_step {l : List Int} {t lo hi : Int} {k : Nat} {x : Int} (hx : l[k]? = some x) : rAcc l t lo hi (k + 1) = rAcc l t lo hi k ++ silOne (rFr l t lo k) (x - 1) hi ∧ rFr l t lo (k + 1) = max (rFr l t lo k) (x + t + 1) := by
  have hk := (List.getElem?_eq_some_iff.1 hx).1
  unfold rAcc rFr
  rw [if_pos (by omega), if_pos (by omega), if_pos (by omega), if_pos (by omega), accK, frK]
  have : l.getD k 0 = x := by simp [List.getD, hx]
  rw [this]
  exact ⟨rfl, rfl⟩
theorem rAcc_end (l : List Int) (t lo hi : Int) : rAcc l t lo hi (l.length + 1) = rAcc l t lo hi l.length ++ silOne (rFr l t lo l.length) hi hi ∧ rFr l t lo (l.length + 1) = rFr l t lo l.length := by
  have h1 : ¬ l.length + 1 ≤ l.length := by omega
  simp only [rAcc, rFr, if_neg h1, Nat.le_refl, if_true, silS, sil_end, and_self]
theorem rAcc_len (l : List Int) (t lo hi : Int) (k : Nat) (hk : k ≤ l.length + 1) : (rAcc l t lo hi k).length ≤ l.length + 1 := by
  unfold rAcc
  split
  · have := accK_len l t lo hi k
    omega
  · exact silFrom_len hi t l lo
set_option maxHeartbeats 8000000 in
theorem r_Silent (l : List Int) (lo hi t : Int) (A : Option Addr) (c : Nat) (w : World) (hs : Sl cI 1 w A l) (hl : l.length ≤ 60) (hb : ∀ n ∈ l, 0 ≤ n ∧ n ≤ 1000000000000) (ht : 0 ≤ t ∧ t ≤ 1000000000000)
    (h0 : 0 ≤ lo ∧ lo ≤ 1000000000000) (h1 : 0 ≤ hi ∧ hi ≤ 1000000000000) :
    Calls Tryd.prog 20 #[.slice A l.length c, vRg ⟨lo, hi⟩, .int .i64 t] w (RetC cRg 24 2 (silS l ⟨lo, hi⟩ t) w) := by
  obtain ⟨i0, hi0, hz0, hz1, hz2⟩ := info_parts infoR
  have Hs := Lib.hid hs
  have hbd := Lib.hid fun k x (hx : l[k]? = some x) => hb x (List.mem_of_getElem? hx)
  have hst := Lib.hid fun k x (hx : l[k]? = some x) => rAcc_step (t := t) (lo := lo) (hi := hi) hx
  have hen := Lib.hid (rAcc_end l t lo hi)
  have hfin : Hid (rAcc l t lo hi (l.length + 1) = silS l ⟨lo, hi⟩ t) := Lib.hid (by unfold rAcc; rw [if_neg (by omega)])
  have hz : Hid (rAcc l t lo hi 0 = [] ∧ rFr l t lo 0 = lo) := ⟨rfl, rfl⟩
  have hfr := Lib.hid fun k => (show 0 ≤ rFr l t lo k ∧ rFr l t lo k ≤ 3000000000000 by
    unfold rFr
    split
    · exact frK_bd hb ht h0 k (by omega)
    · exact frK_bd hb ht h0 _ (Nat.le_refl _))
  have hal := Lib.hid fun k hk => rAcc_len l t lo hi k hk
  clear hs hb
  obtain ⟨g, hg⟩ : ∃ g : Nat → List Rg, rAcc l t lo hi = g := ⟨_, rfl⟩
  obtain ⟨fr, hf⟩ : ∃ fr : Nat → Int, rFr l t lo = fr := ⟨_, rfl⟩
  rw [hg] at hst hen hfin hz hal
  rw [hf] at hst hen hz hfr
  rw [← hfin.out]
  clear hg hf hfin
  obtain ⟨n, Hn⟩ : ∃ n, Hid (l.length = n) := ⟨_, rfl⟩
  rw [Hn.out] at hl hen hal ⊢
  go_enter Tryd.func20, Tryd.ntmps20
  go_upto_region 4 with fail
  first
  | apply absB1 (w0 := w) (g0 := w.heap.size)
  | apply absTB1 (w0 := w) (g0 := w.heap.size)
  | apply absIB1 (w0 := w) (g0 := w.heap.size)
  iterate 2 (focus ((with_reducible (repeat' (first | assumption | apply jA | apply jB | apply jC | apply jD | apply jE | apply jF | apply hb3 | apply jG | apply jH | apply jI | apply jJ | apply jK | apply hb3x | (apply jL; first | (simp; done) | rfl) | apply jM | apply jN | apply jO | apply jP | apply jQ | apply jR | apply jS | apply jT (hb := hb3 _ (jA _)) | omega | (simp; done) | (simp; omega) | (dsimp only; omega)))); done))
  intro wa hb0' k0'
  (try simp only [List.setIfInBounds_toArray, List.set_cons_zero, List.set_cons_succ] at k0')
  try clear hb3
  try clear hb0
  try clear k0
  have hb0 := hb0'; clear hb0'
  have k0 := k0'; clear k0'
  go_loopw [7, 8, 9] (fun o f i wr => ∃ k : Nat, k ≤ n + 1 ∧ i = .int .i64 k ∧ f = .int .i64 (fr k) ∧ Below w.heap.size w wr ∧ Blk wr w.heap.size 24 #[.int .i64 lo, .int .i64 hi] ∧ wr.ownsRow (w.heap.size + 1) 24 2 o (g k).length ((g k).flatMap cRg)) (fun _ _ i _ => n + 1 - (intOf i).toNat)
  case atStart => exact ⟨0, Nat.zero_le _, rfl, by rw [hz.out.2], hb0, k0, by rw [hz.out.1]; exact World.ownsRow_nil _ _ _ _⟩
  case round =>
    clear hb0 k0 hz
    obtain ⟨k, hk, rfl, rfl, hbw, k0, ho⟩ := hrel
    replace ho := Lib.hid ho
    have hfk := hfr.out k
    by_cases hkn : k < n
    · have hx : l[k]? = some (l[k]'(by rw [Hn.out]; exact hkn)) := List.getElem?_eq_getElem _
      generalize l[k]'(by rw [Hn.out]; exact hkn) = x at hx
      have hxb := hbd.out k x hx
      have hs2 := Lib.hid (hst.out k x hx)
      obtain ⟨b, off, rfl, hc⟩ := Hs.out k x hx
      have c0 : wr.cell? ⟨b, off + k, none⟩ = some (.int .i64 x) := by have := kcell hbw (hc 0 _ rfl); simpa using this
      have L0 := k0.cell
      clear hx
      by_cases hfm : fr k ≤ min hi (x - 1)
      · generalize hfk2 : fr k = fk at *
        have hrow : Hid (g (k + 1) = g k ++ [⟨fk, min hi (x - 1)⟩]) := Lib.hid (by rw [hs2.out.1, silOne, if_pos (by omega)]; congr 3; omega)
        have hlen := hal.out k (by omega)
        have hkl := k0.lt
        generalize g k = acc at *
        go_wp2_with (at_builtin; refine wpList_append_own _ rfl _ _ 27 rfl (w.heap.size + 1) 24 i0 (.agg #[.int .i64 0, .int .i64 0]) 2 16 Tryd.underlying27 hi0 hz0 hz1 hz2 rfl (by decide) _ acc.length _ rfl (ho.out.alloc _) ⟨wr.heap.size, 0, none⟩ 1 1 [.int .i64 (fk), .int .i64 (min hi (x - 1))] rfl rfl ?c1 ?c2 ?c3 ?c4 ?c5 ?_)
        case c1 =>
          intro j u hj
          match j, hj with
          | 0, hj => simp at hj; subst hj; simp [Addr.add]
          | 1, hj => simp at hj; subst hj; simp [Addr.add]
        case c2 => intro u hu; simp at hu; rcases hu with rfl | rfl <;> rfl
        case c3 => unfold maxLen; omega
        case c4 => omega
        case c5 => simp; omega
        intro v' w1 hown' hgrow _
        have k1 := (k0.alloc (.cells #[.int .i64 (fk), .int .i64 (min hi (x - 1))] 24)).grown hgrow (ne_own ho.out (by omega))
        have hb1 : Below w.heap.size w w1 := (bl_al _ hbw).grown hgrow (by simp; omega) (fun k hk => by have := own_ge ho.out k hk; omega)
        have hown2 : w1.ownsRow (w.heap.size + 1) 24 2 v' (g (k + 1)).length ((g (k + 1)).flatMap cRg) := by
          rw [hrow.out]
          simpa [cRg] using hown'
        clear hown' hgrow ho k0 hrow
        have hf2 : Hid (fr (k + 1) = max fk (x + t + 1)) := Lib.hid hs2.out.2
        have c0' : w1.cell? ⟨b, off + k, none⟩ = some (.int .i64 x) := by have := kcell hb1 (hc 0 _ rfl); simpa using this
        clear c0 L0
        go_wp2
        go_roundw
        case rel => exact ⟨k + 1, by omega, by go_num, by rw [hf2.out], hb1, k1, hown2⟩
        case measure => simp [intOf] <;> omega
      · have hno : Hid (g (k + 1) = g k) := Lib.hid (by rw [hs2.out.1, silOne, if_neg (by omega), List.append_nil])
        have hf2 : Hid (fr (k + 1) = max (fr k) (x + t + 1)) := Lib.hid hs2.out.2
        generalize fr k = fk at *
        go_wp2
        go_roundw
        case rel => exact ⟨k + 1, by omega, by go_num, by rw [hf2.out], hbw, k0, by rw [hno.out]; exact ho.out⟩
        case measure => simp [intOf] <;> omega
    · by_cases hkn2 : k = n
      · subst hkn2
        have L0 := k0.cell
        have hf2 : Hid (fr (k + 1) = fr k) := Lib.hid hen.out.2
        have hs2 : Hid (g (k + 1) = g k ++ silOne (fr k) hi hi) := Lib.hid hen.out.1
        by_cases hfm : fr k ≤ hi
        · generalize fr k = fk at *
          have hrow : Hid (g (k + 1) = g k ++ [⟨fk, hi⟩]) := Lib.hid (by rw [hs2.out, silOne, if_pos (by omega)]; congr 3; omega)
          have hlen := hal.out k (by omega)
          have hkl := k0.lt
          generalize g k = acc at *
          go_wp2_with (at_builtin; refine wpList_append_own _ rfl _ _ 27 rfl (w.heap.size + 1) 24 i0 (.agg #[.int .i64 0, .int .i64 0]) 2 16 Tryd.underlying27 hi0 hz0 hz1 hz2 rfl (by decide) _ acc.length _ rfl (ho.out.alloc _) ⟨wr.heap.size, 0, none⟩ 1 1 [.int .i64 (fk), .int .i64 (hi)] rfl rfl ?c1 ?c2 ?c3 ?c4 ?c5 ?_)
          case c1 =>
            intro j u hj
            match j, hj with
            | 0, hj => simp at hj; subst hj; simp [Addr.add]
            | 1, hj => simp at hj; subst hj; simp [Addr.add]
          case c2 => intro u hu; simp at hu; rcases hu with rfl | rfl <;> rfl
          case c3 => unfold maxLen; omega
          case c4 => omega
          case c5 => simp; omega
          intro v' w1 hown' hgrow _
          have k1 := (k0.alloc (.cells #[.int .i64 (fk), .int .i64 (hi)] 24)).grown hgrow (ne_own ho.out (by omega))
          have hb1 : Below w.heap.size w w1 := (bl_al _ hbw).grown hgrow (by simp; omega) (fun k hk => by have := own_ge ho.out k hk; omega)
          have hown2 : w1.ownsRow (w.heap.size + 1) 24 2 v' (g (k + 1)).length ((g (k + 1)).flatMap cRg) := by
            rw [hrow.out]
            simpa [cRg] using hown'
          clear hown' hgrow ho k0 hrow
          clear L0
          go_wp2
          go_roundw
          case rel => exact ⟨k + 1, by omega, by go_num, by rw [hf2.out], hb1, k1, hown2⟩
          case measure => simp [intOf] <;> omega
        · have hno : Hid (g (k + 1) = g k) := Lib.hid (by rw [hs2.out, silOne, if_neg (by omega), List.append_nil])
          generalize fr k = fk at *
          go_wp2
          go_roundw
          case rel => exact ⟨k + 1, by omega, by go_num, by rw [hf2.out], hbw, k0, by rw [hno.out]; exact ho.out⟩
          case measure => simp [intOf] <;> omega
      · have e : k = n + 1 := by omega
        subst e
        obtain ⟨A', c', e2⟩ := own_slice ho.out
        subst e2
        go_wp2
        go_ret
        exact ⟨A', c', rfl, hbw, own_mono (by omega) ho.out⟩
end Go.Proofs.YtdlmkblmljhbfaaDoor
