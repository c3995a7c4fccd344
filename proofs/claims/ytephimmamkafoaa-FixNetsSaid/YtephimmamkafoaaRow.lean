/-
  How the laws' arguments read: nets, boxes, readings, positions.
-/
import Derived.Test.YtephimmamkafoaaRows
import Derived.Test.YtephimmamkafoaaNet
import Derived.Test.YtephimmamkafoaaWrong
import Derived.Test.YtephimmamkafoaaCopy
import Derived.ProofKit
import Derived.Deep.Slices
import Derived.OpenShut
import Derived.ChangeOld
namespace Go.Proofs.Ytephimmamkafoaa
set_option linter.unusedSimpArgs false
set_option linter.unusedVariables false
open Go.ChangeShapes Go.WideShapes Go.ChangeAt Go.RowKit Go.Deep
set_option maxRecDepth 20000
theorem len1 {α : Type} {l : List α} (h : l.length = 1) : ∃ a, l = [a] := by
  match l, h with
  | [a], _ => exact ⟨a, rfl⟩
theorem len2 {α : Type} {l : List α} (h : l.length = 2) : ∃ a b, l = [a, b] := by
  match l, h with
  | [a, b], _ => exact ⟨a, b, rfl⟩
theorem len3 {α : Type} {l : List α} (h : l.length = 3) : ∃ a b c, l = [a, b, c] := by
  match l, h with
  | [a, b, c], _ => exact ⟨a, b, c, rfl⟩
theorem len4 {α : Type} {l : List α} (h : l.length = 4) : ∃ a b c d, l = [a, b, c, d] := by
  match l, h with
  | [a, b, c, d], _ => exact ⟨a, b, c, d, rfl⟩
theorem len6 {α : Type} {l : List α} (h : l.length = 6) : ∃ a b c d e f, l = [a, b, c, d, e, f] := by
  match l, h with
  | [a, b, c, d, e, f], _ => exact ⟨a, b, c, d, e, f, rfl⟩
theorem len7 {α : Type} {l : List α} (h : l.length = 7) : ∃ a b c d e f g, l = [a, b, c, d, e, f, g] := by
  match l, h with
  | [a, b, c, d, e, f, g], _ => exact ⟨a, b, c, d, e, f, g, rfl⟩
section
variable {H : Type} {enc : TypeId × Value → H} {w : World} {base : Nat} {spare : Nat → Bool} {held : Bool} {fuel : Nat} {cs : List Value} {y : DataW H × List MemPlace}
theorem ci : Try.prog.cellsOf 3 = 1 := by kernel_rfl
theorem cS : Try.prog.cellsOf 9 = 1 := by kernel_rfl
theorem cRg2 : Try.prog.cellsOf 23 = 2 := by kernel_rfl
theorem cBx6 : Try.prog.cellsOf 25 = 6 := by kernel_rfl
theorem cPl3 : Try.prog.cellsOf 62 = 3 := by kernel_rfl
theorem cBc4 : Try.prog.cellsOf 99 = 4 := by kernel_rfl
theorem cNt7 : Try.prog.cellsOf 28 = 7 := by kernel_rfl
theorem cBcs : Try.prog.cellsOf 26 = 1 := by kernel_rfl
theorem cR2 : Try.prog.cellsOf 29 = 4 := by kernel_rfl
theorem rd_int (h : DataW.trod enc Try.prog w base spare held fuel 3 cs = some y) : ∃ x, cs = [.int .i64 x] := by
  obtain ⟨x, e, -⟩ := DataW.trod_int Try.underlying3 h
  exact ⟨x, e⟩
theorem rd_Rg (h : DataW.trod enc Try.prog w base spare held fuel 23 cs = some y) : ∃ r : Rg, cs = cRg r := by
  obtain ⟨xs, n, -, -, hl, hlen, hf⟩ := DataW.trod_struct Try.underlying23 h
  rw [cRg2] at hl
  obtain ⟨c0, c1, rfl⟩ := len2 hl
  obtain ⟨x0, x1, rfl⟩ := len2 (show xs.length = 2 from hlen)
  have h0 := hf 0 _ rfl
  have h1 := hf 1 _ rfl
  simp [ci] at h0 h1
  obtain ⟨a, e0⟩ := rd_int h0
  obtain ⟨b, e1⟩ := rd_int h1
  simp at e0 e1
  exact ⟨⟨a, b⟩, by rw [e0, e1]; rfl⟩
theorem rd_Pl (h : DataW.trod enc Try.prog w base spare held fuel 62 cs = some y) : ∃ p : Pl, cs = [.int .i64 p.x, .int .i64 p.y, .int .i64 p.z] := by
  obtain ⟨xs, n, -, -, hl, hlen, hf⟩ := DataW.trod_struct Try.underlying62 h
  rw [cPl3] at hl
  obtain ⟨c0, c1, c2, rfl⟩ := len3 hl
  obtain ⟨x0, x1, x2, rfl⟩ := len3 (show xs.length = 3 from hlen)
  have h0 := hf 0 _ rfl
  have h1 := hf 1 _ rfl
  have h2 := hf 2 _ rfl
  simp [ci] at h0 h1 h2
  obtain ⟨a, e0⟩ := rd_int h0
  obtain ⟨b, e1⟩ := rd_int h1
  obtain ⟨c, e2⟩ := rd_int h2
  simp at e0 e1 e2
  exact ⟨⟨a, b, c⟩, by rw [e0, e1, e2]⟩
theorem rd_Bx (h : DataW.trod enc Try.prog w base spare held fuel 25 cs = some y) : ∃ b : Bx, cs = (aBx b).toList := by
  obtain ⟨xs, n, -, -, hl, hlen, hf⟩ := DataW.trod_struct Try.underlying25 h
  rw [cBx6] at hl
  obtain ⟨c0, c1, c2, c3, c4, c5, rfl⟩ := len6 hl
  obtain ⟨x0, x1, x2, rfl⟩ := len3 (show xs.length = 3 from hlen)
  have h0 := hf 0 _ rfl
  have h1 := hf 1 _ rfl
  have h2 := hf 2 _ rfl
  simp [cRg2] at h0 h1 h2
  obtain ⟨a, e0⟩ := rd_Rg h0
  obtain ⟨b, e1⟩ := rd_Rg h1
  obtain ⟨c, e2⟩ := rd_Rg h2
  simp [cRg] at e0 e1 e2
  exact ⟨⟨a, b, c⟩, by rw [e0.1, e0.2, e1.1, e1.2, e2.1, e2.2]⟩
theorem rd_Bc (h : DataW.trod enc Try.prog w base spare held fuel 99 cs = some y) : ∃ b : Bc, cs = cBc b ∧ b.name.size ≤ maxLen := by
  obtain ⟨xs, n, -, -, hl, hlen, hf⟩ := DataW.trod_struct Try.underlying99 h
  rw [cBc4] at hl
  obtain ⟨c0, c1, c2, c3, rfl⟩ := len4 hl
  obtain ⟨x0, x1, rfl⟩ := len2 (show xs.length = 2 from hlen)
  have h0 := hf 0 _ rfl
  have h1 := hf 1 _ rfl
  simp [cS, cPl3] at h0 h1
  obtain ⟨s, e0, -, hs⟩ := DataW.trod_string Try.underlying9 h0
  obtain ⟨p, e1⟩ := rd_Pl h1
  simp at e0 e1
  exact ⟨⟨s, p⟩, by rw [e0, e1.1, e1.2.1, e1.2.2]; rfl, hs⟩
theorem choose_list {α : Type} {p : Nat → α → Prop} : ∀ n, (∀ i, i < n → ∃ x, p i x) → ∃ l : List α, l.length = n ∧ ∀ (i : Nat) (x : α), l[i]? = some x → p i x
  | 0, _ => ⟨[], rfl, fun i x h => by simp at h⟩
  | n + 1, h => by
    obtain ⟨l, h1, h2⟩ := choose_list n fun i hi => h i (by omega)
    obtain ⟨x, hx⟩ := h n (by omega)
    refine ⟨l ++ [x], by simp [h1], fun i y hy => ?_⟩
    rw [List.getElem?_append] at hy
    split at hy
    · exact h2 i y hy
    · rename_i hi
      have : i = n := by
        have := (List.getElem?_eq_some_iff.1 hy).1
        simp at this
        omega
      subst this
      simp [h1] at hy
      exact hy ▸ hx
/-- A slice that came in, of elements that are so many cells each. -/
theorem rd_slice {α : Type} {c : α → List Value} {ok : α → Prop} {t e sz : Nat} (hu : Try.prog.underlying t = some (.slice e)) (hsz : Try.prog.cellsOf e = sz) (h0 : 0 < sz) (hcl : ∀ x, (c x).length = sz)
    (hr : ∀ (n : Nat) (cs' : List Value) (z : DataW H × List MemPlace), DataW.trod enc Try.prog w base spare held n e cs' = some z → ∃ x, cs' = c x ∧ ok x)
    (h : DataW.trod enc Try.prog w base spare held fuel t cs = some y) : ∃ A cap, ∃ l : List α, cs = [.slice A l.length cap] ∧ l.length ≤ cap ∧ cap ≤ maxLen ∧ Sl c sz w A l ∧ ∀ x ∈ l, ok x := by
  rcases open_slice hu h with ⟨rfl, -⟩ | ⟨a, len, cap, m, n, D, Pl, rfl, -, hlc, hcm, hm, -, hel⟩
  · exact ⟨none, 0, [], rfl, Nat.le_refl _, Nat.zero_le _, Sl.nil, fun x hx => by cases hx⟩
  · have hlm : len ≤ m := by rw [hm]; split <;> omega
    obtain ⟨l, hl, hx⟩ := choose_list (p := fun i x => w.cells? base (a.add (i * sz)) sz = some (c x) ∧ ok x) len fun i hi => by
      obtain ⟨cs', h1, h2⟩ := hel i (by omega)
      obtain ⟨x, rfl, hk⟩ := hr _ _ _ h2
      rw [hsz] at h1
      exact ⟨x, h1, hk⟩
    refine ⟨some a, cap, l, by rw [hl], by omega, hcm, fun k x hk => ?_, fun x hm => ?_⟩
    · obtain ⟨h1, -⟩ := hx k x hk
      obtain ⟨-, -, h2⟩ := World.cells?_some h1
      have hcell : ∀ j v, (c x)[j]? = some v → w.cell? ((a.add (k * sz)).add j) = some v := fun j v hv => by
        have hj := (List.getElem?_eq_some_iff.1 hv).1
        have := h2 j (by rw [hcl] at hj; exact hj)
        rw [this]
        exact hv
      obtain ⟨b, off, spot⟩ := a
      have hs : spot = none := by
        have hlt : 0 < l.length := by have := (List.getElem?_eq_some_iff.1 hk).1; omega
        obtain ⟨x0, hx0⟩ : ∃ x0, l[0]? = some x0 := ⟨l[0], by simp⟩
        obtain ⟨h1', -⟩ := hx 0 x0 hx0
        obtain ⟨-, -, h2'⟩ := World.cells?_some h1'
        have hv : ∃ v, (c x0)[0]? = some v := ⟨(c x0)[0]'(by rw [hcl]; exact h0), by simp⟩
        obtain ⟨v, hv⟩ := hv
        have := h2' 0 h0
        rw [hv] at this
        simp only [Nat.zero_mul, Addr.add, if_true] at this
        exact World.cell?_spot this
      subst hs
      refine ⟨b, off, rfl, fun j v hv => ?_⟩
      have := hcell j v hv
      rw [Go.WideShapes.add_plain, Go.WideShapes.add_plain] at this
      exact this
    · obtain ⟨i, hi, rfl⟩ := List.getElem_of_mem hm
      exact (hx i _ (List.getElem?_eq_getElem hi)).2
theorem rd_Nt (h : DataW.trod enc Try.prog w base spare held fuel 28 cs = some y) :
    ∃ (n : Nt) (A : Option Addr) (c : Nat), cs = (aNt n.world (.slice A n.bs.length c)).toList ∧ n.bs.length ≤ c ∧ Sl cBc 4 w A n.bs ∧ ∀ b ∈ n.bs, b.name.size ≤ maxLen := by
  obtain ⟨xs, n, -, -, hl, hlen, hf⟩ := DataW.trod_struct Try.underlying28 h
  rw [cNt7] at hl
  obtain ⟨c0, c1, c2, c3, c4, c5, c6, rfl⟩ := len7 hl
  obtain ⟨x0, x1, rfl⟩ := len2 (show xs.length = 2 from hlen)
  have h0 := hf 0 _ rfl
  have h1 := hf 1 _ rfl
  simp [cBx6, cBcs] at h0 h1
  obtain ⟨b, e0⟩ := rd_Bx h0
  obtain ⟨A, c, l, e1, g1, -, g2, g3⟩ := rd_slice (c := cBc) (ok := fun b : Bc => b.name.size ≤ maxLen) Try.underlying26 cBc4 (by decide) (fun _ => rfl) (fun _ _ _ hz => rd_Bc hz) h1
  simp at e0 e1
  exact ⟨⟨b, l⟩, A, c, by rw [e0.1, e0.2.1, e0.2.2.1, e0.2.2.2.1, e0.2.2.2.2.1, e0.2.2.2.2.2, e1], g1, g2, g3⟩
theorem rd_R2 (h : DataW.trod enc Try.prog w base spare held fuel 29 cs = some y) : ∃ p d : Rg, cs = [.int .i64 p.lo, .int .i64 p.hi, .int .i64 d.lo, .int .i64 d.hi] := by
  obtain ⟨xs, n, -, -, hl, hlen, hf⟩ := DataW.trod_array Try.underlying29 h
  rw [cR2] at hl
  obtain ⟨c0, c1, c2, c3, rfl⟩ := len4 hl
  obtain ⟨x0, x1, rfl⟩ := len2 hlen
  have h0 := hf 0 (by decide)
  have h1 := hf 1 (by decide)
  simp [cRg2] at h0 h1
  obtain ⟨a, e0⟩ := rd_Rg h0
  obtain ⟨b, e1⟩ := rd_Rg h1
  simp [cRg] at e0 e1
  exact ⟨a, b, by rw [e0.1, e0.2, e1.1, e1.2]⟩
end
theorem agg_of {P : Program} {W : World} {base : Nat} {t : TypeId} {v : Value} {fs : Array Field} (hu : P.underlying t = some (.struct fs)) (h : Value.okWide P W .any base t v) : ∃ cs, v = .agg cs := by
  unfold Value.okWide at h
  rw [hu] at h
  exact ⟨_, h.choose_spec.1⟩
theorem agg_ofA {P : Program} {W : World} {base n : Nat} {t e : TypeId} {v : Value} (hu : P.underlying t = some (.array n e)) (h : Value.okWide P W .any base t v) : ∃ cs, v = .agg cs := by
  unfold Value.okWide at h
  rw [hu] at h
  exact ⟨_, h.choose_spec.1⟩
theorem agg_cells {cs : Array Value} {l : List Value} (h : (Value.agg cs).cells.toList = l) : Value.agg cs = .agg l.toArray := by
  rw [← h]
  simp [Value.cells]
end Go.Proofs.Ytephimmamkafoaa
