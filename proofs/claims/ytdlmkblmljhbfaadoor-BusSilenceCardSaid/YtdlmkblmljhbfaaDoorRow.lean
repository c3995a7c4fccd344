/-
  How the laws' arguments read: numbers, ranges, pairs; what the laid tables hold.
-/
import Derived.Test.YtdlmkblmljhbfaaDoorAwake
import Derived.Test.YtdlmkblmljhbfaaDoorCards
import Derived.Test.YtdlmkblmljhbfaaDoorTie
import Derived.ProofKit
import Derived.Deep.Slices
import Derived.OpenShut
import Derived.ChangeOld
import Derived.Deep.DeepHandedRow
import Derived.Lib.LaidTab
import Derived.Lay
import Derived.LaidMore
import Derived.SevenTiedAt
namespace Go.Proofs.YtdlmkblmljhbfaaDoor
set_option linter.unusedSimpArgs false
set_option linter.unusedVariables false
open Go.ChangeShapes Go.WideShapes Go.ChangeAt Go.RowKit Go.Deep
set_option maxRecDepth 20000
theorem own : ownKnob Tryd.prog.godebug = none := by kernel_rfl
theorem laidOut : laidOutB Tryd.prog = true := by kernel_rfl
theorem len1 {α : Type} {l : List α} (h : l.length = 1) : ∃ a, l = [a] := by
  match l, h with
  | [a], _ => exact ⟨a, rfl⟩
theorem len2 {α : Type} {l : List α} (h : l.length = 2) : ∃ a b, l = [a, b] := by
  match l, h with
  | [a, b], _ => exact ⟨a, b, rfl⟩
theorem len3 {α : Type} {l : List α} (h : l.length = 3) : ∃ a b c, l = [a, b, c] := by
  match l, h with
  | [a, b, c], _ => exact ⟨a, b, c, rfl⟩
theorem len4 {α : Type} {l : List α} (h : l.length = 4) : ∃ a b c d, l = [a, b, c, d] := by
  match l, h with
  | [a, b, c, d], _ => exact ⟨a, b, c, d, rfl⟩
theorem len6 {α : Type} {l : List α} (h : l.length = 6) : ∃ a b c d e f, l = [a, b, c, d, e, f] := by
  match l, h with
  | [a, b, c, d, e, f], _ => exact ⟨a, b, c, d, e, f, rfl⟩
theorem len7 {α : Type} {l : List α} (h : l.length = 7) : ∃ a b c d e f g, l = [a, b, c, d, e, f, g] := by
  match l, h with
  | [a, b, c, d, e, f, g], _ => exact ⟨a, b, c, d, e, f, g, rfl⟩
section
variable {H : Type} {enc : TypeId × Value → H} {w : World} {base : Nat} {spare : Nat → Bool} {held : Bool} {fuel : Nat} {cs : List Value} {y : DataW H × List MemPlace}
theorem ci : Tryd.prog.cellsOf 3 = 1 := by kernel_rfl
theorem cS1 : Tryd.prog.cellsOf 9 = 1 := by kernel_rfl
theorem cRg2 : Tryd.prog.cellsOf 24 = 2 := by kernel_rfl
theorem cI2 : Tryd.prog.cellsOf 25 = 2 := by kernel_rfl
theorem rd_int (h : DataW.trod enc Tryd.prog w base spare held fuel 3 cs = some y) : ∃ x, cs = [.int .i64 x] := by
  obtain ⟨x, e, -⟩ := DataW.trod_int Tryd.underlying3 h
  exact ⟨x, e⟩
theorem rd_Rg (h : DataW.trod enc Tryd.prog w base spare held fuel 24 cs = some y) : ∃ r : Rg, cs = cRg r := by
  obtain ⟨xs, n, -, -, hl, hlen, hf⟩ := DataW.trod_struct Tryd.underlying24 h
  rw [cRg2] at hl
  obtain ⟨c0, c1, rfl⟩ := len2 hl
  obtain ⟨x0, x1, rfl⟩ := len2 (show xs.length = 2 from hlen)
  have h0 := hf 0 _ rfl
  have h1 := hf 1 _ rfl
  simp [ci] at h0 h1
  obtain ⟨a, e0⟩ := rd_int h0
  obtain ⟨b, e1⟩ := rd_int h1
  simp at e0 e1
  exact ⟨⟨a, b⟩, by rw [e0, e1]; rfl⟩
theorem choose_list {α : Type} {p : Nat → α → Prop} : ∀ n, (∀ i, i < n → ∃ x, p i x) → ∃ l : List α, l.length = n ∧ ∀ (i : Nat) (x : α), l[i]? = some x → p i x
  | 0, _ => ⟨[], rfl, fun i x h => by simp at h⟩
  | n + 1, h => by
    obtain ⟨l, h1, h2⟩ := choose_list n fun i hi => h i (by omega)
    obtain ⟨x, hx⟩ := h n (by omega)
    refine ⟨l ++ [x], by simp [h1], fun i y hy => ?_⟩
    rw [List.getElem?_append] at hy
    split at hy
    · exact h2 i y hy
    · rename_i hi
      have : i = n := by
        have := (List.getElem?_eq_some_iff.1 hy).1
        simp at this
        omega
      subst this
      simp [h1] at hy
      exact hy ▸ hx
/-- A slice that came in, of elements that are so many cells each. -/
theorem rd_slice {α : Type} {c : α → List Value} {ok : α → Prop} {t e sz : Nat} (hu : Tryd.prog.underlying t = some (.slice e)) (hsz : Tryd.prog.cellsOf e = sz) (h0 : 0 < sz) (hcl : ∀ x, (c x).length = sz)
    (hr : ∀ (n : Nat) (cs' : List Value) (z : DataW H × List MemPlace), DataW.trod enc Tryd.prog w base spare held n e cs' = some z → ∃ x, cs' = c x ∧ ok x)
    (h : DataW.trod enc Tryd.prog w base spare held fuel t cs = some y) : ∃ A cap, ∃ l : List α, cs = [.slice A l.length cap] ∧ l.length ≤ cap ∧ cap ≤ maxLen ∧ Sl c sz w A l ∧ ∀ x ∈ l, ok x := by
  rcases open_slice hu h with ⟨rfl, -⟩ | ⟨a, len, cap, m, n, D, Pl, rfl, -, hlc, hcm, hm, -, hel⟩
  · exact ⟨none, 0, [], rfl, Nat.le_refl _, Nat.zero_le _, Sl.nil, fun x hx => by cases hx⟩
  · have hlm : len ≤ m := by rw [hm]; split <;> omega
    obtain ⟨l, hl, hx⟩ := choose_list (p := fun i x => w.cells? base (a.add (i * sz)) sz = some (c x) ∧ ok x) len fun i hi => by
      obtain ⟨cs', h1, h2⟩ := hel i (by omega)
      obtain ⟨x, rfl, hk⟩ := hr _ _ _ h2
      rw [hsz] at h1
      exact ⟨x, h1, hk⟩
    refine ⟨some a, cap, l, by rw [hl], by omega, hcm, fun k x hk => ?_, fun x hm => ?_⟩
    · obtain ⟨h1, -⟩ := hx k x hk
      obtain ⟨-, -, h2⟩ := World.cells?_some h1
      have hcell : ∀ j v, (c x)[j]? = some v → w.cell? ((a.add (k * sz)).add j) = some v := fun j v hv => by
        have hj := (List.getElem?_eq_some_iff.1 hv).1
        have := h2 j (by rw [hcl] at hj; exact hj)
        rw [this]
        exact hv
      obtain ⟨b, off, spot⟩ := a
      have hs : spot = none := by
        have hlt : 0 < l.length := by have := (List.getElem?_eq_some_iff.1 hk).1; omega
        obtain ⟨x0, hx0⟩ : ∃ x0, l[0]? = some x0 := ⟨l[0], by simp⟩
        obtain ⟨h1', -⟩ := hx 0 x0 hx0
        obtain ⟨-, -, h2'⟩ := World.cells?_some h1'
        have hv : ∃ v, (c x0)[0]? = some v := ⟨(c x0)[0]'(by rw [hcl]; exact h0), by simp⟩
        obtain ⟨v, hv⟩ := hv
        have := h2' 0 h0
        rw [hv] at this
        simp only [Nat.zero_mul, Addr.add, if_true] at this
        exact World.cell?_spot this
      subst hs
      refine ⟨b, off, rfl, fun j v hv => ?_⟩
      have := hcell j v hv
      rw [Go.WideShapes.add_plain, Go.WideShapes.add_plain] at this
      exact this
    · obtain ⟨i, hi, rfl⟩ := List.getElem_of_mem hm
      exact (hx i _ (List.getElem?_eq_getElem hi)).2
/-- A slice of integers that came in. -/
theorem rd_Is (h : DataW.trod enc Tryd.prog w base spare held fuel 22 cs = some y) : ∃ A c, ∃ l : List Int, cs = [.slice A l.length c] ∧ l.length ≤ c ∧ c ≤ maxLen ∧ Sl cI 1 w A l := by
  obtain ⟨A, c, l, e, h1, h2, h3, -⟩ := rd_slice (c := cI) (ok := fun _ : Int => True) Tryd.underlying22 ci (by decide) (fun _ => rfl) (fun _ _ _ hz => (rd_int hz).imp fun _ e => ⟨e, trivial⟩) h
  exact ⟨A, c, l, e, h1, h2, h3⟩
theorem rd_I2 (h : DataW.trod enc Tryd.prog w base spare held fuel 25 cs = some y) : ∃ p q : Int, cs = [.int .i64 p, .int .i64 q] := by
  obtain ⟨xs, n, -, -, hl, hlen, hf⟩ := DataW.trod_array Tryd.underlying25 h
  rw [cI2] at hl
  obtain ⟨c0, c1, rfl⟩ := len2 hl
  obtain ⟨x0, x1, rfl⟩ := len2 hlen
  have h0 := hf 0 (by decide)
  have h1 := hf 1 (by decide)
  simp [ci] at h0 h1
  obtain ⟨a, e0⟩ := rd_int h0
  obtain ⟨b, e1⟩ := rd_int h1
  simp at e0 e1
  exact ⟨a, b, by rw [e0, e1]⟩
end
theorem agg_of {P : Program} {W : World} {base : Nat} {t : TypeId} {v : Value} {fs : Array Field} (hu : P.underlying t = some (.struct fs)) (h : Value.okWide P W .any base t v) : ∃ cs, v = .agg cs := by
  unfold Value.okWide at h
  rw [hu] at h
  exact ⟨_, h.choose_spec.1⟩
theorem agg_ofA {P : Program} {W : World} {base n : Nat} {t e : TypeId} {v : Value} (hu : P.underlying t = some (.array n e)) (h : Value.okWide P W .any base t v) : ∃ cs, v = .agg cs := by
  unfold Value.okWide at h
  rw [hu] at h
  exact ⟨_, h.choose_spec.1⟩
theorem agg_cells {cs : Array Value} {l : List Value} (h : (Value.agg cs).cells.toList = l) : Value.agg cs = .agg l.toArray := by
  rw [← h]
  simp [Value.cells]
theorem slice_of {P : Program} {W : World} {base : Nat} {t e : TypeId} {v : Value} (hu : P.underlying t = some (.slice e)) (h : Value.okWide P W .any base t v) : ∃ a m k, v = .slice a m k := by
  unfold Value.okWide at h
  simp only [hu] at h
  cases v with
  | slice a m k => exact ⟨a, m, k, rfl⟩
  | _ => simp [Cell.okWide, Cell.ok, hu] at h
theorem int_of {P : Program} {W : World} {base : Nat} {t : TypeId} {v : Value} (hu : P.underlying t = some (.int .i64)) (h : Value.okWide P W .any base t v) : ∃ n, v = .int .i64 n := by
  unfold Value.okWide at h
  simp only [hu] at h
  cases v with
  | int k n =>
    simp [Cell.okWide, Cell.ok, hu] at h
    obtain ⟨rfl, -⟩ := h
    exact ⟨n, rfl⟩
  | _ => simp [Cell.okWide, Cell.ok, hu] at h
theorem one_cell {v u : Value} (g : v.cells.toList = [u]) (hv : v.cells = #[v] := by rfl) : v = u := by
  rw [hv] at g
  simpa using g
/-- The table that the laws' calls read, out of the row's list. -/
theorem tab_of {W : World} (h : laidMetH Tryd.prog [("math/bits.deBruijn32tab", Rows.laid_math_bits_deBruijn32tab), ("math/bits.deBruijn64tab", Rows.laid_math_bits_deBruijn64tab)] W) : Tab W := by
  rw [MakeChecks.laidMetH_plain _ _ _ (by kernel_rfl)] at h
  obtain ⟨ps, ⟨g0, t0, cs0, f0, p0, q0, hg0, ht0, hv0, hd0, ⟨g1, t1, cs1, f1, p1, q1, hg1, ht1, hv1, hd1, _, _⟩, _⟩, _, _⟩ := h
  obtain rfl := Option.some.inj ((show Tryd.prog.globalNamed "math/bits.deBruijn64tab" = some 1 by kernel_rfl).symm.trans hg1)
  obtain rfl := Option.some.inj ((show (Tryd.prog.globals[1]?).map (·.type) = some 206 by kernel_rfl).symm.trans ht1)
  have hlaid : (Rows.laid_math_bits_deBruijn64tab : DataW Unit) = Lib.tabData .u8 (Lib.deBruijn64tab.map fun n : Nat => (n : Int)) := rfl
  rw [hlaid] at hd1
  have hc := Lib.cells_of_tab Tryd.underlying206 Tryd.underlying5 (by kernel_rfl) (by kernel_rfl) hd1
  intro j hj
  have hlen : Lib.deBruijn64tab.length = 64 := by kernel_rfl
  have h1 := World.var?_cell (show Tryd.prog.globalNamed "math/bits.deBruijn64tab" = some 1 by kernel_rfl) hv1 j
  have h2 : cs1.toList[j]? = some (.int .u8 ((Lib.deBruijn64tab.getD j 0 : Nat) : Int)) := by
    rw [hc]
    simp [List.getD, List.getElem?_eq_getElem (show j < Lib.deBruijn64tab.length by omega)]
  rw [h1]
  simpa using h2
end Go.Proofs.YtdlmkblmljhbfaaDoor
