/-
  A region that draws its order, in whatever order, within a round of a range over a function: each operation is carried out there as anywhere.
-/
import Derived.Test.YtdlmkblmljhbfaaDoorAbs
import Derived.RangeFuncNested
import Derived.RangeFuncCalls
import Derived.OrdersIn
namespace Go.Proofs.YtdlmkblmljhbfaaDoor
set_option linter.unusedSimpArgs false
set_option linter.unusedVariables false
open Go.RowKit
/-- The region's only way out is its end. -/
def Only (Q : Exit → Act → World → Prop) : Exit → Act → World → Prop
  | .normal, a, w => Q .normal a w
  | _, _, _ => False
theorem Only.imp {Q : Exit → Act → World → Prop} : ∀ (e : Exit) (a : Act) (w : World), NoPanic (Only Q) e a w → Q e a w := fun e a w h => by
  cases e <;> first | exact h | exact (h : False).elim
theorem only_done {Q : Exit → Act → World → Prop} {a : Act} {w : World} (h : Q .normal a w) : Only Q .normal a w := h
theorem only_shut {Q : Exit → Act → World → Prop} : ¬ LetsOut (NoPanic (Only Q)) := fun ⟨_, _, h⟩ => h
def noDefer (ops : Array Oper) : Bool := ops.all fun o => match o.op with | .defer _ => false | _ => true
theorem noDefer_at {ops : Array Oper} (h : noDefer ops = true) {i : Nat} {o : Oper} (ho : ops[i]? = some o) : ∀ c, o.op ≠ .defer c := fun c hc => by
  have hm := Array.mem_of_getElem? ho
  have := Array.all_eq_true'.1 h o hm
  rw [hc] at this
  cases this
theorem bx_cell0 {X : List Nat} {w0 w : World} {g : Nat} {t : TypeId} {old : Value} (hb : BX X w0 w) (hk : Blk w0 g t #[old]) (hg : g ∈ X) : ∃ c, w.cell? ⟨g, 0, none⟩ = some c ∧ w.frozen? ⟨g, 0, none⟩ = false := by
  obtain ⟨cs, h1, h2⟩ := hb.shape g hg t _ hk
  refine ⟨cs.getD 0 undef, ?_, h1.frozen 0⟩
  rw [h1.cell 0]
  have : 0 < cs.size := by rw [h2]; simp
  simp [this]
section
variable {P : Program} {ops : Array Oper} {Q : Exit → Act → World → Prop} {n l : Nat}
theorem opIn_of_wp {o : Oper} {a : Act} {w : World} {K : Act → World → Prop} (hd : ∀ c, o.op ≠ .defer c) (h : o.wp P a w K Q) : o.wpIn (Fence.wide.inRound l) n P a w K Q := by
  unfold Oper.wpIn
  refine ⟨fun _ _ => trivial, ?_⟩
  rw [Fence.inRound_round, Oper.semAt_some l _ _ hd]
  unfold Oper.wp at h
  generalize (execOp a.eval o).run P w = r at *
  cases r with
  | ok x w' =>
    cases x <;> simp only [Oper.upon, Oper.uponIn] at h ⊢
    case value => exact h
    case skip => exact h
    case defer => exact h
    case enter => exact ⟨fun hd => (by simp [Fence.wide] at hd), CallsIn.inRound l (callsIn_wide.2 h)⟩
    case row => exact ⟨fun hd => (by simp [Fence.wide] at hd), fun c cs _ => let ⟨v, w', r, s⟩ := h c cs; ⟨v, w', r, stepsIn_wide.2 s⟩⟩
  | halt x w' => cases x <;> simp only [Oper.upon, Oper.uponIn] at h ⊢ <;> exact h
theorem wpOpIn_of {i : Nat} {a : Act} {w : World} {K : Act → World → Prop} (hd : noDefer ops = true) (hQ : ¬ LetsOut Q) (h : wpOp P ops Q i K a w) : wpOpIn (Fence.wide.inRound l) n P ops Q i K a w := by
  unfold wpOp at h
  unfold wpOpIn
  cases ho : ops[i]? with
  | none => simpa [ho] using h
  | some o =>
    simp only [ho] at h ⊢
    split
    · rename_i hw
      rw [if_pos hw] at h
      rcases h with h | ⟨_, h⟩
      · exact opIn_of_wp (noDefer_at hd ho) h
      · exact (hQ h).elim
    · rename_i hw
      rw [if_neg hw] at h
      exact ⟨fun _ _ => trivial, h⟩
theorem wpAnyIn_of {md : Region.Mode} (hd : noDefer ops = true) (hQ : ¬ LetsOut Q) : ∀ (fuel : Nat) (listed : Array Bool) (a : Act) (w : World),
    wpAny P md ops Q fuel listed a w → wpAnyIn (Fence.wide.inRound l) n P md ops Q fuel listed a w
  | 0, _, _, _, h => h
  | fuel + 1, listed, a, w, h => ⟨h.1, fun i hi => wpOpIn_of hd hQ (wpOp_mono (fun a' w' h' => wpAnyIn_of hd hQ fuel _ a' w' h') (h.2 i hi))⟩
end
/-- The walk of a region in whatever order, in a round. -/
theorem wpIn_any {P : Program} {Q : Exit → Act → World → Prop} {n ln id : Nat} {a0 : Act} {w w0 : World} {l : List Oper} {A : (Nat → Value) → Act} (p : Parts) (X : (Nat → Gh) → List Nat) (hm : P.follows .mixedOrders = true)
    (hd : noDefer l.toArray = true) (hB : anyOk l.toArray p = true) (hb : Below w0.heap.size w0 w.drew) (hA : ∀ u, putD a0 p.ds 0 u = A u) (h : RGW P l.toArray (NoPanic (Only Q)) w0 A X p l.toArray.size []) :
    (Code.region id l.toArray true).wpIn (Fence.wide.inRound ln) n P Q a0 w :=
  Code.wpIn_mono Only.imp (wpIn_region_any hm (wpAnyIn_of hd only_shut _ _ _ _ (wpAny_rg p X hB hb hA h)))
end Go.Proofs.YtdlmkblmljhbfaaDoor
