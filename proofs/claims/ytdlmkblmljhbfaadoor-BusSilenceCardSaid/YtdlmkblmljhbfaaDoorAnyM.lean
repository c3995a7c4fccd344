/-
  A region that draws its order, in whatever order, of which one operation (m) may turn some old blocks (M) that no other operation looks at; nothing is stored behind it.
-/
import Derived.Test.YtdlmkblmljhbfaaDoorOwn
namespace Go.Proofs.YtdlmkblmljhbfaaDoor
set_option linter.unusedSimpArgs false
set_option linter.unusedVariables false
open Go.RowKit
section
variable {P : Program} {ops : Array Oper} {Q : Exit → Act → World → Prop} {m : Nat} {M : List Nat}
def StM (m : Nat) (M : List Nat) (i : Nat) (W W' : World) : Prop := if i = m then BX M W W' else Below W.heap.size W W'
theorem StM.bx {i : Nat} {W W' : World} (h : StM m M i W W') : BX M W W' := by
  unfold StM at h
  split at h
  · exact h
  · exact bx_bl M h
def PreM (m : Nat) (M : List Nat) (i : Nat) (w0 W : World) : Prop := if i = m then Below w0.heap.size w0 W else BX M w0 W
def OpWM (P : Program) (ops : Array Oper) (Q : Exit → Act → World → Prop) (m : Nat) (M : List Nat) (i : Nat) (o : Oper) (s : Sp) (γ : Nat → Gh) (a : Act) (W : World) : Prop :=
  wpOp P ops Q i (fun a' W' => ∃ g, a' = a.put o.dst (s.val (up γ i g)) ∧ StM m M i W W' ∧ s.R (up γ i g) W' ∧ ∀ x ∈ s.bl g, W.heap.size ≤ x ∧ x < W'.heap.size) a W
def OpOKM (P : Program) (ops : Array Oper) (Q : Exit → Act → World → Prop) (m : Nat) (M : List Nat) (w0 : World) (A : (Nat → Value) → Act) (p : Parts) (h : List Sp) (i : Nat) (s : Sp) : Prop :=
  Cong (p.C.getD i []) i s ∧ (∀ γ W W', Below W.heap.size W W' → s.R γ W → s.R γ W') ∧
  (i ≠ m → ∀ γ W W', (∀ x ∈ s.bl (γ i), w0.heap.size ≤ x ∧ x < W.heap.size) → BX M W W' → s.R γ W → s.R γ W') ∧
  (∀ γ u W, PreM m M i w0 W → Known h γ u w0 W (p.D.getD i []) → ∃ o, ops[i]? = some o ∧ OpWM P ops Q m M i o s γ (A u) W)
def FinM (ops : Array Oper) (Q : Exit → Act → World → Prop) (M : List Nat) (w0 : World) (A : (Nat → Value) → Act) (h : List Sp) : Prop :=
  ∀ γ u W, BX M w0 W → Known h γ u w0 W (List.range ops.size) → Q .normal (A u) W
def RGM (P : Program) (ops : Array Oper) (Q : Exit → Act → World → Prop) (m : Nat) (M : List Nat) (w0 : World) (A : (Nat → Value) → Act) (p : Parts) : Nat → List Sp → Prop
  | 0, h => FinM ops Q M w0 A h
  | k + 1, h => ∃ s, OpOKM P ops Q m M w0 A p h h.length s ∧ RGM P ops Q m M w0 A p k (h ++ [s])
theorem RGM_all {w0 : World} {A : (Nat → Value) → Act} {p : Parts} (F : AnyF ops p) (ht : p.tail = []) :
    ∀ (k : Nat) (h : List Sp), h.length + k = ops.size → RGM P ops Q m M w0 A p k h →
      ∃ hs, (∀ j, j < h.length → spAt hs j = spAt h j) ∧ (∀ i, h.length ≤ i → i < ops.size → OpOKM P ops Q m M w0 A p hs i (spAt hs i)) ∧ FinM ops Q M w0 A hs
  | 0, h, hk, H => ⟨h, fun _ _ => rfl, fun i h1 h2 => by omega, H⟩
  | k + 1, h, hk, ⟨s, hop, H⟩ => by
    obtain ⟨hs, e, ok, fin⟩ := RGM_all F ht k (h ++ [s]) (by simp; omega) H
    have el : spAt hs h.length = s := (e h.length (by simp)).trans (spAt_last h s)
    have ej : ∀ j, j < h.length → spAt hs j = spAt h j := fun j hj => (e j (by simp; omega)).trans (spAt_app h s j hj)
    refine ⟨hs, ej, fun i h1 h2 => ?_, fin⟩
    by_cases hi : i = h.length
    · subst hi
      obtain ⟨c1, c2, c3, c4⟩ := hop
      rw [el]
      refine ⟨c1, c2, c3, fun γ u W hb hkn => c4 γ u W hb (Known.of fun j hj => ?_)⟩
      have := hkn.mem j hj
      obtain ⟨_, _, _, _, hD⟩ := F.dst h.length h2 (by rw [ht]; rfl)
      unfold Known1 at this ⊢
      rw [ej j (hD j hj).2] at this
      exact this
    · exact ok i (by simp; omega) h2
structure InvM (ops : Array Oper) (p : Parts) (hs : List Sp) (m : Nat) (M : List Nat) (w0 : World) (a0 : Act) (listed : Array Bool) (γ : Nat → Gh) (u : Nat → Value) (a : Act) (W : World) : Prop where
  bx : BX M w0 W
  bl : listed.getD m false = false → Below w0.heap.size w0 W
  put : a = putD a0 p.ds 0 u
  kn : ∀ j, j < ops.size → listed.getD j false = true → Known1 hs γ u w0 W j
theorem inv_upM {p : Parts} {hs : List Sp} {w0 : World} {a0 : Act} {A : (Nat → Value) → Act} (F : AnyF ops p) (ht : p.tail = [])
    (ok : ∀ i, i < ops.size → OpOKM P ops Q m M w0 A p hs i (spAt hs i)) {listed : Array Bool} {γ : Nat → Gh} {u : Nat → Value} {a : Act} {W W' : World} (inv : LInv ops p listed) (I : InvM ops p hs m M w0 a0 listed γ u a W)
    {i : Nat} {o : Oper} (hi : i < ops.size) (hun : listed.getD i true = false) (ho : ops[i]? = some o) (g : Gh)
    (hb' : StM m M i W W') (hR : (spAt hs i).R (up γ i g) W') (hbl : ∀ x ∈ (spAt hs i).bl g, W.heap.size ≤ x ∧ x < W'.heap.size) :
    InvM ops p hs m M w0 a0 (listed.setIfInBounds i true) (up γ i g) (up u i ((spAt hs i).val (up γ i g))) (a.put o.dst ((spAt hs i).val (up γ i g))) W' := by
  have htf : ∀ k, p.tail.contains k = false := fun k => by rw [ht]; rfl
  obtain ⟨hbx, hb, ha, hkn⟩ := I
  obtain ⟨o', ho', hdst, _, hD⟩ := F.dst i hi (htf i)
  obtain rfl : o = o' := Option.some.inj (ho.symm.trans ho')
  have hCl : ∀ j, j < ops.size → listed.getD j false = true → ∀ k ∈ p.C.getD j [], listed.getD k false = true := fun j hj hl =>
    F.closed_C inv j hj (htf j) fun o' ho' => inv.closed j o' ho' hl
  have hni : ∀ j, listed.getD j false = true → j ≠ i := fun j hj e => by rw [e, getD_both hun] at hj; cases hj
  have hbx' := hb'.bx
  refine ⟨hbx.trans hbx', fun hl => ?_, ?_, fun j hj hl => ?_⟩
  · have him : i ≠ m := fun e => by
      subst e
      have hlt : i < listed.size := by rw [inv.size]; exact hi
      simp [hlt] at hl
    have hl' : listed.getD m false = false := by rwa [getD_set_ne false him] at hl
    unfold StM at hb'
    rw [if_neg him] at hb'
    exact (hb hl').trans (hb'.mono (hb hl').size)
  · rw [ha, hdst]
    have := putD_up p.ds a0 0 i u ((spAt hs i).val (up γ i g)) F.dis (Nat.zero_le _) (by rw [F.len]; omega)
    simpa using this
  · rcases listed_set hl with rfl | hl
    · exact ⟨by simp [up], hR, fun x hx => by
        have : x ∈ (spAt hs j).bl g := by simpa [up] using hx
        have := hbl x this
        exact ⟨Nat.le_trans hbx.size this.1, this.2⟩⟩
    · have hji := hni j hl
      obtain ⟨k1, k2, k3⟩ := hkn j hj hl
      have hcg := (ok j hj).1 γ (up γ i g) (fun k hk => by
        have : k ≠ i := by
          rcases hk with rfl | hk
          · exact hji
          · exact hni k (hCl j hj hl k hk)
        simp [up, this])
      refine ⟨?_, hcg.2 _ ?_, fun x hx => ?_⟩
      · rw [← hcg.1, ← k1]; simp [up, hji]
      · unfold StM at hb'
        by_cases him : i = m
        · subst him
          rw [if_pos rfl] at hb'
          exact (ok j hj).2.2.1 hji γ W W' k3 hb' k2
        · rw [if_neg him] at hb'
          exact (ok j hj).2.1 γ W W' hb' k2
      · have := k3 x (by simpa [up, hji] using hx)
        exact ⟨this.1, Nat.lt_of_lt_of_le this.2 hbx'.size⟩
theorem any_headM {p : Parts} {hs : List Sp} {w0 : World} {a0 : Act} {A : (Nat → Value) → Act} (F : AnyF ops p) (ht : p.tail = []) (hA : ∀ u, putD a0 p.ds 0 u = A u)
    (ok : ∀ i, i < ops.size → OpOKM P ops Q m M w0 A p hs i (spAt hs i)) (fin : FinM ops Q M w0 A hs) :
    ∀ (f : Nat) (listed : Array Bool) (γ : Nat → Gh) (u : Nat → Value) (a : Act) (W : World), LInv ops p listed → cntp ops.size p listed = f → InvM ops p hs m M w0 a0 listed γ u a W →
      wpAny P .any ops Q f listed a W := by
  have htf : ∀ k, p.tail.contains k = false := fun k => by rw [ht]; rfl
  intro f
  induction f with
  | zero =>
    intro listed γ u a W inv hc I
    have e := cntp_zero inv hc
    have hl : ∀ j, j < ops.size → listed.getD j true = true := fun j hj => by
      rw [e, headA_at _ _ hj, htf]; rfl
    have hr : Region.ready .any ops listed = [] := by
      cases hrr : Region.ready .any ops listed with
      | nil => rfl
      | cons i l =>
        have hm : i ∈ Region.ready .any ops listed := by rw [hrr]; simp
        obtain ⟨hun, o, ho, _⟩ := mem_ready.1 hm
        rw [hl i (Array.getElem?_eq_some_iff.1 ho).1] at hun
        cases hun
    refine wpAny_done hr ?_ 0
    rw [I.put, hA]
    refine fin γ u W I.bx (Known.of fun j hj => ?_)
    have hjs := List.mem_range.1 hj
    refine I.kn j hjs ?_
    rw [e, headA_at _ _ hjs, htf]; rfl
  | succ f ih =>
    intro listed γ u a W inv hc I
    obtain ⟨j, hj, htj, hun⟩ := cntp_pos (n := ops.size) (p := p) (listed := listed) (by omega)
    refine ⟨fun h => ?_, fun i hr => ?_⟩
    · obtain ⟨i, _, _, hr⟩ := ready_first F inv j hj htj hun
      rw [h] at hr
      cases hr
    · obtain ⟨huni, o, ho, hall⟩ := mem_ready.1 hr
      have hi : i < ops.size := (Array.getElem?_eq_some_iff.1 ho).1
      have hlt : i < listed.size := by rw [inv.size]; exact hi
      have hkn : Known hs γ u w0 W (p.D.getD i []) := by
        obtain ⟨o', ho', hdst, hbk, hD⟩ := F.dst i hi (htf i)
        have hCi := F.closed_C inv i hi (htf i) fun o' ho' => by
          obtain rfl : o = o' := Option.some.inj (ho.symm.trans ho')
          exact hall
        exact Known.of fun k hk => I.kn k (by have := (hD k hk).2; omega) (hCi k (hD k hk).1)
      have hpre : PreM m M i w0 W := by
        unfold PreM
        split
        · rename_i e
          subst e
          exact I.bl (getD_both huni)
        · exact I.bx
      obtain ⟨o', ho', hop⟩ := (ok i hi).2.2.2 γ u W hpre hkn
      obtain rfl : o = o' := Option.some.inj (ho.symm.trans ho')
      rw [← hA, ← I.put] at hop
      unfold OpWM at hop
      refine wpOp_mono (fun a' W' hp => ?_) hop
      obtain ⟨g, e, hb', hR, hbl⟩ := hp
      rw [e]
      exact ih _ _ _ _ W' (inv.set hr (htf i)) (by have := cntp_set hi hlt (htf i) huni; omega) (inv_upM F ht ok inv I hi huni ho g hb' hR hbl)
end
/-- The walk of such a region. -/
theorem wp_anyM {P : Program} {Q : Exit → Act → World → Prop} {id : Nat} {a0 : Act} {w w0 : World} {l : List Oper} {A : (Nat → Value) → Act} (m : Nat) (M : List Nat) (p : Parts) (hm : P.follows .mixedOrders = true)
    (hB : anyOk l.toArray p = true) (ht : p.tail = []) (hb : Below w0.heap.size w0 w.drew) (hA : ∀ u, putD a0 p.ds 0 u = A u) (h : RGM P l.toArray (NoPanic Q) m M w0 A p l.toArray.size []) :
    (Code.region id l.toArray true).wp P Q a0 w := by
  refine wp_region_noPanic (wp_region_any hm ?_)
  have F := anyOk_spec hB
  obtain ⟨hs, _, ok, fin⟩ := RGM_all F ht _ [] (by simp) h
  have inv0 : LInv l.toArray p (Array.replicate l.toArray.size false) :=
    ⟨by simp, fun j oj _ hl => (by rw [getD_replicate_false] at hl; cases hl), fun t ht => getD_in (by have := F.tin t ht; simpa using this) (getD_replicate_false _ _)⟩
  have hc : cntp l.toArray.size p (Array.replicate l.toArray.size false) = l.toArray.size := by
    have hcn := F.cnt
    rw [ht] at hcn
    have : cntp l.toArray.size p (Array.replicate l.toArray.size false) = (List.range l.toArray.size).countP (fun j => !([] : List Nat).contains j) := by
      unfold cntp
      rw [ht]
      refine List.countP_congr fun j hj => ?_
      have : j < l.length := by have := List.mem_range.1 hj; simpa using this
      simp [this]
    rw [this]
    simp
  exact any_headM (P := P) (Q := NoPanic Q) F ht hA (fun i hi => ok i (Nat.zero_le _) hi) fin _ _ (fun _ => gh0) (fun j => match p.ds.getD j none with | some t => a0.tmps.getD t undef | none => undef) a0 w.drew inv0 hc
    ⟨bx_bl M hb, fun _ => hb, (putD_old p.ds a0 0 _ fun j _ => by rw [Nat.zero_add]; cases p.ds.getD j none <;> rfl).symm, fun j _ hl => (by rw [getD_replicate_false] at hl; cases hl)⟩
section
variable {P : Program} {ops : Array Oper} {Q : Exit → Act → World → Prop} {m : Nat} {M : List Nat} {w0 : World} {A : (Nat → Value) → Act} {p : Parts} {k i : Nat} {h : List Sp} {o : Oper} {val : (Nat → Gh) → Value}
theorem RGM.on (hn : h.length = i) (hne : i ≠ m) (hi : ops[i]? = some o) (hop : ∀ γ u W, BX M w0 W → KnownL h γ u w0 W (p.D.getD i []) → Region.wanted o (yielded ops (A u).tmps) = true ∧ (execOp (A u).eval o).run P W = .ok (.value (val γ)) W)
    (hc : ∀ γ γ' : Nat → Gh, (∀ j, j = i ∨ j ∈ p.C.getD i [] → γ j = γ' j) → val γ = val γ')
    (H : RGM P ops Q m M w0 A p k (h ++ [⟨val, fun _ _ => True, fun _ => []⟩])) : RGM P ops Q m M w0 A p (k + 1) h := by
  subst hn
  refine ⟨_, ⟨fun γ γ' hg => ⟨hc γ γ' hg, fun _ h => h⟩, fun _ _ _ _ h => h, fun _ _ _ _ _ _ h => h, fun γ u W hb hk => ⟨o, hi, ?_⟩⟩, H⟩
  unfold PreM at hb
  rw [if_neg hne] at hb
  obtain ⟨hw, hv⟩ := hop γ u W hb hk.toL
  unfold OpWM wpOp
  simp only [hi]
  rw [if_pos hw]
  refine .inl ?_
  unfold Oper.wp
  simp only [hv, Oper.upon]
  refine ⟨γ h.length, ?_, ?_, trivial, fun x hx => by cases hx⟩
  · rw [up_self]
  · unfold StM
    rw [if_neg hne]
    exact Below.refl _ _
/-- Any operation that meets a specification with a ghost. -/
theorem RGM.gh (s : Sp) (hn : h.length = i) (hne : i ≠ m) (hi : ops[i]? = some o)
    (hop : ∀ γ u W, BX M w0 W → KnownL h γ u w0 W (p.D.getD i []) → Region.wanted o (yielded ops (A u).tmps) = true ∧
      ∀ K : Act → World → Prop, Shut (∀ g v W', v = s.val (up γ i g) → Below W.heap.size W W' → s.R (up γ i g) W' → (∀ x ∈ s.bl g, W.heap.size ≤ x ∧ x < W'.heap.size) → K ((A u).put o.dst v) W') → Oper.wp P o (A u) W K Q)
    (hc : Cong (p.C.getD i []) i s) (hm : ∀ γ W W', Below W.heap.size W W' → s.R γ W → s.R γ W') (hx : ∀ γ W W', (∀ x ∈ s.bl (γ i), w0.heap.size ≤ x ∧ x < W.heap.size) → BX M W W' → s.R γ W → s.R γ W')
    (H : RGM P ops Q m M w0 A p k (h ++ [s])) : RGM P ops Q m M w0 A p (k + 1) h := by
  subst hn
  refine ⟨s, ⟨hc, hm, fun _ => hx, fun γ u W hb hk => ⟨o, hi, ?_⟩⟩, H⟩
  unfold PreM at hb
  rw [if_neg hne] at hb
  obtain ⟨hw, hx⟩ := hop γ u W hb hk.toL
  unfold OpWM wpOp
  simp only [hi]
  rw [if_pos hw]
  exact .inl (hx _ (shut_in fun g v W' hv hb' hR hbl => ⟨g, by rw [hv], by unfold StM; rw [if_neg hne]; exact hb', hR, hbl⟩))
theorem RGM.call (hn : h.length = i) (hne : i ≠ m) (hi : ops[i]? = some o)
    (hop : ∀ γ u W, BX M w0 W → KnownL h γ u w0 W (p.D.getD i []) → Region.wanted o (yielded ops (A u).tmps) = true ∧
      ∀ K : Act → World → Prop, Shut (∀ v W', v = val γ → Below W.heap.size W W' → K ((A u).put o.dst v) W') → Oper.wp P o (A u) W K Q)
    (hc : ∀ γ γ' : Nat → Gh, (∀ j, j = i ∨ j ∈ p.C.getD i [] → γ j = γ' j) → val γ = val γ')
    (H : RGM P ops Q m M w0 A p k (h ++ [⟨val, fun _ _ => True, fun _ => []⟩])) : RGM P ops Q m M w0 A p (k + 1) h :=
  RGM.gh _ hn hne hi (fun γ u W hb hk => ⟨(hop γ u W hb hk).1, fun K hK => (hop γ u W hb hk).2 K (shut_in fun v W' hv hb' => hK.out (γ i) v W' (by rw [up_self]; exact hv) hb' trivial (fun x hx => by cases hx))⟩)
    (fun γ γ' hg => ⟨hc γ γ' hg, fun _ h => h⟩) (fun _ _ _ _ h => h) (fun _ _ _ _ _ h => h) H
/-- The operation that turns the blocks M. -/
theorem RGM.mut (s : Sp) (hn : h.length = i) (he : i = m) (hi : ops[i]? = some o)
    (hop : ∀ γ u W, Below w0.heap.size w0 W → KnownL h γ u w0 W (p.D.getD i []) → Region.wanted o (yielded ops (A u).tmps) = true ∧
      ∀ K : Act → World → Prop, Shut (∀ g v W', v = s.val (up γ i g) → BX M W W' → s.R (up γ i g) W' → (∀ x ∈ s.bl g, W.heap.size ≤ x ∧ x < W'.heap.size) → K ((A u).put o.dst v) W') → Oper.wp P o (A u) W K Q)
    (hc : Cong (p.C.getD i []) i s) (hm : ∀ γ W W', Below W.heap.size W W' → s.R γ W → s.R γ W')
    (H : RGM P ops Q m M w0 A p k (h ++ [s])) : RGM P ops Q m M w0 A p (k + 1) h := by
  subst hn
  refine ⟨s, ⟨hc, hm, fun h => absurd he h, fun γ u W hb hk => ⟨o, hi, ?_⟩⟩, H⟩
  unfold PreM at hb
  rw [if_pos he] at hb
  obtain ⟨hw, hx⟩ := hop γ u W hb hk.toL
  unfold OpWM wpOp
  simp only [hi]
  rw [if_pos hw]
  exact .inl (hx _ (shut_in fun g v W' hv hb' hR hbl => ⟨g, by rw [hv], by unfold StM; rw [if_pos he]; exact hb', hR, hbl⟩))
/-- A new block, and a slice of it. -/
theorem RGM.bslice {t : TypeId} {cs : (Nat → Gh) → Array Value} {n c : Nat} (hn : h.length = i) (hne : i ≠ m) (hM : ∀ x ∈ M, x < w0.heap.size) (hi : ops[i]? = some o)
    (hop : ∀ γ u W, BX M w0 W → KnownL h γ u w0 W (p.D.getD i []) → Region.wanted o (yielded ops (A u).tmps) = true ∧
      ∀ K : Act → World → Prop, Shut (∀ v W', v = .slice (some ⟨W.heap.size, 0, none⟩) n c → W' = W.alloc (.cells (cs γ) t) → K ((A u).put o.dst v) W') → Oper.wp P o (A u) W K Q)
    (hc : ∀ γ γ' : Nat → Gh, (∀ j, j ≠ i → j ∈ p.C.getD i [] → γ j = γ' j) → cs γ = cs γ') (hni : (p.C.getD i []).contains i = false)
    (H : RGM P ops Q m M w0 A p k (h ++ [⟨fun γ => .slice (some ⟨(γ i).n, 0, none⟩) n c, fun γ W => Blk W (γ i).n t (cs γ), fun g => [g.n]⟩])) : RGM P ops Q m M w0 A p (k + 1) h := by
  refine RGM.gh _ hn hne hi (fun γ u W hb hk => ⟨(hop γ u W hb hk).1, fun K hK => (hop γ u W hb hk).2 K (shut_in fun v W' hv hW => ?_)⟩) (fun γ γ' hg => ?_) (fun γ W W' hb hR => Blk.below hR hb) (fun γ W W' hbd hb hR => ?_) H
  · subst hW
    refine hK.out ⟨W.heap.size, undef, none, 0⟩ v _ (by simp [up, hv]) (bl_al _ (bl_refl W)) ?_ (fun x hx => ?_)
    · have : cs (up γ i ⟨W.heap.size, undef, none, 0⟩) = cs γ := hc _ _ fun j hj _ => by simp [up, hj]
      dsimp only
      rw [this]
      simpa [up] using Blk.new W t (cs γ)
    · have : x = W.heap.size := by simpa using hx
      subst this
      simp
  · have h1 := hg i (.inl rfl)
    have h2 : cs γ = cs γ' := hc γ γ' fun j _ hj => hg j (.inr hj)
    exact ⟨by dsimp only; rw [h1], fun W hR => by dsimp only at hR ⊢; rw [← h1, ← h2]; exact hR⟩
  · refine Blk.keep hR (fun hx => ?_) hb
    have h1 := hM _ hx
    have h2 := hbd _ (List.mem_singleton.2 rfl)
    omega
theorem RGM.fin (H : ∀ γ u W, BX M w0 W → KnownL h γ u w0 W (List.range ops.size) → Q .normal (A u) W) : RGM P ops (NoPanic Q) m M w0 A p 0 h := fun γ u W hb hk => H γ u W hb hk.toL
end
end Go.Proofs.YtdlmkblmljhbfaaDoor
