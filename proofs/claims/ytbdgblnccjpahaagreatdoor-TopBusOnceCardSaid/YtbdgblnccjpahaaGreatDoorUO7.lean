/-
  A region that draws its order, in whatever order, of which one operation (m) may turn some old blocks (M) that no other operation looks at; nothing is stored behind it.
  Walks: which nets are valid.
-/
import Derived.Test.YtbdgblnccjpahaaGreatDoorUO4
import Derived.Test.YtbdgblnccjpahaaGreatDoorUO6
set_option linter.unusedSimpArgs false
set_option linter.unusedVariables false
namespace Go.Proofs.YtbdgblnccjpahaaGreatDoor
open Go.RowKit
section
variable {P : Program} {ops : Array Oper} {Q : Exit → Act → World → Prop} {m : Nat} {M : List Nat}
def StM (m : Nat) (M : List Nat) (i : Nat) (W W' : World) : Prop := if i = m then BX M W W' else Below W.heap.size W W'
theorem StM.bx {i : Nat} {W W' : World} (h : StM m M i W W') : BX M W W' := by
  unfold StM at h
  split at h
  · exact h
  · exact bx_bl M h
def PreM (m : Nat) (M : List Nat) (i : Nat) (w0 W : World) : Prop := if i = m then Below w0.heap.size w0 W else BX M w0 W
def OpWM (P : Program) (ops : Array Oper) (Q : Exit → Act → World → Prop) (m : Nat) (M : List Nat) (i : Nat) (o : Oper) (s : Sp) (γ : Nat → Gh) (a : Act) (W : World) : Prop :=
  wpOp P ops Q i (fun a' W' => ∃ g, a' = a.put o.dst (s.val (up γ i g)) ∧ StM m M i W W' ∧ s.R (up γ i g) W' ∧ ∀ x ∈ s.bl g, W.heap.size ≤ x ∧ x < W'.heap.size) a W
def OpOKM (P : Program) (ops : Array Oper) (Q : Exit → Act → World → Prop) (m : Nat) (M : List Nat) (w0 : World) (A : (Nat → Value) → Act) (p : Parts) (h : List Sp) (i : Nat) (s : Sp) : Prop :=
  Cong (p.C.getD i []) i s ∧ (∀ γ W W', Below W.heap.size W W' → s.R γ W → s.R γ W') ∧
  (i ≠ m → ∀ γ W W', (∀ x ∈ s.bl (γ i), w0.heap.size ≤ x ∧ x < W.heap.size) → BX M W W' → s.R γ W → s.R γ W') ∧
  (∀ γ u W, PreM m M i w0 W → Known h γ u w0 W (p.D.getD i []) → ∃ o, ops[i]? = some o ∧ OpWM P ops Q m M i o s γ (A u) W)
def FinM (ops : Array Oper) (Q : Exit → Act → World → Prop) (M : List Nat) (w0 : World) (A : (Nat → Value) → Act) (h : List Sp) : Prop :=
  ∀ γ u W, BX M w0 W → Known h γ u w0 W (List.range ops.size) → Q .normal (A u) W
def RGM (P : Program) (ops : Array Oper) (Q : Exit → Act → World → Prop) (m : Nat) (M : List Nat) (w0 : World) (A : (Nat → Value) → Act) (p : Parts) : Nat → List Sp → Prop
  | 0, h => FinM ops Q M w0 A h
  | k + 1, h => ∃ s, OpOKM P ops Q m M w0 A p h h.length s ∧ RGM P ops Q m M w0 A p k (h ++ [s])
theorem RGM_all {w0 : World} {A : (Nat → Value) → Act} {p : Parts} (F : AnyF ops p) (ht : p.tail = []) :
    ∀ (k : Nat) (h : List Sp), h.length + k = ops.size → RGM P ops Q m M w0 A p k h →
      ∃ hs, (∀ j, j < h.length → spAt hs j = spAt h j) ∧ (∀ i, h.length ≤ i → i < ops.size → OpOKM P ops Q m M w0 A p hs i (spAt hs i)) ∧ FinM ops Q M w0 A hs
  | 0, h, hk, H => ⟨h, fun _ _ => rfl, fun i h1 h2 => by omega, H⟩
  | k + 1, h, hk, ⟨s, hop, H⟩ => by
    obtain ⟨hs, e, ok, fin⟩ := RGM_all F ht k (h ++ [s]) (by simp; omega) H
    have el : spAt hs h.length = s := (e h.length (by simp)).trans (spAt_last h s)
    have ej : ∀ j, j < h.length → spAt hs j = spAt h j := fun j hj => (e j (by simp; omega)).trans (spAt_app h s j hj)
    refine ⟨hs, ej, fun i h1 h2 => ?_, fin⟩
    by_cases hi : i = h.length
    · subst hi
      obtain ⟨c1, c2, c3, c4⟩ := hop
      rw [el]
      refine ⟨c1, c2, c3, fun γ u W hb hkn => c4 γ u W hb (Known.of fun j hj => ?_)⟩
      have := hkn.mem j hj
      obtain ⟨_, _, _, _, hD⟩ := F.dst h.length h2 (by rw [ht]; rfl)
      unfold Known1 at this ⊢
      rw [ej j (hD j hj).2] at this
      exact this
    · exact ok i (by simp; omega) h2
structure InvM (ops : Array Oper) (p : Parts) (hs : List Sp) (m : Nat) (M : List Nat) (w0 : World) (a0 : Act) (listed : Array Bool) (γ : Nat → Gh) (u : Nat → Value) (a : Act) (W : World) : Prop where
  bx : BX M w0 W
  bl : listed.getD m false = false → Below w0.heap.size w0 W
  put : a = putD a0 p.ds 0 u
  kn : ∀ j, j < ops.size → listed.getD j false = true → Known1 hs γ u w0 W j
theorem inv_upM {p : Parts} {hs : List Sp} {w0 : World} {a0 : Act} {A : (Nat → Value) → Act} (F : AnyF ops p) (ht : p.tail = [])
    (ok : ∀ i, i < ops.size → OpOKM P ops Q m M w0 A p hs i (spAt hs i)) {listed : Array Bool} {γ : Nat → Gh} {u : Nat → Value} {a : Act} {W W' : World} (inv : LInv ops p listed) (I : InvM ops p hs m M w0 a0 listed γ u a W)
    {i : Nat} {o : Oper} (hi : i < ops.size) (hun : listed.getD i true = false) (ho : ops[i]? = some o) (g : Gh)
    (hb' : StM m M i W W') (hR : (spAt hs i).R (up γ i g) W') (hbl : ∀ x ∈ (spAt hs i).bl g, W.heap.size ≤ x ∧ x < W'.heap.size) :
    InvM ops p hs m M w0 a0 (listed.setIfInBounds i true) (up γ i g) (up u i ((spAt hs i).val (up γ i g))) (a.put o.dst ((spAt hs i).val (up γ i g))) W' := by
  have htf : ∀ k, p.tail.contains k = false := fun k => by rw [ht]; rfl
  obtain ⟨hbx, hb, ha, hkn⟩ := I
  obtain ⟨o', ho', hdst, _, hD⟩ := F.dst i hi (htf i)
  obtain rfl : o = o' := Option.some.inj (ho.symm.trans ho')
  have hCl : ∀ j, j < ops.size → listed.getD j false = true → ∀ k ∈ p.C.getD j [], listed.getD k false = true := fun j hj hl =>
    F.closed_C inv j hj (htf j) fun o' ho' => inv.closed j o' ho' hl
  have hni : ∀ j, listed.getD j false = true → j ≠ i := fun j hj e => by rw [e, getD_both hun] at hj; cases hj
  have hbx' := hb'.bx
  refine ⟨hbx.trans hbx', fun hl => ?_, ?_, fun j hj hl => ?_⟩
  · have him : i ≠ m := fun e => by
      subst e
      have hlt : i < listed.size := by rw [inv.size]; exact hi
      simp [hlt] at hl
    have hl' : listed.getD m false = false := by rwa [getD_set_ne false him] at hl
    unfold StM at hb'
    rw [if_neg him] at hb'
    exact (hb hl').trans (hb'.mono (hb hl').size)
  · rw [ha, hdst]
    have := putD_up p.ds a0 0 i u ((spAt hs i).val (up γ i g)) F.dis (Nat.zero_le _) (by rw [F.len]; omega)
    simpa using this
  · rcases listed_set hl with rfl | hl
    · exact ⟨by simp [up], hR, fun x hx => by
        have : x ∈ (spAt hs j).bl g := by simpa [up] using hx
        have := hbl x this
        exact ⟨Nat.le_trans hbx.size this.1, this.2⟩⟩
    · have hji := hni j hl
      obtain ⟨k1, k2, k3⟩ := hkn j hj hl
      have hcg := (ok j hj).1 γ (up γ i g) (fun k hk => by
        have : k ≠ i := by
          rcases hk with rfl | hk
          · exact hji
          · exact hni k (hCl j hj hl k hk)
        simp [up, this])
      refine ⟨?_, hcg.2 _ ?_, fun x hx => ?_⟩
      · rw [← hcg.1, ← k1]; simp [up, hji]
      · unfold StM at hb'
        by_cases him : i = m
        · subst him
          rw [if_pos rfl] at hb'
          exact (ok j hj).2.2.1 hji γ W W' k3 hb' k2
        · rw [if_neg him] at hb'
          exact (ok j hj).2.1 γ W W' hb' k2
      · have := k3 x (by simpa [up, hji] using hx)
        exact ⟨this.1, Nat.lt_of_lt_of_le this.2 hbx'.size⟩
theorem any_headM {p : Parts} {hs : List Sp} {w0 : World} {a0 : Act} {A : (Nat → Value) → Act} (F : AnyF ops p) (ht : p.tail = []) (hA : ∀ u, putD a0 p.ds 0 u = A u)
    (ok : ∀ i, i < ops.size → OpOKM P ops Q m M w0 A p hs i (spAt hs i)) (fin : FinM ops Q M w0 A hs) :
    ∀ (f : Nat) (listed : Array Bool) (γ : Nat → Gh) (u : Nat → Value) (a : Act) (W : World), LInv ops p listed → cntp ops.size p listed = f → InvM ops p hs m M w0 a0 listed γ u a W →
      wpAny P .any ops Q f listed a W := by
  have htf : ∀ k, p.tail.contains k = false := fun k => by rw [ht]; rfl
  intro f
  induction f with
  | zero =>
    intro listed γ u a W inv hc I
    have e := cntp_zero inv hc
    have hl : ∀ j, j < ops.size → listed.getD j true = true := fun j hj => by
      rw [e, headA_at _ _ hj, htf]; rfl
    have hr : Region.ready .any ops listed = [] := by
      cases hrr : Region.ready .any ops listed with
      | nil => rfl
      | cons i l =>
        have hm : i ∈ Region.ready .any ops listed := by rw [hrr]; simp
        obtain ⟨hun, o, ho, _⟩ := mem_ready.1 hm
        rw [hl i (Array.getElem?_eq_some_iff.1 ho).1] at hun
        cases hun
    refine wpAny_done hr ?_ 0
    rw [I.put, hA]
    refine fin γ u W I.bx (Known.of fun j hj => ?_)
    have hjs := List.mem_range.1 hj
    refine I.kn j hjs ?_
    rw [e, headA_at _ _ hjs, htf]; rfl
  | succ f ih =>
    intro listed γ u a W inv hc I
    obtain ⟨j, hj, htj, hun⟩ := cntp_pos (n := ops.size) (p := p) (listed := listed) (by omega)
    refine ⟨fun h => ?_, fun i hr => ?_⟩
    · obtain ⟨i, _, _, hr⟩ := ready_first F inv j hj htj hun
      rw [h] at hr
      cases hr
    · obtain ⟨huni, o, ho, hall⟩ := mem_ready.1 hr
      have hi : i < ops.size := (Array.getElem?_eq_some_iff.1 ho).1
      have hlt : i < listed.size := by rw [inv.size]; exact hi
      have hkn : Known hs γ u w0 W (p.D.getD i []) := by
        obtain ⟨o', ho', hdst, hbk, hD⟩ := F.dst i hi (htf i)
        have hCi := F.closed_C inv i hi (htf i) fun o' ho' => by
          obtain rfl : o = o' := Option.some.inj (ho.symm.trans ho')
          exact hall
        exact Known.of fun k hk => I.kn k (by have := (hD k hk).2; omega) (hCi k (hD k hk).1)
      have hpre : PreM m M i w0 W := by
        unfold PreM
        split
        · rename_i e
          subst e
          exact I.bl (getD_both huni)
        · exact I.bx
      obtain ⟨o', ho', hop⟩ := (ok i hi).2.2.2 γ u W hpre hkn
      obtain rfl : o = o' := Option.some.inj (ho.symm.trans ho')
      rw [← hA, ← I.put] at hop
      unfold OpWM at hop
      refine wpOp_mono (fun a' W' hp => ?_) hop
      obtain ⟨g, e, hb', hR, hbl⟩ := hp
      rw [e]
      exact ih _ _ _ _ W' (inv.set hr (htf i)) (by have := cntp_set hi hlt (htf i) huni; omega) (inv_upM F ht ok inv I hi huni ho g hb' hR hbl)
end
/-- The walk of such a region. -/
theorem wp_anyM {P : Program} {Q : Exit → Act → World → Prop} {id : Nat} {a0 : Act} {w w0 : World} {l : List Oper} {A : (Nat → Value) → Act} (m : Nat) (M : List Nat) (p : Parts) (hm : P.follows .mixedOrders = true)
    (hB : anyOk l.toArray p = true) (ht : p.tail = []) (hb : Below w0.heap.size w0 w.drew) (hA : ∀ u, putD a0 p.ds 0 u = A u) (h : RGM P l.toArray (NoPanic Q) m M w0 A p l.toArray.size []) :
    (Code.region id l.toArray true).wp P Q a0 w := by
  refine wp_region_noPanic (wp_region_any hm ?_)
  have F := anyOk_spec hB
  obtain ⟨hs, _, ok, fin⟩ := RGM_all F ht _ [] (by simp) h
  have inv0 : LInv l.toArray p (Array.replicate l.toArray.size false) :=
    ⟨by simp, fun j oj _ hl => (by rw [getD_replicate_false] at hl; cases hl), fun t ht => getD_in (by have := F.tin t ht; simpa using this) (getD_replicate_false _ _)⟩
  have hc : cntp l.toArray.size p (Array.replicate l.toArray.size false) = l.toArray.size := by
    have hcn := F.cnt
    rw [ht] at hcn
    have : cntp l.toArray.size p (Array.replicate l.toArray.size false) = (List.range l.toArray.size).countP (fun j => !([] : List Nat).contains j) := by
      unfold cntp
      rw [ht]
      refine List.countP_congr fun j hj => ?_
      have : j < l.length := by have := List.mem_range.1 hj; simpa using this
      simp [this]
    rw [this]
    simp
  exact any_headM (P := P) (Q := NoPanic Q) F ht hA (fun i hi => ok i (Nat.zero_le _) hi) fin _ _ (fun _ => gh0) (fun j => match p.ds.getD j none with | some t => a0.tmps.getD t undef | none => undef) a0 w.drew inv0 hc
    ⟨bx_bl M hb, fun _ => hb, (putD_old p.ds a0 0 _ fun j _ => by rw [Nat.zero_add]; cases p.ds.getD j none <;> rfl).symm, fun j _ hl => (by rw [getD_replicate_false] at hl; cases hl)⟩
section
variable {P : Program} {ops : Array Oper} {Q : Exit → Act → World → Prop} {m : Nat} {M : List Nat} {w0 : World} {A : (Nat → Value) → Act} {p : Parts} {k i : Nat} {h : List Sp} {o : Oper} {val : (Nat → Gh) → Value}
theorem RGM.on (hn : h.length = i) (hne : i ≠ m) (hi : ops[i]? = some o) (hop : ∀ γ u W, BX M w0 W → KnownL h γ u w0 W (p.D.getD i []) → Region.wanted o (yielded ops (A u).tmps) = true ∧ (execOp (A u).eval o).run P W = .ok (.value (val γ)) W)
    (hc : ∀ γ γ' : Nat → Gh, (∀ j, j = i ∨ j ∈ p.C.getD i [] → γ j = γ' j) → val γ = val γ')
    (H : RGM P ops Q m M w0 A p k (h ++ [⟨val, fun _ _ => True, fun _ => []⟩])) : RGM P ops Q m M w0 A p (k + 1) h := by
  subst hn
  refine ⟨_, ⟨fun γ γ' hg => ⟨hc γ γ' hg, fun _ h => h⟩, fun _ _ _ _ h => h, fun _ _ _ _ _ _ h => h, fun γ u W hb hk => ⟨o, hi, ?_⟩⟩, H⟩
  unfold PreM at hb
  rw [if_neg hne] at hb
  obtain ⟨hw, hv⟩ := hop γ u W hb hk.toL
  unfold OpWM wpOp
  simp only [hi]
  rw [if_pos hw]
  refine .inl ?_
  unfold Oper.wp
  simp only [hv, Oper.upon]
  refine ⟨γ h.length, ?_, ?_, trivial, fun x hx => by cases hx⟩
  · rw [up_self]
  · unfold StM
    rw [if_neg hne]
    exact Below.refl _ _
/-- Any operation that meets a specification with a ghost. -/
theorem RGM.gh (s : Sp) (hn : h.length = i) (hne : i ≠ m) (hi : ops[i]? = some o)
    (hop : ∀ γ u W, BX M w0 W → KnownL h γ u w0 W (p.D.getD i []) → Region.wanted o (yielded ops (A u).tmps) = true ∧
      ∀ K : Act → World → Prop, Shut (∀ g v W', v = s.val (up γ i g) → Below W.heap.size W W' → s.R (up γ i g) W' → (∀ x ∈ s.bl g, W.heap.size ≤ x ∧ x < W'.heap.size) → K ((A u).put o.dst v) W') → Oper.wp P o (A u) W K Q)
    (hc : Cong (p.C.getD i []) i s) (hm : ∀ γ W W', Below W.heap.size W W' → s.R γ W → s.R γ W') (hx : ∀ γ W W', (∀ x ∈ s.bl (γ i), w0.heap.size ≤ x ∧ x < W.heap.size) → BX M W W' → s.R γ W → s.R γ W')
    (H : RGM P ops Q m M w0 A p k (h ++ [s])) : RGM P ops Q m M w0 A p (k + 1) h := by
  subst hn
  refine ⟨s, ⟨hc, hm, fun _ => hx, fun γ u W hb hk => ⟨o, hi, ?_⟩⟩, H⟩
  unfold PreM at hb
  rw [if_neg hne] at hb
  obtain ⟨hw, hx⟩ := hop γ u W hb hk.toL
  unfold OpWM wpOp
  simp only [hi]
  rw [if_pos hw]
  exact .inl (hx _ (shut_in fun g v W' hv hb' hR hbl => ⟨g, by rw [hv], by unfold StM; rw [if_neg hne]; exact hb', hR, hbl⟩))
theorem RGM.call (hn : h.length = i) (hne : i ≠ m) (hi : ops[i]? = some o)
    (hop : ∀ γ u W, BX M w0 W → KnownL h γ u w0 W (p.D.getD i []) → Region.wanted o (yielded ops (A u).tmps) = true ∧
      ∀ K : Act → World → Prop, Shut (∀ v W', v = val γ → Below W.heap.size W W' → K ((A u).put o.dst v) W') → Oper.wp P o (A u) W K Q)
    (hc : ∀ γ γ' : Nat → Gh, (∀ j, j = i ∨ j ∈ p.C.getD i [] → γ j = γ' j) → val γ = val γ')
    (H : RGM P ops Q m M w0 A p k (h ++ [⟨val, fun _ _ => True, fun _ => []⟩])) : RGM P ops Q m M w0 A p (k + 1) h :=
  RGM.gh _ hn hne hi (fun γ u W hb hk => ⟨(hop γ u W hb hk).1, fun K hK => (hop γ u W hb hk).2 K (shut_in fun v W' hv hb' => hK.out (γ i) v W' (by rw [up_self]; exact hv) hb' trivial (fun x hx => by cases hx))⟩)
    (fun γ γ' hg => ⟨hc γ γ' hg, fun _ h => h⟩) (fun _ _ _ _ h => h) (fun _ _ _ _ _ h => h) H
/-- The operation that turns the blocks M. -/
theorem RGM.mut (s : Sp) (hn : h.length = i) (he : i = m) (hi : ops[i]? = some o)
    (hop : ∀ γ u W, Below w0.heap.size w0 W → KnownL h γ u w0 W (p.D.getD i []) → Region.wanted o (yielded ops (A u).tmps) = true ∧
      ∀ K : Act → World → Prop, Shut (∀ g v W', v = s.val (up γ i g) → BX M W W' → s.R (up γ i g) W' → (∀ x ∈ s.bl g, W.heap.size ≤ x ∧ x < W'.heap.size) → K ((A u).put o.dst v) W') → Oper.wp P o (A u) W K Q)
    (hc : Cong (p.C.getD i []) i s) (hm : ∀ γ W W', Below W.heap.size W W' → s.R γ W → s.R γ W')
    (H : RGM P ops Q m M w0 A p k (h ++ [s])) : RGM P ops Q m M w0 A p (k + 1) h := by
  subst hn
  refine ⟨s, ⟨hc, hm, fun h => absurd he h, fun γ u W hb hk => ⟨o, hi, ?_⟩⟩, H⟩
  unfold PreM at hb
  rw [if_pos he] at hb
  obtain ⟨hw, hx⟩ := hop γ u W hb hk.toL
  unfold OpWM wpOp
  simp only [hi]
  rw [if_pos hw]
  exact .inl (hx _ (shut_in fun g v W' hv hb' hR hbl => ⟨g, by rw [hv], by unfold StM; rw [if_pos he]; exact hb', hR, hbl⟩))
/-- A new block, and a slice of it. -/
theorem RGM.bslice {t : TypeId} {cs : (Nat → Gh) → Array Value} {n c : Nat} (hn : h.length = i) (hne : i ≠ m) (hM : ∀ x ∈ M, x < w0.heap.size) (hi : ops[i]? = some o)
    (hop : ∀ γ u W, BX M w0 W → KnownL h γ u w0 W (p.D.getD i []) → Region.wanted o (yielded ops (A u).tmps) = true ∧
      ∀ K : Act → World → Prop, Shut (∀ v W', v = .slice (some ⟨W.heap.size, 0, none⟩) n c → W' = W.alloc (.cells (cs γ) t) → K ((A u).put o.dst v) W') → Oper.wp P o (A u) W K Q)
    (hc : ∀ γ γ' : Nat → Gh, (∀ j, j ≠ i → j ∈ p.C.getD i [] → γ j = γ' j) → cs γ = cs γ') (hni : (p.C.getD i []).contains i = false)
    (H : RGM P ops Q m M w0 A p k (h ++ [⟨fun γ => .slice (some ⟨(γ i).n, 0, none⟩) n c, fun γ W => Blk W (γ i).n t (cs γ), fun g => [g.n]⟩])) : RGM P ops Q m M w0 A p (k + 1) h := by
  refine RGM.gh _ hn hne hi (fun γ u W hb hk => ⟨(hop γ u W hb hk).1, fun K hK => (hop γ u W hb hk).2 K (shut_in fun v W' hv hW => ?_)⟩) (fun γ γ' hg => ?_) (fun γ W W' hb hR => Blk.below hR hb) (fun γ W W' hbd hb hR => ?_) H
  · subst hW
    refine hK.out ⟨W.heap.size, undef, none, 0⟩ v _ (by simp [up, hv]) (bl_al _ (bl_refl W)) ?_ (fun x hx => ?_)
    · have : cs (up γ i ⟨W.heap.size, undef, none, 0⟩) = cs γ := hc _ _ fun j hj _ => by simp [up, hj]
      dsimp only
      rw [this]
      simpa [up] using Blk.new W t (cs γ)
    · have : x = W.heap.size := by simpa using hx
      subst this
      simp
  · have h1 := hg i (.inl rfl)
    have h2 : cs γ = cs γ' := hc γ γ' fun j _ hj => hg j (.inr hj)
    exact ⟨by dsimp only; rw [h1], fun W hR => by dsimp only at hR ⊢; rw [← h1, ← h2]; exact hR⟩
  · refine Blk.keep hR (fun hx => ?_) hb
    have h1 := hM _ hx
    have h2 := hbd _ (List.mem_singleton.2 rfl)
    omega
theorem RGM.fin (H : ∀ γ u W, BX M w0 W → KnownL h γ u w0 W (List.range ops.size) → Q .normal (A u) W) : RGM P ops (NoPanic Q) m M w0 A p 0 h := fun γ u W hb hk => H γ u W hb hk.toL
end
end Go.Proofs.YtbdgblnccjpahaaGreatDoor
namespace Go.Proofs.YtbdgblnccjpahaaGreatDoor
open Go.RowKit Go.Shelf
attribute [local go_sem] bl_al bl_drew bl_drewN bl_refl bx_al bx_drew bx_drewN bx_refl
set_option maxRecDepth 20000
structure RwIn (r : Rw) (w : World) : Prop where
  len : r.l.length ≤ 1000
  cap : r.l.length ≤ r.c
  sl : Sl cI 1 w r.A r.l
structure FuIn (f : Fu) (w : World) : Prop where
  nm : f.name.size ≤ maxLen
  len : f.ws.length ≤ 1000
  cap : f.ws.length ≤ f.c
  sl : Sl cRw 1 w f.A f.ws
  rows : ∀ r ∈ f.ws, RwIn r w
structure MdIn (m : Md) (w : World) : Prop where
  nm : m.name.size ≤ maxLen
  row : RwIn m.r w
/-- A net lies where the headers of its slices say. -/
structure NtIn (n : Nt) (Ap Af Am : Option Addr) (cp cf cm : Nat) (w : World) : Prop where
  plen : n.ps.length ≤ 1000
  flen : n.fs.length ≤ 1000
  mlen : n.ms.length ≤ 1000
  pcap : n.ps.length ≤ cp
  fcap : n.fs.length ≤ cf
  mcap : n.ms.length ≤ cm
  psl : Sl cS 1 w Ap n.ps
  fsl : Sl cFu 2 w Af n.fs
  msl : Sl cMd 2 w Am n.ms
  pnm : ∀ s ∈ n.ps, s.size ≤ maxLen
  fin : ∀ f ∈ n.fs, FuIn f w
  min : ∀ m ∈ n.ms, MdIn m w
theorem RwIn.below {r : Rw} {w w' : World} (h : RwIn r w) (hb : Below w.heap.size w w') : RwIn r w' := ⟨h.len, h.cap, h.sl.below hb⟩
theorem FuIn.below {f : Fu} {w w' : World} (h : FuIn f w) (hb : Below w.heap.size w w') : FuIn f w' := ⟨h.nm, h.len, h.cap, h.sl.below hb, fun r hr => (h.rows r hr).below hb⟩
theorem MdIn.below {m : Md} {w w' : World} (h : MdIn m w) (hb : Below w.heap.size w w') : MdIn m w' := ⟨h.nm, h.row.below hb⟩
theorem NtIn.below {n : Nt} {Ap Af Am : Option Addr} {cp cf cm : Nat} {w w' : World} (h : NtIn n Ap Af Am cp cf cm w) (hb : Below w.heap.size w w') : NtIn n Ap Af Am cp cf cm w' :=
  ⟨h.plen, h.flen, h.mlen, h.pcap, h.fcap, h.mcap, h.psl.below hb, h.fsl.below hb, h.msl.below hb, h.pnm, fun f hf => (h.fin f hf).below hb, fun m hm => (h.min m hm).below hb⟩
theorem RwIn.map {r : Rw} {L : List ByteArray} {g m : Nat} {w w' : World} (h : RwIn r w) (hs : Seen L g m w) (hb : BX [m] w w') : RwIn r w' := ⟨h.len, h.cap, sl_map h.sl hs hb⟩
theorem FuIn.map {f : Fu} {L : List ByteArray} {g m : Nat} {w w' : World} (h : FuIn f w) (hs : Seen L g m w) (hb : BX [m] w w') : FuIn f w' := ⟨h.nm, h.len, h.cap, sl_map h.sl hs hb, fun r hr => (h.rows r hr).map hs hb⟩
theorem MdIn.map {d : Md} {L : List ByteArray} {g m : Nat} {w w' : World} (h : MdIn d w) (hs : Seen L g m w) (hb : BX [m] w w') : MdIn d w' := ⟨h.nm, h.row.map hs hb⟩
theorem ways_snoc (parts e : Int) (ws : List Rw) (r : Rw) : waysE parts e (ws ++ [r]) = fstE [waysE parts e ws, unl (decide (0 < r.l.length)) 10, idxErr r.l parts] := by simp [waysE, List.foldl_append]
abbrev vName (g : Nat) : Value := .func (.func 204) #[] #[.pointer (some ⟨g, 0, none⟩)]
abbrev tName : TypeId := 229
theorem c_net1 (i : Int) (L : List ByteArray) (s : ByteArray) (Bn g m : Nat) (w : World) (kn : Blk w Bn tName #[vName g]) (hs : Seen L g m w) (hn : s.size ≤ maxLen) (hL : L.length ≤ 1000) :
    Calls Tryz.prog 171 #[.int .i64 i, .string s, .pointer (some ⟨Bn, 0, none⟩)] w
      (fun e w' => e = .returned (.int .i64 (fstE [unl (nameB s) 4, unl (!knownB L s) 5])) ∧ BX [m] w w' ∧ Seen (L ++ [s]) g m w') := by
  have hcall := Lib.hid (c_names1 L s g m w hs hn hL)
  have L0 := kn.cell
  clear hs
  go_enter Tryz.func171, Tryz.ntmps171
  go_wp2_with fail
  refine hcall.out.mono ?_
  rintro e w3 ⟨rfl, hb3, hs3⟩
  go_wp2
  go_ret
  exact ⟨rfl, hb3, hs3⟩
set_option maxHeartbeats 4000000 in
theorem c_net2 (i parts : Int) (L : List ByteArray) (f : Fu) (Bn Bp g m : Nat) (w : World) (kn : Blk w Bn tName #[vName g]) (kp : Blk w Bp 3 #[.int .i64 parts]) (hs : Seen L g m w) (hf : FuIn f w) (hL : L.length ≤ 1000) (hpt : 0 ≤ parts ∧ parts ≤ 1000000)
    (hnm : m ≠ Bn) (hpm : m ≠ Bp) :
    Calls Tryz.prog 173 #[.int .i64 i, vFu f, .pointer (some ⟨Bn, 0, none⟩), .pointer (some ⟨Bp, 0, none⟩)] w
      (fun e w' => e = .returned (.int .i64 (waysE parts (fstE [fstE [unl (nameB f.name) 4, unl (!knownB L f.name) 5], unl (decide (0 < f.ws.length)) 10, unl (decide ((f.ws.length : Int) ≤ 6)) 8]) f.ws)) ∧ BX [m] w w' ∧ Seen (L ++ [f.name]) g m w') := by
  have hcall := Lib.hid fun (W : World) (h : Seen L g m W) => c_names1 L f.name g m W h hf.nm hL
  obtain ⟨nm, A, c, ws⟩ := f
  have hf' := Lib.hid hf
  have hlen := hf.len
  dsimp only at *
  change Calls Tryz.prog 173 #[.int .i64 i, .agg #[.string nm, .slice A ws.length c], .pointer (some ⟨Bn, 0, none⟩), .pointer (some ⟨Bp, 0, none⟩)] w _
  generalize hwl : ws.length = nw at *
  replace hwl := Lib.hid hwl
  clear hf
  go_enter Tryz.func173, Tryz.ntmps173
  go_upto_region 1 with fail
  have hsn := hs.below (bl_al (.cells #[.string nm, .slice A nw c] 144) (bl_refl w))
  replace kn := kn.alloc (.cells #[.string nm, .slice A nw c] 144)
  replace kp := kp.alloc (.cells #[.string nm, .slice A nw c] 144)
  have k0 := Blk.new w 144 #[.string nm, .slice A nw c]
  have hbx : BX [m] w (w.alloc (.cells #[.string nm, .slice A nw c] 144)) := bx_al _ (bx_refl _ _)
  have hmw : m ≠ w.heap.size := fun e => by
    subst e
    obtain ⟨es, clock, h1, _⟩ := hsn.map
    unfold Blk at k0
    rw [h1] at k0
    cases k0
  generalize w.alloc (.cells #[.string nm, .slice A nw c] 144) = wa at *
  have hmx : w.heap.size ∉ [m] := by simpa using fun e => hmw e.symm
  have hnx : Bn ∉ [m] := by simpa using fun e => hnm e.symm
  have hpx : Bp ∉ [m] := by simpa using fun e => hpm e.symm
  have hml : ∀ x ∈ [m], x < wa.heap.size := by
    obtain ⟨es, clock, h1, _⟩ := hsn.map
    have := (Array.getElem?_eq_some_iff.1 h1).1
    simpa using this
  have L0 := k0.laterX hmx
  have Ln := kn.laterX hnx
  replace hsn := Lib.hid hsn
  have hb0 : Hid (BX [m] w wa) := Lib.hid hbx
  replace hf' := Lib.hid (hf'.out.map hs hbx)
  clear hbx hs
  refine wp_anyM (w0 := wa) 3 [m] ⟨[], [], [some 10, some 11, some 12, some 13, some 14, some 15, some 16, some 17, some 18, some 19, some 20, some 21, some 22, some 23, some 24, some 25, some 7], [[], [], [1], [0, 1, 2], [], [4], [4, 5], [4, 5, 6], [0, 1, 2, 3, 4, 5, 6, 7], [], [9], [9, 10], [9, 10, 11], [0, 1, 2, 3, 4, 5, 6, 7, 8, 9, 10, 11, 12], [0, 1, 2, 3, 4, 5, 6, 7, 8, 9, 10, 11, 12, 13], [0, 1, 2, 3, 4, 5, 6, 7, 8, 9, 10, 11, 12, 13, 14], [0, 1, 2, 3, 4, 5, 6, 7, 8, 9, 10, 11, 12, 13, 14, 15]], [[], [], [1], [0, 2], [], [4], [5], [6], [7], [], [9], [10], [11], [12], [3, 8, 13], [3, 14], [3, 14, 15]]⟩ (by kernel_rfl) (by kernel_rfl) rfl (by (exact zE)) (fun u => by simp only [putD, Act.put, List.setIfInBounds_toArray, List.set_cons_zero, List.set_cons_succ, Nat.zero_add, Nat.reduceAdd]; rfl) ?_
  apply RGM.on (i := 0) rfl (by decide)
  · exact zG
  · intro γ u W hcur hd
    clear hd
    (try dsimp only)
    refine ⟨rfl, ?_⟩
    go_simp <;> (try go_bits) <;> with_reducible rfl
  · exact zC
  dsimp only [nA, cA]
  apply RGM.on (i := 1) rfl (by decide)
  · exact zG
  · intro γ u W hcur hd
    clear hd
    (try dsimp only)
    refine ⟨rfl, ?_⟩
    go_simp <;> (try go_bits) <;> with_reducible rfl
  · exact zC
  dsimp only [nA, cA]
  apply RGM.on (i := 2) rfl (by decide)
  · exact zG
  · intro γ u W hcur hd
    obtain ⟨⟨h1, -, -⟩, -⟩ := hd
    dsimp only at h1
    (try simp only [h1])
    refine ⟨rfl, ?_⟩
    go_simp <;> (try go_bits) <;> with_reducible rfl
  · exact zC
  dsimp only [nA, cA]
  apply RGM.mut (⟨fun _ => .int .i64 (fstE [unl (nameB nm) 4, unl (!knownB L nm) 5]), fun _ W => Seen (L ++ [nm]) g m W, fun _ => []⟩) (i := 3) rfl rfl
  · exact zG
  · intro γ u W hcur hd
    obtain ⟨⟨h0, -, -⟩, ⟨h2, -, -⟩, -⟩ := hd
    dsimp only at h0 h2
    (try simp only [h0, h2])
    refine ⟨rfl, fun K hK => ?_⟩
    go_simp
    (go_at_call 204; (with_reducible refine (hcall.out _ (hsn.out.below hcur)).mono ?_); rintro e w3 ⟨rfl, hb3, hs3⟩; dsimp only; exact hK.out ⟨0, undef, none, 0⟩ _ _ rfl hb3 hs3 (by simp))
  · exact fun _ _ _ => ⟨rfl, fun _ h => h⟩
  · intro γ W W' hbl hR
    exact hR.below hbl
  dsimp only [nA, cA]
  apply RGM.on (i := 4) rfl (by decide)
  · exact zG
  · intro γ u W hcur hd
    clear hd
    (try dsimp only)
    refine ⟨rfl, ?_⟩
    go_simp <;> (try go_bits) <;> with_reducible rfl
  · exact zC
  dsimp only [nA, cA]
  apply RGM.on (i := 5) rfl (by decide)
  · exact zG
  · intro γ u W hcur hd
    obtain ⟨⟨h4, -, -⟩, -⟩ := hd
    dsimp only at h4
    (try simp only [h4])
    refine ⟨rfl, ?_⟩
    go_simp <;> (try go_bits) <;> with_reducible rfl
  · exact zC
  dsimp only [nA, cA]
  apply RGM.on (i := 6) rfl (by decide)
  · exact zG
  · intro γ u W hcur hd
    obtain ⟨⟨h5, -, -⟩, -⟩ := hd
    dsimp only at h5
    (try simp only [h5])
    refine ⟨rfl, ?_⟩
    go_simp <;> (try go_bits) <;> with_reducible rfl
  · exact zC
  dsimp only [nA, cA]
  apply RGM.on (i := 7) rfl (by decide)
  · exact zG
  · intro γ u W hcur hd
    obtain ⟨⟨h6, -, -⟩, -⟩ := hd
    dsimp only at h6
    (try simp only [h6])
    refine ⟨rfl, ?_⟩
    go_simp <;> (try go_bits) <;> with_reducible rfl
  · exact zC
  dsimp only [nA, cA]
  apply RGM.call (i := 8) rfl (by decide)
  · exact zG
  · intro γ u W hcur hd
    obtain ⟨⟨h7, -, -⟩, -⟩ := hd
    dsimp only at h7
    (try simp only [h7])
    refine ⟨rfl, fun K hK => ?_⟩
    go_simp
    first
    | (go_at_call 58; (with_reducible refine (c_unless _ _ _).mono ?_); rintro e w3 ⟨rfl, rfl⟩)
    | (go_at_call 74; (with_reducible refine (c_first3 (by (exact zK))).mono ?_); rintro e w3 ⟨rfl, rfl⟩)
    (try dsimp only)
    exact hK.out _ _ rfl (by (exact zE))
  · exact zC
  dsimp only [nA, cA]
  apply RGM.on (i := 9) rfl (by decide)
  · exact zG
  · intro γ u W hcur hd
    clear hd
    (try dsimp only)
    refine ⟨rfl, ?_⟩
    go_simp <;> (try go_bits) <;> with_reducible rfl
  · exact zC
  dsimp only [nA, cA]
  apply RGM.on (i := 10) rfl (by decide)
  · exact zG
  · intro γ u W hcur hd
    obtain ⟨⟨h9, -, -⟩, -⟩ := hd
    dsimp only at h9
    (try simp only [h9])
    refine ⟨rfl, ?_⟩
    go_simp <;> (try go_bits) <;> with_reducible rfl
  · exact zC
  dsimp only [nA, cA]
  apply RGM.on (i := 11) rfl (by decide)
  · exact zG
  · intro γ u W hcur hd
    obtain ⟨⟨h10, -, -⟩, -⟩ := hd
    dsimp only at h10
    (try simp only [h10])
    refine ⟨rfl, ?_⟩
    go_simp <;> (try go_bits) <;> with_reducible rfl
  · exact zC
  dsimp only [nA, cA]
  apply RGM.on (i := 12) rfl (by decide)
  · exact zG
  · intro γ u W hcur hd
    obtain ⟨⟨h11, -, -⟩, -⟩ := hd
    dsimp only at h11
    (try simp only [h11])
    refine ⟨rfl, ?_⟩
    go_simp <;> (try go_bits) <;> with_reducible rfl
  · exact zC
  dsimp only [nA, cA]
  apply RGM.call (i := 13) rfl (by decide)
  · exact zG
  · intro γ u W hcur hd
    obtain ⟨⟨h12, -, -⟩, -⟩ := hd
    dsimp only at h12
    (try simp only [h12])
    refine ⟨rfl, fun K hK => ?_⟩
    go_simp
    first
    | (go_at_call 58; (with_reducible refine (c_unless _ _ _).mono ?_); rintro e w3 ⟨rfl, rfl⟩)
    | (go_at_call 74; (with_reducible refine (c_first3 (by (exact zK))).mono ?_); rintro e w3 ⟨rfl, rfl⟩)
    (try dsimp only)
    exact hK.out _ _ rfl (by (exact zE))
  · exact zC
  dsimp only [nA, cA]
  apply RGM.bslice (i := 14) rfl (by decide) hml
  · exact zG
  · intro γ u W hcur hd
    obtain ⟨⟨h3, r3, -⟩, ⟨h8, -, -⟩, ⟨h13, -, -⟩, -⟩ := hd
    dsimp only at h3 h8 h13 r3
    (try simp only [h3, h8, h13])
    refine ⟨rfl, fun K hK => ?_⟩
    go_simp
    exact hK.out _ _ rfl rfl
  · exact zC
  · rfl
  dsimp only [nA, cA]
  apply RGM.call (i := 15) rfl (by decide)
  · exact zG
  · intro γ u W hcur hd
    obtain ⟨⟨h3, r3, -⟩, ⟨h14, r14, -⟩, -⟩ := hd
    dsimp only at h3 h14 r3 r14
    (try simp only [h3, h14])
    refine ⟨rfl, fun K hK => ?_⟩
    go_simp
    first
    | (go_at_call 58; (with_reducible refine (c_unless _ _ _).mono ?_); rintro e w3 ⟨rfl, rfl⟩)
    | (go_at_call 74; (with_reducible refine (c_first3 (by (exact zK))).mono ?_); rintro e w3 ⟨rfl, rfl⟩)
    (try dsimp only)
    exact hK.out _ _ rfl (by (exact zE))
  · first
    | exact zC
    | intro γ γ' hg
      try dsimp only
      have e14 := hg 14 (by decide)
      simp only [e14]
  dsimp only [nA, cA]
  apply RGM.on (i := 16) rfl (by decide)
  · exact zG
  · intro γ u W hcur hd
    obtain ⟨⟨h3, r3, -⟩, ⟨h14, r14, -⟩, ⟨h15, -, -⟩, -⟩ := hd
    dsimp only at h3 h14 h15 r3 r14
    (try simp only [h3, h14, h15])
    refine ⟨rfl, ?_⟩
    go_simp <;> (try go_bits) <;> with_reducible rfl
  · first
    | exact zC
    | intro γ γ' hg
      try dsimp only
      have e14 := hg 14 (by decide)
      simp only [e14]
  dsimp only [nA, cA]
  refine RGM.fin (fun γ u wb hwb hd => ?_)
  obtain ⟨⟨h0, -, -⟩, ⟨h1, -, -⟩, ⟨h2, -, -⟩, ⟨h3, r3, -⟩, ⟨h4, -, -⟩, ⟨h5, -, -⟩, ⟨h6, -, -⟩, ⟨h7, -, -⟩, ⟨h8, -, -⟩, ⟨h9, -, -⟩, ⟨h10, -, -⟩, ⟨h11, -, -⟩, ⟨h12, -, -⟩, ⟨h13, -, -⟩, ⟨h14, r14, b14⟩, ⟨h15, -, -⟩, ⟨h16, -, -⟩, -⟩ := hd
  dsimp only at h0 h1 h2 h3 h4 h5 h6 h7 h8 h9 h10 h11 h12 h13 h14 h15 h16 r3 r14 b14
  simp only [h0, h1, h2, h3, h4, h5, h6, h7, h8, h9, h10, h11, h12, h13, h14, h15, h16]
  clear h16 h15 h14 h13 h12 h11 h10 h9 h8 h7 h6 h5 h4 h3 h2 h1 h0
  replace b14 := b14 _ (List.mem_singleton.2 rfl)
  generalize hγ14 : (γ 14).n = g14 at *
  clear hγ14
  clear u
  have hs2 := r3
  have hbx := hb0.out.trans hwb
  replace kp := kp.keep hpx hwb
  have hfb := Lib.hid (hf'.out.map hsn.out hwb)
  replace hs2 := Lib.hid hs2
  replace hbx := Lib.hid hbx
  replace k0 := k0.keep hmx hwb
  have hlp := kp.later
  have hl0 := k0.later
  clear hwb hb0 hf' hsn r3 r14 b14 kn Ln L0 hcall hml
  generalize hE : fstE [fstE [unl (nameB nm) 4, unl (!knownB L nm) 5], unl (decide (0 < nw)) 10, unl (decide ((nw : Int) ≤ 6)) 8] = E at *
  replace hE := Lib.hid hE
  have hst := Lib.hid fun (j : Nat) (r : Rw) (h : ws[j]? = some r) => (show waysE parts E (ws.take (j + 1)) = fstE [waysE parts E (ws.take j), unl (decide (0 < r.l.length)) 10, idxErr r.l parts] by rw [List.take_add_one, h]; exact ways_snoc parts E _ r)
  have hs0 : Hid (waysE parts E (ws.take 0) = E) := rfl
  have hse : Hid (waysE parts E (ws.take nw) = waysE parts E ws) := Lib.hid (by rw [List.take_of_length_le (by have := hwl.out; omega)])
  obtain ⟨f, hf⟩ : ∃ f : Nat → Int, ∀ j, waysE parts E (ws.take j) = f j := ⟨_, fun _ => rfl⟩
  simp only [hf] at hst hs0 hse
  clear hf
  go_wp2
  go_loopw [7, 29] (fun v i wr => ∃ j : Nat, j ≤ nw ∧ i = .int .i64 j ∧ v = .int .i64 (f j) ∧ Below wb.heap.size wb wr) (fun _ i _ => nw - (intOf i).toNat)
  case atStart => exact ⟨0, Nat.zero_le _, rfl, by rw [hs0.out], Below.refl _ _⟩
  case round =>
    obtain ⟨j, hj, rfl, rfl, hb0⟩ := hrel
    by_cases hlt : j < nw
    · have hx : ws[j]? = some (ws[j]'(by rw [hwl.out]; exact hlt)) := List.getElem?_eq_getElem _
      generalize ws[j]'(by rw [hwl.out]; exact hlt) = r at hx
      have hr := (hfb.out.below hb0).rows r (List.mem_of_getElem? hx)
      obtain ⟨b, off, hA, hc⟩ := (hfb.out.below hb0).sl j r hx
      have hn := Lib.hid (hst.out j r hx)
      obtain ⟨rA, rc, rl⟩ := r
      dsimp only at hA
      subst hA
      have c0 : wr.cell? ⟨b, off + j, none⟩ = some (.slice rA rl.length rc) := by simpa using hc 0 _ rfl
      have hie := Lib.hid fun (W : World) (hb : Below wr.heap.size wr W) => c_indexesErr rl parts rA rc W (hr.sl.below hb) hr.len hpt
      have hrl := hr.len
      dsimp only at hrl hn
      clear hc hx hr
      generalize rl.length = n at *
      go_upto_region 5 with fail
      have hlp' := fun W (h : Below wr.heap.size wr W) => hlp W (bl_tr hb0 h)
      refine wp_any (w0 := wr) ⟨[10], [], [some 33, some 34, some 35, some 36, some 37, some 38, some 39, some 40, some 41, some 42, none], [[], [], [1], [1, 2], [1, 2, 3], [], [], [1, 2, 3, 4, 5, 6], [0, 1, 2, 3, 4, 5, 6, 7], [0, 1, 2, 3, 4, 5, 6, 7, 8], [0, 1, 2, 3, 4, 5, 6, 7, 8, 9]], [[], [], [1], [2], [3], [], [], [5, 6], [0, 4, 7], [8], []]⟩ (fun _ => []) (by kernel_rfl) (by kernel_rfl) (by (exact zE)) (fun u => by simp only [putD, Act.put, List.setIfInBounds_toArray, List.set_cons_zero, List.set_cons_succ, Nat.zero_add, Nat.reduceAdd]; rfl) ?_
      apply RGW.on (i := 0) rfl
      · exact zG
      · intro γ u W hcur hd
        clear hd
        (try dsimp only)
        exact ⟨rfl, zS⟩
      · exact zC
      · rfl
      dsimp only [nA, cA]
      apply RGW.on (i := 1) rfl
      · exact zG
      · intro γ u W hcur hd
        clear hd
        (try dsimp only)
        exact ⟨rfl, zS⟩
      · exact zC
      · rfl
      dsimp only [nA, cA]
      apply RGW.on (i := 2) rfl
      · exact zG
      · intro γ u W hcur hd
        obtain ⟨⟨h1, -, -⟩, -⟩ := hd
        dsimp only at h1
        (try simp only [h1])
        exact ⟨rfl, zS⟩
      · exact zC
      · rfl
      dsimp only [nA, cA]
      apply RGW.on (i := 3) rfl
      · exact zG
      · intro γ u W hcur hd
        obtain ⟨⟨h2, -, -⟩, -⟩ := hd
        dsimp only at h2
        (try simp only [h2])
        exact ⟨rfl, zS⟩
      · exact zC
      · rfl
      dsimp only [nA, cA]
      apply RGW.call (i := 4) rfl
      · exact zG
      · intro γ u W hcur hd
        obtain ⟨⟨h3, -, -⟩, -⟩ := hd
        dsimp only at h3
        (try simp only [h3])
        refine ⟨rfl, fun K hK => ?_⟩
        go_simp
        first
        | (go_at_call 58; (with_reducible refine (c_unless _ _ _).mono ?_); rintro e w3 ⟨rfl, rfl⟩)
        | (go_at_call 143; (with_reducible refine (hie.out _ (by (exact zE))).mono ?_); rintro e w3 ⟨rfl, hb3⟩; replace hb3 := bl_tt hb3)
        | (go_at_call 74; (with_reducible refine (c_first3 (by (exact zK))).mono ?_); rintro e w3 ⟨rfl, rfl⟩)
        (try dsimp only)
        exact hK.out _ _ rfl (by (exact zE))
      · exact zC
      · rfl
      dsimp only [nA, cA]
      apply RGW.on (i := 5) rfl
      · exact zG
      · intro γ u W hcur hd
        clear hd
        (try dsimp only)
        exact ⟨rfl, zS⟩
      · exact zC
      · rfl
      dsimp only [nA, cA]
      apply RGW.on (i := 6) rfl
      · exact zG
      · intro γ u W hcur hd
        clear hd
        (try dsimp only)
        exact ⟨rfl, zS⟩
      · exact zC
      · rfl
      dsimp only [nA, cA]
      apply RGW.call (i := 7) rfl
      · exact zG
      · intro γ u W hcur hd
        obtain ⟨⟨h5, -, -⟩, ⟨h6, -, -⟩, -⟩ := hd
        dsimp only at h5 h6
        (try simp only [h5, h6])
        refine ⟨rfl, fun K hK => ?_⟩
        go_simp
        first
        | (go_at_call 58; (with_reducible refine (c_unless _ _ _).mono ?_); rintro e w3 ⟨rfl, rfl⟩)
        | (go_at_call 143; (with_reducible refine (hie.out _ (by (exact zE))).mono ?_); rintro e w3 ⟨rfl, hb3⟩; replace hb3 := bl_tt hb3)
        | (go_at_call 74; (with_reducible refine (c_first3 (by (exact zK))).mono ?_); rintro e w3 ⟨rfl, rfl⟩)
        (try dsimp only)
        exact hK.out _ _ rfl (by (exact zE))
      · exact zC
      · rfl
      dsimp only [nA, cA]
      apply RGW.bslice (i := 8) rfl
      · exact zG
      · intro γ u W hcur hd
        obtain ⟨⟨h0, -, -⟩, ⟨h4, -, -⟩, ⟨h7, -, -⟩, -⟩ := hd
        dsimp only at h0 h4 h7
        (try simp only [h0, h4, h7])
        refine ⟨rfl, fun K hK => ?_⟩
        go_simp
        exact hK.out _ _ rfl rfl
      · exact zC
      · rfl
      · rfl
      dsimp only [nA, cA]
      apply RGW.call (i := 9) rfl
      · exact zG
      · intro γ u W hcur hd
        obtain ⟨⟨h8, r8, -⟩, -⟩ := hd
        dsimp only at h8 r8
        have L8 := r8.cell
        (try simp only [h8])
        refine ⟨rfl, fun K hK => ?_⟩
        go_simp
        first
        | (go_at_call 58; (with_reducible refine (c_unless _ _ _).mono ?_); rintro e w3 ⟨rfl, rfl⟩)
        | (go_at_call 143; (with_reducible refine (hie.out _ (by (exact zE))).mono ?_); rintro e w3 ⟨rfl, hb3⟩; replace hb3 := bl_tt hb3)
        | (go_at_call 74; (with_reducible refine (c_first3 (by (exact zK))).mono ?_); rintro e w3 ⟨rfl, rfl⟩)
        (try dsimp only)
        exact hK.out _ _ rfl (by (exact zE))
      · first
        | exact zC
        | intro γ γ' hg
          try dsimp only
          have e8 := hg 8 (by decide)
          simp only [e8]
      · rfl
      dsimp only [nA, cA]
      refine RGW.skip (i := 10) rfl rfl ?_
      dsimp only [nA, cA]
      refine RGW.fin (fun γ u wc hwc hd hdis => ?_)
      obtain ⟨⟨h0, -, -⟩, ⟨h1, -, -⟩, ⟨h2, -, -⟩, ⟨h3, -, -⟩, ⟨h4, -, -⟩, ⟨h5, -, -⟩, ⟨h6, -, -⟩, ⟨h7, -, -⟩, ⟨h8, r8, b8⟩, ⟨h9, -, -⟩, -⟩ := hd
      dsimp only at h0 h1 h2 h3 h4 h5 h6 h7 h8 h9 r8 b8
      clear hdis
      simp only [h0, h1, h2, h3, h4, h5, h6, h7, h8, h9]
      clear h9 h8 h7 h6 h5 h4 h3 h2 h1 h0
      replace b8 := b8 _ (List.mem_singleton.2 rfl)
      generalize hγ8 : (γ 8).n = g8 at *
      clear hγ8
      clear u
      simp only [List.map_cons, List.map_nil]
      apply PlanW.step
      · exact zG
      · rfl
      intro K hK
      go_simp
      refine hK.out _ _ (by with_reducible first | assumption | exact bx_refl _ _) (fun hcur => ?_)
      clear hK K
      try simp only [Act.put, List.setIfInBounds_toArray, List.set_cons_zero, List.set_cons_succ]
      refine PlanW.done ?_
      have hb3 := bl_tt hwc
      have hbw := hb3 _ hb0
      go_wp2
      go_roundw
      case rel => exact ⟨j + 1, by omega, by go_num, by rw [hn.out], hbw⟩
      case measure => simp [intOf]; omega
    · have : j = nw := by omega
      subst this
      rw [hse.out]
      go_wp2
      go_ret
      exact ⟨by rw [hE.out] <;> rfl, hbx.out.step hb0, hs2.out.below hb0⟩
set_option maxHeartbeats 4000000 in
theorem c_net3 (i funs : Int) (L : List ByteArray) (d : Md) (Bn Bp g m : Nat) (w : World) (kn : Blk w Bn tName #[vName g]) (kp : Blk w Bp 3 #[.int .i64 funs]) (hs : Seen L g m w) (hf : MdIn d w) (hL : L.length ≤ 1000) (hpt : 0 ≤ funs ∧ funs ≤ 1000000)
    (hnm : m ≠ Bn) (hpm : m ≠ Bp) :
    Calls Tryz.prog 175 #[.int .i64 i, vMd d, .pointer (some ⟨Bn, 0, none⟩), .pointer (some ⟨Bp, 0, none⟩)] w
      (fun e w' => e = .returned (.int .i64 (fstE [fstE [unl (nameB d.name) 4, unl (!knownB L d.name) 5], idxErr d.r.l funs])) ∧ BX [m] w w' ∧ Seen (L ++ [d.name]) g m w') := by
  have hcall := Lib.hid fun (W : World) (h : Seen L g m W) => c_names1 L d.name g m W h hf.nm hL
  obtain ⟨nm, rA, rc, rl⟩ := d
  have hf' := Lib.hid hf.row
  have hlen := hf.row.len
  dsimp only at *
  change Calls Tryz.prog 175 #[.int .i64 i, .agg #[.string nm, .slice rA rl.length rc], .pointer (some ⟨Bn, 0, none⟩), .pointer (some ⟨Bp, 0, none⟩)] w _
  have hie := Lib.hid fun (W : World) (h : RwIn ⟨rA, rc, rl⟩ W) => c_indexesErr rl funs rA rc W h.sl h.len hpt
  (try dsimp only at hie)
  generalize rl.length = n at *
  clear hf
  go_enter Tryz.func175, Tryz.ntmps175
  go_upto_region 1 with fail
  have hsn := hs.below (bl_al (.cells #[.string nm, .slice rA n rc] 146) (bl_refl w))
  replace kn := kn.alloc (.cells #[.string nm, .slice rA n rc] 146)
  replace kp := kp.alloc (.cells #[.string nm, .slice rA n rc] 146)
  have k0 := Blk.new w 146 #[.string nm, .slice rA n rc]
  have hbx : BX [m] w (w.alloc (.cells #[.string nm, .slice rA n rc] 146)) := bx_al _ (bx_refl _ _)
  have hmw : m ≠ w.heap.size := fun e => by
    have := hs.lt
    omega
  generalize w.alloc (.cells #[.string nm, .slice rA n rc] 146) = wa at *
  have hmx : w.heap.size ∉ [m] := by simpa using fun e => hmw e.symm
  have hnx : Bn ∉ [m] := by simpa using fun e => hnm e.symm
  have hpx : Bp ∉ [m] := by simpa using fun e => hpm e.symm
  have hml : ∀ x ∈ [m], x < wa.heap.size := by
    have := hsn.lt
    simpa using this
  have L0 := k0.laterX hmx
  have Ln := kn.laterX hnx
  have Lp := kp.laterX hpx
  have hrw := Lib.hid fun (W : World) (h : BX [m] wa W) => hie.out W ((hf'.out.map hs hbx).map hsn h)
  replace hsn := Lib.hid hsn
  replace hbx := Lib.hid hbx
  clear hs hie
  refine wp_anyM (w0 := wa) 3 [m] ⟨[], [], [some 7, some 8, some 9, some 10, some 11, some 12, some 13, some 14, some 15, some 16, some 6], [[], [], [1], [0, 1, 2], [], [4], [], [0, 1, 2, 3, 4, 5, 6], [0, 1, 2, 3, 4, 5, 6, 7], [0, 1, 2, 3, 4, 5, 6, 7, 8], [0, 1, 2, 3, 4, 5, 6, 7, 8, 9]], [[], [], [1], [0, 2], [], [4], [], [5, 6], [3, 7], [3, 8], [3, 8, 9]]⟩ (by kernel_rfl) (by kernel_rfl) rfl (by (exact zE)) (fun u => by simp only [putD, Act.put, List.setIfInBounds_toArray, List.set_cons_zero, List.set_cons_succ, Nat.zero_add, Nat.reduceAdd]; rfl) ?_
  apply RGM.on (i := 0) rfl (by decide)
  · exact zG
  · intro γ u W hcur hd
    clear hd
    (try dsimp only)
    refine ⟨rfl, ?_⟩
    go_simp <;> (try go_bits) <;> with_reducible rfl
  · exact zC
  dsimp only [nA, cA]
  apply RGM.on (i := 1) rfl (by decide)
  · exact zG
  · intro γ u W hcur hd
    clear hd
    (try dsimp only)
    refine ⟨rfl, ?_⟩
    go_simp <;> (try go_bits) <;> with_reducible rfl
  · exact zC
  dsimp only [nA, cA]
  apply RGM.on (i := 2) rfl (by decide)
  · exact zG
  · intro γ u W hcur hd
    obtain ⟨⟨h1, -, -⟩, -⟩ := hd
    dsimp only at h1
    (try simp only [h1])
    refine ⟨rfl, ?_⟩
    go_simp <;> (try go_bits) <;> with_reducible rfl
  · exact zC
  dsimp only [nA, cA]
  apply RGM.mut (⟨fun _ => .int .i64 (fstE [unl (nameB nm) 4, unl (!knownB L nm) 5]), fun _ W => Seen (L ++ [nm]) g m W, fun _ => []⟩) (i := 3) rfl rfl
  · exact zG
  · intro γ u W hcur hd
    obtain ⟨⟨h0, -, -⟩, ⟨h2, -, -⟩, -⟩ := hd
    dsimp only at h0 h2
    (try simp only [h0, h2])
    refine ⟨rfl, fun K hK => ?_⟩
    go_simp
    (go_at_call 204; (with_reducible refine (hcall.out _ (hsn.out.below hcur)).mono ?_); rintro e w3 ⟨rfl, hb3, hs3⟩; dsimp only; exact hK.out ⟨0, undef, none, 0⟩ _ _ rfl hb3 hs3 (by simp))
  · exact fun _ _ _ => ⟨rfl, fun _ h => h⟩
  · intro γ W W' hbl hR
    exact hR.below hbl
  dsimp only [nA, cA]
  apply RGM.on (i := 4) rfl (by decide)
  · exact zG
  · intro γ u W hcur hd
    clear hd
    (try dsimp only)
    refine ⟨rfl, ?_⟩
    go_simp <;> (try go_bits) <;> with_reducible rfl
  · exact zC
  dsimp only [nA, cA]
  apply RGM.on (i := 5) rfl (by decide)
  · exact zG
  · intro γ u W hcur hd
    obtain ⟨⟨h4, -, -⟩, -⟩ := hd
    dsimp only at h4
    (try simp only [h4])
    refine ⟨rfl, ?_⟩
    go_simp <;> (try go_bits) <;> with_reducible rfl
  · exact zC
  dsimp only [nA, cA]
  apply RGM.on (i := 6) rfl (by decide)
  · exact zG
  · intro γ u W hcur hd
    clear hd
    (try dsimp only)
    refine ⟨rfl, ?_⟩
    go_simp <;> (try go_bits) <;> with_reducible rfl
  · exact zC
  dsimp only [nA, cA]
  apply RGM.call (i := 7) rfl (by decide)
  · exact zG
  · intro γ u W hcur hd
    obtain ⟨⟨h5, -, -⟩, ⟨h6, -, -⟩, -⟩ := hd
    dsimp only at h5 h6
    (try simp only [h5, h6])
    refine ⟨rfl, fun K hK => ?_⟩
    go_simp
    first
    | (go_at_call 143; (with_reducible refine (hrw.out _ hcur).mono ?_); rintro e w3 ⟨rfl, hb3⟩; replace hb3 := bl_tt hb3)
    | (go_at_call 74; (with_reducible refine (c_first2 (by (exact zK))).mono ?_); rintro e w3 ⟨rfl, rfl⟩)
    (try dsimp only)
    exact hK.out _ _ rfl (by (exact zE))
  · exact zC
  dsimp only [nA, cA]
  apply RGM.bslice (i := 8) rfl (by decide) hml
  · exact zG
  · intro γ u W hcur hd
    obtain ⟨⟨h3, r3, -⟩, ⟨h7, -, -⟩, -⟩ := hd
    dsimp only at h3 h7 r3
    (try simp only [h3, h7])
    refine ⟨rfl, fun K hK => ?_⟩
    go_simp
    exact hK.out _ _ rfl rfl
  · exact zC
  · rfl
  dsimp only [nA, cA]
  apply RGM.call (i := 9) rfl (by decide)
  · exact zG
  · intro γ u W hcur hd
    obtain ⟨⟨h3, r3, -⟩, ⟨h8, r8, -⟩, -⟩ := hd
    dsimp only at h3 h8 r3 r8
    (try simp only [h3, h8])
    refine ⟨rfl, fun K hK => ?_⟩
    go_simp
    first
    | (go_at_call 143; (with_reducible refine (hrw.out _ hcur).mono ?_); rintro e w3 ⟨rfl, hb3⟩; replace hb3 := bl_tt hb3)
    | (go_at_call 74; (with_reducible refine (c_first2 (by (exact zK))).mono ?_); rintro e w3 ⟨rfl, rfl⟩)
    (try dsimp only)
    exact hK.out _ _ rfl (by (exact zE))
  · first
    | exact zC
    | intro γ γ' hg
      try dsimp only
      have e8 := hg 8 (by decide)
      simp only [e8]
  dsimp only [nA, cA]
  apply RGM.on (i := 10) rfl (by decide)
  · exact zG
  · intro γ u W hcur hd
    obtain ⟨⟨h3, r3, -⟩, ⟨h8, r8, -⟩, ⟨h9, -, -⟩, -⟩ := hd
    dsimp only at h3 h8 h9 r3 r8
    (try simp only [h3, h8, h9])
    refine ⟨rfl, ?_⟩
    go_simp <;> (try go_bits) <;> with_reducible rfl
  · first
    | exact zC
    | intro γ γ' hg
      try dsimp only
      have e8 := hg 8 (by decide)
      simp only [e8]
  dsimp only [nA, cA]
  refine RGM.fin (fun γ u wb hwb hd => ?_)
  obtain ⟨⟨h0, -, -⟩, ⟨h1, -, -⟩, ⟨h2, -, -⟩, ⟨h3, r3, -⟩, ⟨h4, -, -⟩, ⟨h5, -, -⟩, ⟨h6, -, -⟩, ⟨h7, -, -⟩, ⟨h8, r8, b8⟩, ⟨h9, -, -⟩, ⟨h10, -, -⟩, -⟩ := hd
  dsimp only at h0 h1 h2 h3 h4 h5 h6 h7 h8 h9 h10 r3 r8 b8
  simp only [h0, h1, h2, h3, h4, h5, h6, h7, h8, h9, h10]
  clear h10 h9 h8 h7 h6 h5 h4 h3 h2 h1 h0
  replace b8 := b8 _ (List.mem_singleton.2 rfl)
  generalize hγ8 : (γ 8).n = g8 at *
  clear hγ8
  clear u
  have hs2 := Lib.hid r3
  clear r3
  go_wp2
  go_ret
  exact ⟨rfl, hbx.out.trans hwb, hs2.out⟩
end Go.Proofs.YtbdgblnccjpahaaGreatDoor
