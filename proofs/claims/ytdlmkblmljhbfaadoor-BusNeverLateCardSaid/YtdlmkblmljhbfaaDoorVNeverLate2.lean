/-
  Walk: the law on streams that are never late.
-/
import Derived.Test.YtdlmkblmljhbfaaDoorU6
import Derived.Test.YtdlmkblmljhbfaaDoorVNeverLate1
namespace Go.Proofs.YtdlmkblmljhbfaaDoor
set_option linter.unusedSimpArgs false
set_option linter.unusedVariables false
open Go.RowKit Go.Shelf
attribute [local go_sem] bl_al bl_drew bl_drewN bl_refl bx_al bx_drew bx_drewN bx_refl
set_option maxRecDepth 20000
theorem few_ok2 {l : List Sm} (h : fewB l = true) : l.length ≤ 8 := by
  unfold fewB at h
  rw [Bool.and_eq_true, decide_eq_true_eq] at h
  omega
theorem stE0_ok {l : List Sm} {st : List Int} {t : Int} (h : stE0 l st t = 0) : st.length = l.length ∧ 0 ≤ t ∧ t ≤ 400 := by
  obtain ⟨h1, h2⟩ := (fst_cons _ _).1 h
  obtain ⟨-, h3⟩ := (fst_cons _ _).1 h2
  have h4 := (unl_zero (by decide)).1 h1
  have h5 := inR_iff.1 ((unl_zero (by decide)).1 ((fst_cons _ _).1 h3).1)
  simp at h4
  exact ⟨by omega, h5⟩
/-- Starts that are all 0. -/
def zrs (n : Nat) : List Int := (List.range n).map fun _ => 0
theorem zrs_len (n : Nat) : (zrs n).length = n := by simp [zrs]
theorem zrs_zero (n : Nat) : ∀ a ∈ zrs n, a = 0 := fun a ha => by
  obtain ⟨k, -, rfl⟩ := List.mem_map.1 ha
  rfl
theorem zrs_ok {l : List Sm} {t : Int} (h : 0 ≤ t ∧ t ≤ 400) : stE0 l (zrs l.length) t = 0 := by
  refine (fst_cons _ _).2 ⟨(unl_zero (by decide)).2 (by simp [zrs_len]), (fst_cons _ _).2 ⟨?_, (fst_cons _ _).2 ⟨(unl_zero (by decide)).2 (inR_iff.2 h), rfl⟩⟩⟩
  rw [eachS_zero]
  intro j x hx
  rw [zrs_zero _ x (List.mem_of_getElem? hx)]
  decide
theorem late_has {l : List Sm} : ∀ (n i : Nat), i < n → (lateK l n).contains (i : Int) = lateAt l i := by
  have hge : ∀ n, ∀ x ∈ lateK l n, x < (n : Int) := by
    intro n
    induction n with
    | zero => intro x hx; simp [lateK] at hx
    | succ n ih =>
      intro x hx
      rw [lateK] at hx
      rcases List.mem_append.1 hx with h | h
      · have := ih x h; omega
      · split at h
        · simp at h; omega
        · simp at h
  intro n
  induction n with
  | zero => intro i h; omega
  | succ n ih =>
    intro i h
    have e : (lateK l (n + 1)).contains (i : Int) = ((lateK l n).contains (i : Int) || (if lateAt l n then [(n : Int)] else []).contains (i : Int)) := by
      rw [lateK, List.contains_append]
    rw [e]
    by_cases hi : i < n
    · rw [ih i hi]
      have : (if lateAt l n then [(n : Int)] else []).contains (i : Int) = false := by
        split
        · simp; omega
        · rfl
      rw [this, Bool.or_false]
    · have : i = n := by omega
      subst this
      have h0 : (lateK l i).contains (i : Int) = false := by
        rw [Bool.eq_false_iff]
        intro hc
        have := hge i i (by simpa using hc)
        omega
      rw [h0, Bool.false_or]
      cases lateAt l i <;> simp
/-- Numbers by their places, as cells. -/
def cL (n : Nat) (f : Nat → Int) : Array Value := ((List.range n).map fun k => Value.int .i64 (f k)).toArray
theorem cL_congr {n : Nat} {f g : Nat → Int} (h : ∀ k, k < n → f k = g k) : cL n f = cL n g := by
  unfold cL
  congr 1
  exact List.map_congr_left fun k hk => by rw [h k (List.mem_range.1 hk)]
theorem cL_at {n i : Nat} (f : Nat → Int) (h : i < n) : (cL n f)[i]? = some (.int .i64 (f i)) := by
  unfold cL
  simp [h]
theorem cL_set {n i : Nat} (f : Nat → Int) (v : Int) (h : i < n) : (cL n f).setIfInBounds i (.int .i64 v) = cL n fun k => if k = i then v else f k := by
  apply Array.ext_getElem?
  intro j
  by_cases e : i = j
  · subst e
    rw [Array.getElem?_setIfInBounds_self_of_lt (by simpa [cL] using h), cL_at _ h]
    simp
  · have e' : ¬ j = i := fun h => e h.symm
    rw [Array.getElem?_setIfInBounds_ne e]
    by_cases hj : j < n
    · rw [cL_at _ hj, cL_at _ hj, if_neg e']
    · unfold cL
      simp [hj]
def midF (fA fB : Nat → Int) (i k : Nat) : Int := if k < i then fB k else fA k
def idB (fB : Nat → Int) (i : Nat) : Bool := (List.range i).all fun k => fB k == 0
theorem idB_next (fB : Nat → Int) (i : Nat) : idB fB (i + 1) = (idB fB i && (fB i == 0)) := by
  unfold idB
  rw [List.range_succ, List.all_append]
  simp
theorem relB_at {l : List Sm} {st : List Int} {i : Nat} {s : Sm} {a : Int} (hs : l[i]? = some s) (ha : st[i]? = some a) (t : Int) : relB l st t i = (decide (a ≤ t) && decide ((t - a) % s.per = 0)) := by
  unfold relB
  rw [hs, ha]
/-- What both loops of the law keep. -/
structure NvK (w : World) (B1 B2 B3 B4 : Option Addr) (WO WZ LK CA : List Int) (L2 : List Sm) (G : Option Addr) (cM : Nat) (W : World) : Prop where
  bel : Below w.heap.size w W
  s1 : Sl cI 1 W B1 WO
  s2 : Sl cI 1 W B2 WZ
  s3 : Sl cI 1 W B3 LK
  s4 : Sl cI 1 W B4 CA
  sm : SmIn L2 G cM W
theorem NvK.below {w : World} {B1 B2 B3 B4 : Option Addr} {WO WZ LK CA : List Int} {L2 : List Sm} {G : Option Addr} {cM : Nat} {W W' : World} (h : NvK w B1 B2 B3 B4 WO WZ LK CA L2 G cM W) (hb : Below W.heap.size W W') : NvK w B1 B2 B3 B4 WO WZ LK CA L2 G cM W' :=
  ⟨bl_tr h.bel hb, h.s1.below hb, h.s2.below hb, h.s3.below hb, h.s4.below hb, h.sm.below hb⟩
theorem longer_length (l : List Sm) (a : Nat) (s : Sm) : (longer l a s).length = l.length := by simp [longer]
theorem sl_at {W : World} {B : Option Addr} {L : List Int} {k : Nat} {x : Int} (h : Sl cI 1 W B L) (hx : L[k]? = some x) : ∃ b o, B = some ⟨b, o, none⟩ ∧ ∀ W', Below W.heap.size W W' → W'.cell? ⟨b, o + k, none⟩ = some (.int .i64 x) := by
  obtain ⟨b, o, e, hc⟩ := h k x hx
  exact ⟨b, o, e, later (by simpa using hc 0 _ rfl)⟩
set_option maxHeartbeats 0 in
theorem r_BusNeverLate (l : List Sm) (st : List Int) (x0 x1 : Int) (A As : Option Addr) (c cs : Nat) (w : World) (hs : Sl cSm 4 w A l) (hc : l.length ≤ c) (hnm : ∀ s ∈ l, s.name.size ≤ maxLen) (hst : Sl cI 1 w As st) (hT : Tab w) :
    Calls Tryd.prog 7 #[.slice A l.length c, .slice As st.length cs, .agg #[.int .i64 x0, .int .i64 x1]] w (Ret (.bool true) w) := by
  have haw := Lib.hid fun W (hb : Below w.heap.size w W) => r_awake W (hT.below hb)
  have hfw := Lib.hid fun W (hb : Below w.heap.size w W) => r_fewStreams l A c W (hs.below hb)
  have hF8 := Lib.hid fun h : fewB l = true => few_ok2 h
  have hn0 := Lib.hid fun (h : fewB l = true) W (hb : Below w.heap.size w W) => (show SmIn l A c W from ⟨by have := few_ok2 h; omega, hc, hnm, hs.below hb⟩)
  have hse := Lib.hid fun (h : fewB l = true) W (hb : Below w.heap.size w W) => r_StreamsErr l A c W (hn0.out h W hb)
  have hsr := Lib.hid fun (h : fewB l = true) W (hb : Below w.heap.size w W) => r_StartsErr l st x0 A As c cs W (hst.below hb) (few_ok2 h)
  have Hst := Lib.hid fun W (hb : Below w.heap.size w W) => hst.below hb
  clear hs hc hnm hst hT
  go_enter Tryd.func7, Tryd.ntmps7
  go_upto_region 1 with fail
  first
  | apply absB1 (w0 := w) (g0 := w.heap.size)
  | apply absTB1 (w0 := w) (g0 := w.heap.size)
  | apply absIB1 (w0 := w) (g0 := w.heap.size)
  iterate 2 (focus ((with_reducible (repeat' (first | assumption | apply jA | apply jB | apply jC | apply jD | apply jE | apply jF | apply hb3 | apply jG | apply jH | apply jI | apply jJ | apply jK | apply hb3x | (apply jL; first | (simp; done) | rfl) | apply jM | apply jN | apply jO | apply jP | apply jQ | apply jR | apply jS | apply jT (hb := hb3 _ (jA _)) | omega | (simp; done) | (simp; omega) | (dsimp only; omega)))); done))
  intro wa hb0' k0'
  (try simp only [List.setIfInBounds_toArray, List.set_cons_zero, List.set_cons_succ] at k0')
  try clear hb3
  try clear hb0
  try clear k0
  have hb0 := hb0'; clear hb0'
  have k0 := k0'; clear k0'
  go_wp2_with fail
  refine (haw.out wa hb0).mono ?_
  rintro e w1 ⟨rfl, hb1⟩
  replace hb0 := bl_tr hb0 hb1
  replace k0 := k0.below hb1
  clear hb1 haw
  go_upto_region 3 with fail
  have Lk0 := k0.later
  have Fk0 := k0.laterF
  have Qk0 := k0.lt
  refine wp_any (w0 := w1) ⟨[], [], [some 30, some 31, some 32, some 33, some 7, some 8], [[], [0], [], [2], [0, 1], [0, 1, 2, 3, 4]], [[], [0], [], [2], [1], [3]]⟩ (fun _ => []) (by kernel_rfl) (by kernel_rfl) (by (with_reducible (repeat' (first | assumption | apply jA | apply jB | apply jC | apply jD | apply jE | apply jF | apply hb3 | omega | (simp; done) | (simp; omega) | (dsimp only; omega))))) (fun u => by simp only [putD, Act.put, List.setIfInBounds_toArray, List.set_cons_zero, List.set_cons_succ, Nat.zero_add, Nat.reduceAdd]; rfl) ?_
  apply RGW.on (i := 0) rfl
  · (simp only [gA, gB, gC] <;> rfl)
  · intro γ u W hcur hd
    clear hd
    (try dsimp only)
    refine ⟨rfl, ?_⟩
    go_simp <;> (try go_bits) <;> with_reducible rfl
  · exact fun _ _ _ => rfl
  · rfl
  dsimp only [nA, cA]
  apply RGW.on (i := 1) rfl
  · (simp only [gA, gB, gC] <;> rfl)
  · intro γ u W hcur hd
    obtain ⟨⟨h0, -, -⟩, -⟩ := hd
    dsimp only at h0
    (try simp only [h0])
    refine ⟨rfl, ?_⟩
    go_simp <;> (try go_bits) <;> with_reducible rfl
  · exact fun _ _ _ => rfl
  · rfl
  dsimp only [nA, cA]
  apply RGW.on (i := 2) rfl
  · (simp only [gA, gB, gC] <;> rfl)
  · intro γ u W hcur hd
    clear hd
    (try dsimp only)
    refine ⟨rfl, ?_⟩
    go_simp <;> (try go_bits) <;> with_reducible rfl
  · exact fun _ _ _ => rfl
  · rfl
  dsimp only [nA, cA]
  apply RGW.on (i := 3) rfl
  · (simp only [gA, gB, gC] <;> rfl)
  · intro γ u W hcur hd
    obtain ⟨⟨h2, -, -⟩, -⟩ := hd
    dsimp only at h2
    (try simp only [h2])
    refine ⟨rfl, ?_⟩
    go_simp <;> (try go_bits) <;> with_reducible rfl
  · exact fun _ _ _ => rfl
  · rfl
  dsimp only [nA, cA]
  apply RGW.on (i := 4) rfl
  · (simp only [gA, gB, gC] <;> rfl)
  · intro γ u W hcur hd
    obtain ⟨⟨h1, -, -⟩, -⟩ := hd
    dsimp only at h1
    (try simp only [h1])
    refine ⟨rfl, ?_⟩
    go_simp <;> (try go_bits) <;> with_reducible rfl
  · exact fun _ _ _ => rfl
  · rfl
  dsimp only [nA, cA]
  apply RGW.on (i := 5) rfl
  · (simp only [gA, gB, gC] <;> rfl)
  · intro γ u W hcur hd
    obtain ⟨⟨h3, -, -⟩, -⟩ := hd
    dsimp only at h3
    (try simp only [h3])
    refine ⟨rfl, ?_⟩
    go_simp <;> (try go_bits) <;> with_reducible rfl
  · exact fun _ _ _ => rfl
  · rfl
  dsimp only [nA, cA]
  refine RGW.fin (fun γ u w2 hw2 hd hdis => ?_)
  obtain ⟨⟨h0, -, -⟩, ⟨h1, -, -⟩, ⟨h2, -, -⟩, ⟨h3, -, -⟩, ⟨h4, -, -⟩, ⟨h5, -, -⟩, -⟩ := hd
  dsimp only at h0 h1 h2 h3 h4 h5
  clear hdis
  simp only [h0, h1, h2, h3, h4, h5]
  clear h5 h4 h3 h2 h1 h0
  clear u
  simp only [List.map_nil]
  refine PlanW.done ?_
  have hb3 := bl_tt hw2
  have hb0' := bl_tr hb0 hw2
  clear Lk0 Fk0 Qk0 hb0 hb3 k0 hw2
  have hb0 := hb0'
  clear hb0'
  cases hF : fewB l
  · rw [hF] at hfw
    clear hse hsr hn0 hF8 Hst
    generalize l.length = n at *
    go_wp2_with (go_at_call 40; (with_reducible refine (hfw.out _ hb0).mono ?_); rintro e w3 ⟨rfl, rfl⟩)
    go_ret
    exact ⟨rfl, hb0⟩
  rw [hF] at hfw
  have hl8 := hF8.out hF
  have hn1 := Lib.hid (hn0.out hF)
  have hse1 := Lib.hid (hse.out hF)
  have hsr1 := Lib.hid (hsr.out hF)
  clear hF8 hn0 hse hsr hF
  by_cases hE : smsErr l = 0
  rotate_left
  · have hE' : (smsErr l != 0) = true := by simp [hE]
    generalize smsErr l = E at *
    replace hE := Lib.hid hE
    go_wp2_with (first | (go_at_call 40; (with_reducible refine (hfw.out _ hb0).mono ?_); rintro e w3 ⟨rfl, rfl⟩) | (go_at_call 41; (with_reducible refine (hse1.out _ hb0).mono ?_); rintro e w4 ⟨rfl, hb4⟩; replace hb0 := bl_tr hb0 hb4))
    go_ret
    exact ⟨rfl, hb0⟩
  have hse2 : Hid (∀ W, Below w.heap.size w W → Calls Tryd.prog 41 #[.slice A l.length c] W (Ret (.int .i64 0) W)) := fun W hb => by
    have := hse1.out W hb
    rw [hE] at this
    exact this
  clear hse1
  by_cases hS : stE0 l st x0 = 0
  rotate_left
  · have hS' : (stE0 l st x0 != 0) = true := by simp [hS]
    generalize stE0 l st x0 = S at *
    replace hS := Lib.hid hS
    replace hE := Lib.hid hE
    go_wp2_with (first | (go_at_call 40; (with_reducible refine (hfw.out _ hb0).mono ?_); rintro e w3 ⟨rfl, rfl⟩) | (go_at_call 41; (with_reducible refine (hse2.out _ hb0).mono ?_); rintro e w4 ⟨rfl, hb4⟩; replace hb0 := bl_tr hb0 hb4) | (go_at_call 42; (with_reducible refine (hsr1.out _ hb0).mono ?_); rintro e w5 ⟨rfl, hb5⟩; replace hb0 := bl_tr hb0 hb5))
    go_ret
    exact ⟨rfl, hb0⟩
  obtain ⟨hlst, hx0, hx4⟩ := stE0_ok hS
  have hsr2 : Hid (∀ W, Below w.heap.size w W → Calls Tryd.prog 42 #[.slice A l.length c, .slice As l.length cs, .int .i64 x0] W (Ret (.int .i64 0) W)) := fun W hb => by
    have := hsr1.out W hb
    rw [hS, hlst] at this
    exact this
  clear hsr1
  rw [hlst]
  replace hlst := Lib.hid hlst
  by_cases h90 : x0 ≤ 90
  rotate_left
  · have h90' : 90 < x0 := by omega
    replace hS := Lib.hid hS
    replace hE := Lib.hid hE
    go_wp2_with (first | (go_at_call 40; (with_reducible refine (hfw.out _ hb0).mono ?_); rintro e w3 ⟨rfl, rfl⟩) | (go_at_call 41; (with_reducible refine (hse2.out _ hb0).mono ?_); rintro e w4 ⟨rfl, hb4⟩; replace hb0 := bl_tr hb0 hb4) | (go_at_call 42; (with_reducible refine (hsr2.out _ hb0).mono ?_); rintro e w5 ⟨rfl, hb5⟩; replace hb0 := bl_tr hb0 hb5))
    go_ret
    exact ⟨rfl, hb0⟩
  have h90' : ¬ 90 < x0 := by omega
  obtain ⟨T, rfl⟩ : ∃ T : Nat, x0 = T := ⟨x0.toNat, by omega⟩
  have hok := sms_ok hE
  have hn6 : l.length ≤ 6 := hok.2.1
  have hn1' : 1 ≤ l.length := hok.1
  have hsE : stE l st T = 0 := by rw [stE_eq0 hE]; exact hS
  have hsZ : stE l (zrs l.length) T = 0 := by rw [stE_eq0 hE]; exact zrs_ok ⟨hx0, hx4⟩
  have hso := opn_sok (stE_ok hsE).1
  have hsz := opn_sok (stE_ok hsZ).1
  have hcp := Lib.hid fun W (hb : Below w.heap.size w W) => r_CopyStreams l A c W (hn1.out W hb)
  have hco := Lib.hid fun W (hb : Below w.heap.size w W) => r_CopyOwn l A c W (hn1.out W hb) (by omega)
  have hci : Hid (∀ W, Below w.heap.size w W → Calls Tryd.prog 17 #[.slice As l.length cs] W (RetI st W)) := fun W hb => by
    have := r_CopyInts st As cs W (Hst.out W hb) (by rw [hlst.out]; omega)
    rw [hlst.out] at this
    exact this
  have hwf : Hid (∀ (A2 : Option Addr) (c2 : Nat) (A1 : Option Addr) (c1 : Nat) (W : World), SmIn l A2 c2 W → Sl cI 1 W A1 st → Calls Tryd.prog 43 #[.slice A2 l.length c2, .slice A1 st.length c1, .int .i64 (T : Nat)] W
      (fun e w' => Below W.heap.size W w' ∧ ∃ A3, e = .returned (.tuple #[.slice A3 l.length l.length, .int .i64 0]) ∧ Sl cI 1 w' A3 ((List.range l.length).map (runS prioS l st T).1.wo))) := fun A2 c2 A1 c1 W h1 h2 =>
    (c_WorstFrom l st T A2 A1 c2 c1 W h1 h2 (by rw [hlst.out]; omega)).mono fun e w' ⟨hb, hh⟩ => by
      rcases hh with ⟨h0, _⟩ | ⟨_, A3, e3, h3⟩
      · exact absurd hsE h0
      · exact ⟨hb, A3, e3, h3⟩
  have hwz : Hid (∀ (A2 : Option Addr) (c2 : Nat) (A1 : Option Addr) (c1 : Nat) (W : World), SmIn l A2 c2 W → Sl cI 1 W A1 (zrs l.length) → Calls Tryd.prog 43 #[.slice A2 l.length c2, .slice A1 l.length c1, .int .i64 (T : Nat)] W
      (fun e w' => Below W.heap.size W w' ∧ ∃ A3, e = .returned (.tuple #[.slice A3 l.length l.length, .int .i64 0]) ∧ Sl cI 1 w' A3 ((List.range l.length).map (runS prioS l (zrs l.length) T).1.wo))) := fun A2 c2 A1 c1 W h1 h2 => by
    have := c_WorstFrom l (zrs l.length) T A2 A1 c2 c1 W h1 h2 (by rw [zrs_len]; omega)
    rw [zrs_len] at this
    exact this.mono fun e w' ⟨hb, hh⟩ => by
      rcases hh with ⟨h0, _⟩ | ⟨_, A3, e3, h3⟩
      · exact absurd hsZ h0
      · exact ⟨hb, A3, e3, h3⟩
  have hli : Hid (∀ (A2 : Option Addr) (c2 : Nat) (W : World), SmIn l A2 c2 W → Calls Tryd.prog 45 #[.slice A2 l.length c2] W
      (fun e w' => Below W.heap.size W w' ∧ ∃ A3 c3, e = .returned (.tuple #[.slice A3 (lateK l l.length).length c3, .int .i64 0]) ∧ Sl cI 1 w' A3 (lateK l l.length))) := fun A2 c2 W h1 =>
    (c_LateIn l A2 c2 W h1).mono fun e w' ⟨hb, hh⟩ => by
      rcases hh with ⟨h0, _⟩ | ⟨_, A3, c3, e3, h3⟩
      · exact absurd hE h0
      · exact ⟨hb, A3, c3, e3, h3⟩
  have hcb : Hid (∀ (A2 : Option Addr) (c2 : Nat) (A1 : Option Addr) (c1 : Nat) (W : World), SmIn l A2 c2 W → Sl cI 1 W A1 st → Calls Tryd.prog 46 #[.slice A2 l.length c2, .slice A1 st.length c1, .int .i64 (T : Nat)] W
      (fun e w' => Below W.heap.size W w' ∧ ∃ A3 c3, e = .returned (.tuple #[.slice A3 T c3, .int .i64 0]) ∧ Sl cI 1 w' A3 (runS prioS l st T).2)) := fun A2 c2 A1 c1 W h1 h2 =>
    (c_CarriedBy l st T A2 A1 c2 c1 W h1 h2 (by rw [hlst.out]; omega)).mono fun e w' ⟨hb, hh⟩ => by
      rcases hh with ⟨h0, _⟩ | ⟨_, A3, c3, e3, h3⟩
      · exact absurd hsE h0
      · rw [Int.toNat_natCast] at e3 h3
        exact ⟨hb, A3, c3, e3, own_sl (L := (runS prioS l st T).2) (by rw [run_len]; exact h3)⟩
  have hro := Lib.hid fun (A2 : Option Addr) (c2 : Nat) (i : Nat) (W : World) (h : SmIn l A2 c2 W) => c_ResponseOf l i A2 c2 W h
  have hmk : ∀ W : World, (Instr.makeSlice 22 (.int .i64 (l.length : Nat)) (.int .i64 (l.length : Nat))).run Tryd.prog W = .ok (.slice (some ⟨W.heap.size, 0, none⟩) l.length l.length) (W.alloc (.cells ((zrs l.length).map (Value.int .i64)).toArray 3)) := fun W => by
    have := mk_ints l.length hn6 W
    have e : ((List.range l.length).map fun i => Value.int .i64 (ss0.wo i)) = (zrs l.length).map (Value.int .i64) := by
      unfold zrs
      rw [List.map_map]
      rfl
    rw [e] at this
    exact this
  have hWO := Lib.hid fun (i : Nat) (s : Sm) (r : Nat) (hs : l[i]? = some s) (hr : Timely l i s r) => (show ∃ v, ((List.range l.length).map (runS prioS l st T).1.wo)[i]? = some v ∧ v ≤ (r : Int) from
    ⟨_, by rw [List.getElem?_map, List.getElem?_range (List.getElem?_eq_some_iff.1 hs).1]; rfl, worst_le hso hs hr T⟩)
  have hWZ := Lib.hid fun (i : Nat) (s : Sm) (r : Nat) (hs : l[i]? = some s) (hr : Timely l i s r) => (show ∃ v, ((List.range l.length).map (runS prioS l (zrs l.length) T).1.wo)[i]? = some v ∧ (r ≤ T → v = (r : Int)) from
    ⟨_, by rw [List.getElem?_map, List.getElem?_range (List.getElem?_eq_some_iff.1 hs).1]; rfl, fun h => worst_eq hsz (zrs_zero _) hs hr h⟩)
  have hLK := Lib.hid fun (i : Nat) (h : i < l.length) => late_has (l := l) l.length i h
  have hLL := Lib.hid (lateK_len l l.length)
  have hCA := Lib.hid fun (t : Nat) (h : t < T) => out_at l st h
  generalize hz1 : (List.range l.length).map (runS prioS l st T).1.wo = WO at *
  generalize hz2 : (List.range l.length).map (runS prioS l (zrs l.length) T).1.wo = WZ at *
  generalize hz3 : lateK l l.length = LK at *
  generalize hz4 : (runS prioS l st T).2 = CA at *
  clear hz1 hz2 hz3 hz4 hsE hsZ hsz hS
  replace hso := Lib.hid hso
  replace hok := Lib.hid hok
  replace hE := Lib.hid hE
  go_upto_region 6 with (first | (go_at_call 40; (with_reducible refine (hfw.out _ hb0).mono ?_); rintro e w3 ⟨rfl, rfl⟩) | (go_at_call 41; (with_reducible refine (hse2.out _ hb0).mono ?_); rintro e w4 ⟨rfl, hb4⟩; replace hb0 := bl_tr hb0 hb4) | (go_at_call 42; (with_reducible refine (hsr2.out _ hb0).mono ?_); rintro e w5 ⟨rfl, hb5⟩; replace hb0 := bl_tr hb0 hb5))
  as_aux_lemma =>
    clear hfw hse2 hsr2 h90'
    go_wp2_with fail
    refine (hcp.out _ hb0).mono ?_
    rintro e v1 ⟨A2, c2, rfl, hb1, hm⟩
    replace hb0 := bl_tr hb0 hb1
    clear hb1
    go_wp2_with fail
    refine (hci.out _ hb0).mono ?_
    rintro e v2 ⟨A1, c1, rfl, hb1, ho1⟩
    replace hb0 := bl_tr hb0 hb1
    replace hm := hm.below hb1
    clear hb1
    go_wp2_with fail
    refine (hwf.out _ _ _ _ _ hm (own_sl ho1)).mono ?_
    rintro e v3 ⟨hb1, B1, rfl, hs1⟩
    replace hb0 := bl_tr hb0 hb1
    clear hb1 hm ho1 hwf
    go_upto_region 7 with fail
    refine wp_any (w0 := v3) ⟨[], [], [some 63, some 64, some 65, some 66, some 67, some 68, some 69, some 62, some 70, some 71, some 11, some 12], [[], [0], [], [2], [2, 3], [], [0, 1, 2, 3, 4, 5], [0, 1, 2, 3, 4, 5, 6], [0, 1, 2, 3, 4, 5, 6, 7], [0, 1, 2, 3, 4, 5, 6, 7], [0, 1, 2, 3, 4, 5, 6, 7, 8], [0, 1, 2, 3, 4, 5, 6, 7, 8, 9, 10]], [[], [0], [], [2], [3], [], [1, 4, 5], [1, 6], [1, 6, 7], [1, 6, 7], [1, 6, 8], [1, 6, 9]]⟩ (fun _ => []) (by kernel_rfl) (by kernel_rfl) (by (with_reducible (repeat' (first | assumption | apply jA | apply jB | apply jC | apply jD | apply jE | apply jF | apply hb3 | omega | (simp; done) | (simp; omega) | (dsimp only; omega))))) (fun u => by simp only [putD, Act.put, List.setIfInBounds_toArray, List.set_cons_zero, List.set_cons_succ, Nat.zero_add, Nat.reduceAdd]; rfl) ?_
    apply RGW.on (i := 0) rfl
    · (simp only [gA, gB, gC] <;> rfl)
    · intro γ u W hcur hd
      clear hd
      (try dsimp only)
      refine ⟨rfl, ?_⟩
      go_simp <;> (try go_bits) <;> with_reducible rfl
    · exact fun _ _ _ => rfl
    · rfl
    dsimp only [nA, cA]
    apply RGW.gh (⟨fun γ => .slice (γ 1).A l.length (γ 1).c, fun γ W => SmIn l (γ 1).A (γ 1).c W, fun _ => []⟩) (i := 1) rfl
    · (simp only [gA, gB, gC] <;> rfl)
    · intro γ u W hcur hd
      obtain ⟨⟨h0, -, -⟩, -⟩ := hd
      dsimp only at h0
      (try simp only [h0])
      refine ⟨rfl, fun K hK => ?_⟩
      go_simp
      first
      | (go_at_call 44; (with_reducible refine (hcp.out _ (bl_tr hb0 hcur)).mono ?_); rintro e w3 ⟨Ax, cx, rfl, hb3, hox⟩; dsimp only; exact hK.out ⟨0, undef, Ax, cx⟩ _ _ (by simp [up]) hb3 (by simpa [up] using hox) (by simp))
      | (exact hK.out ⟨0, undef, some ⟨W.heap.size, 0, none⟩, 0⟩ _ _ (by simp [up]) (bl_al _ (bl_refl _)) (by simpa [up] using Blk.ints (l := zrs l.length) (Blk.new W _ _)) (by simp))
      | (go_at_call 43; (with_reducible refine (hwz.out _ _ _ _ _ r1 r4).mono ?_); rintro e w3 ⟨hb3, Ax, rfl, hox⟩; dsimp only; exact hK.out ⟨0, undef, Ax, 0⟩ _ _ (by simp [up]) hb3 (by simpa [up] using hox) (by simp))
    · first
      | exact fun _ _ _ => rfl
      | intro γ γ' hg
        try dsimp only
        have e1 := hg 1 (by decide)
        simp only [e1]
        try exact ⟨trivial, fun _ h => h⟩
    · intro γ W W' hbl hR
      first | exact hR.below hbl | exact own_below hR hbl | exact trivial | exact ⟨hR.1.below hbl, hR.2⟩
    · rfl
    dsimp only [nA, cA]
    apply RGW.on (i := 2) rfl
    · (simp only [gA, gB, gC] <;> rfl)
    · intro γ u W hcur hd
      clear hd
      (try dsimp only)
      refine ⟨rfl, ?_⟩
      go_simp <;> (try go_bits) <;> with_reducible rfl
    · exact fun _ _ _ => rfl
    · rfl
    dsimp only [nA, cA]
    apply RGW.on (i := 3) rfl
    · (simp only [gA, gB, gC] <;> rfl)
    · intro γ u W hcur hd
      obtain ⟨⟨h2, -, -⟩, -⟩ := hd
      dsimp only at h2
      (try simp only [h2])
      refine ⟨rfl, ?_⟩
      go_simp <;> (try go_bits) <;> with_reducible rfl
    · exact fun _ _ _ => rfl
    · rfl
    dsimp only [nA, cA]
    apply RGW.gh (⟨fun γ => .slice (γ 4).A l.length l.length, fun γ W => Sl cI 1 W (γ 4).A (zrs l.length), fun _ => []⟩) (i := 4) rfl
    · (simp only [gA, gB, gC] <;> rfl)
    · intro γ u W hcur hd
      obtain ⟨⟨h3, -, -⟩, -⟩ := hd
      dsimp only at h3
      (try simp only [h3])
      refine ⟨rfl, fun K hK => ?_⟩
      go_simp
      first
      | (go_at_call 44; (with_reducible refine (hcp.out _ (bl_tr hb0 hcur)).mono ?_); rintro e w3 ⟨Ax, cx, rfl, hb3, hox⟩; dsimp only; exact hK.out ⟨0, undef, Ax, cx⟩ _ _ (by simp [up]) hb3 (by simpa [up] using hox) (by simp))
      | (exact hK.out ⟨0, undef, some ⟨W.heap.size, 0, none⟩, 0⟩ _ _ (by simp [up]) (bl_al _ (bl_refl _)) (by simpa [up] using Blk.ints (l := zrs l.length) (Blk.new W _ _)) (by simp))
      | (go_at_call 43; (with_reducible refine (hwz.out _ _ _ _ _ r1 r4).mono ?_); rintro e w3 ⟨hb3, Ax, rfl, hox⟩; dsimp only; exact hK.out ⟨0, undef, Ax, 0⟩ _ _ (by simp [up]) hb3 (by simpa [up] using hox) (by simp))
    · first
      | exact fun _ _ _ => rfl
      | intro γ γ' hg
        try dsimp only
        have e4 := hg 4 (by decide)
        simp only [e4]
        try exact ⟨trivial, fun _ h => h⟩
    · intro γ W W' hbl hR
      first | exact hR.below hbl | exact own_below hR hbl | exact trivial | exact ⟨hR.1.below hbl, hR.2⟩
    · rfl
    dsimp only [nA, cA]
    apply RGW.on (i := 5) rfl
    · (simp only [gA, gB, gC] <;> rfl)
    · intro γ u W hcur hd
      clear hd
      (try dsimp only)
      refine ⟨rfl, ?_⟩
      go_simp <;> (try go_bits) <;> with_reducible rfl
    · exact fun _ _ _ => rfl
    · rfl
    dsimp only [nA, cA]
    apply RGW.gh (⟨fun γ => .tuple #[.slice (γ 6).A l.length l.length, .int .i64 0], fun γ W => Sl cI 1 W (γ 6).A WZ, fun _ => []⟩) (i := 6) rfl
    · (simp only [gA, gB, gC] <;> rfl)
    · intro γ u W hcur hd
      obtain ⟨⟨h1, r1, -⟩, ⟨h4, r4, -⟩, ⟨h5, -, -⟩, -⟩ := hd
      dsimp only at h1 h4 h5 r1 r4
      (try simp only [h1, h4, h5])
      refine ⟨rfl, fun K hK => ?_⟩
      go_simp
      first
      | (go_at_call 44; (with_reducible refine (hcp.out _ (bl_tr hb0 hcur)).mono ?_); rintro e w3 ⟨Ax, cx, rfl, hb3, hox⟩; dsimp only; exact hK.out ⟨0, undef, Ax, cx⟩ _ _ (by simp [up]) hb3 (by simpa [up] using hox) (by simp))
      | (exact hK.out ⟨0, undef, some ⟨W.heap.size, 0, none⟩, 0⟩ _ _ (by simp [up]) (bl_al _ (bl_refl _)) (by simpa [up] using Blk.ints (l := zrs l.length) (Blk.new W _ _)) (by simp))
      | (go_at_call 43; (with_reducible refine (hwz.out _ _ _ _ _ r1 r4).mono ?_); rintro e w3 ⟨hb3, Ax, rfl, hox⟩; dsimp only; exact hK.out ⟨0, undef, Ax, 0⟩ _ _ (by simp [up]) hb3 (by simpa [up] using hox) (by simp))
    · first
      | exact fun _ _ _ => rfl
      | intro γ γ' hg
        try dsimp only
        have e1 := hg 1 (by decide)
        have e6 := hg 6 (by decide)
        simp only [e1, e6]
        try exact ⟨trivial, fun _ h => h⟩
    · intro γ W W' hbl hR
      first | exact hR.below hbl | exact own_below hR hbl | exact trivial | exact ⟨hR.1.below hbl, hR.2⟩
    · rfl
    dsimp only [nA, cA]
    apply RGW.on (i := 7) rfl
    · (simp only [gA, gB, gC] <;> rfl)
    · intro γ u W hcur hd
      obtain ⟨⟨h1, r1, -⟩, ⟨h6, r6, -⟩, -⟩ := hd
      dsimp only at h1 h6 r1 r6
      (try simp only [h1, h6])
      refine ⟨rfl, ?_⟩
      go_simp <;> (try go_bits) <;> with_reducible rfl
    · first
      | exact fun _ _ _ => rfl
      | intro γ γ' hg
        try dsimp only
        have e1 := hg 1 (by decide)
        have e6 := hg 6 (by decide)
        simp only [e1, e6]
    · rfl
    dsimp only [nA, cA]
    apply RGW.on (i := 8) rfl
    · (simp only [gA, gB, gC] <;> rfl)
    · intro γ u W hcur hd
      obtain ⟨⟨h1, r1, -⟩, ⟨h6, r6, -⟩, ⟨h7, -, -⟩, -⟩ := hd
      dsimp only at h1 h6 h7 r1 r6
      (try simp only [h1, h6, h7])
      refine ⟨rfl, ?_⟩
      go_simp <;> (try go_bits) <;> with_reducible rfl
    · first
      | exact fun _ _ _ => rfl
      | intro γ γ' hg
        try dsimp only
        have e1 := hg 1 (by decide)
        have e6 := hg 6 (by decide)
        simp only [e1, e6]
    · rfl
    dsimp only [nA, cA]
    apply RGW.on (i := 9) rfl
    · (simp only [gA, gB, gC] <;> rfl)
    · intro γ u W hcur hd
      obtain ⟨⟨h1, r1, -⟩, ⟨h6, r6, -⟩, ⟨h7, -, -⟩, -⟩ := hd
      dsimp only at h1 h6 h7 r1 r6
      (try simp only [h1, h6, h7])
      refine ⟨rfl, ?_⟩
      go_simp <;> (try go_bits) <;> with_reducible rfl
    · first
      | exact fun _ _ _ => rfl
      | intro γ γ' hg
        try dsimp only
        have e1 := hg 1 (by decide)
        have e6 := hg 6 (by decide)
        simp only [e1, e6]
    · rfl
    dsimp only [nA, cA]
    apply RGW.on (i := 10) rfl
    · (simp only [gA, gB, gC] <;> rfl)
    · intro γ u W hcur hd
      obtain ⟨⟨h1, r1, -⟩, ⟨h6, r6, -⟩, ⟨h8, -, -⟩, -⟩ := hd
      dsimp only at h1 h6 h8 r1 r6
      (try simp only [h1, h6, h8])
      refine ⟨rfl, ?_⟩
      go_simp <;> (try go_bits) <;> with_reducible rfl
    · first
      | exact fun _ _ _ => rfl
      | intro γ γ' hg
        try dsimp only
        have e1 := hg 1 (by decide)
        have e6 := hg 6 (by decide)
        simp only [e1, e6]
    · rfl
    dsimp only [nA, cA]
    apply RGW.on (i := 11) rfl
    · (simp only [gA, gB, gC] <;> rfl)
    · intro γ u W hcur hd
      obtain ⟨⟨h1, r1, -⟩, ⟨h6, r6, -⟩, ⟨h9, -, -⟩, -⟩ := hd
      dsimp only at h1 h6 h9 r1 r6
      (try simp only [h1, h6, h9])
      refine ⟨rfl, ?_⟩
      go_simp <;> (try go_bits) <;> with_reducible rfl
    · first
      | exact fun _ _ _ => rfl
      | intro γ γ' hg
        try dsimp only
        have e1 := hg 1 (by decide)
        have e6 := hg 6 (by decide)
        simp only [e1, e6]
    · rfl
    dsimp only [nA, cA]
    refine RGW.fin (fun γ u v4 hv4 hd hdis => ?_)
    obtain ⟨⟨h0, -, -⟩, ⟨h1, r1, b1⟩, ⟨h2, -, -⟩, ⟨h3, -, -⟩, ⟨h4, r4, b4⟩, ⟨h5, -, -⟩, ⟨h6, r6, b6⟩, ⟨h7, -, -⟩, ⟨h8, -, -⟩, ⟨h9, -, -⟩, ⟨h10, -, -⟩, ⟨h11, -, -⟩, -⟩ := hd
    dsimp only at h0 h1 h2 h3 h4 h5 h6 h7 h8 h9 h10 h11 r1 r4 r6 b1 b4 b6
    clear hdis
    simp only [h0, h1, h2, h3, h4, h5, h6, h7, h8, h9, h10, h11]
    clear h11 h10 h9 h8 h7 h6 h5 h4 h3 h2 h1 h0
    clear u
    simp only [List.map_nil]
    refine PlanW.done ?_
    have hb3 := bl_tt hv4
    have hb0' := bl_tr hb0 hv4
    replace hs1 := hs1.below hv4
    have hs2 := r6
    generalize (γ 6).A = B2 at *
    clear hb0 hb3 r1 r4 r6 b1 b4 b6 hv4 hwz
    replace hmk := Lib.hid hmk
    have hb0 := hb0'
    clear hb0'
    go_wp2_with fail
    refine (hcp.out _ hb0).mono ?_
    rintro e v5 ⟨A2, c2, rfl, hb1, hm⟩
    replace hb0 := bl_tr hb0 hb1
    replace hs1 := hs1.below hb1
    replace hs2 := hs2.below hb1
    clear hb1
    go_wp2_with fail
    refine (hli.out _ _ _ hm).mono ?_
    rintro e v6 ⟨hb1, B3, k3, rfl, hs3⟩
    replace hb0 := bl_tr hb0 hb1
    replace hs1 := hs1.below hb1
    replace hs2 := hs2.below hb1
    clear hb1 hm hli
    go_wp2_with fail
    refine (hcp.out _ hb0).mono ?_
    rintro e v7 ⟨A4, c4, rfl, hb1, hm⟩
    replace hb0 := bl_tr hb0 hb1
    replace hs1 := hs1.below hb1
    replace hs2 := hs2.below hb1
    replace hs3 := hs3.below hb1
    clear hb1
    go_wp2_with fail
    refine (hci.out _ hb0).mono ?_
    rintro e v8 ⟨A1, c1, rfl, hb1, ho1⟩
    replace hb0 := bl_tr hb0 hb1
    replace hs1 := hs1.below hb1
    replace hs2 := hs2.below hb1
    replace hs3 := hs3.below hb1
    replace hm := hm.below hb1
    clear hb1 hci
    go_wp2_with fail
    refine (hcb.out _ _ _ _ _ hm (own_sl ho1)).mono ?_
    rintro e v9 ⟨hb1, B4, k4, rfl, hs4⟩
    replace hb0 := bl_tr hb0 hb1
    replace hs1 := hs1.below hb1
    replace hs2 := hs2.below hb1
    replace hs3 := hs3.below hb1
    clear hb1 hm ho1 hcb
    go_wp2_with fail
    refine (hco.out _ hb0).mono ?_
    rintro e v10 ⟨g, cM, cur, rfl, hb1, hg, hcM, kM, hcs, hcur⟩
    have hg9 := hg
    replace hg := Nat.le_trans hb0.size hg
    replace hb0 := bl_tr hb0 hb1
    have hb9 := hb1
    clear hb1 hco
    have hmod := Lib.hid fun W : World => r_Mod x1 (l.length : Nat) W (by omega) (by omega)
    obtain ⟨a, ha⟩ : ∃ a : Nat, x1 % (l.length : Nat) = a := ⟨(x1 % (l.length : Nat)).toNat, by have := Int.emod_nonneg x1 (show ((l.length : Nat) : Int) ≠ 0 by omega); omega⟩
    have hal : a < l.length := by have := Int.emod_lt_of_pos x1 (show (0 : Int) < (l.length : Nat) by omega); omega
    rw [ha] at hmod
    clear ha
    have hsa : l[a]? = some l[a] := List.getElem?_eq_getElem hal
    generalize l[a] = sa at hsa
    have hla := ((hok.out).2.2 sa (List.mem_of_getElem? hsa)).1.2.2.2.2
    obtain ⟨hla1, hla2⟩ := hla
    have LM : v10.cell? ⟨g, a * 4 + 3, none⟩ = some (.int .i64 sa.len) := by rw [kM.cell]; exact hcur a sa 3 _ hsa rfl
    have FM : v10.frozen? ⟨g, a * 4 + 3, none⟩ = false := kM.frozen _
    have hal2 : (a : Int) < l.length := by omega
    go_upto_region 15 with (go_at_call 31; (with_reducible refine (hmod.out _).mono ?_); rintro e w3 ⟨rfl, rfl⟩)
    have kM2 := kM.set (a * 4 + 3) (.int .i64 (sa.len + 1))
    have hbS : Below w.heap.size w (v10.setCell ⟨g, a * 4 + 3, none⟩ (.int .i64 (sa.len + 1))) := bl_set (by exact hg) _ hb0
    have hxS : BX [g] v9 (v10.setCell ⟨g, a * 4 + 3, none⟩ (.int .i64 (sa.len + 1))) := bx_set (.inl (by simp)) _ (bx_bl [g] hb9)
    have hsm := sm_longer hsa hcM (by omega) (hn1.out w (bl_refl w)).nm kM2 hcs hcur
    have hL2 := longer_length l a sa
    have hM0 := Lib.hid fun (h : smsErr (longer l a sa) = 0) (i : Nat) (s : Sm) (r : Nat) (hs : l[i]? = some s) (hr : Timely l i s r) =>
      longer_resp (fun o ho => (hok.out.2.2 o ho).1) hsa h (fun o ho => ((sms_ok h).2.2 o ho).1) hs hr
    have hk0 : NvK w B1 B2 B3 B4 WO WZ LK CA (longer l a sa) (some ⟨g, 0, none⟩) cM (v10.setCell ⟨g, a * 4 + 3, none⟩ (.int .i64 (sa.len + 1))) :=
      ⟨hbS, sl_new hs1 hxS (by simpa using hg9), sl_new hs2 hxS (by simpa using hg9), sl_new hs3 hxS (by simpa using hg9), sl_new hs4 hxS (by simpa using hg9), hsm⟩
    generalize v10.setCell ⟨g, a * 4 + 3, none⟩ (.int .i64 (sa.len + 1)) = u0 at *
    clear hs1 hs2 hs3 hs4 hb0 hb9 hbS hxS hsm kM kM2 hcs hcur LM FM hg hg9 hla1 hla2 hsa hmod hcM
    generalize longer l a sa = L2 at *
    replace hL2 := Lib.hid hL2
    have hM1 : Hid (∀ W, SmIn L2 (some ⟨g, 0, none⟩) cM W → Calls Tryd.prog 41 #[.slice (some ⟨g, 0, none⟩) l.length cM] W (Ret (.int .i64 (smsErr L2)) W)) := fun W h => by
      have := r_StreamsErr L2 _ cM W h
      rw [hL2.out] at this
      exact this
    have hM2 : Hid (∀ W, SmIn L2 (some ⟨g, 0, none⟩) cM W → Calls Tryd.prog 44 #[.slice (some ⟨g, 0, none⟩) l.length cM] W (fun e w' => ∃ A2 c2, e = .returned (.slice A2 l.length c2) ∧ Below W.heap.size W w' ∧ SmIn L2 A2 c2 w')) := fun W h => by
      have := r_CopyStreams L2 _ cM W h
      rw [hL2.out] at this
      exact this
    have hM3 : Hid (∀ (A2 : Option Addr) (c2 k : Nat) W, SmIn L2 A2 c2 W → Calls Tryd.prog 47 #[.slice A2 l.length c2, .int .i64 (k : Nat)] W (Ret (.tuple #[.int .i64 (respOf L2 k).1, .int .i64 (respOf L2 k).2]) W)) := fun A2 c2 k W h => by
      have := c_ResponseOf L2 k A2 c2 W h
      rw [hL2.out] at this
      exact this
    generalize smsErr L2 = E2 at *
    obtain ⟨R2, hR2⟩ : ∃ R2 : Nat → Int × Int, ∀ k : Nat, respOf L2 k = R2 k := ⟨_, fun _ => rfl⟩
    simp only [hR2] at hM0 hM3
    clear hR2 hL2
    have hHs := Lib.hid fun (k : Nat) (W : World) (h : Sl cI 1 W B3 LK) => r_Has LK k B3 k3 W h (by have := hLL.out; omega)
    have hx1 := Lib.hid fun (k : Nat) (s : Sm) (hs : l[k]? = some s) (h : lateAt l k = true) => late_resp hE.out hs h
    have hx2 := Lib.hid fun (k : Nat) (s : Sm) (hs : l[k]? = some s) (h : lateAt l k = false) => (show ∃ r, Timely l k s r ∧ respOf l k = ((r : Int), 0) from by
      obtain ⟨r, hr⟩ := notlate (fun o ho => (hok.out.2.2 o ho).1) hs h
      exact ⟨r, hr, timely_resp hE.out hs hr⟩)
    obtain ⟨R1, hR1⟩ : ∃ R1 : Nat → Int × Int, ∀ k : Nat, respOf l k = R1 k := ⟨_, fun _ => rfl⟩
    simp only [hR1] at hro hx1 hx2
    clear hR1
    go_wp2
    go_loopw [19] (fun i wr => ∃ k : Nat, k ≤ l.length ∧ i = .int .i64 k ∧ NvK w B1 B2 B3 B4 WO WZ LK CA L2 (some ⟨g, 0, none⟩) cM wr) (fun i _ => l.length - (intOf i).toNat)
    case atStart => exact ⟨0, Nat.zero_le _, rfl, hk0⟩
    case round =>
      clear hk0
      obtain ⟨k, hk, rfl, hk0⟩ := hrel
      by_cases hkn : k < l.length
      · as_aux_lemma =>
          have hx : l[k]? = some l[k] := List.getElem?_eq_getElem _
          generalize l[k] = s at hx
          replace hk0 := Lib.hid hk0
          go_wp2_with fail
          refine (hcp.out _ hk0.out.bel).mono ?_
          rintro e z1 ⟨A2, c2, rfl, hb1, hm⟩
          replace hk0 := Lib.hid (hk0.out.below hb1)
          clear hb1
          go_wp2_with fail
          refine (hro.out _ _ k _ hm).mono ?_
          rintro e z2 ⟨rfl, hb1⟩
          replace hk0 := Lib.hid (hk0.out.below hb1)
          clear hb1 hm
          go_wp2_with fail
          refine (hHs.out k _ hk0.out.s3).mono ?_
          rintro e z3 ⟨rfl, hb1⟩
          rw [hLK.out k hkn]
          replace hk0 := Lib.hid (hk0.out.below hb1)
          clear hb1
          obtain ⟨b, off, rfl, hc⟩ := (hn1.out z3 hk0.out.bel).sl k s hx
          have c2 : ∀ W, Below z3.heap.size z3 W → W.cell? ⟨b, off + k * 4 + 2, none⟩ = some (.int .i64 s.dl) := later (hc 2 _ rfl)
          have c3 : ∀ W, Below z3.heap.size z3 W → W.cell? ⟨b, off + k * 4 + 3, none⟩ = some (.int .i64 s.len) := later (hc 3 _ rfl)
          clear hc
          have hkn2 : (k : Int) < l.length := by omega
          cases hla : lateAt l k
          · obtain ⟨r, hr, hR⟩ := hx2.out k s hx hla
            rw [hR]
            have hm0 := Lib.hid fun h => hM0.out h k s r hx hr
            obtain ⟨v1, hv1, hv1r⟩ := hWO.out k s r hx hr
            obtain ⟨v2, hv2, hv2r⟩ := hWZ.out k s r hx hr
            obtain ⟨bb1, oo1, rfl, d1⟩ := sl_at hk0.out.s1 hv1
            obtain ⟨bb2, oo2, rfl, d2⟩ := sl_at hk0.out.s2 hv2
            have hir : inR (r : Int) s.len s.dl = true := inR_iff.2 ⟨hr.len, hr.dl⟩
            have hwi := Lib.hid fun W : World => hir ▸ r_Within (r : Int) s.len s.dl W
            clear hx hr hR hla hv1 hv2 hir
            have hv1r' : ¬ (r : Int) < v1 := by omega
            have hrT : (T < r ∧ (T : Int) < r) ∨ (r ≤ T ∧ ¬ T < r ∧ ¬ (T : Int) < r ∧ v2 = (r : Int)) := by
              by_cases h : r ≤ T
              · exact .inr ⟨h, by omega, by omega, hv2r h⟩
              · exact .inl ⟨by omega, by omega⟩
            clear hv2r hv1r
            go_upto_region 22 with fail
            rcases hrT with ⟨hrT, hrT2⟩ | ⟨hrT, hrT2, hrT3, rfl⟩
            all_goals
              refine wp_any (w0 := z3) ⟨[], [], [some 164, some 165, some 166, some 167, some 168, some 169, some 170, some 171, some 172, some 173, some 174, some 175, some 176, some 177, some 178, some 179, some 180, some 181, some 182, some 183, some 184, some 185, some 186, some 187, some 188, some 189, some 190, some 191, some 192, some 193, some 194, some 195, some 196, some 197, some 198, some 199, some 200, some 201], [[], [0], [0, 1], [0, 1, 2], [0, 1, 2], [0, 1, 2], [0, 1, 2, 4, 5], [0, 1, 2, 4, 5, 6], [0, 1, 2, 4, 5, 6, 7], [0, 1, 2], [0, 1, 2], [0, 1, 2, 9, 10], [0, 1, 2, 9, 10, 11], [0, 1, 2, 9, 10, 11, 12], [0, 1, 2, 3, 4, 5, 6, 7, 8, 9, 10, 11, 12, 13], [0, 1, 2, 3, 4, 5, 6, 7, 8, 9, 10, 11, 12, 13, 14], [0, 1, 2, 3, 4, 5, 6, 7, 8, 9, 10, 11, 12, 13, 14, 15], [0, 1, 2, 3, 4, 5, 6, 7, 8, 9, 10, 11, 12, 13, 14, 15, 16], [0, 1, 2, 3, 4, 5, 6, 7, 8, 9, 10, 11, 12, 13, 14, 15, 16, 17], [0, 1, 2, 3, 4, 5, 6, 7, 8, 9, 10, 11, 12, 13, 14, 15, 16, 17], [0, 1, 2, 3, 4, 5, 6, 7, 8, 9, 10, 11, 12, 13, 14, 15, 16, 17, 18, 19], [0, 1, 2, 3, 4, 5, 6, 7, 8, 9, 10, 11, 12, 13, 14, 15, 16, 17, 18, 19, 20], [0, 1, 2, 3, 4, 5, 6, 7, 8, 9, 10, 11, 12, 13, 14, 15, 16, 17], [0, 1, 2, 3, 4, 5, 6, 7, 8, 9, 10, 11, 12, 13, 14, 15, 16, 17, 18, 19, 20, 21, 22], [0, 1, 2, 3, 4, 5, 6, 7, 8, 9, 10, 11, 12, 13, 14, 15, 16, 17, 18, 19, 20, 21, 22, 23], [0, 1, 2, 3, 4, 5, 6, 7, 8, 9, 10, 11, 12, 13, 14, 15, 16, 17, 18, 19, 20, 21, 22, 23, 24], [0, 1, 2, 3, 4, 5, 6, 7, 8, 9, 10, 11, 12, 13, 14, 15, 16, 17, 18, 19, 20, 21, 22, 23, 24, 25], [0, 1, 2, 3, 4, 5, 6, 7, 8, 9, 10, 11, 12, 13, 14, 15, 16, 17, 18, 19, 20, 21, 22, 23, 24, 25], [0, 1, 2, 3, 4, 5, 6, 7, 8, 9, 10, 11, 12, 13, 14, 15, 16, 17, 18, 19, 20, 21, 22, 23, 24, 25, 26, 27], [0, 1, 2, 3, 4, 5, 6, 7, 8, 9, 10, 11, 12, 13, 14, 15, 16, 17, 18, 19, 20, 21, 22, 23, 24, 25, 26, 27, 28], [0, 1, 2, 3, 4, 5, 6, 7, 8, 9, 10, 11, 12, 13, 14, 15, 16, 17, 18, 19, 20, 21, 22, 23, 24, 25, 26, 27, 28, 29], [0, 1, 2, 3, 4, 5, 6, 7, 8, 9, 10, 11, 12, 13, 14, 15, 16, 17, 18, 19, 20, 21, 22, 23, 24, 25, 26, 27, 28, 29], [0, 1, 2, 3, 4, 5, 6, 7, 8, 9, 10, 11, 12, 13, 14, 15, 16, 17, 18, 19, 20, 21, 22, 23, 24, 25, 26, 27, 28, 29, 30, 31], [0, 1, 2, 3, 4, 5, 6, 7, 8, 9, 10, 11, 12, 13, 14, 15, 16, 17, 18, 19, 20, 21, 22, 23, 24, 25, 26, 27, 28, 29, 30, 31, 32], [0, 1, 2, 3, 4, 5, 6, 7, 8, 9, 10, 11, 12, 13, 14, 15, 16, 17, 18, 19, 20, 21, 22, 23, 24, 25, 26, 27, 28, 29], [0, 1, 2, 3, 4, 5, 6, 7, 8, 9, 10, 11, 12, 13, 14, 15, 16, 17, 18, 19, 20, 21, 22, 23, 24, 25, 26, 27, 28, 29, 30, 31, 32, 33, 34], [0, 1, 2, 3, 4, 5, 6, 7, 8, 9, 10, 11, 12, 13, 14, 15, 16, 17, 18, 19, 20, 21, 22, 23, 24, 25, 26, 27, 28, 29, 30, 31, 32, 33, 34, 35], [0, 1, 2, 3, 4, 5, 6, 7, 8, 9, 10, 11, 12, 13, 14, 15, 16, 17, 18, 19, 20, 21, 22, 23, 24, 25, 26, 27, 28, 29, 30, 31, 32, 33, 34, 35, 36]], [[], [0], [1], [2], [2], [2], [2, 4, 5], [2, 6], [2, 7], [2], [2], [2, 9, 10], [2, 11], [2, 12], [2, 3, 8, 13], [2, 14], [2, 15], [16], [17], [17], [17, 18, 19], [17, 20], [17], [17, 21, 22], [17, 23], [24], [25], [25], [25, 26, 27], [25, 28], [29], [29], [29, 30, 31], [29, 32], [29], [29, 33, 34], [25, 29, 35], [25, 36]]⟩ (fun _ => []) (by kernel_rfl) (by kernel_rfl) (by (with_reducible (repeat' (first | assumption | apply jA | apply jB | apply jC | apply jD | apply jE | apply jF | apply hb3 | omega | (simp; done) | (simp; omega) | (dsimp only; omega))))) (fun u => by simp only [putD, Act.put, List.setIfInBounds_toArray, List.set_cons_zero, List.set_cons_succ, Nat.zero_add, Nat.reduceAdd]; rfl) ?_
              apply RGW.on (i := 0) rfl
              · (simp only [gA, gB, gC] <;> rfl)
              · intro γ u W hcur hd
                clear hd
                (try dsimp only)
                refine ⟨rfl, ?_⟩
                go_simp <;> (try go_bits) <;> with_reducible rfl
              · exact fun _ _ _ => rfl
              · rfl
              dsimp only [nA, cA]
              apply RGW.on (i := 1) rfl
              · (simp only [gA, gB, gC] <;> rfl)
              · intro γ u W hcur hd
                obtain ⟨⟨h0, -, -⟩, -⟩ := hd
                dsimp only at h0
                (try simp only [h0])
                refine ⟨rfl, ?_⟩
                go_simp <;> (try go_bits) <;> with_reducible rfl
              · exact fun _ _ _ => rfl
              · rfl
              dsimp only [nA, cA]
              apply RGW.on (i := 2) rfl
              · (simp only [gA, gB, gC] <;> rfl)
              · intro γ u W hcur hd
                obtain ⟨⟨h1, -, -⟩, -⟩ := hd
                dsimp only at h1
                (try simp only [h1])
                refine ⟨rfl, ?_⟩
                go_simp <;> (try go_bits) <;> with_reducible rfl
              · exact fun _ _ _ => rfl
              · rfl
              dsimp only [nA, cA]
              first
              | apply RGW.on (i := 3) rfl
                · (simp only [gA, gB, gC] <;> rfl)
                · intro γ u W hcur hd
                  obtain ⟨⟨h2, -, -⟩, -⟩ := hd
                  dsimp only at h2
                  (try simp only [h2])
                  refine ⟨?_, ?_⟩
                  · (simp [Region.wanted, yielded, undef, *]; done)
                  go_simp <;> (try go_bits) <;> with_reducible rfl
                · exact fun _ _ _ => rfl
                · rfl
              | apply RGW.off (i := 3) rfl
                · (simp only [gA, gB, gC] <;> rfl)
                · intro γ u W hcur hd
                  obtain ⟨⟨h2, -, -⟩, -⟩ := hd
                  dsimp only at h2
                  (try simp only [h2])
                  simp [Region.wanted, yielded, undef, *]
                · rfl
              dsimp only [nA, cA]
              first
              | apply RGW.on (i := 4) rfl
                · (simp only [gA, gB, gC] <;> rfl)
                · intro γ u W hcur hd
                  obtain ⟨⟨h2, -, -⟩, -⟩ := hd
                  dsimp only at h2
                  (try simp only [h2])
                  refine ⟨?_, ?_⟩
                  · (simp [Region.wanted, yielded, undef, *]; done)
                  go_simp <;> (try go_bits) <;> with_reducible rfl
                · exact fun _ _ _ => rfl
                · rfl
              | apply RGW.off (i := 4) rfl
                · (simp only [gA, gB, gC] <;> rfl)
                · intro γ u W hcur hd
                  obtain ⟨⟨h2, -, -⟩, -⟩ := hd
                  dsimp only at h2
                  (try simp only [h2])
                  simp [Region.wanted, yielded, undef, *]
                · rfl
              dsimp only [nA, cA]
              first
              | apply RGW.on (i := 5) rfl
                · (simp only [gA, gB, gC] <;> rfl)
                · intro γ u W hcur hd
                  obtain ⟨⟨h2, -, -⟩, -⟩ := hd
                  dsimp only at h2
                  (try simp only [h2])
                  refine ⟨?_, ?_⟩
                  · (simp [Region.wanted, yielded, undef, *]; done)
                  go_simp <;> (try go_bits) <;> with_reducible rfl
                · exact fun _ _ _ => rfl
                · rfl
              | apply RGW.off (i := 5) rfl
                · (simp only [gA, gB, gC] <;> rfl)
                · intro γ u W hcur hd
                  obtain ⟨⟨h2, -, -⟩, -⟩ := hd
                  dsimp only at h2
                  (try simp only [h2])
                  simp [Region.wanted, yielded, undef, *]
                · rfl
              dsimp only [nA, cA]
              first
              | apply RGW.on (i := 6) rfl
                · (simp only [gA, gB, gC] <;> rfl)
                · intro γ u W hcur hd
                  obtain ⟨⟨h2, -, -⟩, ⟨h4, -, -⟩, ⟨h5, -, -⟩, -⟩ := hd
                  dsimp only at h2 h4 h5
                  (try simp only [h2, h4, h5])
                  refine ⟨?_, ?_⟩
                  · (simp [Region.wanted, yielded, undef, *]; done)
                  go_simp <;> (try go_bits) <;> with_reducible rfl
                · exact fun _ _ _ => rfl
                · rfl
              | apply RGW.off (i := 6) rfl
                · (simp only [gA, gB, gC] <;> rfl)
                · intro γ u W hcur hd
                  obtain ⟨⟨h2, -, -⟩, ⟨h4, -, -⟩, ⟨h5, -, -⟩, -⟩ := hd
                  dsimp only at h2 h4 h5
                  (try simp only [h2, h4, h5])
                  simp [Region.wanted, yielded, undef, *]
                · rfl
              dsimp only [nA, cA]
              first
              | apply RGW.on (i := 7) rfl
                · (simp only [gA, gB, gC] <;> rfl)
                · intro γ u W hcur hd
                  obtain ⟨⟨h2, -, -⟩, ⟨h6, -, -⟩, -⟩ := hd
                  dsimp only at h2 h6
                  (try simp only [h2, h6])
                  refine ⟨?_, ?_⟩
                  · (simp [Region.wanted, yielded, undef, *]; done)
                  go_simp <;> (try go_bits) <;> with_reducible rfl
                · exact fun _ _ _ => rfl
                · rfl
              | apply RGW.off (i := 7) rfl
                · (simp only [gA, gB, gC] <;> rfl)
                · intro γ u W hcur hd
                  obtain ⟨⟨h2, -, -⟩, ⟨h6, -, -⟩, -⟩ := hd
                  dsimp only at h2 h6
                  (try simp only [h2, h6])
                  simp [Region.wanted, yielded, undef, *]
                · rfl
              dsimp only [nA, cA]
              first
              | apply RGW.on (i := 8) rfl
                · (simp only [gA, gB, gC] <;> rfl)
                · intro γ u W hcur hd
                  obtain ⟨⟨h2, -, -⟩, ⟨h7, -, -⟩, -⟩ := hd
                  dsimp only at h2 h7
                  (try simp only [h2, h7])
                  refine ⟨?_, ?_⟩
                  · (simp [Region.wanted, yielded, undef, *]; done)
                  go_simp <;> (try go_bits) <;> with_reducible rfl
                · exact fun _ _ _ => rfl
                · rfl
              | apply RGW.off (i := 8) rfl
                · (simp only [gA, gB, gC] <;> rfl)
                · intro γ u W hcur hd
                  obtain ⟨⟨h2, -, -⟩, ⟨h7, -, -⟩, -⟩ := hd
                  dsimp only at h2 h7
                  (try simp only [h2, h7])
                  simp [Region.wanted, yielded, undef, *]
                · rfl
              dsimp only [nA, cA]
              first
              | apply RGW.on (i := 9) rfl
                · (simp only [gA, gB, gC] <;> rfl)
                · intro γ u W hcur hd
                  obtain ⟨⟨h2, -, -⟩, -⟩ := hd
                  dsimp only at h2
                  (try simp only [h2])
                  refine ⟨?_, ?_⟩
                  · (simp [Region.wanted, yielded, undef, *]; done)
                  go_simp <;> (try go_bits) <;> with_reducible rfl
                · exact fun _ _ _ => rfl
                · rfl
              | apply RGW.off (i := 9) rfl
                · (simp only [gA, gB, gC] <;> rfl)
                · intro γ u W hcur hd
                  obtain ⟨⟨h2, -, -⟩, -⟩ := hd
                  dsimp only at h2
                  (try simp only [h2])
                  simp [Region.wanted, yielded, undef, *]
                · rfl
              dsimp only [nA, cA]
              first
              | apply RGW.on (i := 10) rfl
                · (simp only [gA, gB, gC] <;> rfl)
                · intro γ u W hcur hd
                  obtain ⟨⟨h2, -, -⟩, -⟩ := hd
                  dsimp only at h2
                  (try simp only [h2])
                  refine ⟨?_, ?_⟩
                  · (simp [Region.wanted, yielded, undef, *]; done)
                  go_simp <;> (try go_bits) <;> with_reducible rfl
                · exact fun _ _ _ => rfl
                · rfl
              | apply RGW.off (i := 10) rfl
                · (simp only [gA, gB, gC] <;> rfl)
                · intro γ u W hcur hd
                  obtain ⟨⟨h2, -, -⟩, -⟩ := hd
                  dsimp only at h2
                  (try simp only [h2])
                  simp [Region.wanted, yielded, undef, *]
                · rfl
              dsimp only [nA, cA]
              first
              | apply RGW.on (i := 11) rfl
                · (simp only [gA, gB, gC] <;> rfl)
                · intro γ u W hcur hd
                  obtain ⟨⟨h2, -, -⟩, ⟨h9, -, -⟩, ⟨h10, -, -⟩, -⟩ := hd
                  dsimp only at h2 h9 h10
                  (try simp only [h2, h9, h10])
                  refine ⟨?_, ?_⟩
                  · (simp [Region.wanted, yielded, undef, *]; done)
                  go_simp <;> (try go_bits) <;> with_reducible rfl
                · exact fun _ _ _ => rfl
                · rfl
              | apply RGW.off (i := 11) rfl
                · (simp only [gA, gB, gC] <;> rfl)
                · intro γ u W hcur hd
                  obtain ⟨⟨h2, -, -⟩, ⟨h9, -, -⟩, ⟨h10, -, -⟩, -⟩ := hd
                  dsimp only at h2 h9 h10
                  (try simp only [h2, h9, h10])
                  simp [Region.wanted, yielded, undef, *]
                · rfl
              dsimp only [nA, cA]
              first
              | apply RGW.on (i := 12) rfl
                · (simp only [gA, gB, gC] <;> rfl)
                · intro γ u W hcur hd
                  obtain ⟨⟨h2, -, -⟩, ⟨h11, -, -⟩, -⟩ := hd
                  dsimp only at h2 h11
                  (try simp only [h2, h11])
                  refine ⟨?_, ?_⟩
                  · (simp [Region.wanted, yielded, undef, *]; done)
                  go_simp <;> (try go_bits) <;> with_reducible rfl
                · exact fun _ _ _ => rfl
                · rfl
              | apply RGW.off (i := 12) rfl
                · (simp only [gA, gB, gC] <;> rfl)
                · intro γ u W hcur hd
                  obtain ⟨⟨h2, -, -⟩, ⟨h11, -, -⟩, -⟩ := hd
                  dsimp only at h2 h11
                  (try simp only [h2, h11])
                  simp [Region.wanted, yielded, undef, *]
                · rfl
              dsimp only [nA, cA]
              first
              | apply RGW.on (i := 13) rfl
                · (simp only [gA, gB, gC] <;> rfl)
                · intro γ u W hcur hd
                  obtain ⟨⟨h2, -, -⟩, ⟨h12, -, -⟩, -⟩ := hd
                  dsimp only at h2 h12
                  (try simp only [h2, h12])
                  refine ⟨?_, ?_⟩
                  · (simp [Region.wanted, yielded, undef, *]; done)
                  go_simp <;> (try go_bits) <;> with_reducible rfl
                · exact fun _ _ _ => rfl
                · rfl
              | apply RGW.off (i := 13) rfl
                · (simp only [gA, gB, gC] <;> rfl)
                · intro γ u W hcur hd
                  obtain ⟨⟨h2, -, -⟩, ⟨h12, -, -⟩, -⟩ := hd
                  dsimp only at h2 h12
                  (try simp only [h2, h12])
                  simp [Region.wanted, yielded, undef, *]
                · rfl
              dsimp only [nA, cA]
              first
              | apply RGW.call (i := 14) rfl
                · (simp only [gA, gB, gC] <;> rfl)
                · intro γ u W hcur hd
                  obtain ⟨⟨h2, -, -⟩, ⟨h3, -, -⟩, ⟨h8, -, -⟩, ⟨h13, -, -⟩, -⟩ := hd
                  dsimp only at h2 h3 h8 h13
                  (try simp only [h2, h3, h8, h13])
                  refine ⟨?_, fun K hK => ?_⟩
                  · (simp [Region.wanted, yielded, undef, *]; done)
                  go_simp
                  (go_at_call 21; (with_reducible refine (hwi.out _).mono ?_); rintro e w3 ⟨rfl, rfl⟩)
                  (try dsimp only)
                  exact hK.out _ _ rfl (by (with_reducible (repeat' (first | assumption | apply jA | apply jB | apply jC | apply jD | apply jE | apply jF | apply hb3 | omega | (simp; done) | (simp; omega) | (dsimp only; omega)))))
                · exact fun _ _ _ => rfl
                · rfl
              | apply RGW.off (i := 14) rfl
                · (simp only [gA, gB, gC] <;> rfl)
                · intro γ u W hcur hd
                  obtain ⟨⟨h2, -, -⟩, ⟨h3, -, -⟩, ⟨h8, -, -⟩, ⟨h13, -, -⟩, -⟩ := hd
                  dsimp only at h2 h3 h8 h13
                  (try simp only [h2, h3, h8, h13])
                  simp [Region.wanted, yielded, undef, *]
                · rfl
              dsimp only [nA, cA]
              first
              | apply RGW.on (i := 15) rfl
                · (simp only [gA, gB, gC] <;> rfl)
                · intro γ u W hcur hd
                  obtain ⟨⟨h2, -, -⟩, ⟨h14, -, -⟩, -⟩ := hd
                  dsimp only at h2 h14
                  (try simp only [h2, h14])
                  refine ⟨?_, ?_⟩
                  · (simp [Region.wanted, yielded, undef, *]; done)
                  go_simp <;> (try go_bits) <;> with_reducible rfl
                · exact fun _ _ _ => rfl
                · rfl
              | apply RGW.off (i := 15) rfl
                · (simp only [gA, gB, gC] <;> rfl)
                · intro γ u W hcur hd
                  obtain ⟨⟨h2, -, -⟩, ⟨h14, -, -⟩, -⟩ := hd
                  dsimp only at h2 h14
                  (try simp only [h2, h14])
                  simp [Region.wanted, yielded, undef, *]
                · rfl
              dsimp only [nA, cA]
              apply RGW.on (i := 16) rfl
              · (simp only [gA, gB, gC] <;> rfl)
              · intro γ u W hcur hd
                obtain ⟨⟨h2, -, -⟩, ⟨h15, -, -⟩, -⟩ := hd
                dsimp only at h2 h15
                (try simp only [h2, h15])
                refine ⟨rfl, ?_⟩
                go_simp <;> (try go_bits) <;> with_reducible rfl
              · exact fun _ _ _ => rfl
              · rfl
              dsimp only [nA, cA]
              apply RGW.on (i := 17) rfl
              · (simp only [gA, gB, gC] <;> rfl)
              · intro γ u W hcur hd
                obtain ⟨⟨h16, -, -⟩, -⟩ := hd
                dsimp only at h16
                (try simp only [h16])
                refine ⟨rfl, ?_⟩
                go_simp <;> (try go_bits) <;> with_reducible rfl
              · exact fun _ _ _ => rfl
              · rfl
              dsimp only [nA, cA]
              first
              | apply RGW.on (i := 18) rfl
                · (simp only [gA, gB, gC] <;> rfl)
                · intro γ u W hcur hd
                  obtain ⟨⟨h17, -, -⟩, -⟩ := hd
                  dsimp only at h17
                  (try simp only [h17])
                  refine ⟨?_, ?_⟩
                  · (simp [Region.wanted, yielded, undef, *]; done)
                  go_simp <;> (try go_bits) <;> with_reducible rfl
                · exact fun _ _ _ => rfl
                · rfl
              | apply RGW.off (i := 18) rfl
                · (simp only [gA, gB, gC] <;> rfl)
                · intro γ u W hcur hd
                  obtain ⟨⟨h17, -, -⟩, -⟩ := hd
                  dsimp only at h17
                  (try simp only [h17])
                  simp [Region.wanted, yielded, undef, *]
                · rfl
              dsimp only [nA, cA]
              first
              | apply RGW.on (i := 19) rfl
                · (simp only [gA, gB, gC] <;> rfl)
                · intro γ u W hcur hd
                  obtain ⟨⟨h17, -, -⟩, -⟩ := hd
                  dsimp only at h17
                  (try simp only [h17])
                  refine ⟨?_, ?_⟩
                  · (simp [Region.wanted, yielded, undef, *]; done)
                  go_simp <;> (try go_bits) <;> with_reducible rfl
                · exact fun _ _ _ => rfl
                · rfl
              | apply RGW.off (i := 19) rfl
                · (simp only [gA, gB, gC] <;> rfl)
                · intro γ u W hcur hd
                  obtain ⟨⟨h17, -, -⟩, -⟩ := hd
                  dsimp only at h17
                  (try simp only [h17])
                  simp [Region.wanted, yielded, undef, *]
                · rfl
              dsimp only [nA, cA]
              first
              | apply RGW.on (i := 20) rfl
                · (simp only [gA, gB, gC] <;> rfl)
                · intro γ u W hcur hd
                  obtain ⟨⟨h17, -, -⟩, ⟨h18, -, -⟩, ⟨h19, -, -⟩, -⟩ := hd
                  dsimp only at h17 h18 h19
                  (try simp only [h17, h18, h19])
                  refine ⟨?_, ?_⟩
                  · (simp [Region.wanted, yielded, undef, *]; done)
                  go_simp <;> (try go_bits) <;> with_reducible rfl
                · exact fun _ _ _ => rfl
                · rfl
              | apply RGW.off (i := 20) rfl
                · (simp only [gA, gB, gC] <;> rfl)
                · intro γ u W hcur hd
                  obtain ⟨⟨h17, -, -⟩, ⟨h18, -, -⟩, ⟨h19, -, -⟩, -⟩ := hd
                  dsimp only at h17 h18 h19
                  (try simp only [h17, h18, h19])
                  simp [Region.wanted, yielded, undef, *]
                · rfl
              dsimp only [nA, cA]
              first
              | apply RGW.on (i := 21) rfl
                · (simp only [gA, gB, gC] <;> rfl)
                · intro γ u W hcur hd
                  obtain ⟨⟨h17, -, -⟩, ⟨h20, -, -⟩, -⟩ := hd
                  dsimp only at h17 h20
                  (try simp only [h17, h20])
                  refine ⟨?_, ?_⟩
                  · (simp [Region.wanted, yielded, undef, *]; done)
                  go_simp <;> (try go_bits) <;> with_reducible rfl
                · exact fun _ _ _ => rfl
                · rfl
              | apply RGW.off (i := 21) rfl
                · (simp only [gA, gB, gC] <;> rfl)
                · intro γ u W hcur hd
                  obtain ⟨⟨h17, -, -⟩, ⟨h20, -, -⟩, -⟩ := hd
                  dsimp only at h17 h20
                  (try simp only [h17, h20])
                  simp [Region.wanted, yielded, undef, *]
                · rfl
              dsimp only [nA, cA]
              first
              | apply RGW.on (i := 22) rfl
                · (simp only [gA, gB, gC] <;> rfl)
                · intro γ u W hcur hd
                  obtain ⟨⟨h17, -, -⟩, -⟩ := hd
                  dsimp only at h17
                  (try simp only [h17])
                  refine ⟨?_, ?_⟩
                  · (simp [Region.wanted, yielded, undef, *]; done)
                  go_simp <;> (try go_bits) <;> with_reducible rfl
                · exact fun _ _ _ => rfl
                · rfl
              | apply RGW.off (i := 22) rfl
                · (simp only [gA, gB, gC] <;> rfl)
                · intro γ u W hcur hd
                  obtain ⟨⟨h17, -, -⟩, -⟩ := hd
                  dsimp only at h17
                  (try simp only [h17])
                  simp [Region.wanted, yielded, undef, *]
                · rfl
              dsimp only [nA, cA]
              first
              | apply RGW.on (i := 23) rfl
                · (simp only [gA, gB, gC] <;> rfl)
                · intro γ u W hcur hd
                  obtain ⟨⟨h17, -, -⟩, ⟨h21, -, -⟩, ⟨h22, -, -⟩, -⟩ := hd
                  dsimp only at h17 h21 h22
                  (try simp only [h17, h21, h22])
                  refine ⟨?_, ?_⟩
                  · (simp [Region.wanted, yielded, undef, *]; done)
                  go_simp <;> (try go_bits) <;> with_reducible rfl
                · exact fun _ _ _ => rfl
                · rfl
              | apply RGW.off (i := 23) rfl
                · (simp only [gA, gB, gC] <;> rfl)
                · intro γ u W hcur hd
                  obtain ⟨⟨h17, -, -⟩, ⟨h21, -, -⟩, ⟨h22, -, -⟩, -⟩ := hd
                  dsimp only at h17 h21 h22
                  (try simp only [h17, h21, h22])
                  simp [Region.wanted, yielded, undef, *]
                · rfl
              dsimp only [nA, cA]
              apply RGW.on (i := 24) rfl
              · (simp only [gA, gB, gC] <;> rfl)
              · intro γ u W hcur hd
                obtain ⟨⟨h17, -, -⟩, ⟨h23, -, -⟩, -⟩ := hd
                dsimp only at h17 h23
                (try simp only [h17, h23])
                refine ⟨rfl, ?_⟩
                go_simp <;> (try go_bits) <;> with_reducible rfl
              · exact fun _ _ _ => rfl
              · rfl
              dsimp only [nA, cA]
              apply RGW.on (i := 25) rfl
              · (simp only [gA, gB, gC] <;> rfl)
              · intro γ u W hcur hd
                obtain ⟨⟨h24, -, -⟩, -⟩ := hd
                dsimp only at h24
                (try simp only [h24])
                refine ⟨rfl, ?_⟩
                go_simp <;> (try go_bits) <;> with_reducible rfl
              · exact fun _ _ _ => rfl
              · rfl
              dsimp only [nA, cA]
              first
              | apply RGW.on (i := 26) rfl
                · (simp only [gA, gB, gC] <;> rfl)
                · intro γ u W hcur hd
                  obtain ⟨⟨h25, -, -⟩, -⟩ := hd
                  dsimp only at h25
                  (try simp only [h25])
                  refine ⟨?_, ?_⟩
                  · (simp [Region.wanted, yielded, undef, *]; done)
                  go_simp <;> (try go_bits) <;> with_reducible rfl
                · exact fun _ _ _ => rfl
                · rfl
              | apply RGW.off (i := 26) rfl
                · (simp only [gA, gB, gC] <;> rfl)
                · intro γ u W hcur hd
                  obtain ⟨⟨h25, -, -⟩, -⟩ := hd
                  dsimp only at h25
                  (try simp only [h25])
                  simp [Region.wanted, yielded, undef, *]
                · rfl
              dsimp only [nA, cA]
              first
              | apply RGW.on (i := 27) rfl
                · (simp only [gA, gB, gC] <;> rfl)
                · intro γ u W hcur hd
                  obtain ⟨⟨h25, -, -⟩, -⟩ := hd
                  dsimp only at h25
                  (try simp only [h25])
                  refine ⟨?_, ?_⟩
                  · (simp [Region.wanted, yielded, undef, *]; done)
                  go_simp <;> (try go_bits) <;> with_reducible rfl
                · exact fun _ _ _ => rfl
                · rfl
              | apply RGW.off (i := 27) rfl
                · (simp only [gA, gB, gC] <;> rfl)
                · intro γ u W hcur hd
                  obtain ⟨⟨h25, -, -⟩, -⟩ := hd
                  dsimp only at h25
                  (try simp only [h25])
                  simp [Region.wanted, yielded, undef, *]
                · rfl
              dsimp only [nA, cA]
              first
              | apply RGW.on (i := 28) rfl
                · (simp only [gA, gB, gC] <;> rfl)
                · intro γ u W hcur hd
                  obtain ⟨⟨h25, -, -⟩, ⟨h26, -, -⟩, ⟨h27, -, -⟩, -⟩ := hd
                  dsimp only at h25 h26 h27
                  (try simp only [h25, h26, h27])
                  refine ⟨?_, ?_⟩
                  · (simp [Region.wanted, yielded, undef, *]; done)
                  go_simp <;> (try go_bits) <;> with_reducible rfl
                · exact fun _ _ _ => rfl
                · rfl
              | apply RGW.off (i := 28) rfl
                · (simp only [gA, gB, gC] <;> rfl)
                · intro γ u W hcur hd
                  obtain ⟨⟨h25, -, -⟩, ⟨h26, -, -⟩, ⟨h27, -, -⟩, -⟩ := hd
                  dsimp only at h25 h26 h27
                  (try simp only [h25, h26, h27])
                  simp [Region.wanted, yielded, undef, *]
                · rfl
              dsimp only [nA, cA]
              first
              | apply RGW.on (i := 29) rfl
                · (simp only [gA, gB, gC] <;> rfl)
                · intro γ u W hcur hd
                  obtain ⟨⟨h25, -, -⟩, ⟨h28, -, -⟩, -⟩ := hd
                  dsimp only at h25 h28
                  (try simp only [h25, h28])
                  refine ⟨?_, ?_⟩
                  · (simp [Region.wanted, yielded, undef, *]; done)
                  go_simp <;> (try go_bits) <;> with_reducible rfl
                · exact fun _ _ _ => rfl
                · rfl
              | apply RGW.off (i := 29) rfl
                · (simp only [gA, gB, gC] <;> rfl)
                · intro γ u W hcur hd
                  obtain ⟨⟨h25, -, -⟩, ⟨h28, -, -⟩, -⟩ := hd
                  dsimp only at h25 h28
                  (try simp only [h25, h28])
                  simp [Region.wanted, yielded, undef, *]
                · rfl
              dsimp only [nA, cA]
              first
              | apply RGW.on (i := 30) rfl
                · (simp only [gA, gB, gC] <;> rfl)
                · intro γ u W hcur hd
                  obtain ⟨⟨h29, -, -⟩, -⟩ := hd
                  dsimp only at h29
                  (try simp only [h29])
                  refine ⟨?_, ?_⟩
                  · (simp [Region.wanted, yielded, undef, *]; done)
                  go_simp <;> (try go_bits) <;> with_reducible rfl
                · exact fun _ _ _ => rfl
                · rfl
              | apply RGW.off (i := 30) rfl
                · (simp only [gA, gB, gC] <;> rfl)
                · intro γ u W hcur hd
                  obtain ⟨⟨h29, -, -⟩, -⟩ := hd
                  dsimp only at h29
                  (try simp only [h29])
                  simp [Region.wanted, yielded, undef, *]
                · rfl
              dsimp only [nA, cA]
              first
              | apply RGW.on (i := 31) rfl
                · (simp only [gA, gB, gC] <;> rfl)
                · intro γ u W hcur hd
                  obtain ⟨⟨h29, -, -⟩, -⟩ := hd
                  dsimp only at h29
                  (try simp only [h29])
                  refine ⟨?_, ?_⟩
                  · (simp [Region.wanted, yielded, undef, *]; done)
                  go_simp <;> (try go_bits) <;> with_reducible rfl
                · exact fun _ _ _ => rfl
                · rfl
              | apply RGW.off (i := 31) rfl
                · (simp only [gA, gB, gC] <;> rfl)
                · intro γ u W hcur hd
                  obtain ⟨⟨h29, -, -⟩, -⟩ := hd
                  dsimp only at h29
                  (try simp only [h29])
                  simp [Region.wanted, yielded, undef, *]
                · rfl
              dsimp only [nA, cA]
              first
              | apply RGW.on (i := 32) rfl
                · (simp only [gA, gB, gC] <;> rfl)
                · intro γ u W hcur hd
                  obtain ⟨⟨h29, -, -⟩, ⟨h30, -, -⟩, ⟨h31, -, -⟩, -⟩ := hd
                  dsimp only at h29 h30 h31
                  (try simp only [h29, h30, h31])
                  refine ⟨?_, ?_⟩
                  · (simp [Region.wanted, yielded, undef, *]; done)
                  go_simp <;> (try go_bits) <;> with_reducible rfl
                · exact fun _ _ _ => rfl
                · rfl
              | apply RGW.off (i := 32) rfl
                · (simp only [gA, gB, gC] <;> rfl)
                · intro γ u W hcur hd
                  obtain ⟨⟨h29, -, -⟩, ⟨h30, -, -⟩, ⟨h31, -, -⟩, -⟩ := hd
                  dsimp only at h29 h30 h31
                  (try simp only [h29, h30, h31])
                  simp [Region.wanted, yielded, undef, *]
                · rfl
              dsimp only [nA, cA]
              first
              | apply RGW.on (i := 33) rfl
                · (simp only [gA, gB, gC] <;> rfl)
                · intro γ u W hcur hd
                  obtain ⟨⟨h29, -, -⟩, ⟨h32, -, -⟩, -⟩ := hd
                  dsimp only at h29 h32
                  (try simp only [h29, h32])
                  refine ⟨?_, ?_⟩
                  · (simp [Region.wanted, yielded, undef, *]; done)
                  go_simp <;> (try go_bits) <;> with_reducible rfl
                · exact fun _ _ _ => rfl
                · rfl
              | apply RGW.off (i := 33) rfl
                · (simp only [gA, gB, gC] <;> rfl)
                · intro γ u W hcur hd
                  obtain ⟨⟨h29, -, -⟩, ⟨h32, -, -⟩, -⟩ := hd
                  dsimp only at h29 h32
                  (try simp only [h29, h32])
                  simp [Region.wanted, yielded, undef, *]
                · rfl
              dsimp only [nA, cA]
              first
              | apply RGW.on (i := 34) rfl
                · (simp only [gA, gB, gC] <;> rfl)
                · intro γ u W hcur hd
                  obtain ⟨⟨h29, -, -⟩, -⟩ := hd
                  dsimp only at h29
                  (try simp only [h29])
                  refine ⟨?_, ?_⟩
                  · (simp [Region.wanted, yielded, undef, *]; done)
                  go_simp <;> (try go_bits) <;> with_reducible rfl
                · exact fun _ _ _ => rfl
                · rfl
              | apply RGW.off (i := 34) rfl
                · (simp only [gA, gB, gC] <;> rfl)
                · intro γ u W hcur hd
                  obtain ⟨⟨h29, -, -⟩, -⟩ := hd
                  dsimp only at h29
                  (try simp only [h29])
                  simp [Region.wanted, yielded, undef, *]
                · rfl
              dsimp only [nA, cA]
              first
              | apply RGW.on (i := 35) rfl
                · (simp only [gA, gB, gC] <;> rfl)
                · intro γ u W hcur hd
                  obtain ⟨⟨h29, -, -⟩, ⟨h33, -, -⟩, ⟨h34, -, -⟩, -⟩ := hd
                  dsimp only at h29 h33 h34
                  (try simp only [h29, h33, h34])
                  refine ⟨?_, ?_⟩
                  · (simp [Region.wanted, yielded, undef, *]; done)
                  go_simp <;> (try go_bits) <;> with_reducible rfl
                · exact fun _ _ _ => rfl
                · rfl
              | apply RGW.off (i := 35) rfl
                · (simp only [gA, gB, gC] <;> rfl)
                · intro γ u W hcur hd
                  obtain ⟨⟨h29, -, -⟩, ⟨h33, -, -⟩, ⟨h34, -, -⟩, -⟩ := hd
                  dsimp only at h29 h33 h34
                  (try simp only [h29, h33, h34])
                  simp [Region.wanted, yielded, undef, *]
                · rfl
              dsimp only [nA, cA]
              first
              | apply RGW.on (i := 36) rfl
                · (simp only [gA, gB, gC] <;> rfl)
                · intro γ u W hcur hd
                  obtain ⟨⟨h25, -, -⟩, ⟨h29, -, -⟩, ⟨h35, -, -⟩, -⟩ := hd
                  dsimp only at h25 h29 h35
                  (try simp only [h25, h29, h35])
                  refine ⟨?_, ?_⟩
                  · (simp [Region.wanted, yielded, undef, *]; done)
                  go_simp <;> (try go_bits) <;> with_reducible rfl
                · exact fun _ _ _ => rfl
                · rfl
              | apply RGW.off (i := 36) rfl
                · (simp only [gA, gB, gC] <;> rfl)
                · intro γ u W hcur hd
                  obtain ⟨⟨h25, -, -⟩, ⟨h29, -, -⟩, ⟨h35, -, -⟩, -⟩ := hd
                  dsimp only at h25 h29 h35
                  (try simp only [h25, h29, h35])
                  simp [Region.wanted, yielded, undef, *]
                · rfl
              dsimp only [nA, cA]
              apply RGW.on (i := 37) rfl
              · (simp only [gA, gB, gC] <;> rfl)
              · intro γ u W hcur hd
                obtain ⟨⟨h25, -, -⟩, ⟨h36, -, -⟩, -⟩ := hd
                dsimp only at h25 h36
                (try simp only [h25, h36])
                refine ⟨rfl, ?_⟩
                go_simp <;> (try go_bits) <;> with_reducible rfl
              · exact fun _ _ _ => rfl
              · rfl
              dsimp only [nA, cA]
              refine RGW.fin (fun γ u z4 hz4 hd hdis => ?_)
              obtain ⟨⟨h0, -, -⟩, ⟨h1, -, -⟩, ⟨h2, -, -⟩, ⟨h3, -, -⟩, ⟨h4, -, -⟩, ⟨h5, -, -⟩, ⟨h6, -, -⟩, ⟨h7, -, -⟩, ⟨h8, -, -⟩, ⟨h9, -, -⟩, ⟨h10, -, -⟩, ⟨h11, -, -⟩, ⟨h12, -, -⟩, ⟨h13, -, -⟩, ⟨h14, -, -⟩, ⟨h15, -, -⟩, ⟨h16, -, -⟩, ⟨h17, -, -⟩, ⟨h18, -, -⟩, ⟨h19, -, -⟩, ⟨h20, -, -⟩, ⟨h21, -, -⟩, ⟨h22, -, -⟩, ⟨h23, -, -⟩, ⟨h24, -, -⟩, ⟨h25, -, -⟩, ⟨h26, -, -⟩, ⟨h27, -, -⟩, ⟨h28, -, -⟩, ⟨h29, -, -⟩, ⟨h30, -, -⟩, ⟨h31, -, -⟩, ⟨h32, -, -⟩, ⟨h33, -, -⟩, ⟨h34, -, -⟩, ⟨h35, -, -⟩, ⟨h36, -, -⟩, ⟨h37, -, -⟩, -⟩ := hd
              dsimp only at h0 h1 h2 h3 h4 h5 h6 h7 h8 h9 h10 h11 h12 h13 h14 h15 h16 h17 h18 h19 h20 h21 h22 h23 h24 h25 h26 h27 h28 h29 h30 h31 h32 h33 h34 h35 h36 h37
              clear hdis
              simp only [h0, h1, h2, h3, h4, h5, h6, h7, h8, h9, h10, h11, h12, h13, h14, h15, h16, h17, h18, h19, h20, h21, h22, h23, h24, h25, h26, h27, h28, h29, h30, h31, h32, h33, h34, h35, h36, h37]
              clear h37 h36 h35 h34 h33 h32 h31 h30 h29 h28 h27 h26 h25 h24 h23 h22 h21 h20 h19 h18 h17 h16 h15 h14 h13 h12 h11 h10 h9 h8 h7 h6 h5 h4 h3 h2 h1 h0
              clear u
              simp only [List.map_nil]
              refine PlanW.done ?_
              have hb3 := bl_tt hz4
              replace hk0 := Lib.hid (hk0.out.below hz4)
              clear hb3 hz4 c2 c3 d1 d2 hwi
              go_wp2_with fail
              refine (hM1.out _ hk0.out.sm).mono ?_
              rintro e z5 ⟨rfl, hb1⟩
              replace hk0 := Lib.hid (hk0.out.below hb1)
              clear hb1
              by_cases hE2 : E2 = 0
              · have hE2' : (E2 == 0) = true := by simp [hE2]
                obtain ⟨hm1, hm2⟩ := hm0.out hE2
                replace hE2 := Lib.hid hE2
                go_wp2_with fail
                refine (hM2.out _ hk0.out.sm).mono ?_
                rintro e z6 ⟨A5, c5, rfl, hb1, hm5⟩
                replace hk0 := Lib.hid (hk0.out.below hb1)
                clear hb1
                go_wp2_with fail
                refine (hM3.out _ _ k _ hm5).mono ?_
                rintro e z7 ⟨rfl, hb1⟩
                replace hk0 := Lib.hid (hk0.out.below hb1)
                clear hb1 hm5
                generalize R2 k = R at *
                obtain ⟨sv, sm⟩ := R
                dsimp only at hm1 hm2 ⊢
                by_cases hs0 : sm = 0
                · have h1 : ¬ sv < r := by have := hm1 hs0; omega
                  subst hs0
                  clear hm1 hm2
                  go_wp2
                  go_roundw
                  case rel => exact ⟨k + 1, by omega, by go_num, hk0.out⟩
                  case measure => simp [intOf]; omega
                · have h1 := hm2 hs0
                  subst h1
                  clear hm1 hm2
                  go_wp2
                  go_roundw
                  case rel => exact ⟨k + 1, by omega, by go_num, hk0.out⟩
                  case measure => simp [intOf]; omega
              · have hE2' : (E2 == 0) = false := by simp [hE2]
                replace hE2 := Lib.hid hE2
                go_wp2
                go_roundw
                case rel => exact ⟨k + 1, by omega, by go_num, hk0.out⟩
                case measure => simp [intOf]; omega
          · have hl := hx1.out k s hx hla
            have c2' := c2 z3 (bl_refl _)
            clear hla c2 c3 hx
            generalize R1 k = R at *
            obtain ⟨v, e⟩ := R
            dsimp only at hl ⊢
            by_cases he : e = 0
            · have h1 : ¬ v ≤ s.dl := by have := hl he; omega
              subst he
              clear hl
              go_wp2
              go_roundw
              case rel => exact ⟨k + 1, by omega, by go_num, hk0.out⟩
              case measure => simp [intOf]; omega
            · have he' : (e == 0) = false := by simp [he]
              clear hl
              replace he := Lib.hid he
              go_wp2
              go_roundw
              case rel => exact ⟨k + 1, by omega, by go_num, hk0.out⟩
              case measure => simp [intOf]; omega
      · as_aux_lemma =>
          have e : k = l.length := by omega
          clear e hcp hro hHs hLK hM0 hM1 hM2 hM3 hx1 hx2 hWO hWZ hLL
          have hs4 := Lib.hid hk0.s4
          have hbp := hk0.bel
          clear hk0
          have hmk' := hmk.out
          go_upto_region 29 with fail
          clear hmk' hmk
          have kG := Blk.new wr 3 ((zrs l.length).map (Value.int .i64)).toArray
          have hxG : BX [wr.heap.size] wr (wr.alloc (.cells ((zrs l.length).map (Value.int .i64)).toArray 3)) := bx_bl _ (bl_al _ (bl_refl wr))
          generalize wr.alloc (.cells ((zrs l.length).map (Value.int .i64)).toArray 3) = y0 at *
          have hGw : w.heap.size ≤ wr.heap.size := hbp.size
          have hnn1 := Lib.hid fun W (hx : BX [wr.heap.size] wr W) => (show Below w.heap.size w W from bx_below hbp hx (by simpa using hGw))
          have hsl4 := Lib.hid fun W (hx : BX [wr.heap.size] wr W) => (show Sl cI 1 W B4 CA from sl_new hs4.out hx (by simp))
          clear hs4
          have hB := Lib.hid fun t k => lfB_eq l st t k
          have hstep := Lib.hid fun t => sim_step hso.out t
          have hbd := Lib.hid fun t k => lfA_bd hso.out t k
          have hlen20 := Lib.hid fun (k : Nat) (s : Sm) (hs : l[k]? = some s) => (show 1 ≤ s.per ∧ 0 ≤ s.len ∧ s.len ≤ 20 by
            have := (hok.out.2.2 s (List.mem_of_getElem? hs)).1
            obtain ⟨h1, -, -, -, h2, h3⟩ := this
            omega)
          have e0 : ((zrs l.length).map (Value.int .i64)).toArray = cL l.length (lfA l st 0) := by
            unfold zrs cL
            rw [List.map_map]
            rfl
          rw [e0] at kG
          clear e0
          obtain ⟨fA, hfA⟩ : ∃ fA : Nat → Nat → Int, lfA l st = fA := ⟨_, rfl⟩
          obtain ⟨fB, hfB⟩ : ∃ fB : Nat → Nat → Int, lfB l st = fB := ⟨_, rfl⟩
          obtain ⟨oT, hoT⟩ : ∃ oT : Nat → Int, ouT l st = oT := ⟨_, rfl⟩
          rw [hfA] at kG
          simp only [hfA, hfB, hoT] at hB hstep hbd hCA
          clear hfA hfB hoT
          obtain ⟨p0, rfl⟩ : ∃ p0 : World, p0 = wr := ⟨_, rfl⟩
          obtain ⟨G, hGe⟩ : ∃ G : Nat, p0.heap.size = G := ⟨_, rfl⟩
          rw [hGe] at kG hxG hGw hnn1 hsl4
          rw [hGe]
          clear hGe
          go_wp2
          go_loopw [25] (fun i wr => ∃ t : Nat, t ≤ T ∧ i = .int .i64 t ∧ BX [G] p0 wr ∧ Blk wr G 3 (cL l.length (fA t))) (fun i _ => T - (intOf i).toNat)
          case atStart => exact ⟨0, Nat.zero_le _, rfl, hxG, kG⟩
          case round =>
            clear hxG kG
            obtain ⟨t, ht, rfl, hxG, kG⟩ := hrel
            by_cases htT : t < T
            · as_aux_lemma =>
                have hct := hCA.out t htT
                have hstp := Lib.hid (hstep.out t)
                have hbt := Lib.hid fun k => hbd.out t k
                have hBt := Lib.hid fun k => hB.out t k
                have kG' : Blk wr G 3 (cL l.length (midF (fA t) (fB t) 0)) := kG
                clear kG
                replace hct := Lib.hid hct
                generalize fA t = f at *
                generalize fB t = g at *
                go_wp2
                go_loopw [26, 27] (fun d i wi => ∃ k : Nat, k ≤ l.length ∧ i = .int .i64 k ∧ d = .bool (idB g k) ∧ BX [G] p0 wi ∧ Blk wi G 3 (cL l.length (midF f g k))) (fun _ i _ => l.length - (intOf i).toNat)
                case atStart => exact ⟨0, Nat.zero_le _, rfl, rfl, hxG, kG'⟩
                case round =>
                  clear hxG kG'
                  obtain ⟨k, hk, rfl, rfl, hxG, kG⟩ := hrel
                  by_cases hkn : k < l.length
                  · as_aux_lemma =>
                      have hx : l[k]? = some l[k] := List.getElem?_eq_getElem _
                      generalize l[k] = s at hx
                      have hy : st[k]? = some (st[k]'(by rw [hlst.out]; exact hkn)) := List.getElem?_eq_getElem _
                      generalize st[k]'(by rw [hlst.out]; exact hkn) = a at hy
                      have ha0 := hso.out.nn a (List.mem_of_getElem? hy)
                      have hrl := relB_at hx hy (t : Int)
                      have hBk := hBt.out k
                      have hln : lenAt l k = s.len := by unfold lenAt; rw [hx]
                      rw [hrl, hln] at hBk
                      obtain ⟨hp1, hl0, hl1⟩ := hlen20.out k s hx
                      have hfk := hbt.out k
                      have hnx := idB_next g k
                      have hbw := hnn1.out _ hxG
                      obtain ⟨bs, os, rfl, d1⟩ := sl_at (Hst.out wr hbw) hy
                      obtain ⟨b, off, rfl, hc⟩ := (hn1.out wr hbw).sl k s hx
                      have c1 : ∀ W, Below wr.heap.size wr W → W.cell? ⟨b, off + k * 4 + 1, none⟩ = some (.int .i64 s.per) := later (hc 1 _ rfl)
                      have c3 : ∀ W, Below wr.heap.size wr W → W.cell? ⟨b, off + k * 4 + 3, none⟩ = some (.int .i64 s.len) := later (hc 3 _ rfl)
                      have hmk0 : midF f g k k = f k := by simp [midF]
                      have hmk1 : midF f g (k + 1) k = g k := by simp [midF]
                      have LG : ∀ W, Below wr.heap.size wr W → W.cell? ⟨G, k, none⟩ = some (.int .i64 (f k)) := fun W hb => by rw [(kG.below hb).cell, cL_at _ hkn, hmk0]
                      have FG : ∀ W, Below wr.heap.size wr W → W.frozen? ⟨G, k, none⟩ = false := fun W hb => (kG.below hb).frozen _
                      have hsame : g k = f k → cL l.length (midF f g k) = cL l.length (midF f g (k + 1)) := fun e => cL_congr fun j hj => by
                        unfold midF
                        by_cases h1 : j < k
                        · rw [if_pos h1, if_pos (by omega)]
                        · by_cases h2 : j = k
                          · subst h2; rw [if_neg h1, if_pos (by omega), e]
                          · rw [if_neg h1, if_neg (by omega)]
                      have hset : (cL l.length (midF f g k)).setIfInBounds k (.int .i64 (g k)) = cL l.length (midF f g (k + 1)) := by
                        rw [cL_set _ _ hkn]
                        refine cL_congr fun j hj => ?_
                        unfold midF
                        by_cases h1 : j < k
                        · rw [if_neg (by omega), if_pos h1, if_pos (by omega)]
                        · by_cases h2 : j = k
                          · subst h2; rw [if_pos rfl, if_pos (by omega)]
                          · rw [if_neg h2, if_neg h1, if_neg (by omega)]
                      replace hsame := Lib.hid hsame
                      replace hset := Lib.hid hset
                      replace hnx := Lib.hid hnx
                      replace hmk1 := Lib.hid hmk1
                      have hkn2 : (k : Int) < l.length := by omega
                      clear hc hx hy hrl hln hmk0
                      obtain ⟨fk, hfke⟩ : ∃ fk : Int, f k = fk := ⟨_, rfl⟩
                      rw [hfke] at hBk hfk LG hsame
                      generalize idB g k = d at *
                      go_upto_region 36 with fail
                      have hcases : (a ≤ (t : Int) ∧ ((t : Int) - a) % s.per = 0) ∨ (a ≤ (t : Int) ∧ ¬ ((t : Int) - a) % s.per = 0) ∨ ¬ a ≤ (t : Int) := by
                        by_cases h1 : a ≤ (t : Int)
                        · by_cases h2 : ((t : Int) - a) % s.per = 0
                          · exact .inl ⟨h1, h2⟩
                          · exact .inr (.inl ⟨h1, h2⟩)
                        · exact .inr (.inr h1)
                      have hp0 : ¬ s.per = 0 := by omega
                      rcases hcases with ⟨h1, h2⟩ | ⟨h1, h2⟩ | h1
                      · as_aux_lemma =>
                          rw [show (decide (a ≤ (t : Int)) && decide (((t : Int) - a) % s.per = 0)) = true by simp [h1, h2], if_pos rfl] at hBk
                          have h2' : (((t : Int) - a) % s.per == 0) = true := by simp [h2]
                          refine wp_any (w0 := wr) ⟨[], [], [some 241, some 242, some 243, some 244, some 245, some 246, some 247, some 248, some 249, some 250, some 251, some 252, some 253, some 254, some 255, some 256, some 257, some 258, some 259, some 260, some 261], [[], [], [], [1, 2], [1, 2, 3], [0, 1, 2, 3, 4], [0, 1, 2, 3, 4, 5], [0, 1, 2, 3, 4, 5, 6], [0, 1, 2, 3, 4, 5, 6], [0, 1, 2, 3, 4, 5, 6], [0, 1, 2, 3, 4, 5, 6, 8, 9], [0, 1, 2, 3, 4, 5, 6, 8, 9, 10], [0, 1, 2, 3, 4, 5, 6, 7, 8, 9, 10, 11], [0, 1, 2, 3, 4, 5, 6], [0, 1, 2, 3, 4, 5, 6], [0, 1, 2, 3, 4, 5, 6, 13, 14], [0, 1, 2, 3, 4, 5, 6, 13, 14, 15], [0, 1, 2, 3, 4, 5, 6, 13, 14, 15, 16], [0, 1, 2, 3, 4, 5, 6, 7, 8, 9, 10, 11, 12, 13, 14, 15, 16, 17], [0, 1, 2, 3, 4, 5, 6, 7, 8, 9, 10, 11, 12, 13, 14, 15, 16, 17, 18], [0, 1, 2, 3, 4, 5, 6, 7, 8, 9, 10, 11, 12, 13, 14, 15, 16, 17, 18, 19]], [[], [], [], [1, 2], [3], [0, 4], [5], [6], [6], [6], [6, 8, 9], [6, 10], [6, 7, 11], [6], [6], [6, 13, 14], [6, 15], [6, 16], [6, 12, 17], [6, 18], [6, 19]]⟩ (fun _ => []) (by kernel_rfl) (by kernel_rfl) (by (with_reducible (repeat' (first | assumption | apply jA | apply jB | apply jC | apply jD | apply jE | apply jF | apply hb3 | omega | (simp; done) | (simp; omega) | (dsimp only; omega))))) (fun u => by simp only [putD, Act.put, List.setIfInBounds_toArray, List.set_cons_zero, List.set_cons_succ, Nat.zero_add, Nat.reduceAdd]; rfl) ?_
                          apply RGW.on (i := 0) rfl
                          · (simp only [gA, gB, gC] <;> rfl)
                          · intro γ u W hcur hd
                            clear hd
                            (try dsimp only)
                            refine ⟨rfl, ?_⟩
                            go_simp <;> (try go_bits) <;> with_reducible rfl
                          · exact fun _ _ _ => rfl
                          · rfl
                          dsimp only [nA, cA]
                          apply RGW.on (i := 1) rfl
                          · (simp only [gA, gB, gC] <;> rfl)
                          · intro γ u W hcur hd
                            clear hd
                            (try dsimp only)
                            refine ⟨rfl, ?_⟩
                            go_simp <;> (try go_bits) <;> with_reducible rfl
                          · exact fun _ _ _ => rfl
                          · rfl
                          dsimp only [nA, cA]
                          apply RGW.on (i := 2) rfl
                          · (simp only [gA, gB, gC] <;> rfl)
                          · intro γ u W hcur hd
                            clear hd
                            (try dsimp only)
                            refine ⟨rfl, ?_⟩
                            go_simp <;> (try go_bits) <;> with_reducible rfl
                          · exact fun _ _ _ => rfl
                          · rfl
                          dsimp only [nA, cA]
                          apply RGW.on (i := 3) rfl
                          · (simp only [gA, gB, gC] <;> rfl)
                          · intro γ u W hcur hd
                            obtain ⟨⟨h1, -, -⟩, ⟨h2, -, -⟩, -⟩ := hd
                            dsimp only at h1 h2
                            (try simp only [h1, h2])
                            refine ⟨rfl, ?_⟩
                            go_simp <;> (try go_bits) <;> with_reducible rfl
                          · exact fun _ _ _ => rfl
                          · rfl
                          dsimp only [nA, cA]
                          apply RGW.on (i := 4) rfl
                          · (simp only [gA, gB, gC] <;> rfl)
                          · intro γ u W hcur hd
                            obtain ⟨⟨h3, -, -⟩, -⟩ := hd
                            dsimp only at h3
                            (try simp only [h3])
                            refine ⟨rfl, ?_⟩
                            go_simp <;> (try go_bits) <;> with_reducible rfl
                          · exact fun _ _ _ => rfl
                          · rfl
                          dsimp only [nA, cA]
                          apply RGW.on (i := 5) rfl
                          · (simp only [gA, gB, gC] <;> rfl)
                          · intro γ u W hcur hd
                            obtain ⟨⟨h0, -, -⟩, ⟨h4, -, -⟩, -⟩ := hd
                            dsimp only at h0 h4
                            (try simp only [h0, h4])
                            refine ⟨rfl, ?_⟩
                            go_simp <;> (try go_bits) <;> with_reducible rfl
                          · exact fun _ _ _ => rfl
                          · rfl
                          dsimp only [nA, cA]
                          apply RGW.on (i := 6) rfl
                          · (simp only [gA, gB, gC] <;> rfl)
                          · intro γ u W hcur hd
                            obtain ⟨⟨h5, -, -⟩, -⟩ := hd
                            dsimp only at h5
                            (try simp only [h5])
                            refine ⟨rfl, ?_⟩
                            go_simp <;> (try go_bits) <;> with_reducible rfl
                          · exact fun _ _ _ => rfl
                          · rfl
                          dsimp only [nA, cA]
                          first
                          | apply RGW.on (i := 7) rfl
                            · (simp only [gA, gB, gC] <;> rfl)
                            · intro γ u W hcur hd
                              obtain ⟨⟨h6, -, -⟩, -⟩ := hd
                              dsimp only at h6
                              (try simp only [h6])
                              refine ⟨?_, ?_⟩
                              · (simp [Region.wanted, yielded, undef, *]; done)
                              go_simp <;> (try go_bits) <;> with_reducible rfl
                            · exact fun _ _ _ => rfl
                            · rfl
                          | apply RGW.off (i := 7) rfl
                            · (simp only [gA, gB, gC] <;> rfl)
                            · intro γ u W hcur hd
                              obtain ⟨⟨h6, -, -⟩, -⟩ := hd
                              dsimp only at h6
                              (try simp only [h6])
                              simp [Region.wanted, yielded, undef, *]
                            · rfl
                          dsimp only [nA, cA]
                          first
                          | apply RGW.on (i := 8) rfl
                            · (simp only [gA, gB, gC] <;> rfl)
                            · intro γ u W hcur hd
                              obtain ⟨⟨h6, -, -⟩, -⟩ := hd
                              dsimp only at h6
                              (try simp only [h6])
                              refine ⟨?_, ?_⟩
                              · (simp [Region.wanted, yielded, undef, *]; done)
                              go_simp <;> (try go_bits) <;> with_reducible rfl
                            · exact fun _ _ _ => rfl
                            · rfl
                          | apply RGW.off (i := 8) rfl
                            · (simp only [gA, gB, gC] <;> rfl)
                            · intro γ u W hcur hd
                              obtain ⟨⟨h6, -, -⟩, -⟩ := hd
                              dsimp only at h6
                              (try simp only [h6])
                              simp [Region.wanted, yielded, undef, *]
                            · rfl
                          dsimp only [nA, cA]
                          first
                          | apply RGW.on (i := 9) rfl
                            · (simp only [gA, gB, gC] <;> rfl)
                            · intro γ u W hcur hd
                              obtain ⟨⟨h6, -, -⟩, -⟩ := hd
                              dsimp only at h6
                              (try simp only [h6])
                              refine ⟨?_, ?_⟩
                              · (simp [Region.wanted, yielded, undef, *]; done)
                              go_simp <;> (try go_bits) <;> with_reducible rfl
                            · exact fun _ _ _ => rfl
                            · rfl
                          | apply RGW.off (i := 9) rfl
                            · (simp only [gA, gB, gC] <;> rfl)
                            · intro γ u W hcur hd
                              obtain ⟨⟨h6, -, -⟩, -⟩ := hd
                              dsimp only at h6
                              (try simp only [h6])
                              simp [Region.wanted, yielded, undef, *]
                            · rfl
                          dsimp only [nA, cA]
                          first
                          | apply RGW.on (i := 10) rfl
                            · (simp only [gA, gB, gC] <;> rfl)
                            · intro γ u W hcur hd
                              obtain ⟨⟨h6, -, -⟩, ⟨h8, -, -⟩, ⟨h9, -, -⟩, -⟩ := hd
                              dsimp only at h6 h8 h9
                              (try simp only [h6, h8, h9])
                              refine ⟨?_, ?_⟩
                              · (simp [Region.wanted, yielded, undef, *]; done)
                              go_simp <;> (try go_bits) <;> with_reducible rfl
                            · exact fun _ _ _ => rfl
                            · rfl
                          | apply RGW.off (i := 10) rfl
                            · (simp only [gA, gB, gC] <;> rfl)
                            · intro γ u W hcur hd
                              obtain ⟨⟨h6, -, -⟩, ⟨h8, -, -⟩, ⟨h9, -, -⟩, -⟩ := hd
                              dsimp only at h6 h8 h9
                              (try simp only [h6, h8, h9])
                              simp [Region.wanted, yielded, undef, *]
                            · rfl
                          dsimp only [nA, cA]
                          first
                          | apply RGW.on (i := 11) rfl
                            · (simp only [gA, gB, gC] <;> rfl)
                            · intro γ u W hcur hd
                              obtain ⟨⟨h6, -, -⟩, ⟨h10, -, -⟩, -⟩ := hd
                              dsimp only at h6 h10
                              (try simp only [h6, h10])
                              refine ⟨?_, ?_⟩
                              · (simp [Region.wanted, yielded, undef, *]; done)
                              go_simp <;> (try go_bits) <;> with_reducible rfl
                            · exact fun _ _ _ => rfl
                            · rfl
                          | apply RGW.off (i := 11) rfl
                            · (simp only [gA, gB, gC] <;> rfl)
                            · intro γ u W hcur hd
                              obtain ⟨⟨h6, -, -⟩, ⟨h10, -, -⟩, -⟩ := hd
                              dsimp only at h6 h10
                              (try simp only [h6, h10])
                              simp [Region.wanted, yielded, undef, *]
                            · rfl
                          dsimp only [nA, cA]
                          first
                          | apply RGW.on (i := 12) rfl
                            · (simp only [gA, gB, gC] <;> rfl)
                            · intro γ u W hcur hd
                              obtain ⟨⟨h6, -, -⟩, ⟨h7, -, -⟩, ⟨h11, -, -⟩, -⟩ := hd
                              dsimp only at h6 h7 h11
                              (try simp only [h6, h7, h11])
                              refine ⟨?_, ?_⟩
                              · (simp [Region.wanted, yielded, undef, *]; done)
                              go_simp <;> (try go_bits) <;> with_reducible rfl
                            · exact fun _ _ _ => rfl
                            · rfl
                          | apply RGW.off (i := 12) rfl
                            · (simp only [gA, gB, gC] <;> rfl)
                            · intro γ u W hcur hd
                              obtain ⟨⟨h6, -, -⟩, ⟨h7, -, -⟩, ⟨h11, -, -⟩, -⟩ := hd
                              dsimp only at h6 h7 h11
                              (try simp only [h6, h7, h11])
                              simp [Region.wanted, yielded, undef, *]
                            · rfl
                          dsimp only [nA, cA]
                          first
                          | apply RGW.on (i := 13) rfl
                            · (simp only [gA, gB, gC] <;> rfl)
                            · intro γ u W hcur hd
                              obtain ⟨⟨h6, -, -⟩, -⟩ := hd
                              dsimp only at h6
                              (try simp only [h6])
                              refine ⟨?_, ?_⟩
                              · (simp [Region.wanted, yielded, undef, *]; done)
                              go_simp <;> (try go_bits) <;> with_reducible rfl
                            · exact fun _ _ _ => rfl
                            · rfl
                          | apply RGW.off (i := 13) rfl
                            · (simp only [gA, gB, gC] <;> rfl)
                            · intro γ u W hcur hd
                              obtain ⟨⟨h6, -, -⟩, -⟩ := hd
                              dsimp only at h6
                              (try simp only [h6])
                              simp [Region.wanted, yielded, undef, *]
                            · rfl
                          dsimp only [nA, cA]
                          first
                          | apply RGW.on (i := 14) rfl
                            · (simp only [gA, gB, gC] <;> rfl)
                            · intro γ u W hcur hd
                              obtain ⟨⟨h6, -, -⟩, -⟩ := hd
                              dsimp only at h6
                              (try simp only [h6])
                              refine ⟨?_, ?_⟩
                              · (simp [Region.wanted, yielded, undef, *]; done)
                              go_simp <;> (try go_bits) <;> with_reducible rfl
                            · exact fun _ _ _ => rfl
                            · rfl
                          | apply RGW.off (i := 14) rfl
                            · (simp only [gA, gB, gC] <;> rfl)
                            · intro γ u W hcur hd
                              obtain ⟨⟨h6, -, -⟩, -⟩ := hd
                              dsimp only at h6
                              (try simp only [h6])
                              simp [Region.wanted, yielded, undef, *]
                            · rfl
                          dsimp only [nA, cA]
                          first
                          | apply RGW.on (i := 15) rfl
                            · (simp only [gA, gB, gC] <;> rfl)
                            · intro γ u W hcur hd
                              obtain ⟨⟨h6, -, -⟩, ⟨h13, -, -⟩, ⟨h14, -, -⟩, -⟩ := hd
                              dsimp only at h6 h13 h14
                              (try simp only [h6, h13, h14])
                              refine ⟨?_, ?_⟩
                              · (simp [Region.wanted, yielded, undef, *]; done)
                              go_simp <;> (try go_bits) <;> with_reducible rfl
                            · exact fun _ _ _ => rfl
                            · rfl
                          | apply RGW.off (i := 15) rfl
                            · (simp only [gA, gB, gC] <;> rfl)
                            · intro γ u W hcur hd
                              obtain ⟨⟨h6, -, -⟩, ⟨h13, -, -⟩, ⟨h14, -, -⟩, -⟩ := hd
                              dsimp only at h6 h13 h14
                              (try simp only [h6, h13, h14])
                              simp [Region.wanted, yielded, undef, *]
                            · rfl
                          dsimp only [nA, cA]
                          first
                          | apply RGW.on (i := 16) rfl
                            · (simp only [gA, gB, gC] <;> rfl)
                            · intro γ u W hcur hd
                              obtain ⟨⟨h6, -, -⟩, ⟨h15, -, -⟩, -⟩ := hd
                              dsimp only at h6 h15
                              (try simp only [h6, h15])
                              refine ⟨?_, ?_⟩
                              · (simp [Region.wanted, yielded, undef, *]; done)
                              go_simp <;> (try go_bits) <;> with_reducible rfl
                            · exact fun _ _ _ => rfl
                            · rfl
                          | apply RGW.off (i := 16) rfl
                            · (simp only [gA, gB, gC] <;> rfl)
                            · intro γ u W hcur hd
                              obtain ⟨⟨h6, -, -⟩, ⟨h15, -, -⟩, -⟩ := hd
                              dsimp only at h6 h15
                              (try simp only [h6, h15])
                              simp [Region.wanted, yielded, undef, *]
                            · rfl
                          dsimp only [nA, cA]
                          first
                          | apply RGW.on (i := 17) rfl
                            · (simp only [gA, gB, gC] <;> rfl)
                            · intro γ u W hcur hd
                              obtain ⟨⟨h6, -, -⟩, ⟨h16, -, -⟩, -⟩ := hd
                              dsimp only at h6 h16
                              (try simp only [h6, h16])
                              refine ⟨?_, ?_⟩
                              · (simp [Region.wanted, yielded, undef, *]; done)
                              go_simp <;> (try go_bits) <;> with_reducible rfl
                            · exact fun _ _ _ => rfl
                            · rfl
                          | apply RGW.off (i := 17) rfl
                            · (simp only [gA, gB, gC] <;> rfl)
                            · intro γ u W hcur hd
                              obtain ⟨⟨h6, -, -⟩, ⟨h16, -, -⟩, -⟩ := hd
                              dsimp only at h6 h16
                              (try simp only [h6, h16])
                              simp [Region.wanted, yielded, undef, *]
                            · rfl
                          dsimp only [nA, cA]
                          first
                          | apply RGW.on (i := 18) rfl
                            · (simp only [gA, gB, gC] <;> rfl)
                            · intro γ u W hcur hd
                              obtain ⟨⟨h6, -, -⟩, ⟨h12, -, -⟩, ⟨h17, -, -⟩, -⟩ := hd
                              dsimp only at h6 h12 h17
                              (try simp only [h6, h12, h17])
                              refine ⟨?_, ?_⟩
                              · (simp [Region.wanted, yielded, undef, *]; done)
                              go_simp <;> (try go_bits) <;> with_reducible rfl
                            · exact fun _ _ _ => rfl
                            · rfl
                          | apply RGW.off (i := 18) rfl
                            · (simp only [gA, gB, gC] <;> rfl)
                            · intro γ u W hcur hd
                              obtain ⟨⟨h6, -, -⟩, ⟨h12, -, -⟩, ⟨h17, -, -⟩, -⟩ := hd
                              dsimp only at h6 h12 h17
                              (try simp only [h6, h12, h17])
                              simp [Region.wanted, yielded, undef, *]
                            · rfl
                          dsimp only [nA, cA]
                          first
                          | apply RGW.on (i := 19) rfl
                            · (simp only [gA, gB, gC] <;> rfl)
                            · intro γ u W hcur hd
                              obtain ⟨⟨h6, -, -⟩, ⟨h18, -, -⟩, -⟩ := hd
                              dsimp only at h6 h18
                              (try simp only [h6, h18])
                              refine ⟨?_, ?_⟩
                              · (simp [Region.wanted, yielded, undef, *]; done)
                              go_simp <;> (try go_bits) <;> with_reducible rfl
                            · exact fun _ _ _ => rfl
                            · rfl
                          | apply RGW.off (i := 19) rfl
                            · (simp only [gA, gB, gC] <;> rfl)
                            · intro γ u W hcur hd
                              obtain ⟨⟨h6, -, -⟩, ⟨h18, -, -⟩, -⟩ := hd
                              dsimp only at h6 h18
                              (try simp only [h6, h18])
                              simp [Region.wanted, yielded, undef, *]
                            · rfl
                          dsimp only [nA, cA]
                          apply RGW.on (i := 20) rfl
                          · (simp only [gA, gB, gC] <;> rfl)
                          · intro γ u W hcur hd
                            obtain ⟨⟨h6, -, -⟩, ⟨h19, -, -⟩, -⟩ := hd
                            dsimp only at h6 h19
                            (try simp only [h6, h19])
                            refine ⟨rfl, ?_⟩
                            go_simp <;> (try go_bits) <;> with_reducible rfl
                          · exact fun _ _ _ => rfl
                          · rfl
                          dsimp only [nA, cA]
                          refine RGW.fin (fun γ u wj hwj hd hdis => ?_)
                          obtain ⟨⟨h0, -, -⟩, ⟨h1, -, -⟩, ⟨h2, -, -⟩, ⟨h3, -, -⟩, ⟨h4, -, -⟩, ⟨h5, -, -⟩, ⟨h6, -, -⟩, ⟨h7, -, -⟩, ⟨h8, -, -⟩, ⟨h9, -, -⟩, ⟨h10, -, -⟩, ⟨h11, -, -⟩, ⟨h12, -, -⟩, ⟨h13, -, -⟩, ⟨h14, -, -⟩, ⟨h15, -, -⟩, ⟨h16, -, -⟩, ⟨h17, -, -⟩, ⟨h18, -, -⟩, ⟨h19, -, -⟩, ⟨h20, -, -⟩, -⟩ := hd
                          dsimp only at h0 h1 h2 h3 h4 h5 h6 h7 h8 h9 h10 h11 h12 h13 h14 h15 h16 h17 h18 h19 h20
                          clear hdis
                          simp only [h0, h1, h2, h3, h4, h5, h6, h7, h8, h9, h10, h11, h12, h13, h14, h15, h16, h17, h18, h19, h20]
                          clear h20 h19 h18 h17 h16 h15 h14 h13 h12 h11 h10 h9 h8 h7 h6 h5 h4 h3 h2 h1 h0
                          clear u
                          simp only [List.map_nil]
                          refine PlanW.done ?_
                          have hb3 := bl_tt hwj
                          clear h2 h2' hp0
                          have c3j : ∀ W, Below wj.heap.size wj W → W.cell? ⟨b, off + k * 4 + 3, none⟩ = some (.int .i64 s.len) := fun W hb => c3 W (bl_tr hwj hb)
                          have LGj : ∀ W, Below wj.heap.size wj W → W.cell? ⟨G, k, none⟩ = some (.int .i64 fk) := fun W hb => LG W (bl_tr hwj hb)
                          have FGj : ∀ W, Below wj.heap.size wj W → W.frozen? ⟨G, k, none⟩ = false := fun W hb => FG W (bl_tr hwj hb)
                          have hxj : BX [G] p0 wj := hxG.trans (bx_bl [G] hwj)
                          have kGj := kG.below hwj
                          clear c1 c3 d1 LG FG hb3 hwj hxG kG
                          go_upto_region 37 with fail
                          refine wp_any (w0 := wj) ⟨[13], [], [some 262, some 263, some 264, some 265, some 266, some 267, some 268, some 269, some 270, some 271, some 272, some 273, some 274, none], [[], [], [], [], [2, 3], [2, 3, 4], [], [], [6, 7], [6, 7, 8], [6, 7, 8, 9], [2, 3, 4, 5, 6, 7, 8, 9, 10], [0, 1, 2, 3, 4, 5, 6, 7, 8, 9, 10, 11], [0, 1, 2, 3, 4, 5, 6, 7, 8, 9, 10, 11, 12]], [[], [], [], [], [2, 3], [4], [], [], [6, 7], [8], [9], [5, 10], [0, 1], []]⟩ (fun _ => [G]) (by kernel_rfl) (by kernel_rfl) (by (with_reducible (repeat' (first | assumption | apply jA | apply jB | apply jC | apply jD | apply jE | apply jF | apply hb3 | omega | (simp; done) | (simp; omega) | (dsimp only; omega))))) (fun u => by simp only [putD, Act.put, List.setIfInBounds_toArray, List.set_cons_zero, List.set_cons_succ, Nat.zero_add, Nat.reduceAdd]; rfl) ?_
                          apply RGW.on (i := 0) rfl
                          · (simp only [gA, gB, gC] <;> rfl)
                          · intro γ u W hcur hd
                            clear hd
                            (try dsimp only)
                            refine ⟨rfl, ?_⟩
                            go_simp <;> (try go_bits) <;> with_reducible rfl
                          · exact fun _ _ _ => rfl
                          · rfl
                          dsimp only [nA, cA]
                          apply RGW.on (i := 1) rfl
                          · (simp only [gA, gB, gC] <;> rfl)
                          · intro γ u W hcur hd
                            clear hd
                            (try dsimp only)
                            refine ⟨rfl, ?_⟩
                            go_simp <;> (try go_bits) <;> with_reducible rfl
                          · exact fun _ _ _ => rfl
                          · rfl
                          dsimp only [nA, cA]
                          apply RGW.on (i := 2) rfl
                          · (simp only [gA, gB, gC] <;> rfl)
                          · intro γ u W hcur hd
                            clear hd
                            (try dsimp only)
                            refine ⟨rfl, ?_⟩
                            go_simp <;> (try go_bits) <;> with_reducible rfl
                          · exact fun _ _ _ => rfl
                          · rfl
                          dsimp only [nA, cA]
                          apply RGW.on (i := 3) rfl
                          · (simp only [gA, gB, gC] <;> rfl)
                          · intro γ u W hcur hd
                            clear hd
                            (try dsimp only)
                            refine ⟨rfl, ?_⟩
                            go_simp <;> (try go_bits) <;> with_reducible rfl
                          · exact fun _ _ _ => rfl
                          · rfl
                          dsimp only [nA, cA]
                          apply RGW.on (i := 4) rfl
                          · (simp only [gA, gB, gC] <;> rfl)
                          · intro γ u W hcur hd
                            obtain ⟨⟨h2, -, -⟩, ⟨h3, -, -⟩, -⟩ := hd
                            dsimp only at h2 h3
                            (try simp only [h2, h3])
                            refine ⟨rfl, ?_⟩
                            go_simp <;> (try go_bits) <;> with_reducible rfl
                          · exact fun _ _ _ => rfl
                          · rfl
                          dsimp only [nA, cA]
                          apply RGW.on (i := 5) rfl
                          · (simp only [gA, gB, gC] <;> rfl)
                          · intro γ u W hcur hd
                            obtain ⟨⟨h4, -, -⟩, -⟩ := hd
                            dsimp only at h4
                            (try simp only [h4])
                            refine ⟨rfl, ?_⟩
                            go_simp <;> (try go_bits) <;> with_reducible rfl
                          · exact fun _ _ _ => rfl
                          · rfl
                          dsimp only [nA, cA]
                          apply RGW.on (i := 6) rfl
                          · (simp only [gA, gB, gC] <;> rfl)
                          · intro γ u W hcur hd
                            clear hd
                            (try dsimp only)
                            refine ⟨rfl, ?_⟩
                            go_simp <;> (try go_bits) <;> with_reducible rfl
                          · exact fun _ _ _ => rfl
                          · rfl
                          dsimp only [nA, cA]
                          apply RGW.on (i := 7) rfl
                          · (simp only [gA, gB, gC] <;> rfl)
                          · intro γ u W hcur hd
                            clear hd
                            (try dsimp only)
                            refine ⟨rfl, ?_⟩
                            go_simp <;> (try go_bits) <;> with_reducible rfl
                          · exact fun _ _ _ => rfl
                          · rfl
                          dsimp only [nA, cA]
                          apply RGW.on (i := 8) rfl
                          · (simp only [gA, gB, gC] <;> rfl)
                          · intro γ u W hcur hd
                            obtain ⟨⟨h6, -, -⟩, ⟨h7, -, -⟩, -⟩ := hd
                            dsimp only at h6 h7
                            (try simp only [h6, h7])
                            refine ⟨rfl, ?_⟩
                            go_simp <;> (try go_bits) <;> with_reducible rfl
                          · exact fun _ _ _ => rfl
                          · rfl
                          dsimp only [nA, cA]
                          apply RGW.on (i := 9) rfl
                          · (simp only [gA, gB, gC] <;> rfl)
                          · intro γ u W hcur hd
                            obtain ⟨⟨h8, -, -⟩, -⟩ := hd
                            dsimp only at h8
                            (try simp only [h8])
                            refine ⟨rfl, ?_⟩
                            go_simp <;> (try go_bits) <;> with_reducible rfl
                          · exact fun _ _ _ => rfl
                          · rfl
                          dsimp only [nA, cA]
                          apply RGW.on (i := 10) rfl
                          · (simp only [gA, gB, gC] <;> rfl)
                          · intro γ u W hcur hd
                            obtain ⟨⟨h9, -, -⟩, -⟩ := hd
                            dsimp only at h9
                            (try simp only [h9])
                            refine ⟨rfl, ?_⟩
                            go_simp <;> (try go_bits) <;> with_reducible rfl
                          · exact fun _ _ _ => rfl
                          · rfl
                          dsimp only [nA, cA]
                          apply RGW.on (i := 11) rfl
                          · (simp only [gA, gB, gC] <;> rfl)
                          · intro γ u W hcur hd
                            obtain ⟨⟨h5, -, -⟩, ⟨h10, -, -⟩, -⟩ := hd
                            dsimp only at h5 h10
                            (try simp only [h5, h10])
                            refine ⟨rfl, ?_⟩
                            go_simp <;> (try go_bits) <;> with_reducible rfl
                          · exact fun _ _ _ => rfl
                          · rfl
                          dsimp only [nA, cA]
                          apply RGW.on (i := 12) rfl
                          · (simp only [gA, gB, gC] <;> rfl)
                          · intro γ u W hcur hd
                            obtain ⟨⟨h0, -, -⟩, ⟨h1, -, -⟩, -⟩ := hd
                            dsimp only at h0 h1
                            (try simp only [h0, h1])
                            refine ⟨rfl, ?_⟩
                            go_simp <;> (try go_bits) <;> with_reducible rfl
                          · exact fun _ _ _ => rfl
                          · rfl
                          dsimp only [nA, cA]
                          refine RGW.skip (i := 13) rfl rfl ?_
                          dsimp only [nA, cA]
                          refine RGW.fin (fun γ u wz hwz hd hdis => ?_)
                          obtain ⟨⟨h0, -, -⟩, ⟨h1, -, -⟩, ⟨h2, -, -⟩, ⟨h3, -, -⟩, ⟨h4, -, -⟩, ⟨h5, -, -⟩, ⟨h6, -, -⟩, ⟨h7, -, -⟩, ⟨h8, -, -⟩, ⟨h9, -, -⟩, ⟨h10, -, -⟩, ⟨h11, -, -⟩, ⟨h12, -, -⟩, -⟩ := hd
                          dsimp only at h0 h1 h2 h3 h4 h5 h6 h7 h8 h9 h10 h11 h12
                          clear hdis
                          simp only [h0, h1, h2, h3, h4, h5, h6, h7, h8, h9, h10, h11, h12]
                          clear h12 h11 h10 h9 h8 h7 h6 h5 h4 h3 h2 h1 h0
                          clear u
                          simp only [List.map_cons, List.map_nil]
                          apply PlanW.step
                          · (simp only [gA, gB, gC] <;> rfl)
                          · rfl
                          intro K hK
                          first
                          | refine wp_store_keep (X := [G]) (w0 := wz) rfl rfl rfl (by with_reducible first | exact bx_refl _ _ | assumption) (by with_reducible first | assumption | (apply Blk.below (hb := hwz); assumption)) (by simp) (by kernel_rfl) (by rfl) (by simp [Value.oneCell']) (fun hres1 hcur => ?_)
                            refine hK.out _ _ hcur (fun _ => ?_)
                          | go_simp
                            refine hK.out _ _ (by (with_reducible (repeat' (first | assumption | apply jG | apply jH | apply jI | apply jJ | apply jK | apply hb3x | omega | (simp; done) | (simp; omega) | (dsimp only; omega))))) (fun hcur => ?_)
                          clear hK K
                          try simp only [Act.put, List.setIfInBounds_toArray, List.set_cons_zero, List.set_cons_succ]
                          refine PlanW.done ?_
                          have hb3 := bl_tt hwz
                          have hxz : BX [G] p0 (wz.setCell ⟨G, k, none⟩ (.int .i64 (fk + s.len))) := bx_set (.inl (by simp)) _ (hxj.trans (bx_bl [G] hwz))
                          have kGz := (kGj.below hwz).set k (.int .i64 (fk + s.len))
                          rw [← hBk, hset.out] at kGz
                          rw [← hBk] at hxz
                          rw [← hBk]
                          generalize wz.setCell ⟨G, k, none⟩ (.int .i64 (g k)) = wv at *
                          have LV : wv.cell? ⟨G, k, none⟩ = some (.int .i64 (g k)) := by rw [kGz.cell, cL_at _ hkn, hmk1.out]
                          clear hb3 hcur hwz kGj hxj c3j LGj FGj hBk hfk hfke hset hsame h1
                          cases d
                          · go_wp2
                            go_roundw
                            case rel => exact ⟨k + 1, by omega, by go_num, by rw [hnx.out]; rfl, hxz, kGz⟩
                            case measure => simp [intOf]; omega
                          · cases hz : g k == 0
                            · go_wp2
                              go_roundw
                              case rel => exact ⟨k + 1, by omega, by go_num, by rw [hnx.out, hz]; rfl, hxz, kGz⟩
                              case measure => simp [intOf]; omega
                            · go_wp2
                              go_roundw
                              case rel => exact ⟨k + 1, by omega, by go_num, by rw [hnx.out, hz]; rfl, hxz, kGz⟩
                              case measure => simp [intOf]; omega
                      · as_aux_lemma =>
                          have hr0 : (decide (a ≤ (t : Int)) && decide (((t : Int) - a) % s.per = 0)) = false := by simp [h1, h2]
                          rw [hr0] at hBk
                          have hBk2 : g k = fk := by simpa using hBk
                          subst hBk2
                          have h2' : (((t : Int) - a) % s.per == 0) = false := by simp [h2]
                          refine wp_any (w0 := wr) ⟨[], [], [some 241, some 242, some 243, some 244, some 245, some 246, some 247, some 248, some 249, some 250, some 251, some 252, some 253, some 254, some 255, some 256, some 257, some 258, some 259, some 260, some 261], [[], [], [], [1, 2], [1, 2, 3], [0, 1, 2, 3, 4], [0, 1, 2, 3, 4, 5], [0, 1, 2, 3, 4, 5, 6], [0, 1, 2, 3, 4, 5, 6], [0, 1, 2, 3, 4, 5, 6], [0, 1, 2, 3, 4, 5, 6, 8, 9], [0, 1, 2, 3, 4, 5, 6, 8, 9, 10], [0, 1, 2, 3, 4, 5, 6, 7, 8, 9, 10, 11], [0, 1, 2, 3, 4, 5, 6], [0, 1, 2, 3, 4, 5, 6], [0, 1, 2, 3, 4, 5, 6, 13, 14], [0, 1, 2, 3, 4, 5, 6, 13, 14, 15], [0, 1, 2, 3, 4, 5, 6, 13, 14, 15, 16], [0, 1, 2, 3, 4, 5, 6, 7, 8, 9, 10, 11, 12, 13, 14, 15, 16, 17], [0, 1, 2, 3, 4, 5, 6, 7, 8, 9, 10, 11, 12, 13, 14, 15, 16, 17, 18], [0, 1, 2, 3, 4, 5, 6, 7, 8, 9, 10, 11, 12, 13, 14, 15, 16, 17, 18, 19]], [[], [], [], [1, 2], [3], [0, 4], [5], [6], [6], [6], [6, 8, 9], [6, 10], [6, 7, 11], [6], [6], [6, 13, 14], [6, 15], [6, 16], [6, 12, 17], [6, 18], [6, 19]]⟩ (fun _ => []) (by kernel_rfl) (by kernel_rfl) (by (with_reducible (repeat' (first | assumption | apply jA | apply jB | apply jC | apply jD | apply jE | apply jF | apply hb3 | omega | (simp; done) | (simp; omega) | (dsimp only; omega))))) (fun u => by simp only [putD, Act.put, List.setIfInBounds_toArray, List.set_cons_zero, List.set_cons_succ, Nat.zero_add, Nat.reduceAdd]; rfl) ?_
                          apply RGW.on (i := 0) rfl
                          · (simp only [gA, gB, gC] <;> rfl)
                          · intro γ u W hcur hd
                            clear hd
                            (try dsimp only)
                            refine ⟨rfl, ?_⟩
                            go_simp <;> (try go_bits) <;> with_reducible rfl
                          · exact fun _ _ _ => rfl
                          · rfl
                          dsimp only [nA, cA]
                          apply RGW.on (i := 1) rfl
                          · (simp only [gA, gB, gC] <;> rfl)
                          · intro γ u W hcur hd
                            clear hd
                            (try dsimp only)
                            refine ⟨rfl, ?_⟩
                            go_simp <;> (try go_bits) <;> with_reducible rfl
                          · exact fun _ _ _ => rfl
                          · rfl
                          dsimp only [nA, cA]
                          apply RGW.on (i := 2) rfl
                          · (simp only [gA, gB, gC] <;> rfl)
                          · intro γ u W hcur hd
                            clear hd
                            (try dsimp only)
                            refine ⟨rfl, ?_⟩
                            go_simp <;> (try go_bits) <;> with_reducible rfl
                          · exact fun _ _ _ => rfl
                          · rfl
                          dsimp only [nA, cA]
                          apply RGW.on (i := 3) rfl
                          · (simp only [gA, gB, gC] <;> rfl)
                          · intro γ u W hcur hd
                            obtain ⟨⟨h1, -, -⟩, ⟨h2, -, -⟩, -⟩ := hd
                            dsimp only at h1 h2
                            (try simp only [h1, h2])
                            refine ⟨rfl, ?_⟩
                            go_simp <;> (try go_bits) <;> with_reducible rfl
                          · exact fun _ _ _ => rfl
                          · rfl
                          dsimp only [nA, cA]
                          apply RGW.on (i := 4) rfl
                          · (simp only [gA, gB, gC] <;> rfl)
                          · intro γ u W hcur hd
                            obtain ⟨⟨h3, -, -⟩, -⟩ := hd
                            dsimp only at h3
                            (try simp only [h3])
                            refine ⟨rfl, ?_⟩
                            go_simp <;> (try go_bits) <;> with_reducible rfl
                          · exact fun _ _ _ => rfl
                          · rfl
                          dsimp only [nA, cA]
                          apply RGW.on (i := 5) rfl
                          · (simp only [gA, gB, gC] <;> rfl)
                          · intro γ u W hcur hd
                            obtain ⟨⟨h0, -, -⟩, ⟨h4, -, -⟩, -⟩ := hd
                            dsimp only at h0 h4
                            (try simp only [h0, h4])
                            refine ⟨rfl, ?_⟩
                            go_simp <;> (try go_bits) <;> with_reducible rfl
                          · exact fun _ _ _ => rfl
                          · rfl
                          dsimp only [nA, cA]
                          apply RGW.on (i := 6) rfl
                          · (simp only [gA, gB, gC] <;> rfl)
                          · intro γ u W hcur hd
                            obtain ⟨⟨h5, -, -⟩, -⟩ := hd
                            dsimp only at h5
                            (try simp only [h5])
                            refine ⟨rfl, ?_⟩
                            go_simp <;> (try go_bits) <;> with_reducible rfl
                          · exact fun _ _ _ => rfl
                          · rfl
                          dsimp only [nA, cA]
                          first
                          | apply RGW.on (i := 7) rfl
                            · (simp only [gA, gB, gC] <;> rfl)
                            · intro γ u W hcur hd
                              obtain ⟨⟨h6, -, -⟩, -⟩ := hd
                              dsimp only at h6
                              (try simp only [h6])
                              refine ⟨?_, ?_⟩
                              · (simp [Region.wanted, yielded, undef, *]; done)
                              go_simp <;> (try go_bits) <;> with_reducible rfl
                            · exact fun _ _ _ => rfl
                            · rfl
                          | apply RGW.off (i := 7) rfl
                            · (simp only [gA, gB, gC] <;> rfl)
                            · intro γ u W hcur hd
                              obtain ⟨⟨h6, -, -⟩, -⟩ := hd
                              dsimp only at h6
                              (try simp only [h6])
                              simp [Region.wanted, yielded, undef, *]
                            · rfl
                          dsimp only [nA, cA]
                          first
                          | apply RGW.on (i := 8) rfl
                            · (simp only [gA, gB, gC] <;> rfl)
                            · intro γ u W hcur hd
                              obtain ⟨⟨h6, -, -⟩, -⟩ := hd
                              dsimp only at h6
                              (try simp only [h6])
                              refine ⟨?_, ?_⟩
                              · (simp [Region.wanted, yielded, undef, *]; done)
                              go_simp <;> (try go_bits) <;> with_reducible rfl
                            · exact fun _ _ _ => rfl
                            · rfl
                          | apply RGW.off (i := 8) rfl
                            · (simp only [gA, gB, gC] <;> rfl)
                            · intro γ u W hcur hd
                              obtain ⟨⟨h6, -, -⟩, -⟩ := hd
                              dsimp only at h6
                              (try simp only [h6])
                              simp [Region.wanted, yielded, undef, *]
                            · rfl
                          dsimp only [nA, cA]
                          first
                          | apply RGW.on (i := 9) rfl
                            · (simp only [gA, gB, gC] <;> rfl)
                            · intro γ u W hcur hd
                              obtain ⟨⟨h6, -, -⟩, -⟩ := hd
                              dsimp only at h6
                              (try simp only [h6])
                              refine ⟨?_, ?_⟩
                              · (simp [Region.wanted, yielded, undef, *]; done)
                              go_simp <;> (try go_bits) <;> with_reducible rfl
                            · exact fun _ _ _ => rfl
                            · rfl
                          | apply RGW.off (i := 9) rfl
                            · (simp only [gA, gB, gC] <;> rfl)
                            · intro γ u W hcur hd
                              obtain ⟨⟨h6, -, -⟩, -⟩ := hd
                              dsimp only at h6
                              (try simp only [h6])
                              simp [Region.wanted, yielded, undef, *]
                            · rfl
                          dsimp only [nA, cA]
                          first
                          | apply RGW.on (i := 10) rfl
                            · (simp only [gA, gB, gC] <;> rfl)
                            · intro γ u W hcur hd
                              obtain ⟨⟨h6, -, -⟩, ⟨h8, -, -⟩, ⟨h9, -, -⟩, -⟩ := hd
                              dsimp only at h6 h8 h9
                              (try simp only [h6, h8, h9])
                              refine ⟨?_, ?_⟩
                              · (simp [Region.wanted, yielded, undef, *]; done)
                              go_simp <;> (try go_bits) <;> with_reducible rfl
                            · exact fun _ _ _ => rfl
                            · rfl
                          | apply RGW.off (i := 10) rfl
                            · (simp only [gA, gB, gC] <;> rfl)
                            · intro γ u W hcur hd
                              obtain ⟨⟨h6, -, -⟩, ⟨h8, -, -⟩, ⟨h9, -, -⟩, -⟩ := hd
                              dsimp only at h6 h8 h9
                              (try simp only [h6, h8, h9])
                              simp [Region.wanted, yielded, undef, *]
                            · rfl
                          dsimp only [nA, cA]
                          first
                          | apply RGW.on (i := 11) rfl
                            · (simp only [gA, gB, gC] <;> rfl)
                            · intro γ u W hcur hd
                              obtain ⟨⟨h6, -, -⟩, ⟨h10, -, -⟩, -⟩ := hd
                              dsimp only at h6 h10
                              (try simp only [h6, h10])
                              refine ⟨?_, ?_⟩
                              · (simp [Region.wanted, yielded, undef, *]; done)
                              go_simp <;> (try go_bits) <;> with_reducible rfl
                            · exact fun _ _ _ => rfl
                            · rfl
                          | apply RGW.off (i := 11) rfl
                            · (simp only [gA, gB, gC] <;> rfl)
                            · intro γ u W hcur hd
                              obtain ⟨⟨h6, -, -⟩, ⟨h10, -, -⟩, -⟩ := hd
                              dsimp only at h6 h10
                              (try simp only [h6, h10])
                              simp [Region.wanted, yielded, undef, *]
                            · rfl
                          dsimp only [nA, cA]
                          first
                          | apply RGW.on (i := 12) rfl
                            · (simp only [gA, gB, gC] <;> rfl)
                            · intro γ u W hcur hd
                              obtain ⟨⟨h6, -, -⟩, ⟨h7, -, -⟩, ⟨h11, -, -⟩, -⟩ := hd
                              dsimp only at h6 h7 h11
                              (try simp only [h6, h7, h11])
                              refine ⟨?_, ?_⟩
                              · (simp [Region.wanted, yielded, undef, *]; done)
                              go_simp <;> (try go_bits) <;> with_reducible rfl
                            · exact fun _ _ _ => rfl
                            · rfl
                          | apply RGW.off (i := 12) rfl
                            · (simp only [gA, gB, gC] <;> rfl)
                            · intro γ u W hcur hd
                              obtain ⟨⟨h6, -, -⟩, ⟨h7, -, -⟩, ⟨h11, -, -⟩, -⟩ := hd
                              dsimp only at h6 h7 h11
                              (try simp only [h6, h7, h11])
                              simp [Region.wanted, yielded, undef, *]
                            · rfl
                          dsimp only [nA, cA]
                          first
                          | apply RGW.on (i := 13) rfl
                            · (simp only [gA, gB, gC] <;> rfl)
                            · intro γ u W hcur hd
                              obtain ⟨⟨h6, -, -⟩, -⟩ := hd
                              dsimp only at h6
                              (try simp only [h6])
                              refine ⟨?_, ?_⟩
                              · (simp [Region.wanted, yielded, undef, *]; done)
                              go_simp <;> (try go_bits) <;> with_reducible rfl
                            · exact fun _ _ _ => rfl
                            · rfl
                          | apply RGW.off (i := 13) rfl
                            · (simp only [gA, gB, gC] <;> rfl)
                            · intro γ u W hcur hd
                              obtain ⟨⟨h6, -, -⟩, -⟩ := hd
                              dsimp only at h6
                              (try simp only [h6])
                              simp [Region.wanted, yielded, undef, *]
                            · rfl
                          dsimp only [nA, cA]
                          first
                          | apply RGW.on (i := 14) rfl
                            · (simp only [gA, gB, gC] <;> rfl)
                            · intro γ u W hcur hd
                              obtain ⟨⟨h6, -, -⟩, -⟩ := hd
                              dsimp only at h6
                              (try simp only [h6])
                              refine ⟨?_, ?_⟩
                              · (simp [Region.wanted, yielded, undef, *]; done)
                              go_simp <;> (try go_bits) <;> with_reducible rfl
                            · exact fun _ _ _ => rfl
                            · rfl
                          | apply RGW.off (i := 14) rfl
                            · (simp only [gA, gB, gC] <;> rfl)
                            · intro γ u W hcur hd
                              obtain ⟨⟨h6, -, -⟩, -⟩ := hd
                              dsimp only at h6
                              (try simp only [h6])
                              simp [Region.wanted, yielded, undef, *]
                            · rfl
                          dsimp only [nA, cA]
                          first
                          | apply RGW.on (i := 15) rfl
                            · (simp only [gA, gB, gC] <;> rfl)
                            · intro γ u W hcur hd
                              obtain ⟨⟨h6, -, -⟩, ⟨h13, -, -⟩, ⟨h14, -, -⟩, -⟩ := hd
                              dsimp only at h6 h13 h14
                              (try simp only [h6, h13, h14])
                              refine ⟨?_, ?_⟩
                              · (simp [Region.wanted, yielded, undef, *]; done)
                              go_simp <;> (try go_bits) <;> with_reducible rfl
                            · exact fun _ _ _ => rfl
                            · rfl
                          | apply RGW.off (i := 15) rfl
                            · (simp only [gA, gB, gC] <;> rfl)
                            · intro γ u W hcur hd
                              obtain ⟨⟨h6, -, -⟩, ⟨h13, -, -⟩, ⟨h14, -, -⟩, -⟩ := hd
                              dsimp only at h6 h13 h14
                              (try simp only [h6, h13, h14])
                              simp [Region.wanted, yielded, undef, *]
                            · rfl
                          dsimp only [nA, cA]
                          first
                          | apply RGW.on (i := 16) rfl
                            · (simp only [gA, gB, gC] <;> rfl)
                            · intro γ u W hcur hd
                              obtain ⟨⟨h6, -, -⟩, ⟨h15, -, -⟩, -⟩ := hd
                              dsimp only at h6 h15
                              (try simp only [h6, h15])
                              refine ⟨?_, ?_⟩
                              · (simp [Region.wanted, yielded, undef, *]; done)
                              go_simp <;> (try go_bits) <;> with_reducible rfl
                            · exact fun _ _ _ => rfl
                            · rfl
                          | apply RGW.off (i := 16) rfl
                            · (simp only [gA, gB, gC] <;> rfl)
                            · intro γ u W hcur hd
                              obtain ⟨⟨h6, -, -⟩, ⟨h15, -, -⟩, -⟩ := hd
                              dsimp only at h6 h15
                              (try simp only [h6, h15])
                              simp [Region.wanted, yielded, undef, *]
                            · rfl
                          dsimp only [nA, cA]
                          first
                          | apply RGW.on (i := 17) rfl
                            · (simp only [gA, gB, gC] <;> rfl)
                            · intro γ u W hcur hd
                              obtain ⟨⟨h6, -, -⟩, ⟨h16, -, -⟩, -⟩ := hd
                              dsimp only at h6 h16
                              (try simp only [h6, h16])
                              refine ⟨?_, ?_⟩
                              · (simp [Region.wanted, yielded, undef, *]; done)
                              go_simp <;> (try go_bits) <;> with_reducible rfl
                            · exact fun _ _ _ => rfl
                            · rfl
                          | apply RGW.off (i := 17) rfl
                            · (simp only [gA, gB, gC] <;> rfl)
                            · intro γ u W hcur hd
                              obtain ⟨⟨h6, -, -⟩, ⟨h16, -, -⟩, -⟩ := hd
                              dsimp only at h6 h16
                              (try simp only [h6, h16])
                              simp [Region.wanted, yielded, undef, *]
                            · rfl
                          dsimp only [nA, cA]
                          first
                          | apply RGW.on (i := 18) rfl
                            · (simp only [gA, gB, gC] <;> rfl)
                            · intro γ u W hcur hd
                              obtain ⟨⟨h6, -, -⟩, ⟨h12, -, -⟩, ⟨h17, -, -⟩, -⟩ := hd
                              dsimp only at h6 h12 h17
                              (try simp only [h6, h12, h17])
                              refine ⟨?_, ?_⟩
                              · (simp [Region.wanted, yielded, undef, *]; done)
                              go_simp <;> (try go_bits) <;> with_reducible rfl
                            · exact fun _ _ _ => rfl
                            · rfl
                          | apply RGW.off (i := 18) rfl
                            · (simp only [gA, gB, gC] <;> rfl)
                            · intro γ u W hcur hd
                              obtain ⟨⟨h6, -, -⟩, ⟨h12, -, -⟩, ⟨h17, -, -⟩, -⟩ := hd
                              dsimp only at h6 h12 h17
                              (try simp only [h6, h12, h17])
                              simp [Region.wanted, yielded, undef, *]
                            · rfl
                          dsimp only [nA, cA]
                          first
                          | apply RGW.on (i := 19) rfl
                            · (simp only [gA, gB, gC] <;> rfl)
                            · intro γ u W hcur hd
                              obtain ⟨⟨h6, -, -⟩, ⟨h18, -, -⟩, -⟩ := hd
                              dsimp only at h6 h18
                              (try simp only [h6, h18])
                              refine ⟨?_, ?_⟩
                              · (simp [Region.wanted, yielded, undef, *]; done)
                              go_simp <;> (try go_bits) <;> with_reducible rfl
                            · exact fun _ _ _ => rfl
                            · rfl
                          | apply RGW.off (i := 19) rfl
                            · (simp only [gA, gB, gC] <;> rfl)
                            · intro γ u W hcur hd
                              obtain ⟨⟨h6, -, -⟩, ⟨h18, -, -⟩, -⟩ := hd
                              dsimp only at h6 h18
                              (try simp only [h6, h18])
                              simp [Region.wanted, yielded, undef, *]
                            · rfl
                          dsimp only [nA, cA]
                          apply RGW.on (i := 20) rfl
                          · (simp only [gA, gB, gC] <;> rfl)
                          · intro γ u W hcur hd
                            obtain ⟨⟨h6, -, -⟩, ⟨h19, -, -⟩, -⟩ := hd
                            dsimp only at h6 h19
                            (try simp only [h6, h19])
                            refine ⟨rfl, ?_⟩
                            go_simp <;> (try go_bits) <;> with_reducible rfl
                          · exact fun _ _ _ => rfl
                          · rfl
                          dsimp only [nA, cA]
                          refine RGW.fin (fun γ u wj hwj hd hdis => ?_)
                          obtain ⟨⟨h0, -, -⟩, ⟨h1, -, -⟩, ⟨h2, -, -⟩, ⟨h3, -, -⟩, ⟨h4, -, -⟩, ⟨h5, -, -⟩, ⟨h6, -, -⟩, ⟨h7, -, -⟩, ⟨h8, -, -⟩, ⟨h9, -, -⟩, ⟨h10, -, -⟩, ⟨h11, -, -⟩, ⟨h12, -, -⟩, ⟨h13, -, -⟩, ⟨h14, -, -⟩, ⟨h15, -, -⟩, ⟨h16, -, -⟩, ⟨h17, -, -⟩, ⟨h18, -, -⟩, ⟨h19, -, -⟩, ⟨h20, -, -⟩, -⟩ := hd
                          dsimp only at h0 h1 h2 h3 h4 h5 h6 h7 h8 h9 h10 h11 h12 h13 h14 h15 h16 h17 h18 h19 h20
                          clear hdis
                          simp only [h0, h1, h2, h3, h4, h5, h6, h7, h8, h9, h10, h11, h12, h13, h14, h15, h16, h17, h18, h19, h20]
                          clear h20 h19 h18 h17 h16 h15 h14 h13 h12 h11 h10 h9 h8 h7 h6 h5 h4 h3 h2 h1 h0
                          clear u
                          simp only [List.map_nil]
                          refine PlanW.done ?_
                          have hb3 := bl_tt hwj
                          have LV : wj.cell? ⟨G, k, none⟩ = some (.int .i64 (g k)) := LG wj hwj
                          have hxj : BX [G] p0 wj := hxG.trans (bx_bl [G] hwj)
                          have kGj := kG.below hwj
                          rw [hsame.out rfl] at kGj
                          clear hb3 hwj kG hxG c1 c3 d1 LG FG hBk hr0 hset hsame h1 hp0 h2 h2'
                          cases d
                          · go_wp2
                            go_roundw
                            case rel => exact ⟨k + 1, by omega, by go_num, by rw [hnx.out]; rfl, hxj, kGj⟩
                            case measure => simp [intOf]; omega
                          · cases hz : g k == 0
                            · go_wp2
                              go_roundw
                              case rel => exact ⟨k + 1, by omega, by go_num, by rw [hnx.out, hz]; rfl, hxj, kGj⟩
                              case measure => simp [intOf]; omega
                            · go_wp2
                              go_roundw
                              case rel => exact ⟨k + 1, by omega, by go_num, by rw [hnx.out, hz]; rfl, hxj, kGj⟩
                              case measure => simp [intOf]; omega
                      · as_aux_lemma =>
                          have hr0 : (decide (a ≤ (t : Int)) && decide (((t : Int) - a) % s.per = 0)) = false := by simp [h1]
                          rw [hr0] at hBk
                          have hBk2 : g k = fk := by simpa using hBk
                          subst hBk2
                          refine wp_any (w0 := wr) ⟨[], [], [some 241, some 242, some 243, some 244, some 245, some 246, some 247, some 248, some 249, some 250, some 251, some 252, some 253, some 254, some 255, some 256, some 257, some 258, some 259, some 260, some 261], [[], [], [], [1, 2], [1, 2, 3], [0, 1, 2, 3, 4], [0, 1, 2, 3, 4, 5], [0, 1, 2, 3, 4, 5, 6], [0, 1, 2, 3, 4, 5, 6], [0, 1, 2, 3, 4, 5, 6], [0, 1, 2, 3, 4, 5, 6, 8, 9], [0, 1, 2, 3, 4, 5, 6, 8, 9, 10], [0, 1, 2, 3, 4, 5, 6, 7, 8, 9, 10, 11], [0, 1, 2, 3, 4, 5, 6], [0, 1, 2, 3, 4, 5, 6], [0, 1, 2, 3, 4, 5, 6, 13, 14], [0, 1, 2, 3, 4, 5, 6, 13, 14, 15], [0, 1, 2, 3, 4, 5, 6, 13, 14, 15, 16], [0, 1, 2, 3, 4, 5, 6, 7, 8, 9, 10, 11, 12, 13, 14, 15, 16, 17], [0, 1, 2, 3, 4, 5, 6, 7, 8, 9, 10, 11, 12, 13, 14, 15, 16, 17, 18], [0, 1, 2, 3, 4, 5, 6, 7, 8, 9, 10, 11, 12, 13, 14, 15, 16, 17, 18, 19]], [[], [], [], [1, 2], [3], [0, 4], [5], [6], [6], [6], [6, 8, 9], [6, 10], [6, 7, 11], [6], [6], [6, 13, 14], [6, 15], [6, 16], [6, 12, 17], [6, 18], [6, 19]]⟩ (fun _ => []) (by kernel_rfl) (by kernel_rfl) (by (with_reducible (repeat' (first | assumption | apply jA | apply jB | apply jC | apply jD | apply jE | apply jF | apply hb3 | omega | (simp; done) | (simp; omega) | (dsimp only; omega))))) (fun u => by simp only [putD, Act.put, List.setIfInBounds_toArray, List.set_cons_zero, List.set_cons_succ, Nat.zero_add, Nat.reduceAdd]; rfl) ?_
                          apply RGW.on (i := 0) rfl
                          · (simp only [gA, gB, gC] <;> rfl)
                          · intro γ u W hcur hd
                            clear hd
                            (try dsimp only)
                            refine ⟨rfl, ?_⟩
                            go_simp <;> (try go_bits) <;> with_reducible rfl
                          · exact fun _ _ _ => rfl
                          · rfl
                          dsimp only [nA, cA]
                          apply RGW.on (i := 1) rfl
                          · (simp only [gA, gB, gC] <;> rfl)
                          · intro γ u W hcur hd
                            clear hd
                            (try dsimp only)
                            refine ⟨rfl, ?_⟩
                            go_simp <;> (try go_bits) <;> with_reducible rfl
                          · exact fun _ _ _ => rfl
                          · rfl
                          dsimp only [nA, cA]
                          apply RGW.on (i := 2) rfl
                          · (simp only [gA, gB, gC] <;> rfl)
                          · intro γ u W hcur hd
                            clear hd
                            (try dsimp only)
                            refine ⟨rfl, ?_⟩
                            go_simp <;> (try go_bits) <;> with_reducible rfl
                          · exact fun _ _ _ => rfl
                          · rfl
                          dsimp only [nA, cA]
                          apply RGW.on (i := 3) rfl
                          · (simp only [gA, gB, gC] <;> rfl)
                          · intro γ u W hcur hd
                            obtain ⟨⟨h1, -, -⟩, ⟨h2, -, -⟩, -⟩ := hd
                            dsimp only at h1 h2
                            (try simp only [h1, h2])
                            refine ⟨rfl, ?_⟩
                            go_simp <;> (try go_bits) <;> with_reducible rfl
                          · exact fun _ _ _ => rfl
                          · rfl
                          dsimp only [nA, cA]
                          apply RGW.on (i := 4) rfl
                          · (simp only [gA, gB, gC] <;> rfl)
                          · intro γ u W hcur hd
                            obtain ⟨⟨h3, -, -⟩, -⟩ := hd
                            dsimp only at h3
                            (try simp only [h3])
                            refine ⟨rfl, ?_⟩
                            go_simp <;> (try go_bits) <;> with_reducible rfl
                          · exact fun _ _ _ => rfl
                          · rfl
                          dsimp only [nA, cA]
                          apply RGW.on (i := 5) rfl
                          · (simp only [gA, gB, gC] <;> rfl)
                          · intro γ u W hcur hd
                            obtain ⟨⟨h0, -, -⟩, ⟨h4, -, -⟩, -⟩ := hd
                            dsimp only at h0 h4
                            (try simp only [h0, h4])
                            refine ⟨rfl, ?_⟩
                            go_simp <;> (try go_bits) <;> with_reducible rfl
                          · exact fun _ _ _ => rfl
                          · rfl
                          dsimp only [nA, cA]
                          apply RGW.on (i := 6) rfl
                          · (simp only [gA, gB, gC] <;> rfl)
                          · intro γ u W hcur hd
                            obtain ⟨⟨h5, -, -⟩, -⟩ := hd
                            dsimp only at h5
                            (try simp only [h5])
                            refine ⟨rfl, ?_⟩
                            go_simp <;> (try go_bits) <;> with_reducible rfl
                          · exact fun _ _ _ => rfl
                          · rfl
                          dsimp only [nA, cA]
                          first
                          | apply RGW.on (i := 7) rfl
                            · (simp only [gA, gB, gC] <;> rfl)
                            · intro γ u W hcur hd
                              obtain ⟨⟨h6, -, -⟩, -⟩ := hd
                              dsimp only at h6
                              (try simp only [h6])
                              refine ⟨?_, ?_⟩
                              · (simp [Region.wanted, yielded, undef, *]; done)
                              go_simp <;> (try go_bits) <;> with_reducible rfl
                            · exact fun _ _ _ => rfl
                            · rfl
                          | apply RGW.off (i := 7) rfl
                            · (simp only [gA, gB, gC] <;> rfl)
                            · intro γ u W hcur hd
                              obtain ⟨⟨h6, -, -⟩, -⟩ := hd
                              dsimp only at h6
                              (try simp only [h6])
                              simp [Region.wanted, yielded, undef, *]
                            · rfl
                          dsimp only [nA, cA]
                          first
                          | apply RGW.on (i := 8) rfl
                            · (simp only [gA, gB, gC] <;> rfl)
                            · intro γ u W hcur hd
                              obtain ⟨⟨h6, -, -⟩, -⟩ := hd
                              dsimp only at h6
                              (try simp only [h6])
                              refine ⟨?_, ?_⟩
                              · (simp [Region.wanted, yielded, undef, *]; done)
                              go_simp <;> (try go_bits) <;> with_reducible rfl
                            · exact fun _ _ _ => rfl
                            · rfl
                          | apply RGW.off (i := 8) rfl
                            · (simp only [gA, gB, gC] <;> rfl)
                            · intro γ u W hcur hd
                              obtain ⟨⟨h6, -, -⟩, -⟩ := hd
                              dsimp only at h6
                              (try simp only [h6])
                              simp [Region.wanted, yielded, undef, *]
                            · rfl
                          dsimp only [nA, cA]
                          first
                          | apply RGW.on (i := 9) rfl
                            · (simp only [gA, gB, gC] <;> rfl)
                            · intro γ u W hcur hd
                              obtain ⟨⟨h6, -, -⟩, -⟩ := hd
                              dsimp only at h6
                              (try simp only [h6])
                              refine ⟨?_, ?_⟩
                              · (simp [Region.wanted, yielded, undef, *]; done)
                              go_simp <;> (try go_bits) <;> with_reducible rfl
                            · exact fun _ _ _ => rfl
                            · rfl
                          | apply RGW.off (i := 9) rfl
                            · (simp only [gA, gB, gC] <;> rfl)
                            · intro γ u W hcur hd
                              obtain ⟨⟨h6, -, -⟩, -⟩ := hd
                              dsimp only at h6
                              (try simp only [h6])
                              simp [Region.wanted, yielded, undef, *]
                            · rfl
                          dsimp only [nA, cA]
                          first
                          | apply RGW.on (i := 10) rfl
                            · (simp only [gA, gB, gC] <;> rfl)
                            · intro γ u W hcur hd
                              obtain ⟨⟨h6, -, -⟩, ⟨h8, -, -⟩, ⟨h9, -, -⟩, -⟩ := hd
                              dsimp only at h6 h8 h9
                              (try simp only [h6, h8, h9])
                              refine ⟨?_, ?_⟩
                              · (simp [Region.wanted, yielded, undef, *]; done)
                              go_simp <;> (try go_bits) <;> with_reducible rfl
                            · exact fun _ _ _ => rfl
                            · rfl
                          | apply RGW.off (i := 10) rfl
                            · (simp only [gA, gB, gC] <;> rfl)
                            · intro γ u W hcur hd
                              obtain ⟨⟨h6, -, -⟩, ⟨h8, -, -⟩, ⟨h9, -, -⟩, -⟩ := hd
                              dsimp only at h6 h8 h9
                              (try simp only [h6, h8, h9])
                              simp [Region.wanted, yielded, undef, *]
                            · rfl
                          dsimp only [nA, cA]
                          first
                          | apply RGW.on (i := 11) rfl
                            · (simp only [gA, gB, gC] <;> rfl)
                            · intro γ u W hcur hd
                              obtain ⟨⟨h6, -, -⟩, ⟨h10, -, -⟩, -⟩ := hd
                              dsimp only at h6 h10
                              (try simp only [h6, h10])
                              refine ⟨?_, ?_⟩
                              · (simp [Region.wanted, yielded, undef, *]; done)
                              go_simp <;> (try go_bits) <;> with_reducible rfl
                            · exact fun _ _ _ => rfl
                            · rfl
                          | apply RGW.off (i := 11) rfl
                            · (simp only [gA, gB, gC] <;> rfl)
                            · intro γ u W hcur hd
                              obtain ⟨⟨h6, -, -⟩, ⟨h10, -, -⟩, -⟩ := hd
                              dsimp only at h6 h10
                              (try simp only [h6, h10])
                              simp [Region.wanted, yielded, undef, *]
                            · rfl
                          dsimp only [nA, cA]
                          first
                          | apply RGW.on (i := 12) rfl
                            · (simp only [gA, gB, gC] <;> rfl)
                            · intro γ u W hcur hd
                              obtain ⟨⟨h6, -, -⟩, ⟨h7, -, -⟩, ⟨h11, -, -⟩, -⟩ := hd
                              dsimp only at h6 h7 h11
                              (try simp only [h6, h7, h11])
                              refine ⟨?_, ?_⟩
                              · (simp [Region.wanted, yielded, undef, *]; done)
                              go_simp <;> (try go_bits) <;> with_reducible rfl
                            · exact fun _ _ _ => rfl
                            · rfl
                          | apply RGW.off (i := 12) rfl
                            · (simp only [gA, gB, gC] <;> rfl)
                            · intro γ u W hcur hd
                              obtain ⟨⟨h6, -, -⟩, ⟨h7, -, -⟩, ⟨h11, -, -⟩, -⟩ := hd
                              dsimp only at h6 h7 h11
                              (try simp only [h6, h7, h11])
                              simp [Region.wanted, yielded, undef, *]
                            · rfl
                          dsimp only [nA, cA]
                          first
                          | apply RGW.on (i := 13) rfl
                            · (simp only [gA, gB, gC] <;> rfl)
                            · intro γ u W hcur hd
                              obtain ⟨⟨h6, -, -⟩, -⟩ := hd
                              dsimp only at h6
                              (try simp only [h6])
                              refine ⟨?_, ?_⟩
                              · (simp [Region.wanted, yielded, undef, *]; done)
                              go_simp <;> (try go_bits) <;> with_reducible rfl
                            · exact fun _ _ _ => rfl
                            · rfl
                          | apply RGW.off (i := 13) rfl
                            · (simp only [gA, gB, gC] <;> rfl)
                            · intro γ u W hcur hd
                              obtain ⟨⟨h6, -, -⟩, -⟩ := hd
                              dsimp only at h6
                              (try simp only [h6])
                              simp [Region.wanted, yielded, undef, *]
                            · rfl
                          dsimp only [nA, cA]
                          first
                          | apply RGW.on (i := 14) rfl
                            · (simp only [gA, gB, gC] <;> rfl)
                            · intro γ u W hcur hd
                              obtain ⟨⟨h6, -, -⟩, -⟩ := hd
                              dsimp only at h6
                              (try simp only [h6])
                              refine ⟨?_, ?_⟩
                              · (simp [Region.wanted, yielded, undef, *]; done)
                              go_simp <;> (try go_bits) <;> with_reducible rfl
                            · exact fun _ _ _ => rfl
                            · rfl
                          | apply RGW.off (i := 14) rfl
                            · (simp only [gA, gB, gC] <;> rfl)
                            · intro γ u W hcur hd
                              obtain ⟨⟨h6, -, -⟩, -⟩ := hd
                              dsimp only at h6
                              (try simp only [h6])
                              simp [Region.wanted, yielded, undef, *]
                            · rfl
                          dsimp only [nA, cA]
                          first
                          | apply RGW.on (i := 15) rfl
                            · (simp only [gA, gB, gC] <;> rfl)
                            · intro γ u W hcur hd
                              obtain ⟨⟨h6, -, -⟩, ⟨h13, -, -⟩, ⟨h14, -, -⟩, -⟩ := hd
                              dsimp only at h6 h13 h14
                              (try simp only [h6, h13, h14])
                              refine ⟨?_, ?_⟩
                              · (simp [Region.wanted, yielded, undef, *]; done)
                              go_simp <;> (try go_bits) <;> with_reducible rfl
                            · exact fun _ _ _ => rfl
                            · rfl
                          | apply RGW.off (i := 15) rfl
                            · (simp only [gA, gB, gC] <;> rfl)
                            · intro γ u W hcur hd
                              obtain ⟨⟨h6, -, -⟩, ⟨h13, -, -⟩, ⟨h14, -, -⟩, -⟩ := hd
                              dsimp only at h6 h13 h14
                              (try simp only [h6, h13, h14])
                              simp [Region.wanted, yielded, undef, *]
                            · rfl
                          dsimp only [nA, cA]
                          first
                          | apply RGW.on (i := 16) rfl
                            · (simp only [gA, gB, gC] <;> rfl)
                            · intro γ u W hcur hd
                              obtain ⟨⟨h6, -, -⟩, ⟨h15, -, -⟩, -⟩ := hd
                              dsimp only at h6 h15
                              (try simp only [h6, h15])
                              refine ⟨?_, ?_⟩
                              · (simp [Region.wanted, yielded, undef, *]; done)
                              go_simp <;> (try go_bits) <;> with_reducible rfl
                            · exact fun _ _ _ => rfl
                            · rfl
                          | apply RGW.off (i := 16) rfl
                            · (simp only [gA, gB, gC] <;> rfl)
                            · intro γ u W hcur hd
                              obtain ⟨⟨h6, -, -⟩, ⟨h15, -, -⟩, -⟩ := hd
                              dsimp only at h6 h15
                              (try simp only [h6, h15])
                              simp [Region.wanted, yielded, undef, *]
                            · rfl
                          dsimp only [nA, cA]
                          first
                          | apply RGW.on (i := 17) rfl
                            · (simp only [gA, gB, gC] <;> rfl)
                            · intro γ u W hcur hd
                              obtain ⟨⟨h6, -, -⟩, ⟨h16, -, -⟩, -⟩ := hd
                              dsimp only at h6 h16
                              (try simp only [h6, h16])
                              refine ⟨?_, ?_⟩
                              · (simp [Region.wanted, yielded, undef, *]; done)
                              go_simp <;> (try go_bits) <;> with_reducible rfl
                            · exact fun _ _ _ => rfl
                            · rfl
                          | apply RGW.off (i := 17) rfl
                            · (simp only [gA, gB, gC] <;> rfl)
                            · intro γ u W hcur hd
                              obtain ⟨⟨h6, -, -⟩, ⟨h16, -, -⟩, -⟩ := hd
                              dsimp only at h6 h16
                              (try simp only [h6, h16])
                              simp [Region.wanted, yielded, undef, *]
                            · rfl
                          dsimp only [nA, cA]
                          first
                          | apply RGW.on (i := 18) rfl
                            · (simp only [gA, gB, gC] <;> rfl)
                            · intro γ u W hcur hd
                              obtain ⟨⟨h6, -, -⟩, ⟨h12, -, -⟩, ⟨h17, -, -⟩, -⟩ := hd
                              dsimp only at h6 h12 h17
                              (try simp only [h6, h12, h17])
                              refine ⟨?_, ?_⟩
                              · (simp [Region.wanted, yielded, undef, *]; done)
                              go_simp <;> (try go_bits) <;> with_reducible rfl
                            · exact fun _ _ _ => rfl
                            · rfl
                          | apply RGW.off (i := 18) rfl
                            · (simp only [gA, gB, gC] <;> rfl)
                            · intro γ u W hcur hd
                              obtain ⟨⟨h6, -, -⟩, ⟨h12, -, -⟩, ⟨h17, -, -⟩, -⟩ := hd
                              dsimp only at h6 h12 h17
                              (try simp only [h6, h12, h17])
                              simp [Region.wanted, yielded, undef, *]
                            · rfl
                          dsimp only [nA, cA]
                          first
                          | apply RGW.on (i := 19) rfl
                            · (simp only [gA, gB, gC] <;> rfl)
                            · intro γ u W hcur hd
                              obtain ⟨⟨h6, -, -⟩, ⟨h18, -, -⟩, -⟩ := hd
                              dsimp only at h6 h18
                              (try simp only [h6, h18])
                              refine ⟨?_, ?_⟩
                              · (simp [Region.wanted, yielded, undef, *]; done)
                              go_simp <;> (try go_bits) <;> with_reducible rfl
                            · exact fun _ _ _ => rfl
                            · rfl
                          | apply RGW.off (i := 19) rfl
                            · (simp only [gA, gB, gC] <;> rfl)
                            · intro γ u W hcur hd
                              obtain ⟨⟨h6, -, -⟩, ⟨h18, -, -⟩, -⟩ := hd
                              dsimp only at h6 h18
                              (try simp only [h6, h18])
                              simp [Region.wanted, yielded, undef, *]
                            · rfl
                          dsimp only [nA, cA]
                          apply RGW.on (i := 20) rfl
                          · (simp only [gA, gB, gC] <;> rfl)
                          · intro γ u W hcur hd
                            obtain ⟨⟨h6, -, -⟩, ⟨h19, -, -⟩, -⟩ := hd
                            dsimp only at h6 h19
                            (try simp only [h6, h19])
                            refine ⟨rfl, ?_⟩
                            go_simp <;> (try go_bits) <;> with_reducible rfl
                          · exact fun _ _ _ => rfl
                          · rfl
                          dsimp only [nA, cA]
                          refine RGW.fin (fun γ u wj hwj hd hdis => ?_)
                          obtain ⟨⟨h0, -, -⟩, ⟨h1, -, -⟩, ⟨h2, -, -⟩, ⟨h3, -, -⟩, ⟨h4, -, -⟩, ⟨h5, -, -⟩, ⟨h6, -, -⟩, ⟨h7, -, -⟩, ⟨h8, -, -⟩, ⟨h9, -, -⟩, ⟨h10, -, -⟩, ⟨h11, -, -⟩, ⟨h12, -, -⟩, ⟨h13, -, -⟩, ⟨h14, -, -⟩, ⟨h15, -, -⟩, ⟨h16, -, -⟩, ⟨h17, -, -⟩, ⟨h18, -, -⟩, ⟨h19, -, -⟩, ⟨h20, -, -⟩, -⟩ := hd
                          dsimp only at h0 h1 h2 h3 h4 h5 h6 h7 h8 h9 h10 h11 h12 h13 h14 h15 h16 h17 h18 h19 h20
                          clear hdis
                          simp only [h0, h1, h2, h3, h4, h5, h6, h7, h8, h9, h10, h11, h12, h13, h14, h15, h16, h17, h18, h19, h20]
                          clear h20 h19 h18 h17 h16 h15 h14 h13 h12 h11 h10 h9 h8 h7 h6 h5 h4 h3 h2 h1 h0
                          clear u
                          simp only [List.map_nil]
                          refine PlanW.done ?_
                          have hb3 := bl_tt hwj
                          have LV : wj.cell? ⟨G, k, none⟩ = some (.int .i64 (g k)) := LG wj hwj
                          have hxj : BX [G] p0 wj := hxG.trans (bx_bl [G] hwj)
                          have kGj := kG.below hwj
                          rw [hsame.out rfl] at kGj
                          clear hb3 hwj kG hxG c1 c3 d1 LG FG hBk hr0 hset hsame h1 hp0
                          cases d
                          · go_wp2
                            go_roundw
                            case rel => exact ⟨k + 1, by omega, by go_num, by rw [hnx.out]; rfl, hxj, kGj⟩
                            case measure => simp [intOf]; omega
                          · cases hz : g k == 0
                            · go_wp2
                              go_roundw
                              case rel => exact ⟨k + 1, by omega, by go_num, by rw [hnx.out, hz]; rfl, hxj, kGj⟩
                              case measure => simp [intOf]; omega
                            · go_wp2
                              go_roundw
                              case rel => exact ⟨k + 1, by omega, by go_num, by rw [hnx.out, hz]; rfl, hxj, kGj⟩
                              case measure => simp [intOf]; omega
                  · as_aux_lemma =>
                      have e : k = l.length := by omega
                      subst e
                      have kG2 : Blk wr G 3 (cL l.length g) := by
                        have e : cL l.length (midF f g l.length) = cL l.length g := cL_congr fun j hj => by unfold midF; rw [if_pos hj]
                        rw [← e]
                        exact kG
                      clear kG
                      obtain ⟨b4, o4, rfl, d4⟩ := sl_at (hsl4.out wr hxG) hct.out
                      have hbw := hnn1.out _ hxG
                      rcases hstp.out with ⟨ho, hz, hn⟩ | ⟨j, ho, hj, hj1, hn⟩
                      · as_aux_lemma =>
                          have hid : idB g l.length = true := by
                            unfold idB
                            rw [List.all_eq_true]
                            intro x hx
                            simp [hz x (List.mem_range.1 hx)]
                          rw [hid]
                          have hnx := Lib.hid (show cL l.length g = cL l.length (fA (t + 1)) from cL_congr fun j _ => (hn j).symm)
                          have d4' := d4 wr (bl_refl _)
                          rw [ho] at d4'
                          have htT2 : (t : Int) < T := by omega
                          clear hid hz hn ho d4
                          go_wp2
                          go_roundw
                          case rel => exact ⟨t + 1, by omega, by go_num, hxG, by rw [← hnx.out]; exact kG2⟩
                          case measure => simp [intOf]; omega
                      · as_aux_lemma =>
                          have hid : idB g l.length = false := by
                            rw [Bool.eq_false_iff]
                            intro h
                            unfold idB at h
                            rw [List.all_eq_true] at h
                            have := h j (List.mem_range.2 hj)
                            simp at this
                            omega
                          rw [hid]
                          have hnx : (cL l.length g).setIfInBounds j (.int .i64 (g j - 1)) = cL l.length (fA (t + 1)) := by
                            rw [cL_set _ _ hj]
                            refine cL_congr fun k hk => ?_
                            rw [hn k]
                            by_cases e : k = j
                            · subst e; rw [if_pos rfl, if_pos rfl]
                            · rw [if_neg e, if_neg (fun h => e h.symm)]; omega
                          replace hnx := Lib.hid hnx
                          rw [ho] at d4
                          have d4' := d4 wr (bl_refl _)
                          have LG : ∀ W, Below wr.heap.size wr W → W.cell? ⟨G, j, none⟩ = some (.int .i64 (g j)) := fun W hb => by rw [(kG2.below hb).cell, cL_at _ hj]
                          have FG : ∀ W, Below wr.heap.size wr W → W.frozen? ⟨G, j, none⟩ = false := fun W hb => (kG2.below hb).frozen _
                          have LG' := LG wr (bl_refl _)
                          have hir : inR (j : Int) 0 ((l.length : Int) - 1) = true := inR_iff.2 (by omega)
                          have hgz : (g j == 0) = false := by simp; omega
                          have hgz2 : ¬ g j = 0 := by omega
                          have hgb : g j ≤ 4000 := by
                            have h1 := hBt.out j
                            have h2 := hbt.out j
                            have h3 : lenAt l j ≤ 20 := by
                              unfold lenAt
                              rw [List.getElem?_eq_getElem hj]
                              exact (hlen20.out j _ (List.getElem?_eq_getElem hj)).2.2
                            split at h1 <;> omega
                          have htT2 : (t : Int) < T := by omega
                          have hj2 : (j : Int) < l.length := by omega
                          clear hid hn ho hBt hbt
                          go_upto_region 44 with (go_at_call 21; (with_reducible refine (hir ▸ r_Within (j : Int) 0 ((l.length : Int) - 1) _).mono ?_); rintro e w3 ⟨rfl, rfl⟩)
                          clear d4' LG' hgz hgz2 hir
                          refine wp_any (w0 := wr) ⟨[14], [], [some 310, some 311, some 312, some 313, some 314, some 315, some 316, some 317, some 318, some 319, some 320, some 321, some 322, some 323, none], [[], [], [], [1, 2], [1, 2, 3], [], [], [], [6, 7], [6, 7, 8], [5, 6, 7, 8, 9], [5, 6, 7, 8, 9, 10], [5, 6, 7, 8, 9, 10, 11], [0, 1, 2, 3, 4, 5, 6, 7, 8, 9, 10, 11, 12], [0, 1, 2, 3, 4, 5, 6, 7, 8, 9, 10, 11, 12, 13]], [[], [], [], [1, 2], [3], [], [], [], [6, 7], [8], [5, 9], [10], [11], [0, 4], []]⟩ (fun _ => [G]) (by kernel_rfl) (by kernel_rfl) (by (with_reducible (repeat' (first | assumption | apply jA | apply jB | apply jC | apply jD | apply jE | apply jF | apply hb3 | omega | (simp; done) | (simp; omega) | (dsimp only; omega))))) (fun u => by simp only [putD, Act.put, List.setIfInBounds_toArray, List.set_cons_zero, List.set_cons_succ, Nat.zero_add, Nat.reduceAdd]; rfl) ?_
                          apply RGW.on (i := 0) rfl
                          · (simp only [gA, gB, gC] <;> rfl)
                          · intro γ u W hcur hd
                            clear hd
                            (try dsimp only)
                            refine ⟨rfl, ?_⟩
                            go_simp <;> (try go_bits) <;> with_reducible rfl
                          · exact fun _ _ _ => rfl
                          · rfl
                          dsimp only [nA, cA]
                          apply RGW.on (i := 1) rfl
                          · (simp only [gA, gB, gC] <;> rfl)
                          · intro γ u W hcur hd
                            clear hd
                            (try dsimp only)
                            refine ⟨rfl, ?_⟩
                            go_simp <;> (try go_bits) <;> with_reducible rfl
                          · exact fun _ _ _ => rfl
                          · rfl
                          dsimp only [nA, cA]
                          apply RGW.on (i := 2) rfl
                          · (simp only [gA, gB, gC] <;> rfl)
                          · intro γ u W hcur hd
                            clear hd
                            (try dsimp only)
                            refine ⟨rfl, ?_⟩
                            go_simp <;> (try go_bits) <;> with_reducible rfl
                          · exact fun _ _ _ => rfl
                          · rfl
                          dsimp only [nA, cA]
                          apply RGW.on (i := 3) rfl
                          · (simp only [gA, gB, gC] <;> rfl)
                          · intro γ u W hcur hd
                            obtain ⟨⟨h1, -, -⟩, ⟨h2, -, -⟩, -⟩ := hd
                            dsimp only at h1 h2
                            (try simp only [h1, h2])
                            refine ⟨rfl, ?_⟩
                            go_simp <;> (try go_bits) <;> with_reducible rfl
                          · exact fun _ _ _ => rfl
                          · rfl
                          dsimp only [nA, cA]
                          apply RGW.on (i := 4) rfl
                          · (simp only [gA, gB, gC] <;> rfl)
                          · intro γ u W hcur hd
                            obtain ⟨⟨h3, -, -⟩, -⟩ := hd
                            dsimp only at h3
                            (try simp only [h3])
                            refine ⟨rfl, ?_⟩
                            go_simp <;> (try go_bits) <;> with_reducible rfl
                          · exact fun _ _ _ => rfl
                          · rfl
                          dsimp only [nA, cA]
                          apply RGW.on (i := 5) rfl
                          · (simp only [gA, gB, gC] <;> rfl)
                          · intro γ u W hcur hd
                            clear hd
                            (try dsimp only)
                            refine ⟨rfl, ?_⟩
                            go_simp <;> (try go_bits) <;> with_reducible rfl
                          · exact fun _ _ _ => rfl
                          · rfl
                          dsimp only [nA, cA]
                          apply RGW.on (i := 6) rfl
                          · (simp only [gA, gB, gC] <;> rfl)
                          · intro γ u W hcur hd
                            clear hd
                            (try dsimp only)
                            refine ⟨rfl, ?_⟩
                            go_simp <;> (try go_bits) <;> with_reducible rfl
                          · exact fun _ _ _ => rfl
                          · rfl
                          dsimp only [nA, cA]
                          apply RGW.on (i := 7) rfl
                          · (simp only [gA, gB, gC] <;> rfl)
                          · intro γ u W hcur hd
                            clear hd
                            (try dsimp only)
                            refine ⟨rfl, ?_⟩
                            go_simp <;> (try go_bits) <;> with_reducible rfl
                          · exact fun _ _ _ => rfl
                          · rfl
                          dsimp only [nA, cA]
                          apply RGW.on (i := 8) rfl
                          · (simp only [gA, gB, gC] <;> rfl)
                          · intro γ u W hcur hd
                            obtain ⟨⟨h6, -, -⟩, ⟨h7, -, -⟩, -⟩ := hd
                            dsimp only at h6 h7
                            (try simp only [h6, h7])
                            refine ⟨rfl, ?_⟩
                            go_simp <;> (try go_bits) <;> with_reducible rfl
                          · exact fun _ _ _ => rfl
                          · rfl
                          dsimp only [nA, cA]
                          apply RGW.on (i := 9) rfl
                          · (simp only [gA, gB, gC] <;> rfl)
                          · intro γ u W hcur hd
                            obtain ⟨⟨h8, -, -⟩, -⟩ := hd
                            dsimp only at h8
                            (try simp only [h8])
                            refine ⟨rfl, ?_⟩
                            go_simp <;> (try go_bits) <;> with_reducible rfl
                          · exact fun _ _ _ => rfl
                          · rfl
                          dsimp only [nA, cA]
                          apply RGW.on (i := 10) rfl
                          · (simp only [gA, gB, gC] <;> rfl)
                          · intro γ u W hcur hd
                            obtain ⟨⟨h5, -, -⟩, ⟨h9, -, -⟩, -⟩ := hd
                            dsimp only at h5 h9
                            (try simp only [h5, h9])
                            refine ⟨rfl, ?_⟩
                            go_simp <;> (try go_bits) <;> with_reducible rfl
                          · exact fun _ _ _ => rfl
                          · rfl
                          dsimp only [nA, cA]
                          apply RGW.on (i := 11) rfl
                          · (simp only [gA, gB, gC] <;> rfl)
                          · intro γ u W hcur hd
                            obtain ⟨⟨h10, -, -⟩, -⟩ := hd
                            dsimp only at h10
                            (try simp only [h10])
                            refine ⟨rfl, ?_⟩
                            go_simp <;> (try go_bits) <;> with_reducible rfl
                          · exact fun _ _ _ => rfl
                          · rfl
                          dsimp only [nA, cA]
                          apply RGW.on (i := 12) rfl
                          · (simp only [gA, gB, gC] <;> rfl)
                          · intro γ u W hcur hd
                            obtain ⟨⟨h11, -, -⟩, -⟩ := hd
                            dsimp only at h11
                            (try simp only [h11])
                            refine ⟨rfl, ?_⟩
                            go_simp <;> (try go_bits) <;> with_reducible rfl
                          · exact fun _ _ _ => rfl
                          · rfl
                          dsimp only [nA, cA]
                          apply RGW.on (i := 13) rfl
                          · (simp only [gA, gB, gC] <;> rfl)
                          · intro γ u W hcur hd
                            obtain ⟨⟨h0, -, -⟩, ⟨h4, -, -⟩, -⟩ := hd
                            dsimp only at h0 h4
                            (try simp only [h0, h4])
                            refine ⟨rfl, ?_⟩
                            go_simp <;> (try go_bits) <;> with_reducible rfl
                          · exact fun _ _ _ => rfl
                          · rfl
                          dsimp only [nA, cA]
                          refine RGW.skip (i := 14) rfl rfl ?_
                          dsimp only [nA, cA]
                          refine RGW.fin (fun γ u wz hwz hd hdis => ?_)
                          obtain ⟨⟨h0, -, -⟩, ⟨h1, -, -⟩, ⟨h2, -, -⟩, ⟨h3, -, -⟩, ⟨h4, -, -⟩, ⟨h5, -, -⟩, ⟨h6, -, -⟩, ⟨h7, -, -⟩, ⟨h8, -, -⟩, ⟨h9, -, -⟩, ⟨h10, -, -⟩, ⟨h11, -, -⟩, ⟨h12, -, -⟩, ⟨h13, -, -⟩, -⟩ := hd
                          dsimp only at h0 h1 h2 h3 h4 h5 h6 h7 h8 h9 h10 h11 h12 h13
                          clear hdis
                          simp only [h0, h1, h2, h3, h4, h5, h6, h7, h8, h9, h10, h11, h12, h13]
                          clear h13 h12 h11 h10 h9 h8 h7 h6 h5 h4 h3 h2 h1 h0
                          clear u
                          simp only [List.map_cons, List.map_nil]
                          apply PlanW.step
                          · (simp only [gA, gB, gC] <;> rfl)
                          · rfl
                          intro K hK
                          first
                          | refine wp_store_keep (X := [G]) (w0 := wz) rfl rfl rfl (by with_reducible first | exact bx_refl _ _ | assumption) (by with_reducible first | assumption | (apply Blk.below (hb := hwz); assumption)) (by simp) (by kernel_rfl) (by rfl) (by simp [Value.oneCell']) (fun hres1 hcur => ?_)
                            refine hK.out _ _ hcur (fun _ => ?_)
                          | go_simp
                            refine hK.out _ _ (by (with_reducible (repeat' (first | assumption | apply jG | apply jH | apply jI | apply jJ | apply jK | apply hb3x | omega | (simp; done) | (simp; omega) | (dsimp only; omega))))) (fun hcur => ?_)
                          clear hK K
                          try simp only [Act.put, List.setIfInBounds_toArray, List.set_cons_zero, List.set_cons_succ]
                          refine PlanW.done ?_
                          have hb3 := bl_tt hwz
                          have hxz : BX [G] p0 (wz.setCell ⟨G, j, none⟩ (.int .i64 (g j - 1))) := bx_set (.inl (by simp)) _ (hxG.trans (bx_bl [G] hwz))
                          have kGz := (kG2.below hwz).set j (.int .i64 (g j - 1))
                          rw [hnx.out] at kGz
                          generalize wz.setCell ⟨G, j, none⟩ (.int .i64 (g j - 1)) = wv at *
                          clear hb3 hcur hwz kG2 hxG LG FG d4 hnx
                          go_wp2
                          go_roundw
                          case rel => exact ⟨t + 1, by omega, by go_num, hxz, kGz⟩
                          case measure => simp [intOf]; omega
            · go_wp2
              go_ret
              exact ⟨rfl, hnn1.out _ hxG⟩
end Go.Proofs.YtdlmkblmljhbfaaDoor
