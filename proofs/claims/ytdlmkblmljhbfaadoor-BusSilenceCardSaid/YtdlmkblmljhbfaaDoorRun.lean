/-
  Walks: a sender's run; what is carried at each tick.
-/
import Derived.Test.YtdlmkblmljhbfaaDoorCarry
import Derived.Test.YtdlmkblmljhbfaaDoorOpen
import Derived.Test.YtdlmkblmljhbfaaDoorSil
import Derived.Maps.AppendAt
namespace Go.Proofs.YtdlmkblmljhbfaaDoor
set_option linter.unusedSimpArgs false
set_option linter.unusedVariables false
open Go.RowKit Go.Shelf
attribute [local go_sem] bl_al bl_drew bl_drewN bl_refl bx_al bx_drew bx_drewN bx_refl
set_option maxRecDepth 20000
theorem St.zero (n : Nat) : St 0 n ss0 := ⟨fun _ _ => rfl, fun _ => Nat.le_refl _, fun _ m hm => by simp [ss0] at hm, fun _ => by simp [ss0]⟩
theorem St.step {ch : (Nat → List (Int × Int)) → Int} {l : List Sm} {st : List Int} {t : Nat} {s : Ss} (ho : Opn l st) (h : St t l.length s) : St (t + 1) l.length (carS ch l st t s).1 := by
  have hm := fun i => sendS_msg ho h i
  have hn : ∀ i, l.length ≤ i → sendS l st t s.q i = [] := fun i hi => by rw [sendS_none hi]; exact h.none i hi
  have hw := h.wor
  have hbase : St (t + 1) l.length ⟨sendS l st t s.q, s.wo⟩ := ⟨hn, fun i => (hm i).1, fun i m hmm => by have := (hm i).2 m hmm; omega, fun i => by have := hw i; dsimp only; omega⟩
  unfold carS
  generalize sendS l st t s.q = q at *
  split
  · exact hbase
  · generalize (ch q).toNat = i at *
    split
    · exact hbase
    · rename_i a k r hq
      have hin : ¬ l.length ≤ i := fun hi => by rw [hn i hi] at hq; cases hq
      have hmi := hm i
      rw [hq] at hmi
      have hak := hmi.2 (a, k) (by simp)
      have hr := fun m (hmr : m ∈ r) => hmi.2 m (by simp [hmr])
      have hlr := hmi.1
      simp only [List.length_cons] at hlr hak
      split
      · rename_i hk
        refine ⟨fun j hj => ?_, fun j => ?_, fun j m hj => ?_, fun j => ?_⟩
        · have : j ≠ i := fun e => hin (e ▸ hj)
          simp only [upF, if_neg this]
          exact hn j hj
        · simp only [upF]
          split
          · omega
          · exact (hm j).1
        · simp only [upF] at hj
          split at hj
          · have := hr m hj; omega
          · have := (hm j).2 m hj; omega
        · simp only [upF]
          have h1 := hw i
          have h2 := hw j
          split <;> omega
      · rename_i hk
        refine ⟨fun j hj => ?_, fun j => ?_, fun j m hj => ?_, fun j => by have := hw j; dsimp only; omega⟩
        · have : j ≠ i := fun e => hin (e ▸ hj)
          simp only [upF, if_neg this]
          exact hn j hj
        · simp only [upF]
          split
          · simp only [List.length_cons]; omega
          · exact (hm j).1
        · simp only [upF] at hj
          split at hj
          · rcases List.mem_cons.1 hj with rfl | hj
            · simp only; omega
            · have := hr m hj; omega
          · have := (hm j).2 m hj; omega
theorem St.run {ch : (Nat → List (Int × Int)) → Int} {l : List Sm} {st : List Int} (ho : Opn l st) : ∀ t : Nat, St t l.length (runS ch l st t).1
  | 0 => St.zero _
  | t + 1 => St.step ho (St.run ho t)
theorem runS_len (ch : (Nat → List (Int × Int)) → Int) (l : List Sm) (st : List Int) : ∀ t : Nat, (runS ch l st t).2.length = t
  | 0 => rfl
  | t + 1 => by simp [runS, runS_len ch l st t]
theorem own_keep {b n : Nat} {X : List Nat} {A B : World} {e : TypeId} {size : Nat} {v : Value} {xs : List Value} (h : A.ownsRow b e size v n xs) (hk : BX X A B) (hX : ∀ g, v.ownBlock = some g → g ∉ X) : B.ownsRow b e size v n xs := by
  refine ⟨h.1, ?_⟩
  rcases h.2 with h2 | ⟨g, cap, cur, e1, e2, e3, e4⟩
  · exact .inl h2
  · refine .inr ⟨g, cap, cur, e1, e2, (hk.block g (Array.getElem?_eq_some_iff.1 e3).1 (hX g (by rw [e1]; rfl))).trans e3, e4⟩
theorem own_lt {b n : Nat} {A : World} {e : TypeId} {size : Nat} {v : Value} {xs : List Value} (h : A.ownsRow b e size v n xs) : ∀ g, v.ownBlock = some g → g < A.heap.size := fun k hk => by
  rcases h.2 with ⟨e0, _⟩ | ⟨g, cap, cur, e1, e2, e3, e4⟩
  · rw [e0] at hk; simp [Value.ownBlock] at hk
  · rw [e1] at hk; simp [Value.ownBlock] at hk; subst hk; exact (Array.getElem?_eq_some_iff.1 e3).1
theorem bx_grown {X : List Nat} {w A B : World} {row : Option Nat} (h : BX X w A) (hg : A.grownBy B row) (hr : ∀ g, row = some g → w.heap.size ≤ g) (hX : ∀ g ∈ X, g < w.heap.size) : BX X w B :=
  ⟨hg.os.trans h.os, hg.tape.trans h.tape, hg.output.trans h.output, Nat.le_trans h.size hg.size, fun i hi hiX => (hg.block i (Nat.lt_of_lt_of_le hi h.size) (fun e => by have := hr i e.symm; omega)).trans (h.block i hi hiX), fun g hgX t cs hk => by
    obtain ⟨c1, k1, e1⟩ := h.shape g hgX t cs hk
    exact ⟨c1, (hg.block g k1.lt (fun e => by have := hr g e.symm; have := hX g hgX; omega)).trans k1, e1⟩⟩
theorem Snd.grown {b S Bw n : Nat} {vl vs : Value} {Q : QS} {s : Ss} {w w' : World} {row : Option Nat} (h : Snd b S Bw vl vs n Q s w) (hg : w.grownBy w' row) (hr : ∀ g ∈ foot S Bw Q, some g ≠ row) : Snd b S Bw vl vs n Q s w' := by
  have key : ∀ {g t cs}, Blk w g t cs → g ∈ foot S Bw Q → Blk w' g t cs := fun hk hm => (hg.block _ hk.lt (hr _ hm)).trans hk
  refine ⟨key h.blk (by simp [foot]), key h.wor (by simp [foot]), fun i hi => ?_, h.bS, h.bW, h.SW, h.dis, h.dS, h.dW⟩
  rcases h.que i hi with h1 | ⟨g, off, cs, e, h1, h2, h3⟩
  · exact .inl h1
  · exact .inr ⟨g, off, cs, e, h1, key h2 (foot_q hi (by rw [e]; simp [blA])), h3⟩
set_option maxHeartbeats 8000000 in
theorem c_run (fn : FuncId) (ch : (Nat → List (Int × Int)) → Int) (l : List Sm) (st : List Int) (T : Nat) (Al As : Option Addr) (cl cs S Bw : Nat) (Q : QS) (w0 w : World) (ho : Opn l st) (hT : T ≤ 400)
    (hw : Below w0.heap.size w0 w) (hl : Sl cSm 4 w0 Al l) (hst : Sl cI 1 w0 As st) (h : Snd w0.heap.size S Bw (.slice Al l.length cl) (.slice As st.length cs) l.length Q ss0 w)
    (he : Enters Tryd.prog fn) (hch : ∀ Q s w, Snd w0.heap.size S Bw (.slice Al l.length cl) (.slice As st.length cs) l.length Q s w → Calls Tryd.prog fn #[.pointer (some ⟨S, 0, none⟩)] w (Ret (.int .i64 (ch s.q)) w))
    (hcr : ∀ q, ch q = -1 ∨ ∃ i : Nat, i < 6 ∧ ch q = i ∧ q i ≠ []) :
    Calls Tryd.prog 96 #[.pointer (some ⟨S, 0, none⟩), .int .i64 T, .func (.func fn) #[.pointer (some ⟨S, 0, none⟩)] #[]] w
      (fun e w' => ∃ A c, e = .returned (.slice A T c) ∧ w'.ownsRow w.heap.size 3 1 (.slice A T c) T ((runS ch l st T).2.map (.int .i64)) ∧
        ∃ Q', Snd w0.heap.size S Bw (.slice Al l.length cl) (.slice As st.length cs) l.length Q' (runS ch l st T).1 w' ∧ BX (foot S Bw Q) w w') := by
  obtain ⟨i0, hi, hz0, hz1, hz2⟩ := info_parts infoI
  have hcar := Lib.hid fun (t : Nat) (ht : t < T) (Q' : QS) (W : World) (hb : Below w0.heap.size w0 W) (h' : Snd w0.heap.size S Bw (.slice Al l.length cl) (.slice As st.length cs) l.length Q' (runS ch l st t).1 W) =>
    c_carry fn ch l st t Al As cl cs S Bw Q' (runS ch l st t).1 w0 W ho (by omega) hb hl hst h' (St.run ho t) he hch hcr
  have hft := Lib.hid h.foot_ge
  have Hw := Lib.hid hw
  have H := Lib.hid h
  have hst1 := Lib.hid fun t => (show (runS ch l st (t + 1)).2 = (runS ch l st t).2 ++ [(carS ch l st t (runS ch l st t).1).2] from rfl)
  have hst2 := Lib.hid fun t : Nat => (show (runS ch l st (t + 1)).1 = (carS ch l st t (runS ch l st t).1).1 from rfl)
  clear hch hcr he hl hst ho hw h
  generalize l.length = n at *
  generalize st.length = m at *
  go_enter Tryd.func96, Tryd.ntmps96
  go_wp2
  go_loopw [7, 10] (fun o i wr => ∃ t : Nat, t ≤ T ∧ i = .int .i64 t ∧ ∃ Q', Snd w0.heap.size S Bw (.slice Al n cl) (.slice As m cs) n Q' (runS ch l st t).1 wr ∧ BX (foot S Bw Q) w wr ∧ (∀ g ∈ foot S Bw Q', g ∈ foot S Bw Q ∨ w.heap.size ≤ g) ∧
    wr.ownsRow w.heap.size 3 1 o t ((runS ch l st t).2.map (.int .i64)) ∧ ∀ g, o.ownBlock = some g → g ∉ foot S Bw Q') (fun _ i _ => T - (intOf i).toNat)
  case atStart => exact ⟨0, Nat.zero_le _, rfl, Q, H.out, bx_refl _ _, fun g hg => .inl hg, World.ownsRow_nil _ _ _ _, fun g hg => by simp [Value.ownBlock] at hg⟩
  case round =>
    obtain ⟨t, ht, rfl, Q', h1, h2, h3, h4, h5⟩ := hrel
    by_cases htT : t < T
    rotate_left
    · go_wp2
      go_ret
      have e : t = T := by omega
      subst e
      obtain ⟨A, c, rfl⟩ := own_slice h4
      exact ⟨A, c, rfl, h4, Q', h1, h2⟩
    have hbr := bx_below Hw.out h2 (fun x hx => (hft.out x hx).1)
    go_wp2_with fail
    refine (hcar.out t htT Q' wr hbr h1).mono ?_
    rintro e w3 ⟨rfl, Q3, k1, k2, k3⟩
    rw [← hst2.out t] at k1
    have hs1 := hst1.out t
    generalize (carS ch l st t (runS ch l st t).1).2 = v at *
    have hown3 := own_keep h4 k2 h5
    have hlt4 := own_lt h4
    have hge4 := own_ge h4
    have h7 : ∀ g ∈ foot S Bw Q3, g ∈ foot S Bw Q' ∨ wr.heap.size ≤ g := foot_new k3
    have hsz := h2.size
    have hsz2 := k2.size
    have hf3 := Lib.hid k1.foot_ge
    go_wp2_with (at_builtin; refine wpList_append_own_at _ rfl _ _ 22 rfl w.heap.size 3 i0 (.int .i64 0) 1 8 Tryd.underlying22 hi hz0 hz1 hz2 rfl (by decide) _ _ _ rfl (hown3.alloc _) ⟨w3.heap.size, 0, none⟩ 1 1 [.int .i64 v] rfl rfl ?c1 ?c2 ?c3 ?c4 ?c5 ?_)
    case c1 =>
      intro j u hj
      match j, hj with
      | 0, hj => simp at hj; subst hj; simp [Addr.add]
    case c2 => intro u hu; simp at hu; subst hu; rfl
    case c3 => unfold maxLen; omega
    case c4 => omega
    case c5 => simp; omega
    intro v' w4 hown' hgrow hnil hat
    have hout : ∀ g, u7.ownBlock = some g → g ∉ foot S Bw Q3 := fun g hg hm => by
      rcases h7 g hm with h | h
      · exact h5 g hg h
      · have := hlt4 g hg; omega
    have hsnd := (k1.below (bl_al (.cells #[.int .i64 v] 3) (bl_refl w3))).grown hgrow (fun g hg e => hout g e.symm hg)
    have hbx := bx_grown ((bx_trX h2 k2 h3).step (bl_al (.cells #[.int .i64 v] 3) (bl_refl w3))) hgrow hge4 (fun g hg => (hft.out g hg).2)
    have hnew : ∀ g ∈ foot S Bw Q3, g ∈ foot S Bw Q ∨ w.heap.size ≤ g := fun g hg => by
      rcases h7 g hg with h | h
      · exact h3 g h
      · exact .inr (by omega)
    have hdis : ∀ g, v'.ownBlock = some g → g ∉ foot S Bw Q3 := fun g hg hm => by
      rcases hat with e | e
      · exact hout g (e ▸ hg) hm
      · rw [e] at hg
        simp at hg
        have := (hf3.out g hm).2
        omega
    clear hat hnil hgrow hout hown3 hlt4 hge4 k2 k3 hf3
    go_wp2
    go_roundw
    case rel => exact ⟨t + 1, by omega, by go_num, Q3, hsnd, hbx, hnew, by rw [hs1]; simpa using hown', hdis⟩
    case measure => simp [intOf]; omega
end Go.Proofs.YtdlmkblmljhbfaaDoor
