/-
  Walks: a sender's run; what is carried at each tick.
  Walks: what is carried by priority.
  Walks: the smallest failures that stop a function, of a valid net.
  Plain laws of senders: what one tick does, how much is sent in a window.
  Plain law: a stream that is not late is never late, whatever the starts are; if all start together, some message of it has the stream's response.
  Plain laws of responses: the iteration meets the least number at which the demand is met.
  Walks: the response of a stream.
-/
import Derived.Test.YtbdgblnccjpahaaGreatDoorVBusInTime1
import Derived.Test.YtbdgblnccjpahaaGreatDoorUT5
import Derived.Maps.AppendAt
import Derived.Laws.EntriesVeiled
import Derived.Test.YtbdgblnccjpahaaGreatDoorUT6
set_option linter.unusedSimpArgs false
set_option linter.unusedVariables false
namespace Go.Proofs.YtbdgblnccjpahaaGreatDoor
open Go.RowKit Go.Shelf
attribute [local go_sem] bl_al bl_drew bl_drewN bl_refl bx_al bx_drew bx_drewN bx_refl
set_option maxRecDepth 20000
theorem St.zero (n : Nat) : St 0 n ss0 := ⟨fun _ _ => rfl, fun _ => Nat.le_refl _, fun _ m hm => by simp [ss0] at hm, fun _ => by simp [ss0]⟩
theorem St.step {ch : (Nat → List (Int × Int)) → Int} {l : List Sm} {st : List Int} {t : Nat} {s : Ss} (ho : Opn l st) (h : St t l.length s) : St (t + 1) l.length (carS ch l st t s).1 := by
  have hm := fun i => sendS_msg ho h i
  have hn : ∀ i, l.length ≤ i → sendS l st t s.q i = [] := fun i hi => by rw [sendS_none hi]; exact h.none i hi
  have hw := h.wor
  have hbase : St (t + 1) l.length ⟨sendS l st t s.q, s.wo⟩ := ⟨hn, fun i => (hm i).1, fun i m hmm => by have := (hm i).2 m hmm; omega, fun i => by have := hw i; dsimp only; omega⟩
  unfold carS
  generalize sendS l st t s.q = q at *
  split
  · exact hbase
  · generalize (ch q).toNat = i at *
    split
    · exact hbase
    · rename_i a k r hq
      have hin : ¬ l.length ≤ i := fun hi => by rw [hn i hi] at hq; cases hq
      have hmi := hm i
      rw [hq] at hmi
      have hak := hmi.2 (a, k) (by simp)
      have hr := fun m (hmr : m ∈ r) => hmi.2 m (by simp [hmr])
      have hlr := hmi.1
      simp only [List.length_cons] at hlr hak
      split
      · rename_i hk
        refine ⟨fun j hj => ?_, fun j => ?_, fun j m hj => ?_, fun j => ?_⟩
        · have : j ≠ i := fun e => hin (e ▸ hj)
          simp only [upF, if_neg this]
          exact hn j hj
        · simp only [upF]
          split
          · omega
          · exact (hm j).1
        · simp only [upF] at hj
          split at hj
          · have := hr m hj; omega
          · have := (hm j).2 m hj; omega
        · simp only [upF]
          have h1 := hw i
          have h2 := hw j
          split <;> omega
      · rename_i hk
        refine ⟨fun j hj => ?_, fun j => ?_, fun j m hj => ?_, fun j => by have := hw j; dsimp only; omega⟩
        · have : j ≠ i := fun e => hin (e ▸ hj)
          simp only [upF, if_neg this]
          exact hn j hj
        · simp only [upF]
          split
          · simp only [List.length_cons]; omega
          · exact (hm j).1
        · simp only [upF] at hj
          split at hj
          · rcases List.mem_cons.1 hj with rfl | hj
            · simp only; omega
            · have := hr m hj; omega
          · have := (hm j).2 m hj; omega
theorem St.run {ch : (Nat → List (Int × Int)) → Int} {l : List Sm} {st : List Int} (ho : Opn l st) : ∀ t : Nat, St t l.length (runS ch l st t).1
  | 0 => St.zero _
  | t + 1 => St.step ho (St.run ho t)
theorem runS_len (ch : (Nat → List (Int × Int)) → Int) (l : List Sm) (st : List Int) : ∀ t : Nat, (runS ch l st t).2.length = t
  | 0 => rfl
  | t + 1 => by simp [runS, runS_len ch l st t]
theorem own_keep {b n : Nat} {X : List Nat} {A B : World} {e : TypeId} {size : Nat} {v : Value} {xs : List Value} (h : A.ownsRow b e size v n xs) (hk : BX X A B) (hX : ∀ g, v.ownBlock = some g → g ∉ X) : B.ownsRow b e size v n xs := by
  refine ⟨h.1, ?_⟩
  rcases h.2 with h2 | ⟨g, cap, cur, e1, e2, e3, e4⟩
  · exact .inl h2
  · refine .inr ⟨g, cap, cur, e1, e2, (hk.block g (Array.getElem?_eq_some_iff.1 e3).1 (hX g (by rw [e1]; rfl))).trans e3, e4⟩
theorem own_ltR {b n : Nat} {A : World} {e : TypeId} {size : Nat} {v : Value} {xs : List Value} (h : A.ownsRow b e size v n xs) : ∀ g, v.ownBlock = some g → g < A.heap.size := fun k hk => by
  rcases h.2 with ⟨e0, _⟩ | ⟨g, cap, cur, e1, e2, e3, e4⟩
  · rw [e0] at hk; simp [Value.ownBlock] at hk
  · rw [e1] at hk; simp [Value.ownBlock] at hk; subst hk; exact (Array.getElem?_eq_some_iff.1 e3).1
theorem bx_grown {X : List Nat} {w A B : World} {row : Option Nat} (h : BX X w A) (hg : A.grownBy B row) (hr : ∀ g, row = some g → w.heap.size ≤ g) (hX : ∀ g ∈ X, g < w.heap.size) : BX X w B :=
  ⟨hg.os.trans h.os, hg.tape.trans h.tape, hg.output.trans h.output, Nat.le_trans h.size hg.size, fun i hi hiX => (hg.block i (Nat.lt_of_lt_of_le hi h.size) (fun e => by have := hr i e.symm; omega)).trans (h.block i hi hiX), fun g hgX t cs hk => by
    obtain ⟨c1, k1, e1⟩ := h.shape g hgX t cs hk
    exact ⟨c1, (hg.block g k1.lt (fun e => by have := hr g e.symm; have := hX g hgX; omega)).trans k1, e1⟩⟩
theorem Snd.grown {b S Bw n : Nat} {vl vs : Value} {Q : QS} {s : Ss} {w w' : World} {row : Option Nat} (h : Snd b S Bw vl vs n Q s w) (hg : w.grownBy w' row) (hr : ∀ g ∈ foot S Bw Q, some g ≠ row) : Snd b S Bw vl vs n Q s w' := by
  have key : ∀ {g t cs}, Blk w g t cs → g ∈ foot S Bw Q → Blk w' g t cs := fun hk hm => (hg.block _ hk.lt (hr _ hm)).trans hk
  refine ⟨key h.blk (by simp [foot]), key h.wor (by simp [foot]), fun i hi => ?_, h.bS, h.bW, h.SW, h.dis, h.dS, h.dW⟩
  rcases h.que i hi with h1 | ⟨g, off, cs, e, h1, h2, h3⟩
  · exact .inl h1
  · exact .inr ⟨g, off, cs, e, h1, key h2 (foot_q hi (by rw [e]; simp [blA])), h3⟩
set_option maxHeartbeats 8000000 in
theorem c_run (fn : FuncId) (ch : (Nat → List (Int × Int)) → Int) (l : List Sm) (st : List Int) (T : Nat) (Al As : Option Addr) (cl cs S Bw : Nat) (Q : QS) (w0 w : World) (ho : Opn l st) (hT : T ≤ 400)
    (hw : Below w0.heap.size w0 w) (hl : Sl cSm 4 w0 Al l) (hst : Sl cI 1 w0 As st) (h : Snd w0.heap.size S Bw (.slice Al l.length cl) (.slice As st.length cs) l.length Q ss0 w)
    (he : Enters Tryz.prog fn) (hch : ∀ Q s w, Snd w0.heap.size S Bw (.slice Al l.length cl) (.slice As st.length cs) l.length Q s w → Calls Tryz.prog fn #[.pointer (some ⟨S, 0, none⟩)] w (Ret (.int .i64 (ch s.q)) w))
    (hcr : ∀ q, ch q = -1 ∨ ∃ i : Nat, i < 6 ∧ ch q = i ∧ q i ≠ []) :
    Calls Tryz.prog 68 #[.pointer (some ⟨S, 0, none⟩), .int .i64 T, .func (.func fn) #[.pointer (some ⟨S, 0, none⟩)] #[]] w
      (fun e w' => ∃ A c, e = .returned (.slice A T c) ∧ w'.ownsRow w.heap.size 3 1 (.slice A T c) T ((runS ch l st T).2.map (.int .i64)) ∧
        ∃ Q', Snd w0.heap.size S Bw (.slice Al l.length cl) (.slice As st.length cs) l.length Q' (runS ch l st T).1 w' ∧ BX (foot S Bw Q) w w') := by
  obtain ⟨i0, hi, hz0, hz1, hz2⟩ := info_parts infoI
  have hcar := Lib.hid fun (t : Nat) (ht : t < T) (Q' : QS) (W : World) (hb : Below w0.heap.size w0 W) (h' : Snd w0.heap.size S Bw (.slice Al l.length cl) (.slice As st.length cs) l.length Q' (runS ch l st t).1 W) =>
    c_carry fn ch l st t Al As cl cs S Bw Q' (runS ch l st t).1 w0 W ho (by omega) hb hl hst h' (St.run ho t) he hch hcr
  have hft := Lib.hid h.foot_ge
  have Hw := Lib.hid hw
  have H := Lib.hid h
  have hst1 := Lib.hid fun t => (show (runS ch l st (t + 1)).2 = (runS ch l st t).2 ++ [(carS ch l st t (runS ch l st t).1).2] from rfl)
  have hst2 := Lib.hid fun t : Nat => (show (runS ch l st (t + 1)).1 = (carS ch l st t (runS ch l st t).1).1 from rfl)
  clear hch hcr he hl hst ho hw h
  generalize l.length = n at *
  generalize st.length = m at *
  go_enter Tryz.func68, Tryz.ntmps68
  go_wp2
  go_loopw [7, 10] (fun o i wr => ∃ t : Nat, t ≤ T ∧ i = .int .i64 t ∧ ∃ Q', Snd w0.heap.size S Bw (.slice Al n cl) (.slice As m cs) n Q' (runS ch l st t).1 wr ∧ BX (foot S Bw Q) w wr ∧ (∀ g ∈ foot S Bw Q', g ∈ foot S Bw Q ∨ w.heap.size ≤ g) ∧
    wr.ownsRow w.heap.size 3 1 o t ((runS ch l st t).2.map (.int .i64)) ∧ ∀ g, o.ownBlock = some g → g ∉ foot S Bw Q') (fun _ i _ => T - (intOf i).toNat)
  case atStart => exact ⟨0, Nat.zero_le _, rfl, Q, H.out, bx_refl _ _, fun g hg => .inl hg, World.ownsRow_nil _ _ _ _, fun g hg => by simp [Value.ownBlock] at hg⟩
  case round =>
    obtain ⟨t, ht, rfl, Q', h1, h2, h3, h4, h5⟩ := hrel
    by_cases htT : t < T
    rotate_left
    · go_wp2
      go_ret
      have e : t = T := by omega
      subst e
      obtain ⟨A, c, rfl⟩ := own_slice h4
      exact ⟨A, c, rfl, h4, Q', h1, h2⟩
    have hbr := bx_below Hw.out h2 (fun x hx => (hft.out x hx).1)
    go_wp2_with fail
    refine (hcar.out t htT Q' wr hbr h1).mono ?_
    rintro e w3 ⟨rfl, Q3, k1, k2, k3⟩
    rw [← hst2.out t] at k1
    have hs1 := hst1.out t
    generalize (carS ch l st t (runS ch l st t).1).2 = v at *
    have hown3 := own_keep h4 k2 h5
    have hlt4 := own_ltR h4
    have hge4 := own_ge h4
    have h7 : ∀ g ∈ foot S Bw Q3, g ∈ foot S Bw Q' ∨ wr.heap.size ≤ g := foot_new k3
    have hsz := h2.size
    have hsz2 := k2.size
    have hf3 := Lib.hid k1.foot_ge
    go_wp2_with (at_builtin; refine wpList_append_own_at _ rfl _ _ 23 rfl w.heap.size 3 i0 (.int .i64 0) 1 8 Tryz.underlying23 hi hz0 hz1 hz2 rfl (by decide) _ _ _ rfl (hown3.alloc _) ⟨w3.heap.size, 0, none⟩ 1 1 [.int .i64 v] rfl rfl ?c1 ?c2 ?c3 ?c4 ?c5 ?_)
    case c1 =>
      intro j u hj
      match j, hj with
      | 0, hj => simp at hj; subst hj; simp [Addr.add]
    case c2 => intro u hu; simp at hu; subst hu; rfl
    case c3 => unfold maxLen; omega
    case c4 => omega
    case c5 => simp; omega
    intro v' w4 hown' hgrow hnil hat
    have hout : ∀ g, u7.ownBlock = some g → g ∉ foot S Bw Q3 := fun g hg hm => by
      rcases h7 g hm with h | h
      · exact h5 g hg h
      · have := hlt4 g hg; omega
    have hsnd := (k1.below (bl_al (.cells #[.int .i64 v] 3) (bl_refl w3))).grown hgrow (fun g hg e => hout g e.symm hg)
    have hbx := bx_grown ((bx_trX h2 k2 h3).step (bl_al (.cells #[.int .i64 v] 3) (bl_refl w3))) hgrow hge4 (fun g hg => (hft.out g hg).2)
    have hnew : ∀ g ∈ foot S Bw Q3, g ∈ foot S Bw Q ∨ w.heap.size ≤ g := fun g hg => by
      rcases h7 g hg with h | h
      · exact h3 g h
      · exact .inr (by omega)
    have hdis : ∀ g, v'.ownBlock = some g → g ∉ foot S Bw Q3 := fun g hg hm => by
      rcases hat with e | e
      · exact hout g (e ▸ hg) hm
      · rw [e] at hg
        simp at hg
        have := (hf3.out g hm).2
        omega
    clear hat hnil hgrow hout hown3 hlt4 hge4 k2 k3 hf3
    go_wp2
    go_roundw
    case rel => exact ⟨t + 1, by omega, by go_num, Q3, hsnd, hbx, hnew, by rw [hs1]; simpa using hown', hdis⟩
    case measure => simp [intOf]; omega
end Go.Proofs.YtbdgblnccjpahaaGreatDoor
namespace Go.Proofs.YtbdgblnccjpahaaGreatDoor
open Go.RowKit Go.Shelf
attribute [local go_sem] bl_al bl_drew bl_drewN bl_refl bx_al bx_drew bx_drewN bx_refl
set_option maxRecDepth 20000
theorem prioFrom_cr (q : Nat → List (Int × Int)) : ∀ n i, i + n ≤ 6 → prioFrom q n i = -1 ∨ ∃ j : Nat, j < 6 ∧ prioFrom q n i = j ∧ q j ≠ []
  | 0, _, _ => .inl rfl
  | n + 1, i, h => by
    unfold prioFrom
    split
    · exact prioFrom_cr q n (i + 1) (by omega)
    · rename_i h2
      exact .inr ⟨i, by omega, rfl, fun e => h2 (by rw [e]; rfl)⟩
theorem prioS_cr (q : Nat → List (Int × Int)) : prioS q = -1 ∨ ∃ i : Nat, i < 6 ∧ prioS q = i ∧ q i ≠ [] := prioFrom_cr q 6 0 (by decide)
theorem smsErr_ok {l : List Sm} (h : smsErr l = 0) : 0 < l.length ∧ l.length ≤ 6 ∧ ∀ x ∈ l, 1 ≤ x.per ∧ x.per ≤ 60 ∧ 1 ≤ x.dl ∧ x.dl ≤ x.per ∧ 1 ≤ x.len ∧ x.len ≤ 20 := by
  by_cases h6 : lenE l.length 6 = 0
  · rw [smsErr, smsChk, if_pos h6] at h
    obtain ⟨b1, b2⟩ := (fst_cons _ _).1 h6
    obtain ⟨b3, -⟩ := (fst_cons _ _).1 b2
    have c1 := (unl_zero (by decide)).1 b1
    have c2 := (unl_zero (by decide)).1 b3
    simp at c1 c2
    refine ⟨c1, by omega, fun x hx => ?_⟩
    obtain ⟨k, hk⟩ := List.mem_iff_getElem?.1 hx
    have := eachS_ok _ l 0 h k x hk
    obtain ⟨-, d2⟩ := (fst_cons _ _).1 this
    obtain ⟨-, d3⟩ := (fst_cons _ _).1 d2
    obtain ⟨d4, -⟩ := (fst_cons _ _).1 d3
    have := (unl_zero (by decide)).1 d4
    simp [inR] at this
    omega
  · rw [smsErr, smsChk, if_neg h6] at h
    exact absurd h h6
theorem stE_ok {l : List Sm} {st : List Int} {t : Int} (h : stE l st t = 0) : Opn l st ∧ 0 ≤ t ∧ t ≤ 400 := by
  obtain ⟨a1, a2⟩ := (fst_cons _ _).1 h
  obtain ⟨a3, -⟩ := (fst_cons _ _).1 a2
  have ht := (unl_zero (by decide)).1 a3
  simp [inR] at ht
  change stE2 l st = 0 at a1
  have e1 : stE1 l st = 0 := by
    by_cases h0 : stE1 l st = 0
    · exact h0
    · rw [stE2, if_neg h0] at a1; exact absurd a1 h0
  rw [stE2, if_pos e1] at a1
  obtain ⟨b1, b2⟩ := (fst_cons _ _).1 e1
  obtain ⟨b3, -⟩ := (fst_cons _ _).1 b2
  have b4 := (unl_zero (by decide)).1 b3
  simp at b4
  obtain ⟨c1, c2, c3⟩ := smsErr_ok b1
  refine ⟨⟨c2, by omega, c3, fun a ha => ?_⟩, ht⟩
  obtain ⟨k, hk⟩ := List.mem_iff_getElem?.1 ha
  have := eachS_ok _ st 0 a1 k a hk
  have := (unl_zero (by decide)).1 this
  simp [inR] at this
  omega
set_option maxHeartbeats 8000000 in
theorem c_CarriedBy (l : List Sm) (st : List Int) (t : Int) (Al As : Option Addr) (cl cs : Nat) (w : World) (hl : SmIn l Al cl w) (hs : Sl cI 1 w As st) (hsl : st.length ≤ 100000) :
    Calls Tryz.prog 22 #[.slice Al l.length cl, .slice As st.length cs, .int .i64 t] w (fun e w' => Below w.heap.size w w' ∧
      ((stE l st t ≠ 0 ∧ e = .returned (.tuple #[.slice none 0 0, .int .i64 (stE l st t)])) ∨
        (stE l st t = 0 ∧ ∃ A c, e = .returned (.tuple #[.slice A t.toNat c, .int .i64 0]) ∧ w'.ownsRow w.heap.size 3 1 (.slice A t.toNat c) t.toNat ((runS prioS l st t.toNat).2.map (.int .i64))))) := by
  have hop := Lib.hid (c_openSender l st t Al As cl cs w hl hs hsl)
  have hrun := Lib.hid fun (S Bw T : Nat) (W : World) (h0 : stE l st t = 0) (hT : t = T) (hb : Below w.heap.size w W) (h : Snd w.heap.size S Bw (.slice Al l.length cl) (.slice As st.length cs) l.length ⟨fun _ => none, fun _ => 0⟩ ss0 W) =>
    (c_run 69 prioS l st T Al As cl cs S Bw ⟨fun _ => none, fun _ => 0⟩ w W (stE_ok h0).1 (by have := (stE_ok h0).2; omega) hb hl.sl hs h (enters_of Tryz.func69 (by kernel_rfl) rfl)
      (fun Q s W' h' => c_byPriority h') prioS_cr)
  have hok := Lib.hid fun h0 => (stE_ok (l := l) (st := st) (t := t) h0).2
  clear hl hs
  generalize stE l st t = e3 at *
  generalize l.length = n at *
  generalize st.length = m at *
  go_enter Tryz.func22, Tryz.ntmps22
  go_wp2_with fail
  refine hop.out.mono ?_
  rintro e w1 ⟨hb1, ⟨h0, rfl⟩ | ⟨h0, S, Bw, rfl, hS⟩⟩
  · clear hrun hok hop
    go_wp2
    go_ret2
    exact ⟨hb1, .inl ⟨h0, rfl⟩⟩
  · subst h0
    obtain ⟨ht0, -⟩ := hok.out rfl
    obtain ⟨T, rfl⟩ : ∃ T : Nat, t = T := ⟨t.toNat, by omega⟩
    have hr := Lib.hid (hrun.out S Bw T w1 rfl rfl hb1 hS)
    have hft := Lib.hid hS.foot_ge
    clear hop hrun hok hS
    go_wp2_with fail
    refine hr.out.mono ?_
    rintro e w2 ⟨A, c, rfl, hown, Q', -, hx⟩
    have hb2 := bx_below hb1 hx (fun x hx => (hft.out x hx).1)
    replace hown := own_mono hb1.size hown
    clear hr hft hx
    go_wp2
    go_ret2
    exact ⟨hb2, A, c, rfl, hown⟩
end Go.Proofs.YtbdgblnccjpahaaGreatDoor
namespace Go.Proofs.YtbdgblnccjpahaaGreatDoor
open Go.RowKit Go.Shelf
attribute [local go_sem] bl_al bl_drew bl_drewN bl_refl bx_al bx_drew bx_drewN bx_refl
set_option maxRecDepth 20000
end Go.Proofs.YtbdgblnccjpahaaGreatDoor
namespace Go.Proofs.YtbdgblnccjpahaaGreatDoor
def wt (m : Nat → Int) : Nat → Int
  | 0 => 0
  | k + 1 => wt m k + m k
theorem wt_congr {f g : Nat → Int} : ∀ {n : Nat}, (∀ k, k < n → f k = g k) → wt f n = wt g n
  | 0, _ => rfl
  | n + 1, h => by rw [wt, wt, wt_congr (n := n) fun k hk => h k (by omega), h n (by omega)]
theorem wt_add (f g : Nat → Int) : ∀ n : Nat, wt (fun k => f k + g k) n = wt f n + wt g n
  | 0 => rfl
  | n + 1 => by
    rw [wt, wt, wt, wt_add f g n]
    omega
theorem wt_le {f g : Nat → Int} : ∀ {n : Nat}, (∀ k, k < n → f k ≤ g k) → wt f n ≤ wt g n
  | 0, _ => Int.le_refl _
  | n + 1, h => by
    rw [wt, wt]
    have := wt_le (n := n) fun k hk => h k (by omega)
    have := h n (by omega)
    omega
theorem wt_zero : ∀ n : Nat, wt (fun _ => 0) n = 0
  | 0 => rfl
  | n + 1 => by rw [wt, wt_zero n]; rfl
theorem wt_nonneg {f : Nat → Int} {n : Nat} (h : ∀ k, k < n → 0 ≤ f k) : 0 ≤ wt f n := by
  have := wt_le h
  rwa [wt_zero] at this
/-- One of them differs. -/
theorem wt_up {f g : Nat → Int} {i : Nat} (h : ∀ k, k ≠ i → f k = g k) : ∀ n : Nat, wt f n = wt g n + if i < n then f i - g i else 0
  | 0 => by simp [wt]
  | n + 1 => by
    rw [wt, wt, wt_up h n]
    by_cases e : n = i
    · subst e
      simp
      omega
    · rw [h n e]
      by_cases hi : i < n
      · rw [if_pos hi, if_pos (by omega)]
        omega
      · rw [if_neg hi, if_neg (by omega)]
        omega
theorem wt_pos {f : Nat → Int} : ∀ {n : Nat}, (∀ k, k < n → 0 ≤ f k) → wt f n = 0 → ∀ k, k < n → f k = 0
  | 0, _, _, k, hk => by omega
  | n + 1, h, h0, k, hk => by
    rw [wt] at h0
    have h1 := wt_nonneg (f := f) (n := n) fun k hk => h k (by omega)
    have h2 := h n (by omega)
    by_cases e : k = n
    · subst e
      omega
    · exact wt_pos (n := n) (fun k hk => h k (by omega)) (by omega) k (by omega)

def sumL : List (Int × Int) → Int
  | [] => 0
  | x :: l => x.2 + sumL l
theorem sumL_app : ∀ a b : List (Int × Int), sumL (a ++ b) = sumL a + sumL b
  | [], b => by simp [sumL]
  | x :: a, b => by
    rw [List.cons_append, sumL, sumL, sumL_app a b]
    omega
theorem sumL_nonneg : ∀ {l : List (Int × Int)}, (∀ x ∈ l, 1 ≤ x.2) → 0 ≤ sumL l
  | [], _ => Int.le_refl _
  | x :: l, h => by
    have := h x (by simp)
    have := sumL_nonneg (l := l) fun y hy => h y (by simp [hy])
    rw [sumL]
    omega
theorem sumL_zero {l : List (Int × Int)} (h : ∀ x ∈ l, 1 ≤ x.2) (h0 : sumL l = 0) : l = [] := by
  cases l with
  | nil => rfl
  | cons x l =>
    have := h x (by simp)
    have := sumL_nonneg (l := l) fun y hy => h y (by simp [hy])
    rw [sumL] at h0
    omega
theorem upF_same {α : Type} (f : Nat → α) (i : Nat) (v : α) : upF f i v i = v := by simp [upF]
theorem upF_other {α : Type} (f : Nat → α) {i j : Nat} (v : α) (h : j ≠ i) : upF f i v j = f j := by simp [upF, h]

theorem prioFrom_spec (q : Nat → List (Int × Int)) : ∀ n i : Nat, (prioFrom q n i = -1 ∧ ∀ k, i ≤ k → k < i + n → q k = []) ∨ ∃ j : Nat, prioFrom q n i = j ∧ i ≤ j ∧ j < i + n ∧ q j ≠ [] ∧ ∀ k, i ≤ k → k < j → q k = []
  | 0, i => .inl ⟨rfl, fun k h1 h2 => by omega⟩
  | n + 1, i => by
    unfold prioFrom
    cases hq : q i with
    | nil =>
      rw [if_pos (by simp)]
      rcases prioFrom_spec q n (i + 1) with ⟨h1, h2⟩ | ⟨j, h1, h2, h3, h4, h5⟩
      · refine .inl ⟨h1, fun k h3 h4 => ?_⟩
        by_cases e : k = i
        · rw [e, hq]
        · exact h2 k (by omega) (by omega)
      · refine .inr ⟨j, h1, by omega, by omega, h4, fun k h6 h7 => ?_⟩
        by_cases e : k = i
        · rw [e, hq]
        · exact h5 k (by omega) h7
    | cons x r =>
      rw [if_neg (by simp)]
      exact .inr ⟨i, rfl, Nat.le_refl _, by omega, by simp [hq], fun k h1 h2 => by omega⟩
theorem prio_spec (q : Nat → List (Int × Int)) : (prioS q = -1 ∧ ∀ k, k < 6 → q k = []) ∨ ∃ j : Nat, prioS q = j ∧ j < 6 ∧ q j ≠ [] ∧ ∀ k, k < j → q k = [] := by
  rcases prioFrom_spec q 6 0 with ⟨h1, h2⟩ | ⟨j, h1, _, h3, h4, h5⟩
  · exact .inl ⟨h1, fun k hk => h2 k (by omega) (by omega)⟩
  · exact .inr ⟨j, h1, by omega, h4, fun k hk => h5 k (by omega) hk⟩

/-- What a tick does to the messages, where some stream is chosen or none. -/
inductive Tick (t : Int) (q : Nat → List (Int × Int)) (wo : Nat → Int) : Ss → Int → Prop
  | idle : Tick t q wo ⟨q, wo⟩ (-1)
  | last (i : Nat) (a : Int) (r : List (Int × Int)) : q i = (a, 1) :: r → Tick t q wo ⟨upF q i r, upF wo i (max (wo i) (t - a + 1))⟩ i
  | more (i : Nat) (a k : Int) (r : List (Int × Int)) : q i = (a, k) :: r → k ≠ 1 → Tick t q wo ⟨upF q i ((a, k - 1) :: r), wo⟩ i
theorem car_tick {ch : (Nat → List (Int × Int)) → Int} (l : List Sm) (st : List Int) (t : Int) (s : Ss)
    (hch : ch (sendS l st t s.q) = -1 ∨ ∃ j : Nat, ch (sendS l st t s.q) = j ∧ sendS l st t s.q j ≠ []) :
    Tick t (sendS l st t s.q) s.wo (carS ch l st t s).1 (carS ch l st t s).2 ∧ (carS ch l st t s).2 = ch (sendS l st t s.q) := by
  unfold carS
  generalize sendS l st t s.q = q at *
  rcases hch with h | ⟨j, h, hq⟩
  · rw [if_pos h]
    exact ⟨.idle, h.symm⟩
  · rw [h, if_neg (by omega), Int.toNat_natCast]
    cases e : q j with
    | nil => exact absurd e hq
    | cons x r =>
      obtain ⟨a, k⟩ := x
      dsimp only
      by_cases hk : k - 1 = 0
      · rw [if_pos hk]
        have : k = 1 := by omega
        subst this
        exact ⟨.last j a r e, rfl⟩
      · rw [if_neg hk]
        exact ⟨.more j a k r e (by omega), rfl⟩
/-- All messages have frames left, and were sent before. -/
def GoodQ (t : Int) (q : Nat → List (Int × Int)) : Prop := ∀ i, ∀ x ∈ q i, 1 ≤ x.2 ∧ 0 ≤ x.1 ∧ x.1 < t
/-- Streams as they are asked for. -/
def OkSm (s : Sm) : Prop := 1 ≤ s.per ∧ s.per ≤ 60 ∧ 1 ≤ s.dl ∧ s.dl ≤ s.per ∧ 1 ≤ s.len ∧ s.len ≤ 20
theorem lenAt_ok {l : List Sm} (hl : ∀ s ∈ l, OkSm s) {st : List Int} {t : Int} {i : Nat} (h : relB l st t i = true) : 1 ≤ lenAt l i := by
  unfold relB at h
  unfold lenAt
  cases e : l[i]? with
  | none => rw [e] at h; cases h
  | some s => exact (hl s (List.mem_of_getElem? e)).2.2.2.2.1
theorem lenAt_nonneg {l : List Sm} (hl : ∀ s ∈ l, OkSm s) (i : Nat) : 0 ≤ lenAt l i := by
  unfold lenAt
  cases e : l[i]? with
  | none => exact Int.le_refl _
  | some s =>
    have := (hl s (List.mem_of_getElem? e)).2.2.2.2.1
    show 0 ≤ s.len
    omega
theorem good_send {l : List Sm} {st : List Int} {t : Int} {q : Nat → List (Int × Int)} (hl : ∀ s ∈ l, OkSm s) (ht : 0 ≤ t) (h : GoodQ t q) : GoodQ (t + 1) (sendS l st t q) := by
  intro i x hx
  unfold sendS at hx
  split at hx
  · rename_i hr
    rcases List.mem_append.1 hx with hx | hx
    · have := h i x hx
      omega
    · have hx := List.mem_singleton.1 hx
      subst hx
      exact ⟨lenAt_ok hl hr, ht, by show t < t + 1; omega⟩
  · have := h i x hx
    omega
theorem good_tick {t u : Int} {q : Nat → List (Int × Int)} {wo : Nat → Int} {s : Ss} {o : Int} (h : GoodQ u q) (hk : Tick t q wo s o) : GoodQ u s.q := by
  cases hk with
  | idle => exact h
  | last i a r e =>
    intro j x hx
    dsimp only at hx
    by_cases hj : j = i
    · subst hj
      rw [upF_same] at hx
      exact h j x (by rw [e]; simp [hx])
    · rw [upF_other _ _ hj] at hx
      exact h j x hx
  | more i a k r e hk1 =>
    intro j x hx
    dsimp only at hx
    by_cases hj : j = i
    · subst hj
      rw [upF_same] at hx
      have h0 := h j (a, k) (by rw [e]; simp)
      rcases List.mem_cons.1 hx with hx | hx
      · subst hx
        dsimp only at h0 ⊢
        omega
      · exact h j x (by rw [e]; simp [hx])
    · rw [upF_other _ _ hj] at hx
      exact h j x hx
/-- How much waits of the first streams. -/
def pd (q : Nat → List (Int × Int)) (n : Nat) : Int := wt (fun k => sumL (q k)) n
def arr (l : List Sm) (st : List Int) (t : Int) (k : Nat) : Int := if relB l st t k then lenAt l k else 0
theorem send_sum (l : List Sm) (st : List Int) (t : Int) (q : Nat → List (Int × Int)) (k : Nat) : sumL (sendS l st t q k) = sumL (q k) + arr l st t k := by
  unfold sendS arr
  split
  · rw [sumL_app]
    simp [sumL]
  · omega
theorem pd_send (l : List Sm) (st : List Int) (t : Int) (q : Nat → List (Int × Int)) (n : Nat) : pd (sendS l st t q) n = pd q n + wt (arr l st t) n := by
  unfold pd
  rw [wt_congr (g := fun k => sumL (q k) + arr l st t k) fun k _ => send_sum l st t q k, wt_add]
theorem good_nonneg {t : Int} {q : Nat → List (Int × Int)} (h : GoodQ t q) (k : Nat) : 0 ≤ sumL (q k) := sumL_nonneg fun x hx => (h k x hx).1
theorem pd_nonneg {t : Int} {q : Nat → List (Int × Int)} (h : GoodQ t q) (n : Nat) : 0 ≤ pd q n := wt_nonneg fun k _ => good_nonneg h k
theorem pd_empty {t : Int} {q : Nat → List (Int × Int)} (h : GoodQ t q) {n : Nat} (h0 : pd q n = 0) : ∀ k, k < n → q k = [] := fun k hk =>
  sumL_zero (fun x hx => (h k x hx).1) (wt_pos (fun k _ => good_nonneg h k) h0 k hk)
theorem sum_tick {t : Int} {q : Nat → List (Int × Int)} {wo : Nat → Int} {s : Ss} {o : Int} (hk : Tick t q wo s o) (n : Nat) : pd s.q n = pd q n - if 0 ≤ o ∧ o < n then 1 else 0 := by
  cases hk with
  | idle =>
    rw [if_neg (by omega)]
    show pd q n = pd q n - 0
    omega
  | last i a r e =>
    unfold pd
    rw [wt_up (f := fun k => sumL (upF q i r k)) (g := fun k => sumL (q k)) (i := i) (fun k hk => by simp [upF, hk]) n]
    simp only [upF_same, e, sumL]
    by_cases h : i < n
    · rw [if_pos h, if_pos (by omega)]
      omega
    · rw [if_neg h, if_neg (by omega)]
      omega
  | more i a k r e hk1 =>
    unfold pd
    rw [wt_up (f := fun j => sumL (upF q i ((a, k - 1) :: r) j)) (g := fun j => sumL (q j)) (i := i) (fun j hj => by simp [upF, hj]) n]
    simp only [upF_same, e, sumL]
    by_cases h : i < n
    · rw [if_pos h, if_pos (by omega)]
      omega
    · rw [if_neg h, if_neg (by omega)]
      omega
/-- By priorities a frame of the first streams is carried as soon as one waits. -/
theorem prio_tick {l : List Sm} {st : List Int} {t u : Int} {s : Ss} {n : Nat} (hn : n ≤ 6) (hg : GoodQ u (sendS l st t s.q)) :
    pd (carS prioS l st t s).1.q n = if pd (sendS l st t s.q) n = 0 then 0 else pd (sendS l st t s.q) n - 1 := by
  obtain ⟨hk, ho⟩ := car_tick l st t s (ch := prioS) (by
    rcases prio_spec (sendS l st t s.q) with ⟨h, _⟩ | ⟨j, h, _, h1, _⟩
    · exact .inl h
    · exact .inr ⟨j, h, h1⟩)
  rw [sum_tick hk n, ho]
  rcases prio_spec (sendS l st t s.q) with ⟨h, h1⟩ | ⟨j, h, h2, h1, h3⟩
  · rw [h, if_neg (by omega)]
    have : pd (sendS l st t s.q) n = 0 := by
      unfold pd
      rw [wt_congr (g := fun _ => 0) fun k hk => by rw [h1 k (by omega)]; rfl, wt_zero]
    rw [if_pos this, this]
    omega
  · rw [h]
    by_cases hj : j < n
    · rw [if_pos (by omega), if_neg]
      intro h0
      exact h1 (pd_empty hg h0 j hj)
    · rw [if_neg (by omega)]
      have : pd (sendS l st t s.q) n = 0 := by
        unfold pd
        rw [wt_congr (g := fun _ => 0) fun k hk => by rw [h3 k (by omega)]; rfl, wt_zero]
      rw [if_pos this, this]
      omega

/-! ### How much is sent in a window. -/
def cum (l : List Sm) (st : List Int) (k : Nat) : Nat → Int
  | 0 => 0
  | t + 1 => cum l st k t + arr l st t k
theorem div_next {y p : Int} (hp : 1 ≤ p) (hy : 0 ≤ y) : (y + 1) / p = y / p + if (y + 1) % p = 0 then 1 else 0 := by
  have h1 := Int.mul_ediv_add_emod y p
  have h2 := Int.emod_nonneg y (show p ≠ 0 by omega)
  have h3 := Int.emod_lt_of_pos y (show 0 < p by omega)
  have h4 := Int.mul_ediv_add_emod (y + 1) p
  have h5 := Int.emod_nonneg (y + 1) (show p ≠ 0 by omega)
  have h6 := Int.emod_lt_of_pos (y + 1) (show 0 < p by omega)
  generalize y / p = a at *
  generalize y % p = b at *
  generalize (y + 1) / p = c at *
  generalize (y + 1) % p = d at *
  have h7 : p * (c - a) = b + 1 - d := by rw [Int.mul_sub]; omega
  by_cases hd : d = 0
  · rw [if_pos hd]
    subst hd
    have : 0 < p * (c - a) := by omega
    have h8 : 0 < c - a := by
      rcases (by omega : 0 < (c - a) ∨ (c - a) ≤ 0) with h | h
      · exact h
      · have := Int.mul_le_mul_of_nonneg_left h (show 0 ≤ p by omega)
        omega
    have h9 : c - a < 2 := by
      rcases (by omega : (c - a) < 2 ∨ 2 ≤ (c - a)) with h | h
      · exact h
      · have := Int.mul_le_mul_of_nonneg_left h (show 0 ≤ p by omega)
        omega
    omega
  · rw [if_neg hd]
    have h8 : -1 < c - a := by
      rcases (by omega : (-1) < (c - a) ∨ (c - a) ≤ (-1)) with h | h
      · exact h
      · have := Int.mul_le_mul_of_nonneg_left h (show 0 ≤ p by omega)
        omega
    have h9 : c - a < 1 := by
      rcases (by omega : (c - a) < 1 ∨ 1 ≤ (c - a)) with h | h
      · exact h
      · have := Int.mul_le_mul_of_nonneg_left h (show 0 ≤ p by omega)
        omega
    omega
/-- How many messages a stream has sent before a tick. -/
def cntS (p a t : Int) : Int := if t ≤ a then 0 else (t - a - 1) / p + 1
theorem cnt_next {p a t : Int} (hp : 1 ≤ p) : cntS p a (t + 1) = cntS p a t + if (decide (a ≤ t) && decide ((t - a) % p = 0)) = true then 1 else 0 := by
  unfold cntS
  by_cases h1 : t + 1 ≤ a
  · rw [if_pos h1, if_pos (by omega), if_neg (by simp; omega)]
    rfl
  · rw [if_neg h1]
    by_cases h2 : t ≤ a
    · have : t = a := by omega
      subst this
      rw [if_pos h2, if_pos (by simp), show t + 1 - t - 1 = (0 : Int) by omega]
      simp
    · rw [if_neg h2]
      have := div_next hp (y := t - a - 1) (by omega)
      rw [show t - a - 1 + 1 = t - a by omega] at this
      rw [show t + 1 - a - 1 = t - a by omega, this]
      by_cases h3 : (t - a) % p = 0
      · rw [if_pos h3, if_pos (by simp [h3]; omega)]
        try omega
      · rw [if_neg h3, if_neg (by simp [h3])]
        try omega
theorem cum_eq {l : List Sm} {st : List Int} {k : Nat} {s : Sm} {a : Int} (hs : l[k]? = some s) (ha : st[k]? = some a) (ha0 : 0 ≤ a) (hp : 1 ≤ s.per) : ∀ t : Nat, cum l st k t = s.len * cntS s.per a t
  | 0 => by
    unfold cum cntS
    rw [if_pos (by simpa using ha0), Int.mul_zero]
  | t + 1 => by
    rw [cum, cum_eq hs ha ha0 hp t, show ((t + 1 : Nat) : Int) = (t : Int) + 1 by omega, cnt_next hp, Int.mul_add]
    unfold arr relB lenAt
    rw [hs, ha]
    dsimp only
    split <;> simp
theorem cnt_win {p a t r : Int} (hp : 1 ≤ p) (hr : 0 ≤ r) : cntS p a (t + r) - cntS p a t ≤ (r + p - 1) / p := by
  have mono : ∀ {x y : Int}, x ≤ y → x / p ≤ y / p := fun h => Int.ediv_le_ediv (by omega) h
  have plus : ∀ x : Int, x / p + 1 = (x + p) / p := fun x => (Int.add_ediv_of_dvd_right (Int.dvd_refl p) |>.trans (by rw [Int.ediv_self (by omega)])).symm
  unfold cntS
  by_cases h2 : t ≤ a
  · rw [if_pos h2]
    by_cases h1 : t + r ≤ a
    · rw [if_pos h1]
      have : 0 / p ≤ (r + p - 1) / p := mono (by omega)
      rw [Int.zero_ediv] at this
      omega
    · rw [if_neg h1, plus]
      have := mono (show t + r - a - 1 + p ≤ r + p - 1 by omega)
      omega
  · rw [if_neg h2, if_neg (by omega)]
    generalize hx : t - a - 1 = x
    rw [show t + r - a - 1 = x + r by omega]
    have h1 := Int.mul_ediv_add_emod x p
    have h3 := Int.emod_lt_of_pos x (show 0 < p by omega)
    have h4 : (x + r) / p ≤ (p * (x / p) + (r + p - 1)) / p := mono (by omega)
    rw [Int.add_comm (p * (x / p)), Int.add_mul_ediv_left _ _ (show p ≠ 0 by omega)] at h4
    omega
theorem cum_none {l : List Sm} {st : List Int} {k : Nat} (h : l[k]? = none) : ∀ t : Nat, cum l st k t = 0
  | 0 => rfl
  | t + 1 => by
    rw [cum, cum_none h t]
    unfold arr relB
    rw [h]
    rfl
def perAt (l : List Sm) (i : Nat) : Int := match l[i]? with
  | some s => s.per
  | none => 1
theorem cum_win {l : List Sm} {st : List Int} (hl : ∀ s ∈ l, OkSm s) (hst : st.length = l.length) (h0 : ∀ a ∈ st, 0 ≤ a) (k t r : Nat) : cum l st k (t + r) - cum l st k t ≤ lenAt l k * (((r : Int) + perAt l k - 1) / perAt l k) := by
  cases e : l[k]? with
  | none =>
    rw [cum_none e, cum_none e]
    unfold lenAt
    rw [e]
    simp
  | some s =>
    have hk := (List.getElem?_eq_some_iff.1 e).1
    have ea : st[k]? = some (st[k]'(by omega)) := List.getElem?_eq_getElem _
    have hs := hl s (List.mem_of_getElem? e)
    rw [cum_eq e ea (h0 _ (List.getElem_mem _)) hs.1, cum_eq e ea (h0 _ (List.getElem_mem _)) hs.1, ← Int.mul_sub]
    unfold lenAt perAt
    rw [e]
    refine Int.mul_le_mul_of_nonneg_left ?_ (by have := hs.2.2.2.2.1; show 0 ≤ s.len; omega)
    have := cnt_win (p := s.per) (a := st[k]'(by omega)) (t := t) (r := r) hs.1 (by omega)
    rw [show ((t + r : Nat) : Int) = (t : Int) + r by omega]
    exact this
end Go.Proofs.YtbdgblnccjpahaaGreatDoor
namespace Go.Proofs.YtbdgblnccjpahaaGreatDoor
/-- The demand of the streams ahead. -/
def fF (l : List Sm) (i : Nat) (r : Int) : Int := lenAt l i + wt (fun k => lenAt l k * ((r + perAt l k - 1) / perAt l k)) i
theorem foldl_wt (l : List Sm) (r b : Int) : ∀ n : Nat, n ≤ l.length → ((l.take n).map fun o => o.len * ((r + o.per - 1) / o.per)).foldl (· + ·) b = b + wt (fun k => lenAt l k * ((r + perAt l k - 1) / perAt l k)) n
  | 0, _ => by simp [wt]
  | n + 1, h => by
    have e : l[n]? = some (l[n]'(by omega)) := List.getElem?_eq_getElem _
    rw [List.take_add_one, e, List.map_append, List.foldl_append, foldl_wt l r b n (by omega), wt]
    unfold lenAt perAt
    rw [e]
    simp
    omega
theorem respF_eq {l : List Sm} {i : Nat} {s : Sm} (hs : l[i]? = some s) (r : Int) : respF (l.take i) s.len r = fF l i r := by
  have hi := (List.getElem?_eq_some_iff.1 hs).1
  unfold respF fF
  rw [foldl_wt l r s.len i (by omega)]
  congr 1
  unfold lenAt
  rw [hs]
theorem ceil_mono {p a b : Int} (hp : 1 ≤ p) (h : a ≤ b) : (a + p - 1) / p ≤ (b + p - 1) / p := Int.ediv_le_ediv (by omega) (by omega)
theorem perAt_ok {l : List Sm} (hl : ∀ s ∈ l, OkSm s) (k : Nat) : 1 ≤ perAt l k := by
  unfold perAt
  cases e : l[k]? with
  | none => exact Int.le_refl _
  | some s => exact (hl s (List.mem_of_getElem? e)).1
theorem ceil_one {p r : Int} (hr : 1 ≤ r) (h : r ≤ p) : (r + p - 1) / p = 1 := by
  have h1 : (r + p - 1) / p = (r - 1 + p * 1) / p := by congr 1; omega
  rw [h1, Int.add_mul_ediv_left _ _ (by omega), Int.ediv_eq_zero_of_lt (by omega) (by omega)]
  rfl
/-- How much is sent in a window by the first streams. -/
theorem win_le {l : List Sm} {st : List Int} (hl : ∀ s ∈ l, OkSm s) (hst : st.length = l.length) (h0 : ∀ a ∈ st, 0 ≤ a) {i : Nat} {s : Sm} (hs : l[i]? = some s) {r : Int} (hr : 1 ≤ r) (hrp : r ≤ s.per) (t d : Nat) (hd : (d : Int) ≤ r) :
    wt (fun k => cum l st k (t + d) - cum l st k t) (i + 1) ≤ fF l i r := by
  refine Int.le_trans (wt_le (g := fun k => lenAt l k * ((r + perAt l k - 1) / perAt l k)) fun k _ => ?_) ?_
  · exact Int.le_trans (cum_win hl hst h0 k t d) (Int.mul_le_mul_of_nonneg_left (ceil_mono (perAt_ok hl k) hd) (lenAt_nonneg hl k))
  · rw [wt]
    unfold fF
    have : perAt l i = s.per := by unfold perAt; rw [hs]
    rw [this, ceil_one hr hrp]
    omega
structure SOk (l : List Sm) (st : List Int) : Prop where
  sm : ∀ s ∈ l, OkSm s
  six : l.length ≤ 6
  len : st.length = l.length
  nn : ∀ a ∈ st, 0 ≤ a
theorem run_good {l : List Sm} {st : List Int} (h : SOk l st) : ∀ t : Nat, GoodQ t (runS prioS l st t).1.q
  | 0 => fun i x hx => by cases hx
  | t + 1 => by
    have hg := good_send (st := st) (t := t) h.sm (by omega) (run_good h t)
    obtain ⟨hk, _⟩ := car_tick l st t (runS prioS l st t).1 (ch := prioS) (by
      rcases prio_spec (sendS l st t (runS prioS l st t).1.q) with ⟨h, _⟩ | ⟨j, h, _, h1, _⟩
      · exact .inl h
      · exact .inr ⟨j, h, h1⟩)
    have := good_tick hg hk
    rw [show ((t + 1 : Nat) : Int) = (t : Int) + 1 by omega]
    exact this
/-- The busy window of the first streams that holds a tick. -/
structure Win (l : List Sm) (st : List Int) (i : Nat) (r : Int) (t : Nat) (s : Ss) : Prop where
  ex : ∃ t0 : Nat, t0 ≤ t ∧ ((t : Int) - t0 < r) ∧ pd s.q (i + 1) + ((t : Int) - t0) = wt (fun k => cum l st k t - cum l st k t0) (i + 1) ∧ ∀ k, k ≤ i → ∀ x ∈ s.q k, (t0 : Int) ≤ x.1
  wo : s.wo i ≤ r
theorem tick_sent {t : Int} {q : Nat → List (Int × Int)} {wo : Nat → Int} {s : Ss} {o : Int} (hk : Tick t q wo s o) {c : Int} {k : Nat} (h : ∀ x ∈ q k, c ≤ x.1) : ∀ x ∈ s.q k, c ≤ x.1 := by
  cases hk with
  | idle => exact h
  | last i a r e =>
    intro x hx
    dsimp only at hx
    by_cases hj : k = i
    · subst hj
      rw [upF_same] at hx
      exact h x (by rw [e]; simp [hx])
    · rw [upF_other _ _ hj] at hx
      exact h x hx
  | more i a n r e hk1 =>
    intro x hx
    dsimp only at hx
    by_cases hj : k = i
    · subst hj
      rw [upF_same] at hx
      rcases List.mem_cons.1 hx with hx | hx
      · subst hx
        exact h (a, n) (by rw [e]; simp)
      · exact h x (by rw [e]; simp [hx])
    · rw [upF_other _ _ hj] at hx
      exact h x hx
theorem tick_wo {t : Int} {q : Nat → List (Int × Int)} {wo : Nat → Int} {s : Ss} {o : Int} (hk : Tick t q wo s o) {c r : Int} {i : Nat} (h : ∀ x ∈ q i, c ≤ x.1) (hw : wo i ≤ r) (hc : t - c + 1 ≤ r) : s.wo i ≤ r := by
  cases hk with
  | idle => exact hw
  | last j a u e =>
    dsimp only
    by_cases hj : i = j
    · subst hj
      rw [upF_same]
      have := h (a, 1) (by rw [e]; simp)
      dsimp only at this
      omega
    · rw [upF_other _ _ hj]
      exact hw
  | more j a n u e hk1 => exact hw
theorem win_step {l : List Sm} {st : List Int} (h : SOk l st) {i : Nat} {s : Sm} (hs : l[i]? = some s) {r : Int} (hr : 1 ≤ r) (hrp : r ≤ s.per) (hf : fF l i r = r) (t : Nat) (hw : Win l st i r t (runS prioS l st t).1) : Win l st i r (t + 1) (runS prioS l st (t + 1)).1 := by
  have hi := (List.getElem?_eq_some_iff.1 hs).1
  have h6 := h.six
  have hg := good_send (st := st) (t := t) h.sm (by omega) (run_good h t)
  obtain ⟨hk, _⟩ := car_tick l st t (runS prioS l st t).1 (ch := prioS) (by
    rcases prio_spec (sendS l st t (runS prioS l st t).1.q) with ⟨h, _⟩ | ⟨j, h, _, h1, _⟩
    · exact .inl h
    · exact .inr ⟨j, h, h1⟩)
  have hg' := good_tick hg hk
  have hp := prio_tick (n := i + 1) (by omega) hg
  have hsd := pd_send l st t (runS prioS l st t).1.q (i + 1)
  show Win l st i r (t + 1) (carS prioS l st t (runS prioS l st t).1).1
  obtain ⟨⟨t0, h1, h2, h3, h4⟩, h5⟩ := hw
  generalize runS prioS l st t = R at *
  obtain ⟨s0, out⟩ := R
  dsimp only at *
  -- all that waits behind the sending was sent since t0
  have hsent : ∀ k, k ≤ i → ∀ x ∈ sendS l st t s0.q k, (t0 : Int) ≤ x.1 := fun k hk x hx => by
    unfold sendS at hx
    split at hx
    · rcases List.mem_append.1 hx with hx | hx
      · exact h4 k hk x hx
      · have hx := List.mem_singleton.1 hx
        subst hx
        show (t0 : Int) ≤ t
        omega
    · exact h4 k hk x hx
  have hwo : (carS prioS l st t s0).1.wo i ≤ r := tick_wo hk (hsent i (Nat.le_refl _)) h5 (by omega)
  have hcum : wt (fun k => cum l st k (t + 1) - cum l st k t0) (i + 1) = wt (fun k => cum l st k t - cum l st k t0) (i + 1) + wt (arr l st t) (i + 1) := by
    rw [← wt_add]
    refine wt_congr fun k _ => ?_
    show cum l st k t + arr l st t k - cum l st k t0 = _
    omega
  by_cases h0 : pd (carS prioS l st t s0).1.q (i + 1) = 0
  · refine ⟨⟨t + 1, Nat.le_refl _, by omega, ?_, fun k hk x hx => ?_⟩, hwo⟩
    · rw [h0, wt_congr (g := fun _ => 0) fun k _ => by omega, wt_zero]
      omega
    · rw [pd_empty hg' h0 k (by omega)] at hx
      cases hx
  · have hne : pd (sendS l st t s0.q) (i + 1) ≠ 0 := fun e => h0 (by rw [hp, if_pos e])
    rw [if_neg hne] at hp
    have hsum : pd (carS prioS l st t s0).1.q (i + 1) + (((t + 1 : Nat) : Int) - t0) = wt (fun k => cum l st k (t + 1) - cum l st k t0) (i + 1) := by
      rw [hcum, hp, hsd]
      omega
    refine ⟨⟨t0, by omega, ?_, hsum, fun k hk' => tick_sent hk (hsent k hk')⟩, hwo⟩
    have hlt : (((t + 1 : Nat) : Int) - t0) < r ∨ (((t + 1 : Nat) : Int) - t0) = r := by omega
    rcases hlt with hlt | heq
    · exact hlt
    · exfalso
      have := win_le h.sm h.len h.nn hs hr hrp t0 (t + 1 - t0) (by omega)
      rw [show t0 + (t + 1 - t0) = t + 1 by omega, ← hsum, hf] at this
      have := pd_nonneg hg' (i + 1)
      omega
theorem win_run {l : List Sm} {st : List Int} (h : SOk l st) {i : Nat} {s : Sm} (hs : l[i]? = some s) {r : Int} (hr : 1 ≤ r) (hrp : r ≤ s.per) (hf : fF l i r = r) : ∀ t : Nat, Win l st i r t (runS prioS l st t).1
  | 0 => by
    refine ⟨⟨0, Nat.le_refl _, by omega, ?_, fun k _ x hx => by cases hx⟩, by show (0 : Int) ≤ r; omega⟩
    have h1 : pd (runS prioS l st 0).1.q (i + 1) = 0 := by
      exact wt_zero (i + 1)
    rw [h1, wt_congr (g := fun _ => 0) fun k _ => by omega, wt_zero]
    rfl
  | t + 1 => win_step h hs hr hrp hf t (win_run h hs hr hrp hf t)
/-- NEVER LATE: whatever the starts are. -/
theorem never_late {l : List Sm} {st : List Int} (h : SOk l st) {i : Nat} {s : Sm} (hs : l[i]? = some s) {r : Int} (hr : 1 ≤ r) (hrp : r ≤ s.per) (hf : fF l i r = r) (t : Nat) : (runS prioS l st t).1.wo i ≤ r :=
  (win_run h hs hr hrp hf t).wo

/-! ### All together. -/
theorem wo_mono {ch : (Nat → List (Int × Int)) → Int} (l : List Sm) (st : List Int) (t : Nat) (i : Nat) : (runS ch l st t).1.wo i ≤ (runS ch l st (t + 1)).1.wo i := by
  show _ ≤ (carS ch l st t (runS ch l st t).1).1.wo i
  unfold carS
  split
  · exact Int.le_refl _
  · split
    · exact Int.le_refl _
    · split
      · unfold upF
        dsimp only
        split
        · rename_i h
          rw [h]
          omega
        · exact Int.le_refl _
      · exact Int.le_refl _
theorem wo_mono_le {ch : (Nat → List (Int × Int)) → Int} (l : List Sm) (st : List Int) (i : Nat) {t u : Nat} (h : t ≤ u) : (runS ch l st t).1.wo i ≤ (runS ch l st u).1.wo i := by
  induction u with
  | zero => rw [show t = 0 by omega]; exact Int.le_refl _
  | succ u ih =>
    by_cases e : t = u + 1
    · rw [e]; exact Int.le_refl _
    · exact Int.le_trans (ih (by omega)) (wo_mono l st u i)
end Go.Proofs.YtbdgblnccjpahaaGreatDoor
namespace Go.Proofs.YtbdgblnccjpahaaGreatDoor
theorem respTo_skip {f : Int → Int} : ∀ (n : Nat) (r : Int) (d : Nat), d ≤ n → (∀ x, r ≤ x → x < r + d → f x ≠ x) → respTo f n r = respTo f (n - d) (r + d)
  | n, r, 0, _, _ => by simp
  | 0, r, d + 1, h, _ => by omega
  | n + 1, r, d + 1, h, hx => by
    rw [respTo, if_neg (hx r (Int.le_refl _) (by omega)), respTo_skip n (r + 1) d (by omega) fun x h1 h2 => hx x (by omega) (by omega)]
    congr 1
    · omega
    · omega
theorem respTo_none {f : Int → Int} : ∀ (n : Nat) (r : Int), (∀ x, r ≤ x → x < r + n → f x ≠ x) → respTo f n r = none
  | 0, _, _ => rfl
  | n + 1, r, h => by
    rw [respTo, if_neg (h r (Int.le_refl _) (by omega))]
    exact respTo_none n (r + 1) fun x h1 h2 => h x (by omega) (by omega)
/-- One step of the iteration. -/
theorem resp_step {f : Int → Int} (hm : ∀ a b, a ≤ b → f a ≤ f b) {r : Int} (h1 : 1 ≤ r) (h2 : r ≤ 10000) (hr : r ≤ f r) (hne : f r ≠ r) (hb : f r ≤ 1000000000) :
    respTo f (10001 - r).toNat r = respTo f (10001 - f r).toNat (f r) ∧ f r ≤ f (f r) := by
  have hno : ∀ x, r ≤ x → x < f r → f x ≠ x := fun x h3 h4 e => by
    have := hm r x h3
    omega
  refine ⟨?_, hm _ _ hr⟩
  by_cases h : f r ≤ 10000
  · rw [respTo_skip (10001 - r).toNat r (f r - r).toNat (by omega) fun x h3 h4 => hno x h3 (by omega)]
    congr 1
    · omega
    · omega
  · rw [respTo_none _ r fun x h3 h4 => hno x h3 (by omega), show (10001 - f r).toNat = 0 by omega]
    rfl
theorem resp_hit {f : Int → Int} {r : Int} (h2 : r ≤ 10000) (h : f r = r) : respTo f (10001 - r).toNat r = some r := by
  obtain ⟨n, hn⟩ : ∃ n, (10001 - r).toNat = n + 1 := ⟨(10001 - r).toNat - 1, by omega⟩
  rw [hn, respTo, if_pos h]
theorem resp_end {f : Int → Int} {r : Int} (h2 : 10000 < r) : respTo f (10001 - r).toNat r = none := by
  rw [show (10001 - r).toNat = 0 by omega]
  rfl
def gF (l : List Sm) (b r : Int) (j : Nat) : Int := ((l.take j).map fun o => o.len * ((r + o.per - 1) / o.per)).foldl (· + ·) b
theorem gF_eq (l : List Sm) (b r : Int) {j : Nat} (h : j ≤ l.length) : gF l b r j = b + wt (fun k => lenAt l k * ((r + perAt l k - 1) / perAt l k)) j := foldl_wt l r b j h
theorem gF_next {l : List Sm} {b r : Int} {j : Nat} {x : Sm} (h : l[j]? = some x) : gF l b r (j + 1) = gF l b r j + x.len * ((r + x.per - 1) / x.per) := by
  have hj := (List.getElem?_eq_some_iff.1 h).1
  rw [gF_eq l b r (by omega), gF_eq l b r (by omega), wt]
  unfold lenAt perAt
  rw [h]
  dsimp only
  omega
theorem gF_all (l : List Sm) (b r : Int) : gF l b r l.length = respF l b r := by
  unfold gF respF
  rw [List.take_length]
theorem ceil_bd {p r : Int} (hp : 1 ≤ p) (h0 : 0 ≤ r) : 0 ≤ (r + p - 1) / p ∧ (r + p - 1) / p ≤ r + p - 1 := by
  refine ⟨Int.ediv_nonneg (by omega) (by omega), ?_⟩
  exact Int.ediv_le_self _ (by omega)
theorem term_bd {x : Sm} (hx : OkSm x) {r : Int} (h0 : 0 ≤ r) (h1 : r ≤ 10000) : 0 ≤ x.len * ((r + x.per - 1) / x.per) ∧ x.len * ((r + x.per - 1) / x.per) ≤ 300000 := by
  obtain ⟨h2, h3, h4, h5, h6, h7⟩ := hx
  have := ceil_bd h2 h0
  have ha := Int.mul_le_mul_of_nonneg_right h7 this.1
  have hb := Int.mul_nonneg (show 0 ≤ x.len by omega) this.1
  omega
theorem gF_bd {l : List Sm} (hl : ∀ o ∈ l, OkSm o) {b r : Int} (hb : 1 ≤ b) (hb2 : b ≤ 20) (h0 : 0 ≤ r) (h1 : r ≤ 10000) : ∀ j : Nat, j ≤ l.length → 1 ≤ gF l b r j ∧ gF l b r j ≤ 20 + j * 300000
  | 0, _ => by
    unfold gF
    simp
    omega
  | j + 1, h => by
    have e : l[j]? = some (l[j]'(by omega)) := List.getElem?_eq_getElem _
    rw [gF_next e]
    have := gF_bd hl hb hb2 h0 h1 j (by omega)
    have := term_bd (hl _ (List.getElem_mem (by omega : j < l.length))) h0 h1
    omega
theorem respF_mono {l : List Sm} (hl : ∀ o ∈ l, OkSm o) (b : Int) {x y : Int} (h : x ≤ y) : respF l b x ≤ respF l b y := by
  rw [← gF_all, ← gF_all, gF_eq l b x (Nat.le_refl _), gF_eq l b y (Nat.le_refl _)]
  have := wt_le (f := fun k => lenAt l k * ((x + perAt l k - 1) / perAt l k)) (g := fun k => lenAt l k * ((y + perAt l k - 1) / perAt l k)) (n := l.length) fun k _ =>
    Int.mul_le_mul_of_nonneg_left (ceil_mono (perAt_ok hl k) h) (lenAt_nonneg hl k)
  omega
end Go.Proofs.YtbdgblnccjpahaaGreatDoor
namespace Go.Proofs.YtbdgblnccjpahaaGreatDoor
open Go.RowKit Go.Shelf
attribute [local go_sem] bl_al bl_drew bl_drewN bl_refl bx_al bx_drew bx_drewN bx_refl
set_option maxRecDepth 20000
set_option maxHeartbeats 4000000 in
theorem c_response (l : List Sm) (s : Sm) (A : Option Addr) (c : Nat) (w : World) (hs : Sl cSm 4 w A l) (hl : l.length ≤ 1000) (hok : ∀ o ∈ l, OkSm o) (h1 : OkSm s) :
    Calls Tryz.prog 101 #[.slice A l.length c, vSm s] w (Ret (.tuple #[.int .i64 (respV (respS l s)).1, .bool (respV (respS l s)).2]) w) := by
  have Hs := Lib.hid hs
  clear hs
  have hmono := Lib.hid fun (x y : Int) (h : x ≤ y) => respF_mono hok s.len h
  have hbd := Lib.hid fun (r : Int) (h0 : 0 ≤ r) (h2 : r ≤ 10000) (j : Nat) (hj : j ≤ l.length) => gF_bd hok h1.2.2.2.2.1 h1.2.2.2.2.2 h0 h2 j hj
  have hall := Lib.hid fun r => gF_all l s.len r
  have hnext := Lib.hid fun (r : Int) (j : Nat) (x : Sm) (h : l[j]? = some x) => gF_next (b := s.len) (r := r) h
  have hg0 : Hid (∀ r, gF l s.len r 0 = s.len) := fun r => by simp [gF]
  have hok' := Lib.hid fun (j : Nat) (x : Sm) (h : l[j]? = some x) => hok x (List.mem_of_getElem? h)
  have hdef : Hid (respS l s = respTo (respF l s.len) (10001 - (1 : Int)).toNat 1) := rfl
  have h11 : Hid (1 ≤ respF l s.len 1) := by
    have := (hbd.out 1 (by omega) (by omega) l.length (Nat.le_refl _)).1
    rw [hall.out] at this
    exact this
  obtain ⟨nm, per, dl, ln⟩ := s
  obtain ⟨-, -, -, -, hl1, hl2⟩ := h1
  dsimp only at *
  generalize respS l ⟨nm, per, dl, ln⟩ = R at *
  obtain ⟨g, hg⟩ : ∃ g : Int → Nat → Int, ∀ r j, gF l ln r j = g r j := ⟨_, fun _ _ => rfl⟩
  obtain ⟨f, hf⟩ : ∃ f : Int → Int, ∀ r, respF l ln r = f r := ⟨_, fun _ => rfl⟩
  simp only [hg, hf] at hbd hall hnext hg0 h11 hmono
  have hff : respF l ln = f := funext hf
  rw [hff] at hdef
  clear hg hf hff hok
  obtain ⟨n, Hn⟩ : ∃ n, Hid (l.length = n) := ⟨_, rfl⟩
  rw [Hn.out] at hl hbd hall ⊢
  go_enter Tryz.func101, Tryz.ntmps101
  go_wp2
  go_loopw [6] (fun r wr => ∃ x : Int, r = .int .i64 x ∧ 1 ≤ x ∧ x ≤ 1000000000 ∧ x ≤ f x ∧ Below w.heap.size w wr ∧ Blk wr w.heap.size 43 #[.string nm, .int .i64 per, .int .i64 dl, .int .i64 ln] ∧ R = respTo f (10001 - x).toNat x) (fun r _ => (10001 - intOf r).toNat)
  case atStart => exact ⟨1, rfl, by omega, by omega, h11.out, bl_al _ (bl_refl _), Blk.new _ _ _, hdef.out⟩
  case round =>
    obtain ⟨x, rfl, hx1, hx2, hxf, hb0, k0, hR⟩ := hrel
    replace hR := Lib.hid hR
    have L0 := k0.cell
    by_cases hx : x ≤ 10000
    · have hbd' := Lib.hid fun j hj => hbd.out x (by omega) hx j hj
      have hq0 := k0.lt
      go_wp2
      obtain ⟨wo, rfl⟩ : ∃ wo : World, wo = wr := ⟨_, rfl⟩
      go_loopw [7, 16] (fun nx i wi => ∃ j : Nat, j ≤ n ∧ i = .int .i64 j ∧ nx = .int .i64 (g x j) ∧ Below w.heap.size w wi ∧ Blk wi w.heap.size 43 #[.string nm, .int .i64 per, .int .i64 dl, .int .i64 ln]) (fun _ i _ => n - (intOf i).toNat)
      case atStart => exact ⟨0, Nat.zero_le _, rfl, by rw [hg0.out], hb0, k0⟩
      case round =>
        clear L0 k0 hb0
        obtain ⟨j, hj, rfl, rfl, hb0, k0⟩ := hrel
        by_cases hjn : j < n
        · have hxj : l[j]? = some (l[j]'(by rw [Hn.out]; exact hjn)) := List.getElem?_eq_getElem _
          generalize l[j]'(by rw [Hn.out]; exact hjn) = o at hxj
          have ho := hok'.out j o hxj
          have hnx := Lib.hid (hnext.out x j o hxj)
          have hb1 := hbd'.out j (by omega)
          have hb2 := hbd'.out (j + 1) (by omega)
          have htm := term_bd ho (show 0 ≤ x by omega) hx
          obtain ⟨hp1, hp2, -, -, hp3, hp4⟩ := ho
          have hp0 : ¬ o.per = 0 := by omega
          have hcl := ceil_bd hp1 (show 0 ≤ x by omega)
          obtain ⟨b, off, rfl, hc⟩ := (Hs.out.below hb0) j o hxj
          have c0 := hc 0 _ rfl
          have c1 := hc 1 _ rfl
          have c2 := hc 2 _ rfl
          have c3 := hc 3 _ rfl
          simp only [Nat.add_zero] at c0
          clear hc hxj
          go_wp2
          first
          | apply absB2 (w0 := w) (g0 := w.heap.size) (g1 := wr.heap.size)
          | apply absTB2 (w0 := w) (g0 := w.heap.size) (g1 := wr.heap.size)
          | apply absIB2 (w0 := w) (g0 := w.heap.size) (g1 := wr.heap.size)
          iterate 3 (focus exact zL)
          try clear hb3
          try clear hb0
          try clear k0
          try clear k1
          intro wb hb0 k0 k1
          (try simp only [List.setIfInBounds_toArray, List.set_cons_zero, List.set_cons_succ] at k0 k1)
          have Lk0 := k0.later
          have Fk0 := k0.laterF
          have Qk0 := k0.lt
          have Lk1 := k1.later
          have Fk1 := k1.laterF
          have Qk1 := k1.lt
          refine wp_any (w0 := wb) ⟨[13], [], [some 20, some 21, some 22, some 23, some 24, some 25, some 26, some 27, some 28, some 29, some 30, some 31, some 32, none], [[], [], [1], [], [], [4], [3, 4, 5], [3, 4, 5, 6], [], [8], [3, 4, 5, 6, 7, 8, 9], [1, 2, 3, 4, 5, 6, 7, 8, 9, 10], [0, 1, 2, 3, 4, 5, 6, 7, 8, 9, 10, 11], [0, 1, 2, 3, 4, 5, 6, 7, 8, 9, 10, 11, 12]], [[], [], [1], [], [], [4], [3, 5], [6], [], [8], [7, 9], [2, 10], [0, 11], []]⟩ (fun _ => []) (by kernel_rfl) (by kernel_rfl) (by (exact zE)) (fun u => by simp only [putD, Act.put, List.setIfInBounds_toArray, List.set_cons_zero, List.set_cons_succ, Nat.zero_add, Nat.reduceAdd]; rfl) ?_
          apply RGW.on (i := 0) rfl
          · exact zG
          · intro γ u W hcur hd
            clear hd
            (try dsimp only)
            exact ⟨rfl, zS⟩
          · exact zC
          · rfl
          dsimp only [nA, cA]
          apply RGW.on (i := 1) rfl
          · exact zG
          · intro γ u W hcur hd
            clear hd
            (try dsimp only)
            exact ⟨rfl, zS⟩
          · exact zC
          · rfl
          dsimp only [nA, cA]
          apply RGW.on (i := 2) rfl
          · exact zG
          · intro γ u W hcur hd
            obtain ⟨⟨h1, -, -⟩, -⟩ := hd
            dsimp only at h1
            (try simp only [h1])
            exact ⟨rfl, zS⟩
          · exact zC
          · rfl
          dsimp only [nA, cA]
          apply RGW.on (i := 3) rfl
          · exact zG
          · intro γ u W hcur hd
            clear hd
            (try dsimp only)
            exact ⟨rfl, zS⟩
          · exact zC
          · rfl
          dsimp only [nA, cA]
          apply RGW.on (i := 4) rfl
          · exact zG
          · intro γ u W hcur hd
            clear hd
            (try dsimp only)
            exact ⟨rfl, zS⟩
          · exact zC
          · rfl
          dsimp only [nA, cA]
          apply RGW.on (i := 5) rfl
          · exact zG
          · intro γ u W hcur hd
            obtain ⟨⟨h4, -, -⟩, -⟩ := hd
            dsimp only at h4
            (try simp only [h4])
            exact ⟨rfl, zS⟩
          · exact zC
          · rfl
          dsimp only [nA, cA]
          apply RGW.on (i := 6) rfl
          · exact zG
          · intro γ u W hcur hd
            obtain ⟨⟨h3, -, -⟩, ⟨h5, -, -⟩, -⟩ := hd
            dsimp only at h3 h5
            (try simp only [h3, h5])
            exact ⟨rfl, zS⟩
          · exact zC
          · rfl
          dsimp only [nA, cA]
          apply RGW.on (i := 7) rfl
          · exact zG
          · intro γ u W hcur hd
            obtain ⟨⟨h6, -, -⟩, -⟩ := hd
            dsimp only at h6
            (try simp only [h6])
            exact ⟨rfl, zS⟩
          · exact zC
          · rfl
          dsimp only [nA, cA]
          apply RGW.on (i := 8) rfl
          · exact zG
          · intro γ u W hcur hd
            clear hd
            (try dsimp only)
            exact ⟨rfl, zS⟩
          · exact zC
          · rfl
          dsimp only [nA, cA]
          apply RGW.on (i := 9) rfl
          · exact zG
          · intro γ u W hcur hd
            obtain ⟨⟨h8, -, -⟩, -⟩ := hd
            dsimp only at h8
            (try simp only [h8])
            exact ⟨rfl, zS⟩
          · exact zC
          · rfl
          dsimp only [nA, cA]
          apply RGW.on (i := 10) rfl
          · exact zG
          · intro γ u W hcur hd
            obtain ⟨⟨h7, -, -⟩, ⟨h9, -, -⟩, -⟩ := hd
            dsimp only at h7 h9
            (try simp only [h7, h9])
            exact ⟨rfl, zS⟩
          · exact zC
          · rfl
          dsimp only [nA, cA]
          apply RGW.on (i := 11) rfl
          · exact zG
          · intro γ u W hcur hd
            obtain ⟨⟨h2, -, -⟩, ⟨h10, -, -⟩, -⟩ := hd
            dsimp only at h2 h10
            (try simp only [h2, h10])
            exact ⟨rfl, zS⟩
          · exact zC
          · rfl
          dsimp only [nA, cA]
          apply RGW.on (i := 12) rfl
          · exact zG
          · intro γ u W hcur hd
            obtain ⟨⟨h0, -, -⟩, ⟨h11, -, -⟩, -⟩ := hd
            dsimp only at h0 h11
            (try simp only [h0, h11])
            exact ⟨rfl, zS⟩
          · exact zC
          · rfl
          dsimp only [nA, cA]
          refine RGW.skip (i := 13) rfl rfl ?_
          dsimp only [nA, cA]
          refine RGW.fin (fun γ u wc hwc hd hdis => ?_)
          obtain ⟨⟨h0, -, -⟩, ⟨h1, -, -⟩, ⟨h2, -, -⟩, ⟨h3, -, -⟩, ⟨h4, -, -⟩, ⟨h5, -, -⟩, ⟨h6, -, -⟩, ⟨h7, -, -⟩, ⟨h8, -, -⟩, ⟨h9, -, -⟩, ⟨h10, -, -⟩, ⟨h11, -, -⟩, ⟨h12, -, -⟩, -⟩ := hd
          dsimp only at h0 h1 h2 h3 h4 h5 h6 h7 h8 h9 h10 h11 h12
          clear hdis
          simp only [h0, h1, h2, h3, h4, h5, h6, h7, h8, h9, h10, h11, h12]
          clear h12 h11 h10 h9 h8 h7 h6 h5 h4 h3 h2 h1 h0
          clear u
          simp only [List.map_cons, List.map_nil]
          apply PlanW.step
          · exact zG
          · rfl
          intro K hK
          go_simp
          refine hK.out _ _ (by with_reducible first | assumption | exact bx_refl _ _) (fun hcur => ?_)
          clear hK K
          try simp only [Act.put, List.setIfInBounds_toArray, List.set_cons_zero, List.set_cons_succ]
          refine PlanW.done ?_
          have hb3 := bl_tt hwc
          have hbw := hb3 _ hb0
          replace k0 := k0.below hwc
          clear Lk0 Lk1 Fk0 Fk1 hcl htm
          go_wp2
          go_roundw
          case rel => exact ⟨j + 1, by omega, by go_num, by rw [hnx.out], hbw, k0⟩
          case measure => simp [intOf]; omega
        · have hjn' : j = n := by omega
          subst hjn'
          have e := hall.out x
          have hb1 := (hbd'.out j (Nat.le_refl _)).2
          rw [e] at hb1
          replace e := Lib.hid e
          have hst := Lib.hid (fun (hne : f x ≠ x) => resp_step hmono.out hx1 hx hxf hne (by omega))
          have hhit := Lib.hid (fun (h : f x = x) => resp_hit hx h)
          rw [e.out]
          generalize f x = y at *
          by_cases hyx : y = x
          · subst hyx
            have hv : Hid (R = some y) := Lib.hid (by rw [hR.out]; exact hhit.out rfl)
            clear hst hhit
            go_wp2
            go_ret2
            exact ⟨by rw [hv.out] <;> rfl, hb0⟩
          · have hyx' : (y == x) = false := by simpa using hyx
            have h2 := hst.out hyx
            have hlty : x < y := by omega
            replace h2 := Lib.hid h2
            clear hst hhit hyx
            go_wp2
            go_roundw
            case rel => exact ⟨y, rfl, by omega, by omega, h2.out.2, hb0, k0, by rw [hR.out]; exact h2.out.1⟩
            case measure => simp [intOf]; omega
    · have hv : Hid (R = none) := Lib.hid (by rw [hR.out]; exact resp_end (by omega))
      go_wp2
      go_ret2
      exact ⟨by rw [hv.out] <;> rfl, hb0⟩
theorem sms_ok {l : List Sm} (h : smsErr l = 0) : 1 ≤ l.length ∧ l.length ≤ 6 ∧ ∀ s ∈ l, OkSm s ∧ nameB s.name = true := by
  unfold smsErr smsChk at h
  by_cases h0 : lenE l.length 6 = 0
  · rw [if_pos h0] at h
    unfold lenE at h0
    simp only [fst_cons, unl_zero (show (10 : Int) ≠ 0 by decide), unl_zero (show (8 : Int) ≠ 0 by decide), decide_eq_true_eq] at h0
    refine ⟨by omega, by omega, fun s hs => ?_⟩
    obtain ⟨j, hj, rfl⟩ := List.getElem_of_mem hs
    have := eachS_ok _ l 0 h j l[j] (List.getElem?_eq_getElem hj)
    unfold smErr at this
    simp only [fst_cons, unl_zero (show (4 : Int) ≠ 0 by decide), unl_zero (show (5 : Int) ≠ 0 by decide), unl_zero (show (2 : Int) ≠ 0 by decide), Bool.and_eq_true, inR_iff] at this
    obtain ⟨h1, -, ⟨h2, h3, h4⟩, -⟩ := this
    exact ⟨⟨h2.1, h2.2, h3.1, h3.2, h4.1, h4.2⟩, h1⟩
  · rw [if_neg h0] at h
    exact absurd h h0
/-- The response of a stream, and the error. -/
def respOf (l : List Sm) (i : Int) : Int × Int :=
  if fstE [smsErr l, unl (inR i 0 ((l.length : Int) - 1)) 6] = 0 then
    (match l[i.toNat]? with
    | some s => ((respV (respS (l.take i.toNat) s)).1, unl (respV (respS (l.take i.toNat) s)).2 12)
    | none => (0, 0))
  else (0, fstE [smsErr l, unl (inR i 0 ((l.length : Int) - 1)) 6])
set_option maxHeartbeats 4000000 in
theorem c_ResponseOf (l : List Sm) (i : Int) (A : Option Addr) (c : Nat) (w : World) (hn : SmIn l A c w) :
    Calls Tryz.prog 43 #[.slice A l.length c, .int .i64 i] w (Ret (.tuple #[.int .i64 (respOf l i).1, .int .i64 (respOf l i).2]) w) := by
  have hse := Lib.hid fun (W : World) (hb : Below w.heap.size w W) => c_streamsErr l A c W (hn.below hb)
  have hwe : Hid (fstE [smsErr l, unl (inR i 0 ((l.length : Int) - 1)) 6] = fstE [smsErr l, unl (inR i 0 ((l.length : Int) - 1)) 6]) := rfl
  have hno : Hid (fstE [smsErr l, unl (inR i 0 ((l.length : Int) - 1)) 6] ≠ 0 → respOf l i = (0, fstE [smsErr l, unl (inR i 0 ((l.length : Int) - 1)) 6])) := fun h => by rw [respOf, if_neg h]
  have hyes : Hid (fstE [smsErr l, unl (inR i 0 ((l.length : Int) - 1)) 6] = 0 → ∃ (k : Nat) (s : Sm), i = k ∧ k < l.length ∧ l[k]? = some s ∧ respOf l i = ((respV (respS (l.take k) s)).1, unl (respV (respS (l.take k) s)).2 12) ∧ OkSm s ∧ ∀ o ∈ l.take k, OkSm o) := fun h => by
    have h' := h
    simp only [fst_cons, unl_zero (show (6 : Int) ≠ 0 by decide), inR_iff] at h'
    obtain ⟨h1, ⟨h2, h3⟩, -⟩ := h'
    have hok := (sms_ok h1).2.2
    have hk : i.toNat < l.length := by omega
    refine ⟨i.toNat, l[i.toNat], by omega, hk, List.getElem?_eq_getElem hk, ?_, (hok _ (List.getElem_mem hk)).1, fun o ho => (hok o (List.mem_of_mem_take ho)).1⟩
    rw [respOf, if_pos h, List.getElem?_eq_getElem hk]
  have hcr := Lib.hid fun (k : Nat) (s : Sm) (W : World) (hb : Below w.heap.size w W) (hk : k < l.length) (h1 : OkSm s) (h2 : ∀ o ∈ l.take k, OkSm o) =>
    c_response (l.take k) s A c W ((hn.sl.below hb).take k) (by have := hn.len; rw [List.length_take]; omega) h2 h1
  have hsl := Lib.hid fun (W : World) (hb : Below w.heap.size w W) => hn.sl.below hb
  have hlen := hn.len
  have hcap := hn.cap
  clear hn
  have htk : Hid (∀ k, k < l.length → (l.take k).length = k) := fun k hk => by rw [List.length_take]; omega
  generalize hnl : l.length = nl at *
  replace hnl := Lib.hid hnl
  go_enter Tryz.func43, Tryz.ntmps43
  go_upto_region 2 with (first | (go_at_call 56; (with_reducible refine (hse.out _ (by solve_by_elim (maxDepth := 60) only [bl_al, bl_drew, bl_drewN, bl_refl, *])).mono ?_); rintro e w3 ⟨rfl, hb3⟩; replace hb3 := bl_tt hb3) | (go_at_call 71; (with_reducible refine (c_within _ _ _ _).mono ?_); rintro e w3 ⟨rfl, rfl⟩) | (go_at_call 58; (with_reducible refine (c_unless _ _ _).mono ?_); rintro e w3 ⟨rfl, rfl⟩) | (go_at_call 74; (with_reducible refine (c_first2 (Blk.new _ _ _)).mono ?_); rintro e w3 ⟨rfl, rfl⟩))
  have hbw := hb3 w (bl_refl w)
  first
  | apply absB1 (w0 := w) (g0 := w3.heap.size)
  | apply absTB1 (w0 := w) (g0 := w3.heap.size)
  | apply absIB1 (w0 := w) (g0 := w3.heap.size)
  iterate 2 (focus exact zL)
  try clear hb3
  try clear hb0
  try clear k0
  intro wa hb0 k0
  (try simp only [List.setIfInBounds_toArray, List.set_cons_zero, List.set_cons_succ] at k0)
  generalize hE : fstE [smsErr l, unl (inR i 0 ((nl : Int) - 1)) 6] = E at *
  replace hE := Lib.hid hE
  by_cases h0 : E = 0
  · have h0' : (E != 0) = false := by simp [h0]
    obtain ⟨k, s, rfl, hk, hx, hv, ho1, ho2⟩ := hyes.out h0
    replace h0 := Lib.hid h0
    replace hv := Lib.hid hv
    have hsl0 := hsl.out wa hb0
    obtain ⟨b, off, rfl, hc⟩ := hsl0 k s hx
    have hkc : k ≤ c := by omega
    have hr1 : Hid (∀ W : World, Below wa.heap.size wa W → Calls Tryz.prog 101 #[.slice (some ⟨b, off, none⟩) k c, vSm s] W (Ret (.tuple #[.int .i64 (respV (respS (l.take k) s)).1, .bool (respV (respS (l.take k) s)).2]) W)) := fun W hW => by
      have := hcr.out k s W (bl_tr hb0 hW) hk ho1 ho2
      rwa [htk.out k hk] at this
    have L0 := later (hc 0 _ rfl)
    have L1 := later (hc 1 _ rfl)
    have L2 := later (hc 2 _ rfl)
    have L3 := later (hc 3 _ rfl)
    simp only [Nat.add_zero] at L0
    obtain ⟨nm, per, dl, ln⟩ := s
    generalize respV (respS (l.take k) ⟨nm, per, dl, ln⟩) = R at *
    obtain ⟨r1, r2⟩ := R
    dsimp only at *
    clear hc hsl hcr hyes hno hse ho1 ho2 hx
    go_upto_region 4 with fail
    refine wp_any (w0 := wa) ⟨[], [], [some 23, some 24, some 25, some 26, some 27, some 28, some 29, some 30, some 22, some 31, some 32, some 7, some 8], [[], [], [0, 1], [], [], [3, 4], [3, 4, 5], [0, 1, 2, 3, 4, 5, 6], [0, 1, 2, 3, 4, 5, 6, 7], [0, 1, 2, 3, 4, 5, 6, 7, 8], [0, 1, 2, 3, 4, 5, 6, 7, 8], [0, 1, 2, 3, 4, 5, 6, 7, 8, 9], [0, 1, 2, 3, 4, 5, 6, 7, 8, 9, 10, 11]], [[], [], [0, 1], [], [], [3, 4], [5], [2, 6], [7], [8], [8], [9], [10]]⟩ (fun _ => []) (by kernel_rfl) (by kernel_rfl) (by (exact zE)) (fun u => by simp only [putD, Act.put, List.setIfInBounds_toArray, List.set_cons_zero, List.set_cons_succ, Nat.zero_add, Nat.reduceAdd]; rfl) ?_
    apply RGW.on (i := 0) rfl
    · exact zG
    · intro γ u W hcur hd
      clear hd
      (try dsimp only)
      exact ⟨rfl, zS⟩
    · exact zC
    · rfl
    dsimp only [nA, cA]
    apply RGW.on (i := 1) rfl
    · exact zG
    · intro γ u W hcur hd
      clear hd
      (try dsimp only)
      exact ⟨rfl, zS⟩
    · exact zC
    · rfl
    dsimp only [nA, cA]
    apply RGW.on (i := 2) rfl
    · exact zG
    · intro γ u W hcur hd
      obtain ⟨⟨h0, -, -⟩, ⟨h1, -, -⟩, -⟩ := hd
      dsimp only at h0 h1
      (try simp only [h0, h1])
      exact ⟨rfl, zS⟩
    · exact zC
    · rfl
    dsimp only [nA, cA]
    apply RGW.on (i := 3) rfl
    · exact zG
    · intro γ u W hcur hd
      clear hd
      (try dsimp only)
      exact ⟨rfl, zS⟩
    · exact zC
    · rfl
    dsimp only [nA, cA]
    apply RGW.on (i := 4) rfl
    · exact zG
    · intro γ u W hcur hd
      clear hd
      (try dsimp only)
      exact ⟨rfl, zS⟩
    · exact zC
    · rfl
    dsimp only [nA, cA]
    apply RGW.on (i := 5) rfl
    · exact zG
    · intro γ u W hcur hd
      obtain ⟨⟨h3, -, -⟩, ⟨h4, -, -⟩, -⟩ := hd
      dsimp only at h3 h4
      (try simp only [h3, h4])
      exact ⟨rfl, zS⟩
    · exact zC
    · rfl
    dsimp only [nA, cA]
    apply RGW.on (i := 6) rfl
    · exact zG
    · intro γ u W hcur hd
      obtain ⟨⟨h5, -, -⟩, -⟩ := hd
      dsimp only at h5
      (try simp only [h5])
      exact ⟨rfl, zS⟩
    · exact zC
    · rfl
    dsimp only [nA, cA]
    apply RGW.call (i := 7) rfl
    · exact zG
    · intro γ u W hcur hd
      obtain ⟨⟨h2, -, -⟩, ⟨h6, -, -⟩, -⟩ := hd
      dsimp only at h2 h6
      (try simp only [h2, h6])
      refine ⟨rfl, fun K hK => ?_⟩
      go_simp
      (go_at_call 101; (with_reducible refine (hr1.out _ (by (exact zE))).mono ?_); rintro e w3 ⟨rfl, hb3⟩; replace hb3 := bl_tt hb3)
      (try dsimp only)
      exact hK.out _ _ rfl (by (exact zE))
    · exact zC
    · rfl
    dsimp only [nA, cA]
    apply RGW.on (i := 8) rfl
    · exact zG
    · intro γ u W hcur hd
      obtain ⟨⟨h7, -, -⟩, -⟩ := hd
      dsimp only at h7
      (try simp only [h7])
      exact ⟨rfl, zS⟩
    · exact zC
    · rfl
    dsimp only [nA, cA]
    apply RGW.on (i := 9) rfl
    · exact zG
    · intro γ u W hcur hd
      obtain ⟨⟨h8, -, -⟩, -⟩ := hd
      dsimp only at h8
      (try simp only [h8])
      exact ⟨rfl, zS⟩
    · exact zC
    · rfl
    dsimp only [nA, cA]
    apply RGW.on (i := 10) rfl
    · exact zG
    · intro γ u W hcur hd
      obtain ⟨⟨h8, -, -⟩, -⟩ := hd
      dsimp only at h8
      (try simp only [h8])
      exact ⟨rfl, zS⟩
    · exact zC
    · rfl
    dsimp only [nA, cA]
    apply RGW.on (i := 11) rfl
    · exact zG
    · intro γ u W hcur hd
      obtain ⟨⟨h9, -, -⟩, -⟩ := hd
      dsimp only at h9
      (try simp only [h9])
      exact ⟨rfl, zS⟩
    · exact zC
    · rfl
    dsimp only [nA, cA]
    apply RGW.on (i := 12) rfl
    · exact zG
    · intro γ u W hcur hd
      obtain ⟨⟨h10, -, -⟩, -⟩ := hd
      dsimp only at h10
      (try simp only [h10])
      exact ⟨rfl, zS⟩
    · exact zC
    · rfl
    dsimp only [nA, cA]
    refine RGW.fin (fun γ u wb hwb hd hdis => ?_)
    obtain ⟨⟨h0, -, -⟩, ⟨h1, -, -⟩, ⟨h2, -, -⟩, ⟨h3, -, -⟩, ⟨h4, -, -⟩, ⟨h5, -, -⟩, ⟨h6, -, -⟩, ⟨h7, -, -⟩, ⟨h8, -, -⟩, ⟨h9, -, -⟩, ⟨h10, -, -⟩, ⟨h11, -, -⟩, ⟨h12, -, -⟩, -⟩ := hd
    dsimp only at h0 h1 h2 h3 h4 h5 h6 h7 h8 h9 h10 h11 h12
    clear hdis
    simp only [h0, h1, h2, h3, h4, h5, h6, h7, h8, h9, h10, h11, h12]
    clear h12 h11 h10 h9 h8 h7 h6 h5 h4 h3 h2 h1 h0
    clear u
    simp only [List.map_nil]
    refine PlanW.done ?_
    have hb3 := bl_tt hwb
    have hbb := hb3 _ hb0
    go_wp2_with (go_at_call 58; (with_reducible refine (c_unless _ _ _).mono ?_); rintro e w3 ⟨rfl, rfl⟩)
    go_ret2
    exact ⟨by rw [hv.out] <;> rfl, hbb⟩
  · have h0' : (E != 0) = true := by simp [h0]
    have hv := Lib.hid (hno.out h0)
    replace h0 := Lib.hid h0
    go_wp2
    go_ret2
    exact ⟨by rw [hv.out] <;> rfl, hb0⟩
end Go.Proofs.YtbdgblnccjpahaaGreatDoor
