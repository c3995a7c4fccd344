/-
  Walks: the response of a stream.
-/
import Derived.Test.YtdlmkblmljhbfaaDoorSms
import Derived.Test.YtdlmkblmljhbfaaDoorRespP
namespace Go.Proofs.YtdlmkblmljhbfaaDoor
set_option linter.unusedSimpArgs false
set_option linter.unusedVariables false
open Go.RowKit Go.Shelf
attribute [local go_sem] bl_al bl_drew bl_drewN bl_refl bx_al bx_drew bx_drewN bx_refl
set_option maxRecDepth 20000
set_option maxHeartbeats 4000000 in
theorem c_response (l : List Sm) (s : Sm) (A : Option Addr) (c : Nat) (w : World) (hs : Sl cSm 4 w A l) (hl : l.length ≤ 1000) (hok : ∀ o ∈ l, OkSm o) (h1 : OkSm s) :
    Calls Tryd.prog 100 #[.slice A l.length c, vSm s] w (Ret (.tuple #[.int .i64 (respV (respS l s)).1, .bool (respV (respS l s)).2]) w) := by
  have Hs := Lib.hid hs
  clear hs
  have hmono := Lib.hid fun (x y : Int) (h : x ≤ y) => respF_mono hok s.len h
  have hbd := Lib.hid fun (r : Int) (h0 : 0 ≤ r) (h2 : r ≤ 10000) (j : Nat) (hj : j ≤ l.length) => gF_bd hok h1.2.2.2.2.1 h1.2.2.2.2.2 h0 h2 j hj
  have hall := Lib.hid fun r => gF_all l s.len r
  have hnext := Lib.hid fun (r : Int) (j : Nat) (x : Sm) (h : l[j]? = some x) => gF_next (b := s.len) (r := r) h
  have hg0 : Hid (∀ r, gF l s.len r 0 = s.len) := fun r => by simp [gF]
  have hok' := Lib.hid fun (j : Nat) (x : Sm) (h : l[j]? = some x) => hok x (List.mem_of_getElem? h)
  have hdef : Hid (respS l s = respTo (respF l s.len) (10001 - (1 : Int)).toNat 1) := rfl
  have h11 : Hid (1 ≤ respF l s.len 1) := by
    have := (hbd.out 1 (by omega) (by omega) l.length (Nat.le_refl _)).1
    rw [hall.out] at this
    exact this
  obtain ⟨nm, per, dl, ln⟩ := s
  obtain ⟨-, -, -, -, hl1, hl2⟩ := h1
  dsimp only at *
  generalize respS l ⟨nm, per, dl, ln⟩ = R at *
  obtain ⟨g, hg⟩ : ∃ g : Int → Nat → Int, ∀ r j, gF l ln r j = g r j := ⟨_, fun _ _ => rfl⟩
  obtain ⟨f, hf⟩ : ∃ f : Int → Int, ∀ r, respF l ln r = f r := ⟨_, fun _ => rfl⟩
  simp only [hg, hf] at hbd hall hnext hg0 h11 hmono
  have hff : respF l ln = f := funext hf
  rw [hff] at hdef
  clear hg hf hff hok
  obtain ⟨n, Hn⟩ : ∃ n, Hid (l.length = n) := ⟨_, rfl⟩
  rw [Hn.out] at hl hbd hall ⊢
  go_enter Tryd.func100, Tryd.ntmps100
  go_wp2
  go_loopw [6] (fun r wr => ∃ x : Int, r = .int .i64 x ∧ 1 ≤ x ∧ x ≤ 1000000000 ∧ x ≤ f x ∧ Below w.heap.size w wr ∧ Blk wr w.heap.size 82 #[.string nm, .int .i64 per, .int .i64 dl, .int .i64 ln] ∧ R = respTo f (10001 - x).toNat x) (fun r _ => (10001 - intOf r).toNat)
  case atStart => exact ⟨1, rfl, by omega, by omega, h11.out, bl_al _ (bl_refl _), Blk.new _ _ _, hdef.out⟩
  case round =>
    obtain ⟨x, rfl, hx1, hx2, hxf, hb0, k0, hR⟩ := hrel
    replace hR := Lib.hid hR
    have L0 := k0.cell
    by_cases hx : x ≤ 10000
    · have hbd' := Lib.hid fun j hj => hbd.out x (by omega) hx j hj
      have hq0 := k0.lt
      go_wp2
      obtain ⟨wo, rfl⟩ : ∃ wo : World, wo = wr := ⟨_, rfl⟩
      go_loopw [7, 16] (fun nx i wi => ∃ j : Nat, j ≤ n ∧ i = .int .i64 j ∧ nx = .int .i64 (g x j) ∧ Below w.heap.size w wi ∧ Blk wi w.heap.size 82 #[.string nm, .int .i64 per, .int .i64 dl, .int .i64 ln]) (fun _ i _ => n - (intOf i).toNat)
      case atStart => exact ⟨0, Nat.zero_le _, rfl, by rw [hg0.out], hb0, k0⟩
      case round =>
        clear L0 k0 hb0
        obtain ⟨j, hj, rfl, rfl, hb0, k0⟩ := hrel
        by_cases hjn : j < n
        · have hxj : l[j]? = some (l[j]'(by rw [Hn.out]; exact hjn)) := List.getElem?_eq_getElem _
          generalize l[j]'(by rw [Hn.out]; exact hjn) = o at hxj
          have ho := hok'.out j o hxj
          have hnx := Lib.hid (hnext.out x j o hxj)
          have hb1 := hbd'.out j (by omega)
          have hb2 := hbd'.out (j + 1) (by omega)
          have htm := term_bd ho (show 0 ≤ x by omega) hx
          obtain ⟨hp1, hp2, -, -, hp3, hp4⟩ := ho
          have hp0 : ¬ o.per = 0 := by omega
          have hcl := ceil_bd hp1 (show 0 ≤ x by omega)
          obtain ⟨b, off, rfl, hc⟩ := (Hs.out.below hb0) j o hxj
          have c0 := hc 0 _ rfl
          have c1 := hc 1 _ rfl
          have c2 := hc 2 _ rfl
          have c3 := hc 3 _ rfl
          simp only [Nat.add_zero] at c0
          clear hc hxj
          go_wp2
          first
          | apply absB2 (w0 := w) (g0 := w.heap.size) (g1 := wr.heap.size)
          | apply absTB2 (w0 := w) (g0 := w.heap.size) (g1 := wr.heap.size)
          | apply absIB2 (w0 := w) (g0 := w.heap.size) (g1 := wr.heap.size)
          iterate 3 (focus ((with_reducible (repeat' (first | assumption | apply jA | apply jB | apply jC | apply jD | apply jE | apply jF | apply hb3 | apply jG | apply jH | apply jI | apply jJ | apply jK | apply hb3x | (apply jL; first | (simp; done) | rfl) | apply jM | apply jN | apply jO | apply jP | apply jQ | apply jR | apply jS | apply jT (hb := hb3 _ (jA _)) | omega | (simp; done) | (simp; omega) | (dsimp only; omega)))); done))
          intro wb hb0' k0' k1'
          (try simp only [List.setIfInBounds_toArray, List.set_cons_zero, List.set_cons_succ] at k0' k1')
          try clear hb3
          try clear hb0
          try clear k0
          try clear k1
          have hb0 := hb0'; clear hb0'
          have k0 := k0'; clear k0'
          have k1 := k1'; clear k1'
          have Lk0 := k0.later
          have Fk0 := k0.laterF
          have Qk0 := k0.lt
          have Lk1 := k1.later
          have Fk1 := k1.laterF
          have Qk1 := k1.lt
          refine wp_any (w0 := wb) ⟨[13], [], [some 20, some 21, some 22, some 23, some 24, some 25, some 26, some 27, some 28, some 29, some 30, some 31, some 32, none], [[], [], [1], [], [], [4], [3, 4, 5], [3, 4, 5, 6], [], [8], [3, 4, 5, 6, 7, 8, 9], [1, 2, 3, 4, 5, 6, 7, 8, 9, 10], [0, 1, 2, 3, 4, 5, 6, 7, 8, 9, 10, 11], [0, 1, 2, 3, 4, 5, 6, 7, 8, 9, 10, 11, 12]], [[], [], [1], [], [], [4], [3, 5], [6], [], [8], [7, 9], [2, 10], [0, 11], []]⟩ (fun _ => []) (by kernel_rfl) (by kernel_rfl) (by (with_reducible (repeat' (first | assumption | apply jA | apply jB | apply jC | apply jD | apply jE | apply jF | apply hb3 | omega | (simp; done) | (simp; omega) | (dsimp only; omega))))) (fun u => by simp only [putD, Act.put, List.setIfInBounds_toArray, List.set_cons_zero, List.set_cons_succ, Nat.zero_add, Nat.reduceAdd]; rfl) ?_
          apply RGW.on (i := 0) rfl
          · (simp only [gA, gB, gC] <;> rfl)
          · intro γ u W hcur hd
            clear hd
            (try dsimp only)
            refine ⟨rfl, ?_⟩
            go_simp <;> (try go_bits) <;> with_reducible rfl
          · exact fun _ _ _ => rfl
          · rfl
          dsimp only [nA, cA]
          apply RGW.on (i := 1) rfl
          · (simp only [gA, gB, gC] <;> rfl)
          · intro γ u W hcur hd
            clear hd
            (try dsimp only)
            refine ⟨rfl, ?_⟩
            go_simp <;> (try go_bits) <;> with_reducible rfl
          · exact fun _ _ _ => rfl
          · rfl
          dsimp only [nA, cA]
          apply RGW.on (i := 2) rfl
          · (simp only [gA, gB, gC] <;> rfl)
          · intro γ u W hcur hd
            obtain ⟨⟨h1, -, -⟩, -⟩ := hd
            dsimp only at h1
            (try simp only [h1])
            refine ⟨rfl, ?_⟩
            go_simp <;> (try go_bits) <;> with_reducible rfl
          · exact fun _ _ _ => rfl
          · rfl
          dsimp only [nA, cA]
          apply RGW.on (i := 3) rfl
          · (simp only [gA, gB, gC] <;> rfl)
          · intro γ u W hcur hd
            clear hd
            (try dsimp only)
            refine ⟨rfl, ?_⟩
            go_simp <;> (try go_bits) <;> with_reducible rfl
          · exact fun _ _ _ => rfl
          · rfl
          dsimp only [nA, cA]
          apply RGW.on (i := 4) rfl
          · (simp only [gA, gB, gC] <;> rfl)
          · intro γ u W hcur hd
            clear hd
            (try dsimp only)
            refine ⟨rfl, ?_⟩
            go_simp <;> (try go_bits) <;> with_reducible rfl
          · exact fun _ _ _ => rfl
          · rfl
          dsimp only [nA, cA]
          apply RGW.on (i := 5) rfl
          · (simp only [gA, gB, gC] <;> rfl)
          · intro γ u W hcur hd
            obtain ⟨⟨h4, -, -⟩, -⟩ := hd
            dsimp only at h4
            (try simp only [h4])
            refine ⟨rfl, ?_⟩
            go_simp <;> (try go_bits) <;> with_reducible rfl
          · exact fun _ _ _ => rfl
          · rfl
          dsimp only [nA, cA]
          apply RGW.on (i := 6) rfl
          · (simp only [gA, gB, gC] <;> rfl)
          · intro γ u W hcur hd
            obtain ⟨⟨h3, -, -⟩, ⟨h5, -, -⟩, -⟩ := hd
            dsimp only at h3 h5
            (try simp only [h3, h5])
            refine ⟨rfl, ?_⟩
            go_simp <;> (try go_bits) <;> with_reducible rfl
          · exact fun _ _ _ => rfl
          · rfl
          dsimp only [nA, cA]
          apply RGW.on (i := 7) rfl
          · (simp only [gA, gB, gC] <;> rfl)
          · intro γ u W hcur hd
            obtain ⟨⟨h6, -, -⟩, -⟩ := hd
            dsimp only at h6
            (try simp only [h6])
            refine ⟨rfl, ?_⟩
            go_simp <;> (try go_bits) <;> with_reducible rfl
          · exact fun _ _ _ => rfl
          · rfl
          dsimp only [nA, cA]
          apply RGW.on (i := 8) rfl
          · (simp only [gA, gB, gC] <;> rfl)
          · intro γ u W hcur hd
            clear hd
            (try dsimp only)
            refine ⟨rfl, ?_⟩
            go_simp <;> (try go_bits) <;> with_reducible rfl
          · exact fun _ _ _ => rfl
          · rfl
          dsimp only [nA, cA]
          apply RGW.on (i := 9) rfl
          · (simp only [gA, gB, gC] <;> rfl)
          · intro γ u W hcur hd
            obtain ⟨⟨h8, -, -⟩, -⟩ := hd
            dsimp only at h8
            (try simp only [h8])
            refine ⟨rfl, ?_⟩
            go_simp <;> (try go_bits) <;> with_reducible rfl
          · exact fun _ _ _ => rfl
          · rfl
          dsimp only [nA, cA]
          apply RGW.on (i := 10) rfl
          · (simp only [gA, gB, gC] <;> rfl)
          · intro γ u W hcur hd
            obtain ⟨⟨h7, -, -⟩, ⟨h9, -, -⟩, -⟩ := hd
            dsimp only at h7 h9
            (try simp only [h7, h9])
            refine ⟨rfl, ?_⟩
            go_simp <;> (try go_bits) <;> with_reducible rfl
          · exact fun _ _ _ => rfl
          · rfl
          dsimp only [nA, cA]
          apply RGW.on (i := 11) rfl
          · (simp only [gA, gB, gC] <;> rfl)
          · intro γ u W hcur hd
            obtain ⟨⟨h2, -, -⟩, ⟨h10, -, -⟩, -⟩ := hd
            dsimp only at h2 h10
            (try simp only [h2, h10])
            refine ⟨rfl, ?_⟩
            go_simp <;> (try go_bits) <;> with_reducible rfl
          · exact fun _ _ _ => rfl
          · rfl
          dsimp only [nA, cA]
          apply RGW.on (i := 12) rfl
          · (simp only [gA, gB, gC] <;> rfl)
          · intro γ u W hcur hd
            obtain ⟨⟨h0, -, -⟩, ⟨h11, -, -⟩, -⟩ := hd
            dsimp only at h0 h11
            (try simp only [h0, h11])
            refine ⟨rfl, ?_⟩
            go_simp <;> (try go_bits) <;> with_reducible rfl
          · exact fun _ _ _ => rfl
          · rfl
          dsimp only [nA, cA]
          refine RGW.skip (i := 13) rfl rfl ?_
          dsimp only [nA, cA]
          refine RGW.fin (fun γ u wc hwc hd hdis => ?_)
          obtain ⟨⟨h0, -, -⟩, ⟨h1, -, -⟩, ⟨h2, -, -⟩, ⟨h3, -, -⟩, ⟨h4, -, -⟩, ⟨h5, -, -⟩, ⟨h6, -, -⟩, ⟨h7, -, -⟩, ⟨h8, -, -⟩, ⟨h9, -, -⟩, ⟨h10, -, -⟩, ⟨h11, -, -⟩, ⟨h12, -, -⟩, -⟩ := hd
          dsimp only at h0 h1 h2 h3 h4 h5 h6 h7 h8 h9 h10 h11 h12
          clear hdis
          simp only [h0, h1, h2, h3, h4, h5, h6, h7, h8, h9, h10, h11, h12]
          clear h12 h11 h10 h9 h8 h7 h6 h5 h4 h3 h2 h1 h0
          clear u
          simp only [List.map_cons, List.map_nil]
          apply PlanW.step
          · (simp only [gA, gB, gC] <;> rfl)
          · rfl
          intro K hK
          go_simp
          refine hK.out _ _ (by with_reducible first | assumption | exact bx_refl _ _) (fun hcur => ?_)
          clear hK K
          try simp only [Act.put, List.setIfInBounds_toArray, List.set_cons_zero, List.set_cons_succ]
          refine PlanW.done ?_
          have hb3 := bl_tt hwc
          have hbw := hb3 _ hb0
          replace k0 := k0.below hwc
          clear Lk0 Lk1 Fk0 Fk1 hcl htm
          go_wp2
          go_roundw
          case rel => exact ⟨j + 1, by omega, by go_num, by rw [hnx.out], hbw, k0⟩
          case measure => simp [intOf]; omega
        · have hjn' : j = n := by omega
          subst hjn'
          have e := hall.out x
          have hb1 := (hbd'.out j (Nat.le_refl _)).2
          rw [e] at hb1
          replace e := Lib.hid e
          have hst := Lib.hid (fun (hne : f x ≠ x) => resp_step hmono.out hx1 hx hxf hne (by omega))
          have hhit := Lib.hid (fun (h : f x = x) => resp_hit hx h)
          rw [e.out]
          generalize f x = y at *
          by_cases hyx : y = x
          · subst hyx
            have hv : Hid (R = some y) := Lib.hid (by rw [hR.out]; exact hhit.out rfl)
            clear hst hhit
            go_wp2
            go_ret2
            exact ⟨by rw [hv.out] <;> rfl, hb0⟩
          · have hyx' : (y == x) = false := by simpa using hyx
            have h2 := hst.out hyx
            have hlty : x < y := by omega
            replace h2 := Lib.hid h2
            clear hst hhit hyx
            go_wp2
            go_roundw
            case rel => exact ⟨y, rfl, by omega, by omega, h2.out.2, hb0, k0, by rw [hR.out]; exact h2.out.1⟩
            case measure => simp [intOf]; omega
    · have hv : Hid (R = none) := Lib.hid (by rw [hR.out]; exact resp_end (by omega))
      go_wp2
      go_ret2
      exact ⟨by rw [hv.out] <;> rfl, hb0⟩
theorem unl_true (e : Int) : unl true e = 0 := rfl
theorem unl_false (e : Int) : unl false e = e := rfl
theorem sms_ok {l : List Sm} (h : smsErr l = 0) : 1 ≤ l.length ∧ l.length ≤ 6 ∧ ∀ s ∈ l, OkSm s ∧ nameB s.name = true := by
  unfold smsErr smsChk at h
  by_cases h0 : lenE l.length 6 = 0
  · rw [if_pos h0] at h
    unfold lenE at h0
    simp only [fst_cons, unl_zero (show (10 : Int) ≠ 0 by decide), unl_zero (show (8 : Int) ≠ 0 by decide), decide_eq_true_eq] at h0
    refine ⟨by omega, by omega, fun s hs => ?_⟩
    obtain ⟨j, hj, rfl⟩ := List.getElem_of_mem hs
    have := eachS_ok _ l 0 h j l[j] (List.getElem?_eq_getElem hj)
    unfold smErr at this
    simp only [fst_cons, unl_zero (show (4 : Int) ≠ 0 by decide), unl_zero (show (5 : Int) ≠ 0 by decide), unl_zero (show (2 : Int) ≠ 0 by decide), Bool.and_eq_true, inR_iff] at this
    obtain ⟨h1, -, ⟨h2, h3, h4⟩, -⟩ := this
    exact ⟨⟨h2.1, h2.2, h3.1, h3.2, h4.1, h4.2⟩, h1⟩
  · rw [if_neg h0] at h
    exact absurd h h0
/-- The response of a stream, and the error. -/
def respOf (l : List Sm) (i : Int) : Int × Int :=
  if fstE [smsErr l, unl (inR i 0 ((l.length : Int) - 1)) 6] = 0 then
    (match l[i.toNat]? with
    | some s => ((respV (respS (l.take i.toNat) s)).1, unl (respV (respS (l.take i.toNat) s)).2 12)
    | none => (0, 0))
  else (0, fstE [smsErr l, unl (inR i 0 ((l.length : Int) - 1)) 6])
set_option maxHeartbeats 4000000 in
theorem c_ResponseOf (l : List Sm) (i : Int) (A : Option Addr) (c : Nat) (w : World) (hn : SmIn l A c w) :
    Calls Tryd.prog 47 #[.slice A l.length c, .int .i64 i] w (Ret (.tuple #[.int .i64 (respOf l i).1, .int .i64 (respOf l i).2]) w) := by
  have hse := Lib.hid fun (W : World) (hb : Below w.heap.size w W) => c_streamsErr l A c W (hn.below hb)
  have hwe : Hid (fstE [smsErr l, unl (inR i 0 ((l.length : Int) - 1)) 6] = fstE [smsErr l, unl (inR i 0 ((l.length : Int) - 1)) 6]) := rfl
  have hno : Hid (fstE [smsErr l, unl (inR i 0 ((l.length : Int) - 1)) 6] ≠ 0 → respOf l i = (0, fstE [smsErr l, unl (inR i 0 ((l.length : Int) - 1)) 6])) := fun h => by rw [respOf, if_neg h]
  have hyes : Hid (fstE [smsErr l, unl (inR i 0 ((l.length : Int) - 1)) 6] = 0 → ∃ (k : Nat) (s : Sm), i = k ∧ k < l.length ∧ l[k]? = some s ∧ respOf l i = ((respV (respS (l.take k) s)).1, unl (respV (respS (l.take k) s)).2 12) ∧ OkSm s ∧ ∀ o ∈ l.take k, OkSm o) := fun h => by
    have h' := h
    simp only [fst_cons, unl_zero (show (6 : Int) ≠ 0 by decide), inR_iff] at h'
    obtain ⟨h1, ⟨h2, h3⟩, -⟩ := h'
    have hok := (sms_ok h1).2.2
    have hk : i.toNat < l.length := by omega
    refine ⟨i.toNat, l[i.toNat], by omega, hk, List.getElem?_eq_getElem hk, ?_, (hok _ (List.getElem_mem hk)).1, fun o ho => (hok o (List.mem_of_mem_take ho)).1⟩
    rw [respOf, if_pos h, List.getElem?_eq_getElem hk]
  have hcr := Lib.hid fun (k : Nat) (s : Sm) (W : World) (hb : Below w.heap.size w W) (hk : k < l.length) (h1 : OkSm s) (h2 : ∀ o ∈ l.take k, OkSm o) =>
    c_response (l.take k) s A c W ((hn.sl.below hb).take k) (by have := hn.len; rw [List.length_take]; omega) h2 h1
  have hsl := Lib.hid fun (W : World) (hb : Below w.heap.size w W) => hn.sl.below hb
  have hlen := hn.len
  have hcap := hn.cap
  clear hn
  have htk : Hid (∀ k, k < l.length → (l.take k).length = k) := fun k hk => by rw [List.length_take]; omega
  generalize hnl : l.length = nl at *
  replace hnl := Lib.hid hnl
  go_enter Tryd.func47, Tryd.ntmps47
  go_upto_region 2 with (first | (go_at_call 98; (with_reducible refine (hse.out _ (by solve_by_elim (maxDepth := 60) only [bl_al, bl_drew, bl_drewN, bl_refl, *])).mono ?_); rintro e w3 ⟨rfl, hb3⟩; replace hb3 := bl_tt hb3) | (go_at_call 74; (with_reducible refine (c_within _ _ _ _).mono ?_); rintro e w3 ⟨rfl, rfl⟩) | (go_at_call 78; (with_reducible refine (c_unless _ _ _).mono ?_); rintro e w3 ⟨rfl, rfl⟩) | (go_at_call 77; (with_reducible refine (c_first2 (Blk.new _ _ _)).mono ?_); rintro e w3 ⟨rfl, rfl⟩))
  have hbw := hb3 w (bl_refl w)
  first
  | apply absB1 (w0 := w) (g0 := w3.heap.size)
  | apply absTB1 (w0 := w) (g0 := w3.heap.size)
  | apply absIB1 (w0 := w) (g0 := w3.heap.size)
  iterate 2 (focus ((with_reducible (repeat' (first | assumption | apply jA | apply jB | apply jC | apply jD | apply jE | apply jF | apply hb3 | apply jG | apply jH | apply jI | apply jJ | apply jK | apply hb3x | (apply jL; first | (simp; done) | rfl) | apply jM | apply jN | apply jO | apply jP | apply jQ | apply jR | apply jS | apply jT (hb := hb3 _ (jA _)) | omega | (simp; done) | (simp; omega) | (dsimp only; omega)))); done))
  intro wa hb0' k0'
  (try simp only [List.setIfInBounds_toArray, List.set_cons_zero, List.set_cons_succ] at k0')
  try clear hb3
  try clear hb0
  try clear k0
  have hb0 := hb0'; clear hb0'
  have k0 := k0'; clear k0'
  generalize hE : fstE [smsErr l, unl (inR i 0 ((nl : Int) - 1)) 6] = E at *
  replace hE := Lib.hid hE
  by_cases h0 : E = 0
  · have h0' : (E != 0) = false := by simp [h0]
    obtain ⟨k, s, rfl, hk, hx, hv, ho1, ho2⟩ := hyes.out h0
    replace h0 := Lib.hid h0
    replace hv := Lib.hid hv
    have hsl0 := hsl.out wa hb0
    obtain ⟨b, off, rfl, hc⟩ := hsl0 k s hx
    have hkc : k ≤ c := by omega
    have hr1 : Hid (∀ W : World, Below wa.heap.size wa W → Calls Tryd.prog 100 #[.slice (some ⟨b, off, none⟩) k c, vSm s] W (Ret (.tuple #[.int .i64 (respV (respS (l.take k) s)).1, .bool (respV (respS (l.take k) s)).2]) W)) := fun W hW => by
      have := hcr.out k s W (bl_tr hb0 hW) hk ho1 ho2
      rwa [htk.out k hk] at this
    have L0 := later (hc 0 _ rfl)
    have L1 := later (hc 1 _ rfl)
    have L2 := later (hc 2 _ rfl)
    have L3 := later (hc 3 _ rfl)
    simp only [Nat.add_zero] at L0
    obtain ⟨nm, per, dl, ln⟩ := s
    generalize respV (respS (l.take k) ⟨nm, per, dl, ln⟩) = R at *
    obtain ⟨r1, r2⟩ := R
    dsimp only at *
    clear hc hsl hcr hyes hno hse ho1 ho2 hx
    go_upto_region 4 with fail
    refine wp_any (w0 := wa) ⟨[], [], [some 23, some 24, some 25, some 26, some 27, some 28, some 29, some 30, some 22, some 31, some 32, some 7, some 8], [[], [], [0, 1], [], [], [3, 4], [3, 4, 5], [0, 1, 2, 3, 4, 5, 6], [0, 1, 2, 3, 4, 5, 6, 7], [0, 1, 2, 3, 4, 5, 6, 7, 8], [0, 1, 2, 3, 4, 5, 6, 7, 8], [0, 1, 2, 3, 4, 5, 6, 7, 8, 9], [0, 1, 2, 3, 4, 5, 6, 7, 8, 9, 10, 11]], [[], [], [0, 1], [], [], [3, 4], [5], [2, 6], [7], [8], [8], [9], [10]]⟩ (fun _ => []) (by kernel_rfl) (by kernel_rfl) (by (with_reducible (repeat' (first | assumption | apply jA | apply jB | apply jC | apply jD | apply jE | apply jF | apply hb3 | omega | (simp; done) | (simp; omega) | (dsimp only; omega))))) (fun u => by simp only [putD, Act.put, List.setIfInBounds_toArray, List.set_cons_zero, List.set_cons_succ, Nat.zero_add, Nat.reduceAdd]; rfl) ?_
    apply RGW.on (i := 0) rfl
    · (simp only [gA, gB, gC] <;> rfl)
    · intro γ u W hcur hd
      clear hd
      (try dsimp only)
      refine ⟨rfl, ?_⟩
      go_simp <;> (try go_bits) <;> with_reducible rfl
    · exact fun _ _ _ => rfl
    · rfl
    dsimp only [nA, cA]
    apply RGW.on (i := 1) rfl
    · (simp only [gA, gB, gC] <;> rfl)
    · intro γ u W hcur hd
      clear hd
      (try dsimp only)
      refine ⟨rfl, ?_⟩
      go_simp <;> (try go_bits) <;> with_reducible rfl
    · exact fun _ _ _ => rfl
    · rfl
    dsimp only [nA, cA]
    apply RGW.on (i := 2) rfl
    · (simp only [gA, gB, gC] <;> rfl)
    · intro γ u W hcur hd
      obtain ⟨⟨h0, -, -⟩, ⟨h1, -, -⟩, -⟩ := hd
      dsimp only at h0 h1
      (try simp only [h0, h1])
      refine ⟨rfl, ?_⟩
      go_simp <;> (try go_bits) <;> with_reducible rfl
    · exact fun _ _ _ => rfl
    · rfl
    dsimp only [nA, cA]
    apply RGW.on (i := 3) rfl
    · (simp only [gA, gB, gC] <;> rfl)
    · intro γ u W hcur hd
      clear hd
      (try dsimp only)
      refine ⟨rfl, ?_⟩
      go_simp <;> (try go_bits) <;> with_reducible rfl
    · exact fun _ _ _ => rfl
    · rfl
    dsimp only [nA, cA]
    apply RGW.on (i := 4) rfl
    · (simp only [gA, gB, gC] <;> rfl)
    · intro γ u W hcur hd
      clear hd
      (try dsimp only)
      refine ⟨rfl, ?_⟩
      go_simp <;> (try go_bits) <;> with_reducible rfl
    · exact fun _ _ _ => rfl
    · rfl
    dsimp only [nA, cA]
    apply RGW.on (i := 5) rfl
    · (simp only [gA, gB, gC] <;> rfl)
    · intro γ u W hcur hd
      obtain ⟨⟨h3, -, -⟩, ⟨h4, -, -⟩, -⟩ := hd
      dsimp only at h3 h4
      (try simp only [h3, h4])
      refine ⟨rfl, ?_⟩
      go_simp <;> (try go_bits) <;> with_reducible rfl
    · exact fun _ _ _ => rfl
    · rfl
    dsimp only [nA, cA]
    apply RGW.on (i := 6) rfl
    · (simp only [gA, gB, gC] <;> rfl)
    · intro γ u W hcur hd
      obtain ⟨⟨h5, -, -⟩, -⟩ := hd
      dsimp only at h5
      (try simp only [h5])
      refine ⟨rfl, ?_⟩
      go_simp <;> (try go_bits) <;> with_reducible rfl
    · exact fun _ _ _ => rfl
    · rfl
    dsimp only [nA, cA]
    apply RGW.call (i := 7) rfl
    · (simp only [gA, gB, gC] <;> rfl)
    · intro γ u W hcur hd
      obtain ⟨⟨h2, -, -⟩, ⟨h6, -, -⟩, -⟩ := hd
      dsimp only at h2 h6
      (try simp only [h2, h6])
      refine ⟨rfl, fun K hK => ?_⟩
      go_simp
      (go_at_call 100; (with_reducible refine (hr1.out _ (by (with_reducible (repeat' (first | assumption | apply jA | apply jB | apply jC | apply jD | apply jE | apply jF | apply hb3 | omega | (simp; done) | (simp; omega) | (dsimp only; omega)))))).mono ?_); rintro e w3 ⟨rfl, hb3⟩; replace hb3 := bl_tt hb3)
      (try dsimp only)
      exact hK.out _ _ rfl (by (with_reducible (repeat' (first | assumption | apply jA | apply jB | apply jC | apply jD | apply jE | apply jF | apply hb3 | omega | (simp; done) | (simp; omega) | (dsimp only; omega)))))
    · exact fun _ _ _ => rfl
    · rfl
    dsimp only [nA, cA]
    apply RGW.on (i := 8) rfl
    · (simp only [gA, gB, gC] <;> rfl)
    · intro γ u W hcur hd
      obtain ⟨⟨h7, -, -⟩, -⟩ := hd
      dsimp only at h7
      (try simp only [h7])
      refine ⟨rfl, ?_⟩
      go_simp <;> (try go_bits) <;> with_reducible rfl
    · exact fun _ _ _ => rfl
    · rfl
    dsimp only [nA, cA]
    apply RGW.on (i := 9) rfl
    · (simp only [gA, gB, gC] <;> rfl)
    · intro γ u W hcur hd
      obtain ⟨⟨h8, -, -⟩, -⟩ := hd
      dsimp only at h8
      (try simp only [h8])
      refine ⟨rfl, ?_⟩
      go_simp <;> (try go_bits) <;> with_reducible rfl
    · exact fun _ _ _ => rfl
    · rfl
    dsimp only [nA, cA]
    apply RGW.on (i := 10) rfl
    · (simp only [gA, gB, gC] <;> rfl)
    · intro γ u W hcur hd
      obtain ⟨⟨h8, -, -⟩, -⟩ := hd
      dsimp only at h8
      (try simp only [h8])
      refine ⟨rfl, ?_⟩
      go_simp <;> (try go_bits) <;> with_reducible rfl
    · exact fun _ _ _ => rfl
    · rfl
    dsimp only [nA, cA]
    apply RGW.on (i := 11) rfl
    · (simp only [gA, gB, gC] <;> rfl)
    · intro γ u W hcur hd
      obtain ⟨⟨h9, -, -⟩, -⟩ := hd
      dsimp only at h9
      (try simp only [h9])
      refine ⟨rfl, ?_⟩
      go_simp <;> (try go_bits) <;> with_reducible rfl
    · exact fun _ _ _ => rfl
    · rfl
    dsimp only [nA, cA]
    apply RGW.on (i := 12) rfl
    · (simp only [gA, gB, gC] <;> rfl)
    · intro γ u W hcur hd
      obtain ⟨⟨h10, -, -⟩, -⟩ := hd
      dsimp only at h10
      (try simp only [h10])
      refine ⟨rfl, ?_⟩
      go_simp <;> (try go_bits) <;> with_reducible rfl
    · exact fun _ _ _ => rfl
    · rfl
    dsimp only [nA, cA]
    refine RGW.fin (fun γ u wb hwb hd hdis => ?_)
    obtain ⟨⟨h0, -, -⟩, ⟨h1, -, -⟩, ⟨h2, -, -⟩, ⟨h3, -, -⟩, ⟨h4, -, -⟩, ⟨h5, -, -⟩, ⟨h6, -, -⟩, ⟨h7, -, -⟩, ⟨h8, -, -⟩, ⟨h9, -, -⟩, ⟨h10, -, -⟩, ⟨h11, -, -⟩, ⟨h12, -, -⟩, -⟩ := hd
    dsimp only at h0 h1 h2 h3 h4 h5 h6 h7 h8 h9 h10 h11 h12
    clear hdis
    simp only [h0, h1, h2, h3, h4, h5, h6, h7, h8, h9, h10, h11, h12]
    clear h12 h11 h10 h9 h8 h7 h6 h5 h4 h3 h2 h1 h0
    clear u
    simp only [List.map_nil]
    refine PlanW.done ?_
    have hb3 := bl_tt hwb
    have hbb := hb3 _ hb0
    go_wp2_with (go_at_call 78; (with_reducible refine (c_unless _ _ _).mono ?_); rintro e w3 ⟨rfl, rfl⟩)
    go_ret2
    exact ⟨by rw [hv.out] <;> rfl, hbb⟩
  · have h0' : (E != 0) = true := by simp [h0]
    have hv := Lib.hid (hno.out h0)
    replace h0 := Lib.hid h0
    go_wp2
    go_ret2
    exact ⟨by rw [hv.out] <;> rfl, hb0⟩
end Go.Proofs.YtdlmkblmljhbfaaDoor
