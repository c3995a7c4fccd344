/-
  Walks: the response of a stream.
  Plain: nets and streams as strings, and read again.
  Walks: the items of a string of a net.
  Walks: a sender's tick: what is sent, what is carried.
  Walks: a sender is opened.
-/
import Derived.Test.YtbdgblnccjpahaaGreatDoorUO6
import Derived.Test.YtbdgblnccjpahaaGreatDoorUO8
import Derived.Test.YtbdgblnccjpahaaGreatDoorUO4
set_option linter.unusedSimpArgs false
set_option linter.unusedVariables false
namespace Go.Proofs.YtbdgblnccjpahaaGreatDoor
open Go.RowKit Go.Shelf
attribute [local go_sem] bl_al bl_drew bl_drewN bl_refl bx_al bx_drew bx_drewN bx_refl
set_option maxRecDepth 20000
set_option maxHeartbeats 4000000 in
theorem c_response (l : List Sm) (s : Sm) (A : Option Addr) (c : Nat) (w : World) (hs : Sl cSm 4 w A l) (hl : l.length ≤ 1000) (hok : ∀ o ∈ l, OkSm o) (h1 : OkSm s) :
    Calls Tryz.prog 101 #[.slice A l.length c, vSm s] w (Ret (.tuple #[.int .i64 (respV (respS l s)).1, .bool (respV (respS l s)).2]) w) := by
  have Hs := Lib.hid hs
  clear hs
  have hmono := Lib.hid fun (x y : Int) (h : x ≤ y) => respF_mono hok s.len h
  have hbd := Lib.hid fun (r : Int) (h0 : 0 ≤ r) (h2 : r ≤ 10000) (j : Nat) (hj : j ≤ l.length) => gF_bd hok h1.2.2.2.2.1 h1.2.2.2.2.2 h0 h2 j hj
  have hall := Lib.hid fun r => gF_all l s.len r
  have hnext := Lib.hid fun (r : Int) (j : Nat) (x : Sm) (h : l[j]? = some x) => gF_next (b := s.len) (r := r) h
  have hg0 : Hid (∀ r, gF l s.len r 0 = s.len) := fun r => by simp [gF]
  have hok' := Lib.hid fun (j : Nat) (x : Sm) (h : l[j]? = some x) => hok x (List.mem_of_getElem? h)
  have hdef : Hid (respS l s = respTo (respF l s.len) (10001 - (1 : Int)).toNat 1) := rfl
  have h11 : Hid (1 ≤ respF l s.len 1) := by
    have := (hbd.out 1 (by omega) (by omega) l.length (Nat.le_refl _)).1
    rw [hall.out] at this
    exact this
  obtain ⟨nm, per, dl, ln⟩ := s
  obtain ⟨-, -, -, -, hl1, hl2⟩ := h1
  dsimp only at *
  generalize respS l ⟨nm, per, dl, ln⟩ = R at *
  obtain ⟨g, hg⟩ : ∃ g : Int → Nat → Int, ∀ r j, gF l ln r j = g r j := ⟨_, fun _ _ => rfl⟩
  obtain ⟨f, hf⟩ : ∃ f : Int → Int, ∀ r, respF l ln r = f r := ⟨_, fun _ => rfl⟩
  simp only [hg, hf] at hbd hall hnext hg0 h11 hmono
  have hff : respF l ln = f := funext hf
  rw [hff] at hdef
  clear hg hf hff hok
  obtain ⟨n, Hn⟩ : ∃ n, Hid (l.length = n) := ⟨_, rfl⟩
  rw [Hn.out] at hl hbd hall ⊢
  go_enter Tryz.func101, Tryz.ntmps101
  go_wp2
  go_loopw [6] (fun r wr => ∃ x : Int, r = .int .i64 x ∧ 1 ≤ x ∧ x ≤ 1000000000 ∧ x ≤ f x ∧ Below w.heap.size w wr ∧ Blk wr w.heap.size 43 #[.string nm, .int .i64 per, .int .i64 dl, .int .i64 ln] ∧ R = respTo f (10001 - x).toNat x) (fun r _ => (10001 - intOf r).toNat)
  case atStart => exact ⟨1, rfl, by omega, by omega, h11.out, bl_al _ (bl_refl _), Blk.new _ _ _, hdef.out⟩
  case round =>
    obtain ⟨x, rfl, hx1, hx2, hxf, hb0, k0, hR⟩ := hrel
    replace hR := Lib.hid hR
    have L0 := k0.cell
    by_cases hx : x ≤ 10000
    · have hbd' := Lib.hid fun j hj => hbd.out x (by omega) hx j hj
      have hq0 := k0.lt
      go_wp2
      obtain ⟨wo, rfl⟩ : ∃ wo : World, wo = wr := ⟨_, rfl⟩
      go_loopw [7, 16] (fun nx i wi => ∃ j : Nat, j ≤ n ∧ i = .int .i64 j ∧ nx = .int .i64 (g x j) ∧ Below w.heap.size w wi ∧ Blk wi w.heap.size 43 #[.string nm, .int .i64 per, .int .i64 dl, .int .i64 ln]) (fun _ i _ => n - (intOf i).toNat)
      case atStart => exact ⟨0, Nat.zero_le _, rfl, by rw [hg0.out], hb0, k0⟩
      case round =>
        clear L0 k0 hb0
        obtain ⟨j, hj, rfl, rfl, hb0, k0⟩ := hrel
        by_cases hjn : j < n
        · have hxj : l[j]? = some (l[j]'(by rw [Hn.out]; exact hjn)) := List.getElem?_eq_getElem _
          generalize l[j]'(by rw [Hn.out]; exact hjn) = o at hxj
          have ho := hok'.out j o hxj
          have hnx := Lib.hid (hnext.out x j o hxj)
          have hb1 := hbd'.out j (by omega)
          have hb2 := hbd'.out (j + 1) (by omega)
          have htm := term_bd ho (show 0 ≤ x by omega) hx
          obtain ⟨hp1, hp2, -, -, hp3, hp4⟩ := ho
          have hp0 : ¬ o.per = 0 := by omega
          have hcl := ceil_bd hp1 (show 0 ≤ x by omega)
          obtain ⟨b, off, rfl, hc⟩ := (Hs.out.below hb0) j o hxj
          have c0 := hc 0 _ rfl
          have c1 := hc 1 _ rfl
          have c2 := hc 2 _ rfl
          have c3 := hc 3 _ rfl
          simp only [Nat.add_zero] at c0
          clear hc hxj
          go_wp2
          first
          | apply absB2 (w0 := w) (g0 := w.heap.size) (g1 := wr.heap.size)
          | apply absTB2 (w0 := w) (g0 := w.heap.size) (g1 := wr.heap.size)
          | apply absIB2 (w0 := w) (g0 := w.heap.size) (g1 := wr.heap.size)
          iterate 3 (focus exact zL)
          try clear hb3
          try clear hb0
          try clear k0
          try clear k1
          intro wb hb0 k0 k1
          (try simp only [List.setIfInBounds_toArray, List.set_cons_zero, List.set_cons_succ] at k0 k1)
          have Lk0 := k0.later
          have Fk0 := k0.laterF
          have Qk0 := k0.lt
          have Lk1 := k1.later
          have Fk1 := k1.laterF
          have Qk1 := k1.lt
          refine wp_any (w0 := wb) ⟨[13], [], [some 20, some 21, some 22, some 23, some 24, some 25, some 26, some 27, some 28, some 29, some 30, some 31, some 32, none], [[], [], [1], [], [], [4], [3, 4, 5], [3, 4, 5, 6], [], [8], [3, 4, 5, 6, 7, 8, 9], [1, 2, 3, 4, 5, 6, 7, 8, 9, 10], [0, 1, 2, 3, 4, 5, 6, 7, 8, 9, 10, 11], [0, 1, 2, 3, 4, 5, 6, 7, 8, 9, 10, 11, 12]], [[], [], [1], [], [], [4], [3, 5], [6], [], [8], [7, 9], [2, 10], [0, 11], []]⟩ (fun _ => []) (by kernel_rfl) (by kernel_rfl) (by (exact zE)) (fun u => by simp only [putD, Act.put, List.setIfInBounds_toArray, List.set_cons_zero, List.set_cons_succ, Nat.zero_add, Nat.reduceAdd]; rfl) ?_
          apply RGW.on (i := 0) rfl
          · exact zG
          · intro γ u W hcur hd
            clear hd
            (try dsimp only)
            exact ⟨rfl, zS⟩
          · exact zC
          · rfl
          dsimp only [nA, cA]
          apply RGW.on (i := 1) rfl
          · exact zG
          · intro γ u W hcur hd
            clear hd
            (try dsimp only)
            exact ⟨rfl, zS⟩
          · exact zC
          · rfl
          dsimp only [nA, cA]
          apply RGW.on (i := 2) rfl
          · exact zG
          · intro γ u W hcur hd
            obtain ⟨⟨h1, -, -⟩, -⟩ := hd
            dsimp only at h1
            (try simp only [h1])
            exact ⟨rfl, zS⟩
          · exact zC
          · rfl
          dsimp only [nA, cA]
          apply RGW.on (i := 3) rfl
          · exact zG
          · intro γ u W hcur hd
            clear hd
            (try dsimp only)
            exact ⟨rfl, zS⟩
          · exact zC
          · rfl
          dsimp only [nA, cA]
          apply RGW.on (i := 4) rfl
          · exact zG
          · intro γ u W hcur hd
            clear hd
            (try dsimp only)
            exact ⟨rfl, zS⟩
          · exact zC
          · rfl
          dsimp only [nA, cA]
          apply RGW.on (i := 5) rfl
          · exact zG
          · intro γ u W hcur hd
            obtain ⟨⟨h4, -, -⟩, -⟩ := hd
            dsimp only at h4
            (try simp only [h4])
            exact ⟨rfl, zS⟩
          · exact zC
          · rfl
          dsimp only [nA, cA]
          apply RGW.on (i := 6) rfl
          · exact zG
          · intro γ u W hcur hd
            obtain ⟨⟨h3, -, -⟩, ⟨h5, -, -⟩, -⟩ := hd
            dsimp only at h3 h5
            (try simp only [h3, h5])
            exact ⟨rfl, zS⟩
          · exact zC
          · rfl
          dsimp only [nA, cA]
          apply RGW.on (i := 7) rfl
          · exact zG
          · intro γ u W hcur hd
            obtain ⟨⟨h6, -, -⟩, -⟩ := hd
            dsimp only at h6
            (try simp only [h6])
            exact ⟨rfl, zS⟩
          · exact zC
          · rfl
          dsimp only [nA, cA]
          apply RGW.on (i := 8) rfl
          · exact zG
          · intro γ u W hcur hd
            clear hd
            (try dsimp only)
            exact ⟨rfl, zS⟩
          · exact zC
          · rfl
          dsimp only [nA, cA]
          apply RGW.on (i := 9) rfl
          · exact zG
          · intro γ u W hcur hd
            obtain ⟨⟨h8, -, -⟩, -⟩ := hd
            dsimp only at h8
            (try simp only [h8])
            exact ⟨rfl, zS⟩
          · exact zC
          · rfl
          dsimp only [nA, cA]
          apply RGW.on (i := 10) rfl
          · exact zG
          · intro γ u W hcur hd
            obtain ⟨⟨h7, -, -⟩, ⟨h9, -, -⟩, -⟩ := hd
            dsimp only at h7 h9
            (try simp only [h7, h9])
            exact ⟨rfl, zS⟩
          · exact zC
          · rfl
          dsimp only [nA, cA]
          apply RGW.on (i := 11) rfl
          · exact zG
          · intro γ u W hcur hd
            obtain ⟨⟨h2, -, -⟩, ⟨h10, -, -⟩, -⟩ := hd
            dsimp only at h2 h10
            (try simp only [h2, h10])
            exact ⟨rfl, zS⟩
          · exact zC
          · rfl
          dsimp only [nA, cA]
          apply RGW.on (i := 12) rfl
          · exact zG
          · intro γ u W hcur hd
            obtain ⟨⟨h0, -, -⟩, ⟨h11, -, -⟩, -⟩ := hd
            dsimp only at h0 h11
            (try simp only [h0, h11])
            exact ⟨rfl, zS⟩
          · exact zC
          · rfl
          dsimp only [nA, cA]
          refine RGW.skip (i := 13) rfl rfl ?_
          dsimp only [nA, cA]
          refine RGW.fin (fun γ u wc hwc hd hdis => ?_)
          obtain ⟨⟨h0, -, -⟩, ⟨h1, -, -⟩, ⟨h2, -, -⟩, ⟨h3, -, -⟩, ⟨h4, -, -⟩, ⟨h5, -, -⟩, ⟨h6, -, -⟩, ⟨h7, -, -⟩, ⟨h8, -, -⟩, ⟨h9, -, -⟩, ⟨h10, -, -⟩, ⟨h11, -, -⟩, ⟨h12, -, -⟩, -⟩ := hd
          dsimp only at h0 h1 h2 h3 h4 h5 h6 h7 h8 h9 h10 h11 h12
          clear hdis
          simp only [h0, h1, h2, h3, h4, h5, h6, h7, h8, h9, h10, h11, h12]
          clear h12 h11 h10 h9 h8 h7 h6 h5 h4 h3 h2 h1 h0
          clear u
          simp only [List.map_cons, List.map_nil]
          apply PlanW.step
          · exact zG
          · rfl
          intro K hK
          go_simp
          refine hK.out _ _ (by with_reducible first | assumption | exact bx_refl _ _) (fun hcur => ?_)
          clear hK K
          try simp only [Act.put, List.setIfInBounds_toArray, List.set_cons_zero, List.set_cons_succ]
          refine PlanW.done ?_
          have hb3 := bl_tt hwc
          have hbw := hb3 _ hb0
          replace k0 := k0.below hwc
          clear Lk0 Lk1 Fk0 Fk1 hcl htm
          go_wp2
          go_roundw
          case rel => exact ⟨j + 1, by omega, by go_num, by rw [hnx.out], hbw, k0⟩
          case measure => simp [intOf]; omega
        · have hjn' : j = n := by omega
          subst hjn'
          have e := hall.out x
          have hb1 := (hbd'.out j (Nat.le_refl _)).2
          rw [e] at hb1
          replace e := Lib.hid e
          have hst := Lib.hid (fun (hne : f x ≠ x) => resp_step hmono.out hx1 hx hxf hne (by omega))
          have hhit := Lib.hid (fun (h : f x = x) => resp_hit hx h)
          rw [e.out]
          generalize f x = y at *
          by_cases hyx : y = x
          · subst hyx
            have hv : Hid (R = some y) := Lib.hid (by rw [hR.out]; exact hhit.out rfl)
            clear hst hhit
            go_wp2
            go_ret2
            exact ⟨by rw [hv.out] <;> rfl, hb0⟩
          · have hyx' : (y == x) = false := by simpa using hyx
            have h2 := hst.out hyx
            have hlty : x < y := by omega
            replace h2 := Lib.hid h2
            clear hst hhit hyx
            go_wp2
            go_roundw
            case rel => exact ⟨y, rfl, by omega, by omega, h2.out.2, hb0, k0, by rw [hR.out]; exact h2.out.1⟩
            case measure => simp [intOf]; omega
    · have hv : Hid (R = none) := Lib.hid (by rw [hR.out]; exact resp_end (by omega))
      go_wp2
      go_ret2
      exact ⟨by rw [hv.out] <;> rfl, hb0⟩
theorem sms_ok {l : List Sm} (h : smsErr l = 0) : 1 ≤ l.length ∧ l.length ≤ 6 ∧ ∀ s ∈ l, OkSm s ∧ nameB s.name = true := by
  unfold smsErr smsChk at h
  by_cases h0 : lenE l.length 6 = 0
  · rw [if_pos h0] at h
    unfold lenE at h0
    simp only [fst_cons, unl_zero (show (10 : Int) ≠ 0 by decide), unl_zero (show (8 : Int) ≠ 0 by decide), decide_eq_true_eq] at h0
    refine ⟨by omega, by omega, fun s hs => ?_⟩
    obtain ⟨j, hj, rfl⟩ := List.getElem_of_mem hs
    have := eachS_ok _ l 0 h j l[j] (List.getElem?_eq_getElem hj)
    unfold smErr at this
    simp only [fst_cons, unl_zero (show (4 : Int) ≠ 0 by decide), unl_zero (show (5 : Int) ≠ 0 by decide), unl_zero (show (2 : Int) ≠ 0 by decide), Bool.and_eq_true, inR_iff] at this
    obtain ⟨h1, -, ⟨h2, h3, h4⟩, -⟩ := this
    exact ⟨⟨h2.1, h2.2, h3.1, h3.2, h4.1, h4.2⟩, h1⟩
  · rw [if_neg h0] at h
    exact absurd h h0
/-- The response of a stream, and the error. -/
def respOf (l : List Sm) (i : Int) : Int × Int :=
  if fstE [smsErr l, unl (inR i 0 ((l.length : Int) - 1)) 6] = 0 then
    (match l[i.toNat]? with
    | some s => ((respV (respS (l.take i.toNat) s)).1, unl (respV (respS (l.take i.toNat) s)).2 12)
    | none => (0, 0))
  else (0, fstE [smsErr l, unl (inR i 0 ((l.length : Int) - 1)) 6])
set_option maxHeartbeats 4000000 in
theorem c_ResponseOf (l : List Sm) (i : Int) (A : Option Addr) (c : Nat) (w : World) (hn : SmIn l A c w) :
    Calls Tryz.prog 43 #[.slice A l.length c, .int .i64 i] w (Ret (.tuple #[.int .i64 (respOf l i).1, .int .i64 (respOf l i).2]) w) := by
  have hse := Lib.hid fun (W : World) (hb : Below w.heap.size w W) => c_streamsErr l A c W (hn.below hb)
  have hwe : Hid (fstE [smsErr l, unl (inR i 0 ((l.length : Int) - 1)) 6] = fstE [smsErr l, unl (inR i 0 ((l.length : Int) - 1)) 6]) := rfl
  have hno : Hid (fstE [smsErr l, unl (inR i 0 ((l.length : Int) - 1)) 6] ≠ 0 → respOf l i = (0, fstE [smsErr l, unl (inR i 0 ((l.length : Int) - 1)) 6])) := fun h => by rw [respOf, if_neg h]
  have hyes : Hid (fstE [smsErr l, unl (inR i 0 ((l.length : Int) - 1)) 6] = 0 → ∃ (k : Nat) (s : Sm), i = k ∧ k < l.length ∧ l[k]? = some s ∧ respOf l i = ((respV (respS (l.take k) s)).1, unl (respV (respS (l.take k) s)).2 12) ∧ OkSm s ∧ ∀ o ∈ l.take k, OkSm o) := fun h => by
    have h' := h
    simp only [fst_cons, unl_zero (show (6 : Int) ≠ 0 by decide), inR_iff] at h'
    obtain ⟨h1, ⟨h2, h3⟩, -⟩ := h'
    have hok := (sms_ok h1).2.2
    have hk : i.toNat < l.length := by omega
    refine ⟨i.toNat, l[i.toNat], by omega, hk, List.getElem?_eq_getElem hk, ?_, (hok _ (List.getElem_mem hk)).1, fun o ho => (hok o (List.mem_of_mem_take ho)).1⟩
    rw [respOf, if_pos h, List.getElem?_eq_getElem hk]
  have hcr := Lib.hid fun (k : Nat) (s : Sm) (W : World) (hb : Below w.heap.size w W) (hk : k < l.length) (h1 : OkSm s) (h2 : ∀ o ∈ l.take k, OkSm o) =>
    c_response (l.take k) s A c W ((hn.sl.below hb).take k) (by have := hn.len; rw [List.length_take]; omega) h2 h1
  have hsl := Lib.hid fun (W : World) (hb : Below w.heap.size w W) => hn.sl.below hb
  have hlen := hn.len
  have hcap := hn.cap
  clear hn
  have htk : Hid (∀ k, k < l.length → (l.take k).length = k) := fun k hk => by rw [List.length_take]; omega
  generalize hnl : l.length = nl at *
  replace hnl := Lib.hid hnl
  go_enter Tryz.func43, Tryz.ntmps43
  go_upto_region 2 with (first | (go_at_call 56; (with_reducible refine (hse.out _ (by solve_by_elim (maxDepth := 60) only [bl_al, bl_drew, bl_drewN, bl_refl, *])).mono ?_); rintro e w3 ⟨rfl, hb3⟩; replace hb3 := bl_tt hb3) | (go_at_call 71; (with_reducible refine (c_within _ _ _ _).mono ?_); rintro e w3 ⟨rfl, rfl⟩) | (go_at_call 58; (with_reducible refine (c_unless _ _ _).mono ?_); rintro e w3 ⟨rfl, rfl⟩) | (go_at_call 74; (with_reducible refine (c_first2 (Blk.new _ _ _)).mono ?_); rintro e w3 ⟨rfl, rfl⟩))
  have hbw := hb3 w (bl_refl w)
  first
  | apply absB1 (w0 := w) (g0 := w3.heap.size)
  | apply absTB1 (w0 := w) (g0 := w3.heap.size)
  | apply absIB1 (w0 := w) (g0 := w3.heap.size)
  iterate 2 (focus exact zL)
  try clear hb3
  try clear hb0
  try clear k0
  intro wa hb0 k0
  (try simp only [List.setIfInBounds_toArray, List.set_cons_zero, List.set_cons_succ] at k0)
  generalize hE : fstE [smsErr l, unl (inR i 0 ((nl : Int) - 1)) 6] = E at *
  replace hE := Lib.hid hE
  by_cases h0 : E = 0
  · have h0' : (E != 0) = false := by simp [h0]
    obtain ⟨k, s, rfl, hk, hx, hv, ho1, ho2⟩ := hyes.out h0
    replace h0 := Lib.hid h0
    replace hv := Lib.hid hv
    have hsl0 := hsl.out wa hb0
    obtain ⟨b, off, rfl, hc⟩ := hsl0 k s hx
    have hkc : k ≤ c := by omega
    have hr1 : Hid (∀ W : World, Below wa.heap.size wa W → Calls Tryz.prog 101 #[.slice (some ⟨b, off, none⟩) k c, vSm s] W (Ret (.tuple #[.int .i64 (respV (respS (l.take k) s)).1, .bool (respV (respS (l.take k) s)).2]) W)) := fun W hW => by
      have := hcr.out k s W (bl_tr hb0 hW) hk ho1 ho2
      rwa [htk.out k hk] at this
    have L0 := later (hc 0 _ rfl)
    have L1 := later (hc 1 _ rfl)
    have L2 := later (hc 2 _ rfl)
    have L3 := later (hc 3 _ rfl)
    simp only [Nat.add_zero] at L0
    obtain ⟨nm, per, dl, ln⟩ := s
    generalize respV (respS (l.take k) ⟨nm, per, dl, ln⟩) = R at *
    obtain ⟨r1, r2⟩ := R
    dsimp only at *
    clear hc hsl hcr hyes hno hse ho1 ho2 hx
    go_upto_region 4 with fail
    refine wp_any (w0 := wa) ⟨[], [], [some 23, some 24, some 25, some 26, some 27, some 28, some 29, some 30, some 22, some 31, some 32, some 7, some 8], [[], [], [0, 1], [], [], [3, 4], [3, 4, 5], [0, 1, 2, 3, 4, 5, 6], [0, 1, 2, 3, 4, 5, 6, 7], [0, 1, 2, 3, 4, 5, 6, 7, 8], [0, 1, 2, 3, 4, 5, 6, 7, 8], [0, 1, 2, 3, 4, 5, 6, 7, 8, 9], [0, 1, 2, 3, 4, 5, 6, 7, 8, 9, 10, 11]], [[], [], [0, 1], [], [], [3, 4], [5], [2, 6], [7], [8], [8], [9], [10]]⟩ (fun _ => []) (by kernel_rfl) (by kernel_rfl) (by (exact zE)) (fun u => by simp only [putD, Act.put, List.setIfInBounds_toArray, List.set_cons_zero, List.set_cons_succ, Nat.zero_add, Nat.reduceAdd]; rfl) ?_
    apply RGW.on (i := 0) rfl
    · exact zG
    · intro γ u W hcur hd
      clear hd
      (try dsimp only)
      exact ⟨rfl, zS⟩
    · exact zC
    · rfl
    dsimp only [nA, cA]
    apply RGW.on (i := 1) rfl
    · exact zG
    · intro γ u W hcur hd
      clear hd
      (try dsimp only)
      exact ⟨rfl, zS⟩
    · exact zC
    · rfl
    dsimp only [nA, cA]
    apply RGW.on (i := 2) rfl
    · exact zG
    · intro γ u W hcur hd
      obtain ⟨⟨h0, -, -⟩, ⟨h1, -, -⟩, -⟩ := hd
      dsimp only at h0 h1
      (try simp only [h0, h1])
      exact ⟨rfl, zS⟩
    · exact zC
    · rfl
    dsimp only [nA, cA]
    apply RGW.on (i := 3) rfl
    · exact zG
    · intro γ u W hcur hd
      clear hd
      (try dsimp only)
      exact ⟨rfl, zS⟩
    · exact zC
    · rfl
    dsimp only [nA, cA]
    apply RGW.on (i := 4) rfl
    · exact zG
    · intro γ u W hcur hd
      clear hd
      (try dsimp only)
      exact ⟨rfl, zS⟩
    · exact zC
    · rfl
    dsimp only [nA, cA]
    apply RGW.on (i := 5) rfl
    · exact zG
    · intro γ u W hcur hd
      obtain ⟨⟨h3, -, -⟩, ⟨h4, -, -⟩, -⟩ := hd
      dsimp only at h3 h4
      (try simp only [h3, h4])
      exact ⟨rfl, zS⟩
    · exact zC
    · rfl
    dsimp only [nA, cA]
    apply RGW.on (i := 6) rfl
    · exact zG
    · intro γ u W hcur hd
      obtain ⟨⟨h5, -, -⟩, -⟩ := hd
      dsimp only at h5
      (try simp only [h5])
      exact ⟨rfl, zS⟩
    · exact zC
    · rfl
    dsimp only [nA, cA]
    apply RGW.call (i := 7) rfl
    · exact zG
    · intro γ u W hcur hd
      obtain ⟨⟨h2, -, -⟩, ⟨h6, -, -⟩, -⟩ := hd
      dsimp only at h2 h6
      (try simp only [h2, h6])
      refine ⟨rfl, fun K hK => ?_⟩
      go_simp
      (go_at_call 101; (with_reducible refine (hr1.out _ (by (exact zE))).mono ?_); rintro e w3 ⟨rfl, hb3⟩; replace hb3 := bl_tt hb3)
      (try dsimp only)
      exact hK.out _ _ rfl (by (exact zE))
    · exact zC
    · rfl
    dsimp only [nA, cA]
    apply RGW.on (i := 8) rfl
    · exact zG
    · intro γ u W hcur hd
      obtain ⟨⟨h7, -, -⟩, -⟩ := hd
      dsimp only at h7
      (try simp only [h7])
      exact ⟨rfl, zS⟩
    · exact zC
    · rfl
    dsimp only [nA, cA]
    apply RGW.on (i := 9) rfl
    · exact zG
    · intro γ u W hcur hd
      obtain ⟨⟨h8, -, -⟩, -⟩ := hd
      dsimp only at h8
      (try simp only [h8])
      exact ⟨rfl, zS⟩
    · exact zC
    · rfl
    dsimp only [nA, cA]
    apply RGW.on (i := 10) rfl
    · exact zG
    · intro γ u W hcur hd
      obtain ⟨⟨h8, -, -⟩, -⟩ := hd
      dsimp only at h8
      (try simp only [h8])
      exact ⟨rfl, zS⟩
    · exact zC
    · rfl
    dsimp only [nA, cA]
    apply RGW.on (i := 11) rfl
    · exact zG
    · intro γ u W hcur hd
      obtain ⟨⟨h9, -, -⟩, -⟩ := hd
      dsimp only at h9
      (try simp only [h9])
      exact ⟨rfl, zS⟩
    · exact zC
    · rfl
    dsimp only [nA, cA]
    apply RGW.on (i := 12) rfl
    · exact zG
    · intro γ u W hcur hd
      obtain ⟨⟨h10, -, -⟩, -⟩ := hd
      dsimp only at h10
      (try simp only [h10])
      exact ⟨rfl, zS⟩
    · exact zC
    · rfl
    dsimp only [nA, cA]
    refine RGW.fin (fun γ u wb hwb hd hdis => ?_)
    obtain ⟨⟨h0, -, -⟩, ⟨h1, -, -⟩, ⟨h2, -, -⟩, ⟨h3, -, -⟩, ⟨h4, -, -⟩, ⟨h5, -, -⟩, ⟨h6, -, -⟩, ⟨h7, -, -⟩, ⟨h8, -, -⟩, ⟨h9, -, -⟩, ⟨h10, -, -⟩, ⟨h11, -, -⟩, ⟨h12, -, -⟩, -⟩ := hd
    dsimp only at h0 h1 h2 h3 h4 h5 h6 h7 h8 h9 h10 h11 h12
    clear hdis
    simp only [h0, h1, h2, h3, h4, h5, h6, h7, h8, h9, h10, h11, h12]
    clear h12 h11 h10 h9 h8 h7 h6 h5 h4 h3 h2 h1 h0
    clear u
    simp only [List.map_nil]
    refine PlanW.done ?_
    have hb3 := bl_tt hwb
    have hbb := hb3 _ hb0
    go_wp2_with (go_at_call 58; (with_reducible refine (c_unless _ _ _).mono ?_); rintro e w3 ⟨rfl, rfl⟩)
    go_ret2
    exact ⟨by rw [hv.out] <;> rfl, hbb⟩
  · have h0' : (E != 0) = true := by simp [h0]
    have hv := Lib.hid (hno.out h0)
    replace h0 := Lib.hid h0
    go_wp2
    go_ret2
    exact ⟨by rw [hv.out] <;> rfl, hb0⟩
end Go.Proofs.YtbdgblnccjpahaaGreatDoor
namespace Go.Proofs.YtbdgblnccjpahaaGreatDoor
open Go.RowKit
theorem splitC_not (c : UInt8) : ∀ l : List UInt8, c ∉ l → splitC c l = [l]
  | [], _ => rfl
  | x :: l, h => by
    have hx : x ≠ c := fun e => h (by simp [e])
    rw [splitC, if_neg hx, splitC_not c l (fun m => h (by simp [m]))]
theorem splitC_app (c : UInt8) : ∀ (a b : List UInt8), c ∉ a → splitC c (a ++ c :: b) = a :: splitC c b
  | [], b, _ => by simp [splitC]
  | x :: a, b, h => by
    have hx : x ≠ c := fun e => h (by simp [e])
    rw [List.cons_append, splitC, if_neg hx, splitC_app c a b (fun m => h (by simp [m]))]
theorem splitC_join (c : UInt8) : ∀ (x : List UInt8) (xs : List (List UInt8)), (∀ y ∈ x :: xs, c ∉ y) → splitC c (Lib.join (x :: xs) [c]) = x :: xs
  | x, [], h => by rw [Lib.join_one, splitC_not c x (h x (by simp))]
  | x, y :: xs, h => by
    have ih := splitC_join c y xs (fun z hz => h z (List.mem_cons_of_mem _ hz))
    rw [Lib.join_cons] at ih ⊢
    have : x ++ Lib.joinTail [c] (y :: xs) = x ++ c :: (y ++ Lib.joinTail [c] xs) := by simp [Lib.joinTail]
    rw [this, splitC_app c x _ (h x (by simp)), ih]
theorem splitC_joinL (c : UInt8) (xs : List (List UInt8)) (h0 : xs ≠ []) (h : ∀ y ∈ xs, c ∉ y) : splitC c (Lib.join xs [c]) = xs := by
  cases xs with
  | nil => exact absurd rfl h0
  | cons x xs => exact splitC_join c x xs h
theorem join_not (c d : UInt8) (hd : c ≠ d) (xs : List (List UInt8)) (h : ∀ y ∈ xs, c ∉ y) : c ∉ Lib.join xs [d] := by
  cases xs with
  | nil => simp [Lib.join_nil]
  | cons x xs =>
    rw [Lib.join_cons]
    intro m
    rcases List.mem_append.1 m with m | m
    · exact h x (by simp) m
    · unfold Lib.joinTail at m
      obtain ⟨z, hz, m⟩ := List.mem_flatten.1 m
      obtain ⟨y, hy, rfl⟩ := List.mem_map.1 hz
      rcases List.mem_append.1 m with m | m
      · exact hd (by simpa using m)
      · exact h y (by simp [hy]) m
theorem cutC_app (c : UInt8) : ∀ (a b : List UInt8), c ∉ a → cutC c (a ++ c :: b) = (a, b, true)
  | [], b, _ => by simp [cutC]
  | x :: a, b, h => by
    have hx : x ≠ c := fun e => h (by simp [e])
    rw [List.cons_append, cutC, if_neg hx, cutC_app c a b (fun m => h (by simp [m]))]
theorem splitC_two (c : UInt8) (l : List UInt8) : (splitC c l).length = 1 ↔ c ∉ l := by
  constructor
  · intro h
    induction l with
    | nil => simp
    | cons x l ih =>
      rw [splitC] at h
      have h1 := splitC_ne c l
      split at h
      · have : 0 < (splitC c l).length := List.length_pos_iff.2 h1
        simp at h
        exact absurd h h1
      · rename_i hx
        have h2 : (splitC c l).length = 1 := by
          split at h
          · rename_i a t he
            rw [he]
            simpa using h
          · rename_i he
            exact absurd he h1
        intro m
        rcases List.mem_cons.1 m with m | m
        · exact hx m.symm
        · exact ih h2 m
  · intro h
    rw [splitC_not c l h]
    rfl
/-! ### What may stand in a name. -/
theorem nameFrom_mem : ∀ (k : Nat) (l : List UInt8), nameFrom k l = true → ∀ c ∈ l, letter c = true ∨ other c = true
  | _, [], _, c, h => by simp at h
  | k, x :: l, h, c, hc => by
    rw [nameFrom] at h
    simp only [Bool.and_eq_true, Bool.or_eq_true] at h
    rcases List.mem_cons.1 hc with rfl | hc
    · rcases h.1 with h1 | h1
      · exact .inl h1
      · exact .inr h1.2
    · exact nameFrom_mem (k + 1) l h.2 c hc
/-- The signs of strings. -/
def sep (c : UInt8) : Bool := !(letter c || other c)
theorem name_sep {s : ByteArray} (h : nameB s = true) (c : UInt8) (hc : sep c = true) : c ∉ s.data.toList := by
  unfold nameB at h
  simp only [Bool.and_eq_true] at h
  intro m
  rcases nameFrom_mem 0 _ h.1 c m with h1 | h1 <;> simp [sep, h1] at hc
theorem name_ne {s : ByteArray} (h : nameB s = true) : s.data.toList ≠ [] := by
  unfold nameB at h
  simp only [Bool.and_eq_true] at h
  have := (inR_iff.1 h.2).1
  intro e
  have h2 : s.data.toList.length = s.size := rfl
  rw [e] at h2
  simp at h2
  omega
theorem name_len {s : ByteArray} (h : nameB s = true) : s.data.toList.length ≤ 12 := by
  unfold nameB at h
  simp only [Bool.and_eq_true] at h
  have := (inR_iff.1 h.2).2
  have h2 : s.data.toList.length = s.size := rfl
  omega
theorem itoa_dd {v : Int} (h0 : 0 ≤ v) (h1 : v < 100) : Lib.itoa v = dd v.toNat := by
  rw [Lib.itoa, if_neg (by omega), dd_dec (by omega)]
theorem dd_sep_fin : ∀ n : _root_.Fin 100, (dd n.val).all (fun c => other c && dig c) = true := by decide +kernel
theorem itoa_sep {v : Int} (h0 : 0 ≤ v) (h1 : v < 100) (c : UInt8) (hc : sep c = true) : c ∉ Lib.itoa v := by
  rw [itoa_dd h0 h1]
  intro m
  have h := List.all_eq_true.1 (dd_sep_fin ⟨v.toNat, by omega⟩) c m
  simp only [Bool.and_eq_true] at h
  simp [sep, h.1] at hc
theorem itoa_nat {v : Int} (h0 : 0 ≤ v) (h1 : v < 100) : natS (Lib.itoa v) = some v.toNat := by
  rw [itoa_dd h0 h1, natS_dd (by omega)]
theorem itoa_ne {v : Int} (h0 : 0 ≤ v) (h1 : v < 100) : Lib.itoa v ≠ [] := by
  intro e
  have := itoa_nat h0 h1
  rw [e] at this
  cases this
theorem itoas_sep {l : List Int} (h : ∀ v ∈ l, 0 ≤ v ∧ v < 100) (c : UInt8) (hc : sep c = true) : ∀ y ∈ itoas l, c ∉ y := fun y hy => by
  obtain ⟨v, hv, rfl⟩ := List.mem_map.1 hy
  exact itoa_sep (h v hv).1 (h v hv).2 c hc
theorem itoas_ok {l : List Int} (h : ∀ v ∈ l, 0 ≤ v ∧ v < 100) : natsOk (itoas l) = true := by
  unfold natsOk itoas
  rw [List.all_map, List.all_eq_true]
  intro v hv
  simp [itoa_nat (h v hv).1 (h v hv).2]
theorem itoas_v {l : List Int} (h : ∀ v ∈ l, 0 ≤ v ∧ v < 100) : natsV (itoas l) = l := by
  unfold natsV itoas
  rw [List.map_map]
  conv => rhs; rw [← List.map_id l]
  apply List.map_congr_left
  intro v hv
  have h1 := h v hv
  simp [itoa_nat h1.1 h1.2]
  omega
/-! ### Streams. -/
def wayOk (r : List UInt8) : Bool := natsOk (splitC 43 r)
def wayV (r : List UInt8) : List Int := if wayOk r then natsV (splitC 43 r) else []
/-- An item: its name (none, if it has not one '=') and its rest. -/
def itmOf (p : List UInt8) : List UInt8 × List UInt8 := (if (cutC 61 p).2.2 && !(cutC 61 p).2.1.contains 61 then (cutC 61 p).1 else [], (cutC 61 p).2.1)
def itemsL (s : List UInt8) : List (List UInt8 × List UInt8) := if s = [] then [] else (splitC 59 s).map itmOf
def baOf (l : List UInt8) : ByteArray := ⟨l.toArray⟩
def fuC (x : List UInt8 × List UInt8) : ByteArray × List (List Int) := (baOf x.1, (splitC 44 x.2).map wayV)
def fuOk (x : List UInt8 × List UInt8) : Bool := (splitC 44 x.2).all wayOk && decide (x.1 ≠ [])
def ndV (r : List UInt8) : List Int := if r = [] then [] else wayV r
def ndOk (r : List UInt8) : Bool := if r = [] then true else wayOk r
def mdC (x : List UInt8 × List UInt8) : ByteArray × List Int := (baOf x.1, ndV x.2)
def mdOk (x : List UInt8 × List UInt8) : Bool := ndOk x.2 && decide (x.1 ≠ [])
def partsL (s : List UInt8) : List (List UInt8) := if s = [] then [] else splitC 44 s
structure NC where
  ps : List ByteArray
  fs : List (ByteArray × List (List Int))
  ms : List (ByteArray × List Int)
def ntC (a b c : List UInt8) : NC := ⟨(partsL a).map baOf, (itemsL b).map fuC, (itemsL c).map mdC⟩
def ntOkS (a b c : List UInt8) : Bool := ((partsL a).all fun p => decide (p ≠ [])) && (itemsL b).all fuOk && (itemsL c).all mdOk
def mkNt (C : NC) : Nt := ⟨C.ps, C.fs.map fun f => ⟨f.1, none, 0, f.2.map fun l => ⟨none, 0, l⟩⟩, C.ms.map fun m => ⟨m.1, ⟨none, 0, m.2⟩⟩⟩
def Nt.cn (n : Nt) : NC := ⟨n.ps, n.fs.map Fu.con, n.ms.map Md.con⟩
theorem mk_cn (C : NC) : (mkNt C).cn = C := by
  obtain ⟨ps, fs, ms⟩ := C
  simp only [mkNt, Nt.cn, List.map_map]
  have h1 : (Fu.con ∘ fun f : ByteArray × List (List Int) => (⟨f.1, none, 0, f.2.map fun l => ⟨none, 0, l⟩⟩ : Fu)) = id := by
    funext f
    obtain ⟨a, b⟩ := f
    simp [Fu.con, Function.comp_def]
  have h2 : (Md.con ∘ fun m : ByteArray × List Int => (⟨m.1, ⟨none, 0, m.2⟩⟩ : Md)) = id := by
    funext f
    rfl
  rw [h1, h2]
  simp
theorem ntEq_cn {n m : Nt} : NtEq n m ↔ m.cn = n.cn :=
  ⟨fun h => by unfold Nt.cn; rw [h.ps, h.fs, h.ms], fun h => by
    unfold Nt.cn at h
    injection h with h1 h2 h3
    exact ⟨h1, h2, h3⟩⟩
def pnE3 : List (List UInt8) → Int
  | [a, b, c] => if ntOkS a b c then netErr (mkNt (ntC a b c)) else 7
  | _ => 7
def pnC3 : List (List UInt8) → NC
  | [a, b, c] => ntC a b c
  | _ => ⟨[], [], []⟩
/-- The error of a string of a net. -/
def pnE (s : List UInt8) : Int := if 60000 < s.length then 8 else pnE3 (splitC 47 s)
/-- The net. -/
def pnC (s : List UInt8) : NC := pnC3 (splitC 47 s)
def fmtWay (l : List Int) : List UInt8 := Lib.join (itoas l) [43]
def fmtFu (f : ByteArray × List (List Int)) : List UInt8 := f.1.data.toList ++ [61] ++ Lib.join (f.2.map fmtWay) [44]
def fmtMd (m : ByteArray × List Int) : List UInt8 := m.1.data.toList ++ [61] ++ fmtWay m.2
def fmtNt (C : NC) : List UInt8 := Lib.join (C.ps.map fun p => p.data.toList) [44] ++ [47] ++ Lib.join (C.fs.map fmtFu) [59] ++ [47] ++ Lib.join (C.ms.map fmtMd) [59]
/-- What of a valid net the strings need. -/
structure NcOk (C : NC) : Prop where
  p0 : 0 < C.ps.length
  plen : C.ps.length ≤ 10
  flen : C.fs.length ≤ 10
  mlen : C.ms.length ≤ 6
  ps : ∀ p ∈ C.ps, nameB p = true
  fs : ∀ f ∈ C.fs, nameB f.1 = true ∧ 0 < f.2.length ∧ f.2.length ≤ 6 ∧ ∀ l ∈ f.2, 0 < l.length ∧ l.length ≤ 10 ∧ ∀ v ∈ l, 0 ≤ v ∧ v < 100
  ms : ∀ m ∈ C.ms, nameB m.1 = true ∧ m.2.length ≤ 10 ∧ ∀ v ∈ m.2, 0 ≤ v ∧ v < 100
theorem fmtWay_sep {l : List Int} (h : ∀ v ∈ l, 0 ≤ v ∧ v < 100) (c : UInt8) (hc : sep c = true) (h43 : c ≠ 43) : c ∉ fmtWay l := join_not c 43 h43 _ (itoas_sep h c hc)
theorem way_round {l : List Int} (h0 : l ≠ []) (h : ∀ v ∈ l, 0 ≤ v ∧ v < 100) : wayOk (fmtWay l) = true ∧ wayV (fmtWay l) = l ∧ fmtWay l ≠ [] := by
  have hs : splitC 43 (fmtWay l) = itoas l := splitC_joinL 43 _ (by simpa [itoas] using h0) (itoas_sep h 43 (by decide))
  have hk : wayOk (fmtWay l) = true := by unfold wayOk; rw [hs, itoas_ok h]
  refine ⟨hk, ?_, ?_⟩
  · unfold wayV
    rw [hk, if_pos rfl, hs, itoas_v h]
  · intro e
    rw [e] at hs
    cases l with
    | nil => exact h0 rfl
    | cons v r =>
      simp [splitC, itoas] at hs
      exact itoa_ne (h v (by simp)).1 (h v (by simp)).2 hs.1
theorem join_ne {x : List UInt8} (xs : List (List UInt8)) (d : List UInt8) (h : x ≠ []) : Lib.join (x :: xs) d ≠ [] := by
  rw [Lib.join_cons]
  simp [h]
theorem itm_of {n r : List UInt8} (hn : 61 ∉ n) (hr : 61 ∉ r) : itmOf (n ++ [61] ++ r) = (n, r) := by
  have : n ++ [61] ++ r = n ++ 61 :: r := by simp
  unfold itmOf
  rw [this, cutC_app 61 n r hn]
  simp [hr]
/-- A valid net is read again. -/
theorem net_round {C : NC} (h : NcOk C) : splitC 47 (fmtNt C) = [Lib.join (C.ps.map fun p => p.data.toList) [44], Lib.join (C.fs.map fmtFu) [59], Lib.join (C.ms.map fmtMd) [59]] ∧
    ntOkS (Lib.join (C.ps.map fun p => p.data.toList) [44]) (Lib.join (C.fs.map fmtFu) [59]) (Lib.join (C.ms.map fmtMd) [59]) = true ∧
    ntC (Lib.join (C.ps.map fun p => p.data.toList) [44]) (Lib.join (C.fs.map fmtFu) [59]) (Lib.join (C.ms.map fmtMd) [59]) = C := by
  have hfw : ∀ f ∈ C.fs, ∀ c, sep c = true → c ≠ 43 → c ≠ 44 → c ∉ Lib.join (f.2.map fmtWay) [44] := fun f hf c hc h1 h2 => join_not c 44 h2 _ fun y hy => by
    obtain ⟨l, hl, rfl⟩ := List.mem_map.1 hy
    exact fmtWay_sep ((h.fs f hf).2.2.2 l hl).2.2 c hc h1
  have hfs : ∀ f ∈ C.fs, ∀ c, sep c = true → c ≠ 43 → c ≠ 44 → c ≠ 61 → c ∉ fmtFu f := fun f hf c hc h1 h2 h3 m => by
    unfold fmtFu at m
    rcases List.mem_append.1 m with m | m
    · rcases List.mem_append.1 m with m | m
      · exact name_sep (h.fs f hf).1 c hc m
      · exact h3 (by simpa using m)
    · exact hfw f hf c hc h1 h2 m
  have hms : ∀ f ∈ C.ms, ∀ c, sep c = true → c ≠ 43 → c ≠ 61 → c ∉ fmtMd f := fun f hf c hc h1 h3 m => by
    unfold fmtMd at m
    rcases List.mem_append.1 m with m | m
    · rcases List.mem_append.1 m with m | m
      · exact name_sep (h.ms f hf).1 c hc m
      · exact h3 (by simpa using m)
    · exact fmtWay_sep (h.ms f hf).2.2 c hc h1 m
  have e1 : 47 ∉ Lib.join (C.ps.map fun p => p.data.toList) [44] := join_not 47 44 (by decide) _ fun y hy => by
    obtain ⟨p, hp, rfl⟩ := List.mem_map.1 hy
    exact name_sep (h.ps p hp) 47 (by decide)
  have e2 : 47 ∉ Lib.join (C.fs.map fmtFu) [59] := join_not 47 59 (by decide) _ fun y hy => by
    obtain ⟨f, hf, rfl⟩ := List.mem_map.1 hy
    exact hfs f hf 47 (by decide) (by decide) (by decide) (by decide)
  have e3 : 47 ∉ Lib.join (C.ms.map fmtMd) [59] := join_not 47 59 (by decide) _ fun y hy => by
    obtain ⟨f, hf, rfl⟩ := List.mem_map.1 hy
    exact hms f hf 47 (by decide) (by decide) (by decide)
  have f1 : partsL (Lib.join (C.ps.map fun p => p.data.toList) [44]) = C.ps.map fun p => p.data.toList := by
    unfold partsL
    obtain ⟨p, r, hpr⟩ : ∃ p r, C.ps = p :: r := by
      cases hc : C.ps with
      | nil => have := h.p0; rw [hc] at this; simp at this
      | cons p r => exact ⟨p, r, rfl⟩
    rw [if_neg (by rw [hpr, List.map_cons]; exact join_ne _ _ (name_ne (h.ps p (by rw [hpr]; simp))))]
    exact splitC_joinL 44 _ (by rw [hpr]; simp) fun y hy => by
      obtain ⟨p, hp, rfl⟩ := List.mem_map.1 hy
      exact name_sep (h.ps p hp) 44 (by decide)
  have f2 : itemsL (Lib.join (C.fs.map fmtFu) [59]) = C.fs.map fun f => (f.1.data.toList, Lib.join (f.2.map fmtWay) [44]) := by
    unfold itemsL
    cases hc : C.fs with
    | nil => simp [Lib.join_nil]
    | cons f r =>
      rw [if_neg (by rw [List.map_cons]; exact join_ne _ _ (by simp [fmtFu])), splitC_joinL 59 _ (by simp) fun y hy => by
        obtain ⟨f', hf, rfl⟩ := List.mem_map.1 hy
        exact hfs f' (by rw [hc]; exact hf) 59 (by decide) (by decide) (by decide) (by decide), List.map_map]
      apply List.map_congr_left
      intro f' hf
      exact itm_of (name_sep (h.fs f' (by rw [hc]; exact hf)).1 61 (by decide)) (hfw f' (by rw [hc]; exact hf) 61 (by decide) (by decide) (by decide))
  have f3 : itemsL (Lib.join (C.ms.map fmtMd) [59]) = C.ms.map fun f => (f.1.data.toList, fmtWay f.2) := by
    unfold itemsL
    cases hc : C.ms with
    | nil => simp [Lib.join_nil]
    | cons f r =>
      rw [if_neg (by rw [List.map_cons]; exact join_ne _ _ (by simp [fmtMd])), splitC_joinL 59 _ (by simp) fun y hy => by
        obtain ⟨f', hf, rfl⟩ := List.mem_map.1 hy
        exact hms f' (by rw [hc]; exact hf) 59 (by decide) (by decide) (by decide), List.map_map]
      apply List.map_congr_left
      intro f' hf
      exact itm_of (name_sep (h.ms f' (by rw [hc]; exact hf)).1 61 (by decide)) (fmtWay_sep (h.ms f' (by rw [hc]; exact hf)).2.2 61 (by decide) (by decide))
  have g2 : ∀ f ∈ C.fs, fuOk (f.1.data.toList, Lib.join (f.2.map fmtWay) [44]) = true ∧ fuC (f.1.data.toList, Lib.join (f.2.map fmtWay) [44]) = f := fun f hf => by
    obtain ⟨a1, a2, a3, a4⟩ := h.fs f hf
    have hne : ∀ l ∈ f.2, l ≠ [] := fun l hl e => by have := (a4 l hl).1; rw [e] at this; simp at this
    have hs : splitC 44 (Lib.join (f.2.map fmtWay) [44]) = f.2.map fmtWay := splitC_joinL 44 _ (by intro e; have := congrArg List.length e; simp at this; rw [this] at a2; simp at a2) fun y hy => by
      obtain ⟨l, hl, rfl⟩ := List.mem_map.1 hy
      exact fmtWay_sep (a4 l hl).2.2 44 (by decide) (by decide)
    constructor
    · unfold fuOk
      dsimp only
      rw [hs, List.all_map, Bool.and_eq_true, List.all_eq_true]
      exact ⟨fun l hl => (way_round (hne l hl) (a4 l hl).2.2).1, by simpa using name_ne a1⟩
    · unfold fuC
      dsimp only
      rw [hs, List.map_map]
      have : f.2.map (wayV ∘ fmtWay) = f.2 := by
        conv => rhs; rw [← List.map_id f.2]
        apply List.map_congr_left
        exact fun l hl => (way_round (hne l hl) (a4 l hl).2.2).2.1
      rw [this]
      rfl
  have g3 : ∀ f ∈ C.ms, mdOk (f.1.data.toList, fmtWay f.2) = true ∧ mdC (f.1.data.toList, fmtWay f.2) = f := fun f hf => by
    obtain ⟨a1, a3, a4⟩ := h.ms f hf
    unfold mdOk mdC
    dsimp only
    by_cases h0 : f.2 = []
    · obtain ⟨fn, fl⟩ := f
      dsimp only at h0
      subst h0
      have : fmtWay [] = [] := rfl
      simp [this, ndOk, ndV, name_ne a1]
      rfl
    · obtain ⟨w1, w2, w3⟩ := way_round h0 a4
      unfold ndOk ndV
      rw [if_neg w3, if_neg w3, w1, w2]
      exact ⟨by simp [name_ne a1], rfl⟩
  refine ⟨?_, ?_, ?_⟩
  · have : fmtNt C = Lib.join (C.ps.map fun p => p.data.toList) [44] ++ 47 :: (Lib.join (C.fs.map fmtFu) [59] ++ 47 :: Lib.join (C.ms.map fmtMd) [59]) := by simp [fmtNt]
    rw [this, splitC_app 47 _ _ e1, splitC_app 47 _ _ e2, splitC_not 47 _ e3]
  · unfold ntOkS
    rw [f1, f2, f3, List.all_map, List.all_map, List.all_map, Bool.and_eq_true, Bool.and_eq_true, List.all_eq_true, List.all_eq_true, List.all_eq_true]
    exact ⟨⟨fun p hp => by simpa using name_ne (h.ps p hp), fun f hf => (g2 f hf).1⟩, fun f hf => (g3 f hf).1⟩
  · unfold ntC
    rw [f1, f2, f3, List.map_map, List.map_map, List.map_map]
    have k1 : C.ps.map (baOf ∘ fun p => p.data.toList) = C.ps := by
      conv => rhs; rw [← List.map_id C.ps]
      apply List.map_congr_left
      exact fun p _ => rfl
    have k2 : C.fs.map (fuC ∘ fun f => (f.1.data.toList, Lib.join (f.2.map fmtWay) [44])) = C.fs := by
      conv => rhs; rw [← List.map_id C.fs]
      apply List.map_congr_left
      exact fun f hf => (g2 f hf).2
    have k3 : C.ms.map (mdC ∘ fun f => (f.1.data.toList, fmtWay f.2)) = C.ms := by
      conv => rhs; rw [← List.map_id C.ms]
      apply List.map_congr_left
      exact fun f hf => (g3 f hf).2
    rw [k1, k2, k3]
theorem fmtNt_len {C : NC} (h : NcOk C) : (fmtNt C).length ≤ 20000 := by
  have hw : ∀ l : List Int, l.length ≤ 10 → (∀ v ∈ l, 0 ≤ v ∧ v < 100) → (fmtWay l).length ≤ 220 := fun l h1 h2 => by
    have := join_len (itoas l) [43] 21 (fun x hx => by
      obtain ⟨v, hv, rfl⟩ := List.mem_map.1 hx
      have := h2 v hv
      exact Lib.itoa_length_le v (by omega) (by omega))
    simp [itoas] at this
    unfold fmtWay itoas
    omega
  have h1 := join_len (C.ps.map fun p => p.data.toList) [44] 12 (fun x hx => by
    obtain ⟨p, hp, rfl⟩ := List.mem_map.1 hx
    exact name_len (h.ps p hp))
  have h2 := join_len (C.fs.map fmtFu) [59] 1400 (fun x hx => by
    obtain ⟨f, hf, rfl⟩ := List.mem_map.1 hx
    obtain ⟨a1, a2, a3, a4⟩ := h.fs f hf
    have b1 := name_len a1
    have b2 := join_len (f.2.map fmtWay) [44] 220 (fun x hx => by
      obtain ⟨l, hl, rfl⟩ := List.mem_map.1 hx
      exact hw l (a4 l hl).2.1 (a4 l hl).2.2)
    simp at b1 b2
    simp [fmtFu]
    have b3 : f.2.length * 221 ≤ 6 * 221 := Nat.mul_le_mul_right _ a3
    omega)
  have h3 := join_len (C.ms.map fmtMd) [59] 240 (fun x hx => by
    obtain ⟨f, hf, rfl⟩ := List.mem_map.1 hx
    obtain ⟨a1, a3, a4⟩ := h.ms f hf
    have b1 := name_len a1
    have b2 := hw f.2 a3 a4
    simp at b1
    simp [fmtMd]
    omega)
  simp at h1 h2 h3
  have g1 : C.ps.length * 13 ≤ 10 * 13 := Nat.mul_le_mul_right _ h.plen
  have g2 : C.fs.length * 1401 ≤ 10 * 1401 := Nat.mul_le_mul_right _ h.flen
  have g3 : C.ms.length * 241 ≤ 6 * 241 := Nat.mul_le_mul_right _ h.mlen
  simp [fmtNt]
  omega
theorem pnE_round {C : NC} (h : NcOk C) : pnE (fmtNt C) = netErr (mkNt C) ∧ pnC (fmtNt C) = C := by
  obtain ⟨h1, h2, h3⟩ := net_round h
  have hl := fmtNt_len h
  unfold pnE pnC
  rw [if_neg (by omega), h1]
  dsimp only [pnE3, pnC3]
  rw [if_pos h2, h3]
  exact ⟨rfl, rfl⟩
theorem asc_len : ∀ (l : List Int) (lo ct : Int), lo ≤ ct → l.Pairwise (· < ·) → (∀ x ∈ l, lo ≤ x ∧ x < ct) → (l.length : Int) ≤ ct - lo
  | [], lo, ct, h, _, _ => by simp; omega
  | x :: l, lo, ct, h, hp, hx => by
    rw [List.pairwise_cons] at hp
    have h1 := hx x (by simp)
    have := asc_len l (x + 1) ct (by omega) hp.2 (fun y hy => ⟨by have := hp.1 y hy; omega, (hx y (by simp [hy])).2⟩)
    simp
    omega
theorem idx_len {l : List Int} {ct : Int} (h0 : 0 ≤ ct) (h : idxErr l ct = 0) : (l.length : Int) ≤ ct := by
  have h1 : ∀ j x, l[j]? = some x → (0 ≤ x ∧ x < ct) ∧ prevI l j < x := fun j x hx => by
    have h2 := eachS_ok _ l 0 h j x hx
    rw [Nat.zero_add] at h2
    obtain ⟨h3, h4⟩ := (fst_cons _ _).1 h2
    have h5 := inR_iff.1 ((unl_zero (by decide)).1 h3)
    have h6 := (unl_zero (by decide)).1 ((fst_cons _ _).1 h4).1
    exact ⟨by omega, of_decide_eq_true h6⟩
  have hadj : ∀ j (hj : j + 1 < l.length), l[j] < l[j + 1] := fun j hj => by
    have := (h1 (j + 1) _ (List.getElem?_eq_getElem hj)).2
    simpa [prevI, List.getElem?_eq_getElem (show j < l.length by omega)] using this
  have := asc_len l 0 ct h0 (List.pairwise_iff_getElem.2 fun i j hi hj hij => by
    obtain ⟨d, rfl⟩ : ∃ d, j = i + 1 + d := ⟨j - i - 1, by omega⟩
    clear hij
    induction d with
    | zero => exact hadj i hj
    | succ d ih => exact Int.lt_trans (ih (by omega)) (hadj (i + 1 + d) hj)) (fun x hx => by
    obtain ⟨j, hj⟩ := List.mem_iff_getElem?.1 hx
    exact (h1 j x hj).1)
  omega
theorem wayC_ok {parts : Int} : ∀ (ws : List (List Int)) (e : Int), wayC parts e ws = 0 → e = 0 ∧ ∀ l ∈ ws, 0 < l.length ∧ idxErr l parts = 0
  | [], e, h => ⟨h, by simp⟩
  | r :: ws, e, h => by
    obtain ⟨h1, h2⟩ := wayC_ok ws _ h
    obtain ⟨h3, h4⟩ := (fst_cons _ _).1 h1
    obtain ⟨h5, h6⟩ := (fst_cons _ _).1 h4
    obtain ⟨h7, -⟩ := (fst_cons _ _).1 h6
    refine ⟨h3, fun r' hr => ?_⟩
    rcases List.mem_cons.1 hr with rfl | hr
    · exact ⟨by simpa using (unl_zero (by decide)).1 h5, h7⟩
    · exact h2 r' hr
theorem nc_ok {n : Nt} (h : netErr n = 0) : NcOk n.cn := by
  unfold netErr netChk at h
  by_cases h0 : n.e0 = 0
  rotate_left
  · rw [if_neg h0] at h; exact absurd h h0
  rw [if_pos h0] at h
  by_cases h1 : (eachS (nmErr n.ps) n.ps 0).2 = 0
  rotate_left
  · rw [if_neg h1] at h; exact absurd h h1
  rw [if_pos h1] at h
  by_cases h2 : (eachS (fuErr n.ps.length (n.fs.map (·.name))) n.fs 0).2 = 0
  rotate_left
  · rw [if_neg h2] at h; exact absurd h h2
  rw [if_pos h2] at h
  unfold Nt.e0 at h0
  obtain ⟨a0, a2⟩ := (fst_cons _ _).1 h0
  obtain ⟨a3, -⟩ := (fst_cons _ _).1 a2
  have a4 := (unl_zero (by decide)).1 a3
  have a5 := (unl_zero (by decide)).1 a0
  simp at a4 a5
  have hnm : ∀ {l : List ByteArray} {k : Nat} {s : ByteArray}, nmErr l k s = 0 → nameB s = true := fun h => (unl_zero (by decide)).1 ((fst_cons _ _).1 h).1
  refine ⟨a5, by show n.ps.length ≤ 10; omega, by show (n.fs.map Fu.con).length ≤ 10; rw [List.length_map]; omega, by show (n.ms.map Md.con).length ≤ 6; rw [List.length_map]; omega, fun p hp => ?_, fun f hf => ?_, fun m hm => ?_⟩
  · obtain ⟨k, hk⟩ := List.mem_iff_getElem?.1 hp
    exact hnm (eachS_ok _ n.ps 0 h1 k p hk)
  · obtain ⟨g, hg, rfl⟩ := List.mem_map.1 hf
    obtain ⟨k, hk⟩ := List.mem_iff_getElem?.1 hg
    have b1 := eachS_ok _ n.fs 0 h2 k g hk
    rw [fuErr_con] at b1
    obtain ⟨b2, b3⟩ := wayC_ok _ _ b1
    obtain ⟨b4, b5⟩ := (fst_cons _ _).1 b2
    obtain ⟨b6, b7⟩ := (fst_cons _ _).1 b5
    obtain ⟨b8, -⟩ := (fst_cons _ _).1 b7
    have c1 := (unl_zero (by decide)).1 b6
    have c2 := (unl_zero (by decide)).1 b8
    simp at c1 c2
    refine ⟨hnm b4, by omega, by omega, fun l hl => ?_⟩
    obtain ⟨d1, d2⟩ := b3 l hl
    have d3 := idx_len (by omega) d2
    refine ⟨d1, by omega, fun v hv => ?_⟩
    have := idxErr_ok d2 v hv
    omega
  · obtain ⟨g, hg, rfl⟩ := List.mem_map.1 hm
    obtain ⟨k, hk⟩ := List.mem_iff_getElem?.1 hg
    have b1 := eachS_ok _ n.ms 0 h k g hk
    obtain ⟨b4, b5⟩ := (fst_cons _ _).1 b1
    obtain ⟨b6, -⟩ := (fst_cons _ _).1 b5
    have d3 := idx_len (by omega) b6
    refine ⟨hnm b4, by show g.r.l.length ≤ 10; omega, fun v hv => ?_⟩
    have := idxErr_ok b6 v hv
    omega
end Go.Proofs.YtbdgblnccjpahaaGreatDoor
namespace Go.Proofs.YtbdgblnccjpahaaGreatDoor
open Go.RowKit Go.Shelf
attribute [local go_sem] bl_al bl_drew bl_drewN bl_refl bx_al bx_drew bx_drewN bx_refl Oper.semAt_some
set_option maxRecDepth 20000
def EncNR (x : List UInt8 × List UInt8) (args : Array Value) (_ : World) : Prop := args = #[.string ⟨x.1.toArray⟩, .string ⟨x.2.toArray⟩]
theorem c_items (s : ByteArray) (w : World) : Calls Tryz.prog 136 #[.string s] w
    (fun e w' => e = .returned (.func (.func 165) #[] #[.pointer (some ⟨w.heap.size, 0, none⟩)]) ∧ Below w.heap.size w w' ∧ Blk w' w.heap.size 9 #[.string s]) := by
  go_enter Tryz.func136, Tryz.ntmps136
  go_wp2
  go_ret
  refine ⟨rfl, by (exact zE), by (exact zK)⟩
theorem contains_index (l : List UInt8) (c : UInt8) : l.contains c = decide (0 ≤ Lib.indexByte l c) := by
  by_cases h : c ∈ l
  · rw [List.contains_iff_mem.2 h]
    symm
    rw [decide_eq_true_eq]
    apply Decidable.byContradiction
    intro hn
    have h1 := splitC_none c l (by omega)
    exact (splitC_two c l).1 (by rw [h1]; rfl) h
  · have h0 : l.contains c = false := by simpa using h
    rw [h0]
    symm
    rw [decide_eq_false_iff_not]
    intro hn
    obtain ⟨i, hi⟩ : ∃ i : Nat, Lib.indexByte l c = i := ⟨(Lib.indexByte l c).toNat, by omega⟩
    obtain ⟨h1, h2⟩ := splitC_some c l i hi
    have h3 := splitC_not c l h
    rw [h3] at h2
    have h5 := congrArg List.length h2
    have h4 := splitC_ne c (l.drop (i + 1))
    have h6 : 0 < (splitC c (l.drop (i + 1))).length := List.length_pos_iff.2 h4
    rw [List.length_cons, List.length_nil, List.length_cons] at h5
    omega
theorem c_Contains (l : List UInt8) (c : UInt8) (w : World) : Calls Tryz.prog 166 #[.string ⟨l.toArray⟩, .string ⟨#[c]⟩] w (Same (.bool (l.contains c)) w) :=
  (Tryz.strings_Contains_one ⟨l.toArray⟩ c w).mono fun e w' ⟨h1, h2⟩ => ⟨by rw [h1, contains_index], h2.symm⟩
theorem lt_app {X X' : List Nat} {b : Nat} (h : ∀ y ∈ X, y < b) (h' : ∀ y ∈ X', y < b) : ∀ y ∈ X ++ X', y < b := fun y hy => (List.mem_append.1 hy).elim (h y) (h' y)
set_option maxHeartbeats 8000000 in
theorem items_iter (l : List UInt8) (g D : Nat) (X : List Nat) (Ts Tk : TypeId → Prop) (W0 : World) (hl : l.length ≤ 100000) (k0 : Blk W0 g 9 #[.string ⟨l.toArray⟩])
    (hX : ∀ x ∈ X, x < W0.heap.size) (hTs : ¬ Ts 9) (hTk : ¬ Tk 9) (hTi : ¬ Ts 3) (hTf : ¬ Ts 227) :
    YieldsT Tryz.prog D X [] Ts Tk 165 #[.pointer (some ⟨g, 0, none⟩)] EncNR (itemsL l) W0 := by
  intro ln J Jx W hb hln hJ hJx hY h0
  refine callsIn_wide.2 ?_
  replace hY := Lib.hid hY
  replace hJ := Lib.hid hJ
  replace hJx := Lib.hid hJx
  replace h0 := Lib.hid h0
  replace k0 := k0.below hb
  have hXW : ∀ x ∈ X, x < W.heap.size := fun x hx => Nat.lt_of_lt_of_le (hX x hx) hb.size
  clear hb hX
  show Calls Tryz.prog 165 #[.func (.yield ln) #[] #[], .pointer (some ⟨g, 0, none⟩)] W _
  have kY := Blk.new W 227 #[.func (.yield ln) #[] #[]]
  have hbA := bl_al (.cells #[.func (.yield ln) #[] #[]] 227) (bl_refl W)
  have L0 := (k0.below hbA).cell
  by_cases hnil : l = []
  · subst hnil
    have hil : itemsL [] = [] := rfl
    rw [hil]
    refine calls_marks Tryz.func165 rfl ?_
    simp only [Tryz.ntmps165, List.size_toArray, List.length_cons, List.length_nil, Nat.reduceAdd, Nat.reduceSub, Array.replicate_succ, Array.replicate_zero, List.push_toArray, List.append_toArray, List.nil_append, List.cons_append]
    go_wp2
    refine postM_ret (v := .tuple #[]) (by simp [results, Tryz.results165, go_sem]) ⟨⟨_, rfl⟩, .inl (hJ.out _ _ _ h0.out (.of_below hbA))⟩
  · have hne : (([] : List UInt8) == l) = false := by simpa using hnil
    have hne2 : (l == ([] : List UInt8)) = false := by simpa using hnil
    have hil : itemsL l = (splitC 59 l).map itmOf := by unfold itemsL; rw [if_neg hnil]
    rw [hil] at hY ⊢
    have hmem := Lib.hid (splitC_mem 59 l)
    have hit := Lib.hid fun g W k0 k1 k2 hX => split_iterT l 59 g D X Ts Tk W (by omega) k0 k1 k2 hX hTs hTk (.inr hTi)
    have hcS := Lib.hid fun W => c_SplitSeq ⟨l.toArray⟩ ⟨#[59]⟩ W
    obtain ⟨xs, hxs⟩ : ∃ xs, Hid (splitC 59 l = xs) := ⟨_, rfl⟩
    rw [hxs.out] at hmem hit hY ⊢
    replace hnil := Lib.hid hnil
    refine calls_marks Tryz.func165 rfl ?_
    simp only [Tryz.ntmps165, List.size_toArray, List.length_cons, List.length_nil, Nat.reduceAdd, Nat.reduceSub, Array.replicate_succ, Array.replicate_zero, List.push_toArray, List.append_toArray, List.nil_append, List.cons_append]
    go_upto_region 2 with fail
    have kYA := kY
    have hszA : (W.alloc (.cells #[.func (.yield ln) #[] #[]] 227)).heap.size = W.heap.size + 1 := by simp
    replace h0 := Lib.hid (hJ.out _ _ _ h0.out (.of_below hbA))
    generalize W.alloc (.cells #[.func (.yield ln) #[] #[]] 227) = wA at *
    go_wp2_with fail
    refine (hcS.out wA).mono ?_
    rintro e w3 ⟨rfl, hb1, q0, q1, q2⟩
    rw [hszA] at q0 q1 q2 ⊢
    replace h0 := Lib.hid (hJ.out _ _ _ h0.out (.of_below hb1))
    replace kY := kY.below hb1
    have hWw : W.heap.size + 1 ≤ w3.heap.size := by have := hb1.size; omega
    have hq2 := q2.lt
    have hit' := hit.out (W.heap.size + 1) w3 q0 q1 q2 (fun x hx => by have := hXW x hx; omega)
    clear hcS hb1 hbA L0 kYA k0 hit
    go_wp2
    refine wp_range5 (gf := 155) (lb := #[.pointer (some ⟨W.heap.size + 1 + 1, 0, none⟩), .pointer (some ⟨W.heap.size + 1, 0, none⟩), .pointer (some ⟨W.heap.size + 1 + 2, 0, none⟩)]) ?hg (enters_of Tryz.func155 (by kernel_rfl) rfl) (Enc := EncP) (xs := xs) D X [W.heap.size + 1] Ts Tk hit' ?hps (fun x hx => by have := hXW x hx; omega) (by simp; omega)
      (fun pre W' => J (pre.map itmOf) W' ∧ Blk W' W.heap.size 227 #[.func (.yield ln) #[] #[]])
      (fun c pre W' => c = .ret ∧ Jx (pre.map itmOf) W')
      ?hI ?hIx ?h0 ?round ?done ?stop
    case hg => rfl
    case hps => rintro x args W rfl; rfl
    case hI =>
      rintro s A B ⟨h1, h2⟩ hm
      exact ⟨hJ.out _ _ _ h1 (hm.mono (by omega) (by simp)), hm.blk h2 (by omega) (by simp)⟩
    case hIx =>
      rintro c s A B ⟨h1, h2⟩ hm
      exact ⟨h1, hJx.out _ _ _ h2 (hm.mono (by omega) (by simp))⟩
    case h0 => exact ⟨h0.out, kY⟩
    case round =>
      rintro ln2 pre x args W2 ⟨hj, k2⟩ hpre rfl
      have hxm : x.length ≤ l.length := hmem.out x (by obtain ⟨r, hr⟩ := hpre; rw [← hr]; simp)
      replace hj := Lib.hid hj
      clear hit'
      gi_wp2
      refine ⟨RT.refl _ _ _ _, fun W4 hc hl2 hlr => ?_⟩
      replace hj := Lib.hid (hJ.out _ _ _ hj.out (.of_ck (hc.more (show W.heap.size ≤ w3.heap.size by omega))))
      replace k2 := hc.blk k2
      clear hc
      have hcut := Lib.hid fun W => c_CutB x 61 W (by omega)
      have hcon := Lib.hid fun l W => c_Contains l 61 W
      have hit2 : Hid (itmOf x = (if (cutC 61 x).2.2 && !(cutC 61 x).2.1.contains 61 then (cutC 61 x).1 else [], (cutC 61 x).2.1)) := rfl
      generalize cutC 61 x = C at *
      obtain ⟨nm, rest, fnd⟩ := C
      dsimp only at *
      gi_upto_region 5 with (first | (rename_i h1 h2; exact absurd h1 undef_bool) | (with_reducible refine And.intro (wide_fn _) ?_) | (gi_at_call 60; (with_reducible refine (CallsIn.inRound ln2 (callsIn_wide.2 (hcut.out _))).mono ?_); rintro e w4 ⟨rfl, hb4⟩))
      replace hj := Lib.hid (hJ.out _ _ _ hj.out (.of_below hb4))
      replace k2 := k2.below hb4
      have hrt : RT D X Ts W4 w4 := .of_below hb4
      clear hb4 hcut
      obtain ⟨bad, hbad⟩ : ∃ b, Hid (rest.contains 61 = b) := ⟨_, rfl⟩
      have hcon2 : Hid (∀ W : World, Calls Tryz.prog 166 #[.string ⟨rest.toArray⟩, .string ⟨#[61]⟩] W (Same (.bool bad) W)) := fun W => by
        have := hcon.out rest W
        rw [hbad.out] at this
        exact this
      have hit3 : Hid (itmOf x = (if fnd && !bad then nm else [], rest)) := by
        have h := hit2.out
        rw [hbad.out] at h
        exact h
      clear hcon hit2 hbad
      have key : ∀ nn : List UInt8, itmOf x = (nn, rest) → YieldAt Fence.wide 4 Tryz.prog ln #[.string ⟨nn.toArray⟩, .string ⟨rest.toArray⟩] w4 fun ε W' =>
          (ε = .returned (.bool true) ∧ J (pre.map itmOf ++ [itmOf x]) W' ∧ RT D X Ts w4 W') ∨ (ε = .returned (.bool false) ∧ Jx (pre.map itmOf ++ [itmOf x]) W' ∧ ∃ X', (∀ x ∈ X', x ≤ ln) ∧ RT D X' Ts w4 W') := fun nn hnn =>
        hY.out (pre.map itmOf) (itmOf x) #[.string ⟨nn.toArray⟩, .string ⟨rest.toArray⟩] w4 hj.out (by obtain ⟨r, hr⟩ := hpre; exact ⟨r.map itmOf, by rw [← hr]; simp⟩) (by rw [hnn]; rfl)
      replace key := Lib.hid key
      have hXb : ∀ y ∈ X, y ≠ W.heap.size := fun y hy e => by have := hXW y hy; omega
      have L2 := k2.cell
      cases fnd with
      | false =>
        have hi4 : itmOf x = ([], rest) := hit3.out
        obtain ⟨fn, tmps, assign, body, hy, hR⟩ := key.out [] hi4
        gi_wp2_with (first | (rename_i h1 h2; exact absurd h1 undef_bool) | (with_reducible refine And.intro (wide_fn _) ?_) | (gi_at_call 166; (with_reducible refine (CallsIn.inRound ln2 (callsIn_wide.2 (hcon2.out _))).mono ?_); rintro e w5 ⟨rfl, rfl⟩))
        refine (roundIn_anyN hR).mono ?_
        rintro e W3 (⟨rfl, hj3, hrn⟩ | ⟨rfl, hjx, X', hX', hrn⟩)
        · gi_wp2
          exact ⟨hrt.trans hrn, by rw [List.map_append]; exact hj3, hrn.blk k2 (fun m => hXb _ m rfl) (.inr hTf)⟩
        · gi_wp2
          exact ⟨⟨X ++ X', lt_app (fun y hy => by have := hXW y hy; omega) (fun y hy => by have := hX' y hy; omega), (hrt.more (fun y hy => List.mem_append_left _ hy)).trans (hrn.more (fun y hy => List.mem_append_right _ hy))⟩, rfl, by rw [List.map_append]; exact hjx⟩
      | true =>
        cases bad with
        | true =>
          have hi4 : itmOf x = ([], rest) := hit3.out
          obtain ⟨fn, tmps, assign, body, hy, hR⟩ := key.out [] hi4
          gi_wp2_with (first | (rename_i h1 h2; exact absurd h1 undef_bool) | (with_reducible refine And.intro (wide_fn _) ?_) | (gi_at_call 166; (with_reducible refine (CallsIn.inRound ln2 (callsIn_wide.2 (hcon2.out _))).mono ?_); rintro e w5 ⟨rfl, rfl⟩))
          refine (roundIn_anyN hR).mono ?_
          rintro e W3 (⟨rfl, hj3, hrn⟩ | ⟨rfl, hjx, X', hX', hrn⟩)
          · gi_wp2
            exact ⟨hrt.trans hrn, by rw [List.map_append]; exact hj3, hrn.blk k2 (fun m => hXb _ m rfl) (.inr hTf)⟩
          · gi_wp2
            exact ⟨⟨X ++ X', lt_app (fun y hy => by have := hXW y hy; omega) (fun y hy => by have := hX' y hy; omega), (hrt.more (fun y hy => List.mem_append_left _ hy)).trans (hrn.more (fun y hy => List.mem_append_right _ hy))⟩, rfl, by rw [List.map_append]; exact hjx⟩
        | false =>
          have hi4 : itmOf x = (nm, rest) := hit3.out
          obtain ⟨fn, tmps, assign, body, hy, hR⟩ := key.out nm hi4
          gi_wp2_with (first | (rename_i h1 h2; exact absurd h1 undef_bool) | (with_reducible refine And.intro (wide_fn _) ?_) | (gi_at_call 166; (with_reducible refine (CallsIn.inRound ln2 (callsIn_wide.2 (hcon2.out _))).mono ?_); rintro e w5 ⟨rfl, rfl⟩))
          refine (roundIn_anyN hR).mono ?_
          rintro e W3 (⟨rfl, hj3, hrn⟩ | ⟨rfl, hjx, X', hX', hrn⟩)
          · gi_wp2
            exact ⟨hrt.trans hrn, by rw [List.map_append]; exact hj3, hrn.blk k2 (fun m => hXb _ m rfl) (.inr hTf)⟩
          · gi_wp2
            exact ⟨⟨X ++ X', lt_app (fun y hy => by have := hXW y hy; omega) (fun y hy => by have := hX' y hy; omega), (hrt.more (fun y hy => List.mem_append_left _ hy)).trans (hrn.more (fun y hy => List.mem_append_right _ hy))⟩, rfl, by rw [List.map_append]; exact hjx⟩
    case done =>
      rintro W' ⟨h1, h2⟩ hK
      clear hit'
      go_wp2
      have hck := CK.put (D := w3.heap.size) (.deferred none) hK rfl (Nat.le_refl _)
      refine postM_taken hK (v := .tuple #[]) (by simp [results, Tryz.results165, go_sem]) ⟨⟨_, rfl⟩, .inl (hJ.out _ _ _ h1 (.of_ck (hck.more (by omega))))⟩
    case stop =>
      rintro c' pre W' hpre ⟨rfl, hjx⟩ hK
      clear hit'
      go_wp2
      have hck := CK.put (D := w3.heap.size) (.deferred none) hK rfl (Nat.le_refl _)
      refine postM_taken hK (v := .tuple #[]) (by simp [results, Tryz.results165, go_sem]) ⟨⟨_, rfl⟩, .inr ⟨_, by obtain ⟨r, hr⟩ := hpre; exact ⟨r.map itmOf, by rw [← hr]; simp⟩, hJx.out _ _ _ hjx (.of_ck (hck.more (by omega)))⟩⟩
end Go.Proofs.YtbdgblnccjpahaaGreatDoor
namespace Go.Proofs.YtbdgblnccjpahaaGreatDoor
open Go.RowKit Go.Shelf
attribute [local go_sem] bl_al bl_drew bl_drewN bl_refl bx_al bx_drew bx_drewN bx_refl
set_option maxRecDepth 20000
/-- What a call leaves of a sender that it turns. -/
def Turn (b S Bw : Nat) (vl vs : Value) (n : Nat) (Q : QS) (s' : Ss) (w w' : World) : Prop :=
  ∃ Q', Snd b S Bw vl vs n Q' s' w' ∧ BX (foot S Bw Q) w w' ∧ ∀ i, i < 6 → blA (Q'.A i) = blA (Q.A i) ∨ ∃ g, blA (Q'.A i) = [g] ∧ w.heap.size ≤ g
end Go.Proofs.YtbdgblnccjpahaaGreatDoor
namespace Go.Proofs.YtbdgblnccjpahaaGreatDoor
open Go.RowKit Go.Shelf
attribute [local go_sem] bl_al bl_drew bl_drewN bl_refl bx_al bx_drew bx_drewN bx_refl
set_option maxRecDepth 20000
end Go.Proofs.YtbdgblnccjpahaaGreatDoor
