/-
  Walks: an order in which no stream is late.
  Walk: the first order in which no stream is late.
  Plain laws: streams in the first order are carried in time, whatever the starts are, and a watchdog finds none of them silent.
  Walks: chapter 7's examples are shown; streams in an order.
  Walk: streams that are equal are found equal.
  Plain: what a net says, without where it lies.
  Plain: nets and streams as strings, and read again.
  Walks: the error of starts by the reference; a copy of streams of which one is made longer.
  Plain: starts that are all zero; the limits of a law on starts.
-/
import Derived.Test.YtbdgblnccjpahaaGreatDoorVBusInTime4
import Derived.Test.YtbdgblnccjpahaaGreatDoorVBusInTime3
import Derived.Test.YtbdgblnccjpahaaGreatDoorUT4
import Derived.Test.YtbdgblnccjpahaaGreatDoorUT5
import Derived.Test.YtbdgblnccjpahaaGreatDoorUT6
import Derived.Test.YtbdgblnccjpahaaGreatDoorUT3
import Derived.Test.YtbdgblnccjpahaaGreatDoorUT7
import Derived.Test.YtbdgblnccjpahaaGreatDoorVBusInTime2
set_option linter.unusedSimpArgs false
set_option linter.unusedVariables false
namespace Go.Proofs.YtbdgblnccjpahaaGreatDoor
open Go.RowKit Go.Shelf
attribute [local go_sem] bl_al bl_drew bl_drewN bl_refl bx_al bx_drew bx_drewN bx_refl
set_option maxRecDepth 20000
def bI (b : List Nat) : List Int := b.map fun i : Nat => (i : Int)
theorem bI_len (b : List Nat) : (bI b).length = b.length := by simp [bI]
/-- 'append' onto a slice without room: a slice of the call's own. -/
theorem run_app_clip (ty : TypeId) (W : World) (A : Option Addr) (L : List Int) (v : Int) (g : Nat) (hs : Sl cI 1 W A L) (hg : Blk W g 3 #[.int .i64 v]) (hL : L.length ≤ 1000) (hA : A = none → L = []) :
    ∃ v' w', (Builtin.append_ #[23, 23 ] ty #[.slice A L.length L.length, .slice (some ⟨g, 0, none⟩) 1 1]).run Tryz.prog W = .ok v' w' ∧ w'.ownsRow W.heap.size 3 1 v' (L.length + 1) ((L ++ [v]).map (.int .i64)) ∧ W.grownBy w' none := by
  obtain ⟨i0, hi, hz0, hz1, hz2⟩ := info_parts infoI
  have hn : ∀ (j : Nat) (u : Value), [Value.int .i64 v][j]? = some u → W.cell? ((⟨g, 0, none⟩ : Addr).add j) = some u := fun j u hj => by
    match j, hj with
    | 0, hj =>
      simp at hj; subst hj
      simp only [Addr.add, if_true]
      rw [hg.cell]
      rfl
    | j + 1, hj => simp at hj
  cases A with
  | none =>
    have := hA rfl
    subst this
    obtain ⟨v', w', h1, h2, h3, h4⟩ := run_append_own2 (P := Tryz.prog) W.heap.size 23 ty 3 i0 (.int .i64 0) 1 8 Tryz.underlying23 hi hz0 hz1 hz2 rfl (by decide) _ 0 [] (World.ownsRow_nil W W.heap.size 3 1) ⟨g, 0, none⟩ 1 1 [.int .i64 v] rfl hn (fun u hu => by simp at hu; subst hu; rfl) (by unfold maxLen; omega) (by omega) (Nat.le_refl _)
    exact ⟨v', w', h1, h2, h3⟩
  | some a =>
    obtain ⟨v', w', h1, h2, h3⟩ := run_append_arg_grows (P := Tryz.prog) W 23 ty 3 i0 (.int .i64 0) 1 8 Tryz.underlying23 hi hz0 hz1 hz2 rfl (by decide) a L.length L.length (L.map (.int .i64)) (by simp) (fun j u hj => by
      rw [List.getElem?_map] at hj
      cases hx : L[j]? with
      | none => rw [hx] at hj; cases hj
      | some x =>
        rw [hx] at hj
        injection hj with hj
        subst hj
        obtain ⟨b, off, e, hc⟩ := hs j x hx
        injection e with e
        subst e
        have := hc 0 _ rfl
        by_cases h0 : j = 0
        · subst h0
          simpa [Addr.add] using this
        · simpa [Addr.add, h0] using this) ⟨g, 0, none⟩ 1 1 [.int .i64 v] rfl hn (by omega) (by unfold maxLen; omega) (by omega)
    exact ⟨v', w', h1, by simpa using h2, h3⟩
theorem wp_app_clip {o : Oper} {a : Act} {K : Act → World → Prop} {Q : Exit → Act → World → Prop} {W : World} (s x : Operand) (ho : o.op = .call { callee := .builtin .append, args := #[s, x], argTypes := #[23, 23 ] })
    (A : Option Addr) (L : List Int) (n : Nat) (v : Int) (g : Nat) (hn : L.length = n) (hs' : a.eval s = .slice A n n) (hx : a.eval x = .slice (some ⟨g, 0, none⟩) 1 1) (hs : Sl cI 1 W A L) (hg : Blk W g 3 #[.int .i64 v]) (hL : L.length ≤ 1000) (hA : A = none → L = [])
    (h : ∀ v' w', w'.ownsRow W.heap.size 3 1 v' (L.length + 1) ((L ++ [v]).map (.int .i64)) → W.grownBy w' none → K (a.put o.dst v') w') : o.wp Tryz.prog a W K Q := by
  subst hn
  obtain ⟨v', w', hr, h2, h3⟩ := run_app_clip o.type W A L v g hs hg hL hA
  unfold Oper.wp execOp
  simp only [ho, resolve, invoke, builtin, Sem.run_bind, Sem.run_pure, Result.andThen_ok, List.map_toArray, List.map_cons, List.map_nil, hs', hx, hr]
  exact h _ _ h2 h3
theorem bI_app (b : List Nat) (k : Nat) : bI (b ++ [k]) = bI b ++ [(k : Int)] := by simp [bI]
theorem own_hdr {W : World} {D n m : Nat} {v : Value} {xs : List Value} (h : W.ownsRow D 3 1 v (n + 1) xs) (hm : n + 1 = m) : ∃ A c, v = .slice A m c ∧ m ≤ c ∧ c ≤ maxLen ∧ A ≠ none := by
  subst hm
  rcases h.2 with ⟨_, e0⟩ | ⟨g, cap, cur, e1, _, _, e3, e4, _, _⟩
  · omega
  · exact ⟨_, _, e1, e3, e4, by simp⟩
/-- The first order that goes on from some indexes, in which no stream is late; of so many that still lack. -/
def tmL (l : List Sm) (b : List Nat) (f : List Nat → Option (List Nat)) : Nat → Nat → Option (List Nat)
  | 0, _ => none
  | n + 1, k => match l[k]? with
    | none => none
    | some s => if ((bI b).any fun y => decide ((k : Int) = y)) || lateB (ordL l b) s then tmL l b f n (k + 1)
      else match f (b ++ [k]) with
        | some r => some r
        | none => tmL l b f n (k + 1)
def tmS (l : List Sm) : Nat → List Nat → Option (List Nat)
  | 0, b => some b
  | d + 1, b => tmL l b (tmS l d) l.length 0
/-- What stands at an index of the search. -/
def tmG (l : List Sm) (b : List Nat) (f : List Nat → Option (List Nat)) (k : Nat) : Option (List Nat) := tmL l b f (l.length - k) k
theorem tmG_end (l : List Sm) (b : List Nat) (f : List Nat → Option (List Nat)) : tmG l b f l.length = none := by
  rw [tmG, Nat.sub_self]
  rfl
theorem tmG_next {l : List Sm} (b : List Nat) (f : List Nat → Option (List Nat)) {k : Nat} {s : Sm} (hs : l[k]? = some s) :
    tmG l b f k = if ((bI b).any fun y => decide ((k : Int) = y)) || lateB (ordL l b) s then tmG l b f (k + 1)
      else match f (b ++ [k]) with
        | some r => some r
        | none => tmG l b f (k + 1) := by
  have hk := (List.getElem?_eq_some_iff.1 hs).1
  unfold tmG
  rw [show l.length - k = (l.length - (k + 1)) + 1 by omega, tmL, hs]
/-- An order, or none. -/
def TmP (R : Option (List Nat)) (w : World) (e : Ending) (w' : World) : Prop :=
  Below w.heap.size w w' ∧ (R = none → e = .returned (.tuple #[.slice none 0 0, .bool false])) ∧ ∀ r, R = some r → ∃ A c, e = .returned (.tuple #[.slice A r.length c, .bool true]) ∧ Sl cI 1 w' A (bI r) ∧ r.length ≤ c
theorem ordL_take (l : List Sm) (b : List Nat) (k i : Nat) (s : Sm) (hb : b[k]? = some i) (hs : l[i]? = some s) : ordL l (b.take (k + 1)) = ordL l (b.take k) ++ [s] := by
  rw [List.take_add_one, hb]
  exact ordL_app l (b.take k) i s hs
theorem ordL_len (l : List Sm) (b : List Nat) : (ordL l b).length = b.length := by simp [ordL]
set_option maxHeartbeats 8000000 in
theorem c_timely (l : List Sm) (hok : ∀ s ∈ l, OkSm s) (h6 : l.length ≤ 6) (A : Option Addr) (c : Nat) : ∀ (d : Nat) (b : List Nat) (A1 : Option Addr) (c1 : Nat) (w : World), b.length + d = l.length → Begun l b → Sl cSm 4 w A l → Sl cI 1 w A1 (bI b) → b.length ≤ c1 → c1 ≤ maxLen → (A1 = none → bI b = []) →
    Calls Tryz.prog 57 #[.slice A l.length c, .slice A1 b.length c1] w (TmP (tmS l d b) w)
  | 0, b, A1, c1, w, hd, hb, hl, hs, hc, hc2, hn => by
    have hs' := Lib.hid hs
    have hr : Hid (tmS l 0 b = some b) := rfl
    generalize tmS l 0 b = R at *
    have e : b.length = l.length := by omega
    rw [e]
    have e' := Lib.hid e
    have hcH := Lib.hid hc
    clear hb hl hs hn hd hc e
    generalize l.length = n at *
    go_enter Tryz.func57, Tryz.ntmps57
    go_wp2
    go_ret2
    exact ⟨bl_refl w, fun h => by (have := hr.out; rw [h] at this; cases this), fun r h => by
      have h2 := hr.out
      rw [h] at h2
      injection h2 with h2
      subst h2
      exact ⟨A1, c1, by rw [e'.out] <;> rfl, hs'.out, hcH.out⟩⟩
  | d + 1, b, A1, c1, w, hd, hb, hl, hs, hc, hc2, hn => by
    obtain ⟨i0, hi, hz0, hz1, hz2⟩ := info_parts infoSm
    have ih := Lib.hid fun b A1 c1 w => c_timely l hok h6 A c d b A1 c1 w
    have Hl := Lib.hid hl
    have Hs := Lib.hid hs
    have Hb := Lib.hid hb
    have hbl := bI_len b
    have hne : ¬ (b.length : Int) = l.length := by omega
    have hne2 : ¬ b.length = l.length := by omega
    have hbeq : ((b.length : Int) == (l.length : Int)) = false := by simp; omega
    have hot := Lib.hid (ordL_take l b)
    have hol := Lib.hid (ordL_len l)
    have hot0 : Hid (ordL l (b.take 0) = []) := rfl
    have hT0 : Hid (tmS l (d + 1) b = tmG l b (tmS l d) 0) := rfl
    have hTn := Lib.hid (tmG_end l b (tmS l d))
    have hTs := Lib.hid fun (k : Nat) (s : Sm) (hs : l[k]? = some s) => tmG_next b (tmS l d) hs
    obtain ⟨G, hG⟩ : ∃ G : Nat → Option (List Nat), ∀ k, tmG l b (tmS l d) k = G k := ⟨_, fun _ => rfl⟩
    simp only [hG] at hT0 hTn hTs
    clear hG
    generalize tmS l (d + 1) b = R at *
    obtain ⟨Q, hQ⟩ : ∃ Q : List Nat → Option (List Nat), ∀ b, tmS l d b = Q b := ⟨_, fun _ => rfl⟩
    simp only [hQ] at hTs ih
    clear hQ
    clear hl hs hb
    go_enter Tryz.func57, Tryz.ntmps57
    go_upto_region 5 with fail
    (try simp only [hbeq])
    go_loopw [6, 21] (fun v i wr => ∃ k : Nat, k ≤ b.length ∧ i = .int .i64 k ∧ Below w.heap.size w wr ∧ wr.ownsRow w.heap.size 43 4 v k ((ordL l (b.take k)).flatMap cSm)) (fun _ i _ => b.length - (intOf i).toNat)
    case atStart => exact ⟨0, Nat.zero_le _, rfl, bl_refl w, by rw [hot0.out]; exact World.ownsRow_nil _ _ _ _⟩
    case round =>
      obtain ⟨k, hk, rfl, hb0, ho⟩ := hrel
      replace ho := Lib.hid ho
      by_cases hkb : k < b.length
      · have hx : b[k]? = some b[k] := List.getElem?_eq_getElem hkb
        have hlt := Hb.out.lt b[k] (List.getElem_mem hkb)
        generalize b[k] = i at *
        have hi1 : l[i]? = some l[i] := List.getElem?_eq_getElem hlt
        generalize l[i] = s at hi1
        have hnx := Lib.hid (hot.out k i s hx hi1)
        obtain ⟨b1, o1, rfl, hc3⟩ := Hs.out k i (by simp [bI, hx])
        obtain ⟨b2, o2, rfl, hc4⟩ := Hl.out i s hi1
        have LB : ∀ W, Below w.heap.size w W → W.cell? ⟨b1, o1 + k, none⟩ = some (.int .i64 i) := later (by simpa using hc3 0 _ rfl)
        have L0 : ∀ W, Below w.heap.size w W → W.cell? ⟨b2, o2 + i * 4, none⟩ = some (.string s.name) := later (by simpa using hc4 0 _ rfl)
        have L1 : ∀ W, Below w.heap.size w W → W.cell? ⟨b2, o2 + i * 4 + 1, none⟩ = some (.int .i64 s.per) := later (hc4 1 _ rfl)
        have L2 : ∀ W, Below w.heap.size w W → W.cell? ⟨b2, o2 + i * 4 + 2, none⟩ = some (.int .i64 s.dl) := later (hc4 2 _ rfl)
        have L3 : ∀ W, Below w.heap.size w W → W.cell? ⟨b2, o2 + i * 4 + 3, none⟩ = some (.int .i64 s.len) := later (hc4 3 _ rfl)
        have hkb2 : (k : Int) < b.length := by omega
        have hlt2 : (i : Int) < l.length := by omega
        clear hc3 hc4 hx hi1
        obtain ⟨sn, sp, sd, sl⟩ := s
        dsimp only at *
        have hsz := hb0.size
        have hoA := Lib.hid (own_below ho.out (bl_al (.cells #[.string sn, .int .i64 sp, .int .i64 sd, .int .i64 sl] 43) (bl_refl _)))
        go_wp2_with (at_builtin; refine wpList_append_own2 rfl _ _ 22 rfl w.heap.size 43 i0 (.agg #[.string ByteArray.empty, .int .i64 0, .int .i64 0, .int .i64 0]) 4 40 Tryz.underlying22 hi hz0 hz1 hz2 rfl (by decide) _ _ _ rfl (hoA.out) ⟨_, 0, none⟩ 1 1 (cSm ⟨sn, sp, sd, sl⟩) rfl rfl ?c1 ?c2 ?c3 ?c4 ?c5 ?_)
        case c1 =>
          intro j u hj
          match j, hj with
          | 0, hj => simp [cSm] at hj; subst hj; simp [Addr.add]
          | 1, hj => simp [cSm] at hj; subst hj; simp [Addr.add]
          | 2, hj => simp [cSm] at hj; subst hj; simp [Addr.add]
          | 3, hj => simp [cSm] at hj; subst hj; simp [Addr.add]
          | j + 4, hj => simp [cSm] at hj
        case c2 => intro u hu; simp [cSm] at hu; rcases hu with rfl | rfl | rfl | rfl <;> rfl
        case c3 => unfold maxLen; omega
        case c4 => omega
        case c5 => simp; omega
        intro v1 w3 hown hg2 hd2
        replace hb0 := (bl_al (.cells #[.string sn, .int .i64 sp, .int .i64 sd, .int .i64 sl] 43) hb0).grown hg2 (by simp; omega) (own_ge hoA.out)
        replace hown := Lib.hid hown
        clear hg2 hd2 hoA hsz ho
        go_wp2
        go_roundw
        case rel => exact ⟨k + 1, by omega, by go_num, hb0, by rw [hnx.out]; simpa using hown.out⟩
        case measure => simp [intOf]; omega
      · obtain rfl : k = b.length := by omega
        rw [List.take_length] at ho
        have holb := hol.out b
        have Hnx := Lib.hid fun (i : Nat) (s : Sm) (hs : l[i]? = some s) (hn : i ∉ b) (hl : lateB (ordL l b) s = false) => Hb.out.next hs hn hl
        have hokP : ∀ o ∈ ordL l b, OkSm o := fun o ho => by
          obtain ⟨i, hi, rfl⟩ := List.mem_map.1 ho
          have := Hb.out.lt i hi
          rw [List.getElem?_eq_getElem this]
          exact hok _ (List.getElem_mem this)
        generalize ordL l b = P at *
        clear hot hot0 hol
        rw [← holb] at ho
        obtain ⟨A5, c5, hv⟩ := own_slice ho.out
        subst hv
        have sP := Lib.hid (own_slC (cs := cSm) (fun _ => rfl) (by decide) ho.out)
        obtain ⟨wq, hwq⟩ : ∃ wq, wq = wr := ⟨_, rfl⟩
        subst hwq
        have hct := Lib.hid fun (i : Nat) W (hW : Below w.heap.size w W) => c_ContainsI (bI b) i A1 c1 W (Hs.out.below hW) (by rw [hbl]; omega)
        rw [hbl] at hct
        have hla := Lib.hid fun (s : Sm) (hs : s ∈ l) W (hW : Below wq.heap.size wq W) => c_isLate P s A5 c5 W (sP.out.below hW) (by omega) hokP (hok s hs)
        have hcl := Lib.hid fun W => c_ClipI (bI b) A1 c1 W (by rw [hbl]; exact hc) hc2
        rw [hbl] at hcl
        clear ho hbeq
        replace holb := Lib.hid holb
        go_wp2
        go_loopw [35] (fun i wr => ∃ k : Nat, k ≤ l.length ∧ i = .int .i64 k ∧ R = G k ∧ Below wq.heap.size wq wr) (fun i _ => l.length - (intOf i).toNat)
        case atStart => exact ⟨0, Nat.zero_le _, rfl, hT0.out, bl_refl _⟩
        case round =>
          obtain ⟨k, hk, rfl, hR, hb1⟩ := hrel
          by_cases hkn : k < l.length
          rotate_left
          · obtain rfl : k = l.length := by omega
            have hR2 := Lib.hid (hR.trans hTn.out)
            clear hR
            go_wp2
            go_ret2
            exact ⟨bl_tr hb0 hb1, fun _ => rfl, fun r h => by (have := hR2.out; rw [h] at this; cases this)⟩
          · have hx : l[k]? = some l[k] := List.getElem?_eq_getElem hkn
            have hm : l[k] ∈ l := List.getElem_mem hkn
            have hlk := Lib.hid fun W hW => hla.out l[k] hm W hW
            have hnx := Lib.hid fun (h1 : k ∉ b) (h2 : lateB P l[k] = false) => Hnx.out k l[k] hx h1 h2
            have hT := Lib.hid (hR.trans (hTs.out k l[k] hx))
            clear hR
            generalize l[k] = s at *
            obtain ⟨b2, o2, rfl, hc4⟩ := Hl.out k s hx
            have hb2 := bl_tr hb0 hb1
            have L0 : wr.cell? ⟨b2, o2 + k * 4, none⟩ = some (.string s.name) := later (by simpa using hc4 0 _ rfl) wr hb2
            have L1 : wr.cell? ⟨b2, o2 + k * 4 + 1, none⟩ = some (.int .i64 s.per) := later (hc4 1 _ rfl) wr hb2
            have L2 : wr.cell? ⟨b2, o2 + k * 4 + 2, none⟩ = some (.int .i64 s.dl) := later (hc4 2 _ rfl) wr hb2
            have L3 : wr.cell? ⟨b2, o2 + k * 4 + 3, none⟩ = some (.int .i64 s.len) := later (hc4 3 _ rfl) wr hb2
            have hkn2 : (k : Int) < l.length := by omega
            have hctk := Lib.hid (hct.out k)
            have hany := Lib.hid fun h : ((bI b).any fun y => decide ((k : Int) = y)) = false => (show k ∉ b from fun hm => by
              rw [List.any_eq_false] at h
              have := h (k : Int) (List.mem_map.2 ⟨k, hm, rfl⟩)
              simp at this)
            generalize ((bI b).any fun y => decide ((k : Int) = y)) = B at *
            generalize lateB P s = LB at *
            clear hc4 hx hla hct
            obtain ⟨sn, sp, sd, sl⟩ := s
            dsimp only at *
            go_upto_region 12 with fail
            have k1 := Blk.new wr 43 #[.string sn, .int .i64 sp, .int .i64 sd, .int .i64 sl]
            replace hb1 := bl_al (.cells #[.string sn, .int .i64 sp, .int .i64 sd, .int .i64 sl] 43) hb1
            clear L0 L1 L2 L3 hb2
            generalize wr.alloc (.cells #[.string sn, .int .i64 sp, .int .i64 sd, .int .i64 sl] 43) = wb at *
            go_wp2_with fail
            refine (hctk.out _ (bl_tr hb0 hb1)).mono ?_
            rintro e w3 ⟨rfl, rfl⟩
            have LX := k1.cell
            cases B
            rotate_left
            · go_wp2
              go_roundw
              case rel => exact ⟨k + 1, by omega, by go_num, by simpa using hT.out, hb1⟩
              case measure => simp [intOf]; omega
            have hnb := hany.out rfl
            replace hnx := Lib.hid fun h2 => hnx.out hnb h2
            clear hany hctk
            go_wp2_with fail
            refine (hlk.out _ hb1).mono ?_
            rintro e w4 ⟨rfl, hb4⟩
            replace hb1 := bl_tr hb1 hb4
            clear LX k1 hb4 hlk
            cases LB
            rotate_left
            · go_wp2
              go_roundw
              case rel => exact ⟨k + 1, by omega, by go_num, by simpa using hT.out, hb1⟩
              case measure => simp [intOf]; omega
            have hT2 := Lib.hid (show R = (match Q (b ++ [k]) with | some r => some r | none => G (k + 1)) by simpa using hT.out)
            clear hT
            have hnx2 := Lib.hid (hnx.out rfl)
            clear hnx
            have hb9 := bl_tr hb0 hb1
            have hs9 := Lib.hid (Hs.out.below hb9)
            go_wp2_with fail
            refine (hcl.out _).mono ?_
            rintro e w5 ⟨rfl, rfl⟩
            have hbT := Lib.hid (bl_al (.cells #[.int .i64 k] 3) (bl_refl w4))
            have kT := Lib.hid (Blk.new w4 3 #[.int .i64 k])
            replace hbl := Lib.hid hbl
            have hlt6 : b.length ≤ 1000 := by omega
            go_wp2_with (at_builtin; refine wpList_plain rfl fun _ hK => wp_app_clip _ _ rfl A1 (bI b) b.length k w4.heap.size hbl.out rfl rfl (hs9.out.below hbT.out) kT.out (by rw [hbl.out]; exact hlt6) hn (fun v' w6 ho hg => hK _ _ ?_))
            have hb6 : Below w4.heap.size w4 w6 := hbT.out.grown hg hbT.out.size (fun k hk => nomatch hk)
            rw [← bI_app] at ho
            replace ho := Lib.hid ho
            obtain ⟨A6, c6, rfl, hc6, hm6, hA6⟩ := own_hdr (m := b.length + 1) ho.out (by rw [hbl.out])
            have hi6 := ih.out (b ++ [k]) A6 c6 w6 (by simp; omega) hnx2.out (Hl.out.below (bl_tr hb9 hb6)) (own_sl (by have h6 := ho.out; rw [hbl.out] at h6; rw [show (bI (b ++ [k])).length = b.length + 1 by rw [bI_len]; simp]; exact h6)) (by simp; exact hc6) hm6 (fun h => absurd h hA6)
            rw [show (b ++ [k]).length = b.length + 1 by simp] at hi6
            replace hi6 := Lib.hid hi6
            generalize Q (b ++ [k]) = QR at *
            clear ho hnx2 hs9 hbT kT hbl hn
            go_wp2_with fail
            refine hi6.out.mono ?_
            rintro e w7 ⟨hb7, h1, h2⟩
            have hbw : Below wq.heap.size wq w7 := bl_tr (bl_tr hb1 hb6) hb7
            cases QR with
            | none =>
              obtain rfl := h1 rfl
              have hT3 := Lib.hid (show R = G (k + 1) from hT2.out)
              clear hT2 h1 h2 hi6
              go_wp2
              go_roundw
              case rel => exact ⟨k + 1, by omega, by go_num, hT3.out, hbw⟩
              case measure => simp [intOf]; omega
            | some r =>
              obtain ⟨A7, c7, rfl, hs7, hc7⟩ := h2 r rfl
              replace hc7 := Lib.hid hc7
              have hT3 := Lib.hid (show R = some r from hT2.out)
              replace hs7 := Lib.hid hs7
              clear hT2 h1 h2 hi6
              go_wp2
              go_ret2
              exact ⟨bl_tr hb0 hbw, fun h => by (have := hT3.out; rw [h] at this; cases this), fun r' h => by
                have h3 := hT3.out
                rw [h] at h3
                injection h3 with h3
                subst h3
                exact ⟨A7, c7, rfl, hs7.out, hc7.out⟩⟩
end Go.Proofs.YtbdgblnccjpahaaGreatDoor
namespace Go.Proofs.YtbdgblnccjpahaaGreatDoor
open Go.RowKit Go.Shelf
attribute [local go_sem] bl_al bl_drew bl_drewN bl_refl bx_al bx_drew bx_drewN bx_refl
set_option maxRecDepth 20000
theorem tmL_some {l : List Sm} {b : List Nat} {f : List Nat → Option (List Nat)} {r : List Nat} : ∀ (n k : Nat), tmL l b f n k = some r → ∃ (j : Nat) (s : Sm), l[j]? = some s ∧ j ∉ b ∧ lateB (ordL l b) s = false ∧ f (b ++ [j]) = some r
  | 0, k, h => by cases h
  | n + 1, k, h => by
    rw [tmL] at h
    cases hs : l[k]? with
    | none => rw [hs] at h; cases h
    | some s =>
      rw [hs] at h
      simp only at h
      split at h
      · exact tmL_some n (k + 1) h
      · rename_i hc
        simp only [Bool.or_eq_true, not_or, Bool.not_eq_true] at hc
        cases hf : f (b ++ [k]) with
        | none => rw [hf] at h; exact tmL_some n (k + 1) h
        | some r' =>
          rw [hf] at h
          refine ⟨k, s, hs, fun hm => ?_, hc.2, by rw [hf]; exact h⟩
          have h1 := hc.1
          rw [List.any_eq_false] at h1
          have := h1 (k : Int) (List.mem_map.2 ⟨k, hm, rfl⟩)
          simp at this
theorem tmS_begun {l : List Sm} {r : List Nat} : ∀ (d : Nat) (b : List Nat), Begun l b → b.length + d = l.length → tmS l d b = some r → Begun l r ∧ r.length = l.length
  | 0, b, hb, hd, h => by
    rw [tmS] at h
    injection h with h
    subst h
    exact ⟨hb, by omega⟩
  | d + 1, b, hb, hd, h => by
    obtain ⟨j, s, hs, hn, hl, hf⟩ := tmL_some _ _ h
    exact tmS_begun d (b ++ [j]) (hb.next hs hn hl) (by simp; omega) hf
set_option maxHeartbeats 2000000 in
theorem c_OrderFor (l : List Sm) (A : Option Addr) (c : Nat) (w : World) (hn : SmIn l A c w) :
    Calls Tryz.prog 10 #[.slice A l.length c] w (fun e w' => Below w.heap.size w w' ∧
      ((smsErr l ≠ 0 ∧ e = .returned (.tuple #[.slice none 0 0, .int .i64 (smsErr l)])) ∨
        (smsErr l = 0 ∧ ((tmS l l.length [] = none ∧ e = .returned (.tuple #[.slice none 0 0, .int .i64 12])) ∨
          ∃ r A2 c2, tmS l l.length [] = some r ∧ e = .returned (.tuple #[.slice A2 r.length c2, .int .i64 0]) ∧ Sl cI 1 w' A2 (bI r) ∧ r.length ≤ c2)))) := by
  have hse := Lib.hid (c_streamsErr l A c w hn)
  have htm := Lib.hid fun (h : smsErr l = 0) W (hb : Below w.heap.size w W) => (show Calls Tryz.prog 57 #[.slice A l.length c, .slice none 0 0] W (TmP (tmS l l.length []) W) from
    c_timely l (fun s hs => ((sms_ok h).2.2 s hs).1) (sms_ok h).2.1 A c l.length [] none 0 W (by simp) (Begun.nil l) (hn.sl.below hb) (fun k x hx => by simp [bI] at hx) (Nat.le_refl _) (by unfold maxLen; omega) (fun _ => rfl))
  clear hn
  generalize tmS l l.length [] = R at *
  generalize smsErr l = E at *
  generalize l.length = n at *
  go_enter Tryz.func10, Tryz.ntmps10
  go_wp2_with fail
  refine hse.out.mono ?_
  rintro e wa ⟨rfl, hb0⟩
  by_cases h0 : E = 0
  rotate_left
  · have h0' : (E != 0) = true := by simp [h0]
    replace h0 := Lib.hid h0
    go_wp2
    go_ret2
    exact ⟨hb0, .inl ⟨h0.out, rfl⟩⟩
  subst h0
  have ht := Lib.hid (htm.out rfl)
  clear hse htm
  go_wp2_with fail
  refine (ht.out _ hb0).mono ?_
  rintro e wb ⟨hb1, h1, h2⟩
  replace hb0 := bl_tr hb0 hb1
  cases R with
  | none =>
    obtain rfl := h1 rfl
    clear h1 h2 ht
    go_wp2_with (go_at_call 58; (with_reducible refine (c_unless _ _ _).mono ?_); rintro e w3 ⟨rfl, rfl⟩)
    go_ret2
    exact ⟨hb0, rfl⟩
  | some r =>
    obtain ⟨A2, c2, rfl, hs, hcc⟩ := h2 r rfl
    replace hs := Lib.hid hs
    replace hcc := Lib.hid hcc
    clear h1 h2 ht
    go_wp2_with (go_at_call 58; (with_reducible refine (c_unless _ _ _).mono ?_); rintro e w3 ⟨rfl, rfl⟩)
    go_ret2
    exact ⟨hb0, A2, c2, rfl, hs.out, hcc.out⟩
end Go.Proofs.YtbdgblnccjpahaaGreatDoor
namespace Go.Proofs.YtbdgblnccjpahaaGreatDoor
set_option maxRecDepth 20000
/-! ### The streams in their order. -/
theorem ordL_at {l : List Sm} {r : List Nat} (hlt : ∀ x ∈ r, x < l.length) {j i : Nat} (hj : r[j]? = some i) : (ordL l r)[j]? = l[i]? := by
  have hi := hlt i (List.mem_of_getElem? hj)
  unfold ordL
  rw [List.getElem?_map, hj, List.getElem?_eq_getElem hi]
  simp [List.getElem?_eq_getElem hi]
theorem sm_zero {l : List Sm} {i : Nat} {s : Sm} : smErr l i s = 0 ↔ nameB s.name = true ∧ (∀ (k : Nat) (o : Sm), k < i → l[k]? = some o → o.name.toList ≠ s.name.toList) ∧ OkSm s := by
  unfold smErr
  simp only [fst_cons, unl_zero (show (4 : Int) ≠ 0 by decide), unl_zero (show (5 : Int) ≠ 0 by decide), unl_zero (show (2 : Int) ≠ 0 by decide), Bool.and_eq_true, inR_iff, fst_nil, and_true, Bool.not_eq_true']
  have hk : knownB ((l.take i).map (·.name)) s.name = false ↔ ∀ (k : Nat) (o : Sm), k < i → l[k]? = some o → o.name.toList ≠ s.name.toList := by
    unfold knownB
    rw [List.any_eq_false]
    constructor
    · intro h k o hk ho e
      refine h o.name (List.mem_map.2 ⟨o, ?_, rfl⟩) (by rw [e]; exact beq_self_eq_true _)
      exact List.mem_of_getElem? (i := k) (by rw [List.getElem?_take_of_lt hk]; exact ho)
    · intro h x hx hc
      obtain ⟨o, ho, rfl⟩ := List.mem_map.1 hx
      obtain ⟨k, hk, e⟩ := List.getElem_of_mem ho
      have hk2 : k < i := by rw [List.length_take] at hk; omega
      refine h k o hk2 ?_ (eq_of_beq hc)
      rw [← List.getElem?_take_of_lt hk2, List.getElem?_eq_getElem hk, e]
  rw [hk]
  unfold OkSm
  constructor
  · rintro ⟨h1, h2, ⟨h3, h4⟩, h5, h6⟩
    exact ⟨h1, h2, h3, h4, h5.1, h5.2, h6.1, h6.2⟩
  · rintro ⟨h1, h2, h3, h4, h5, h6, h7, h8⟩
    exact ⟨h1, h2, ⟨h3, h4⟩, ⟨h5, h6⟩, h7, h8⟩
theorem ord_err {l : List Sm} (h : smsErr l = 0) {r : List Nat} (hnd : r.Nodup) (hlt : ∀ x ∈ r, x < l.length) (hr : r.length = l.length) : smsErr (ordL l r) = 0 := by
  have hlen : (ordL l r).length = l.length := by rw [ordL_len, hr]
  unfold smsErr smsChk at h ⊢
  rw [hlen]
  by_cases h0 : lenE l.length 6 = 0
  rotate_left
  · rw [if_neg h0] at h
    exact absurd h h0
  rw [if_pos h0] at h ⊢
  have hall : ∀ i s, l[i]? = some s → nameB s.name = true ∧ (∀ (k : Nat) (o : Sm), k < i → l[k]? = some o → o.name.toList ≠ s.name.toList) ∧ OkSm s := fun i s hs => by
    have := eachS_ok _ l 0 h i s hs
    rw [Nat.zero_add] at this
    exact sm_zero.1 this
  rw [eachS_zero]
  intro j s hs
  rw [Nat.zero_add]
  have hj : j < r.length := by rw [← ordL_len l r]; exact (List.getElem?_eq_some_iff.1 hs).1
  have ej := List.getElem?_eq_getElem hj
  rw [ordL_at hlt ej] at hs
  obtain ⟨h1, h2, h3⟩ := hall _ s hs
  refine sm_zero.2 ⟨h1, fun k o hk ho e => ?_, h3⟩
  have hk' : k < r.length := by omega
  have ek := List.getElem?_eq_getElem hk'
  rw [ordL_at hlt ek] at ho
  have hne : r[k] ≠ r[j] := fun e => by
    have := (List.getElem_inj hnd).1 e
    omega
  rcases Nat.lt_or_gt_of_ne hne with hl | hl
  · exact h2 _ o hl ho e
  · exact (hall _ o ho).2.1 _ s hl hs e.symm
/-- The first order in which none is late. -/
structure Frst (l : List Sm) (r : List Nat) : Prop where
  len : r.length = l.length
  nod : r.Nodup
  lt : ∀ x ∈ r, x < l.length
  err : smsErr (ordL l r) = 0
  late : ∀ k, k < (ordL l r).length → lateAt (ordL l r) k = false
theorem frst {l : List Sm} (h : smsErr l = 0) {r : List Nat} (hr : tmS l l.length [] = some r) : Frst l r := by
  obtain ⟨h1, h2⟩ := tmS_begun l.length [] (Begun.nil l) (by simp) hr
  exact ⟨h2, h1.nod, h1.lt, ord_err h h1.nod h1.lt h2, fun k hk => h1.ok k (by rwa [ordL_len] at hk)⟩
theorem lateK_nil {l : List Sm} : ∀ n, (∀ k, k < n → lateAt l k = false) → lateK l n = []
  | 0, _ => rfl
  | n + 1, h => by
    rw [lateK, lateK_nil n fun k hk => h k (by omega), h n (by omega)]
    rfl
theorem ovR_in {l : List Sm} (h : smsErr l = 0) (hl : ∀ k, k < l.length → lateAt l k = false) : (ovR l).2 = 12 ∨ (ovR l).2 = 8 := by
  have hok : ∀ s ∈ l, OkSm s := fun s hs => ((sms_ok h).2.2 s hs).1
  unfold ovR
  rw [if_pos h]
  cases hc : cyS l 1 with
  | none => exact .inr rfl
  | some n =>
    simp only
    cases ho : ovS l n with
    | none => exact .inl rfl
    | some t =>
      obtain ⟨h1, h2⟩ := ovF_some _ _ _ ho
      have := ordr_dm hok (sms_ok h).2.1 ⟨l, List.Perm.refl l, hl⟩ t
      omega
/-! ### When a stream is heard. -/
theorem tick_keep {t : Int} {q : Nat → List (Int × Int)} {wo : Nat → Int} {s : Ss} {o : Int} (hk : Tick t q wo s o) {i : Nat} (h : o ≠ i) : s.q i = q i := by
  cases hk with
  | idle => rfl
  | last j a r e =>
    have : i ≠ j := fun e => h (by rw [e])
    exact upF_other _ _ this
  | more j a k r e hk1 =>
    have : i ≠ j := fun e => h (by rw [e])
    exact upF_other _ _ this
theorem heard_or {l : List Sm} {st : List Int} {i a : Nat} (hr : relB l st a i = true) : ∀ d : Nat, (∃ n : Nat, a ≤ n ∧ n ≤ a + d ∧ ouT l st n = i) ∨ ∃ x ∈ (runS prioS l st (a + d + 1)).1.q i, x.1 = a
  | 0 => by
    by_cases h : ouT l st a = i
    · exact .inl ⟨a, Nat.le_refl _, Nat.le_refl _, h⟩
    · refine .inr ⟨((a : Int), lenAt l i), ?_, rfl⟩
      rw [Nat.add_zero, tick_keep (tick_at l st a).1 h]
      unfold sendS
      rw [if_pos hr]
      simp
  | d + 1 => by
    rcases heard_or hr d with ⟨n, h1, h2, h3⟩ | ⟨x, hx, h1⟩
    · exact .inl ⟨n, h1, by omega, h3⟩
    · by_cases h : ouT l st (a + d + 1) = i
      · exact .inl ⟨a + d + 1, by omega, by omega, h⟩
      · refine .inr ⟨x, ?_, h1⟩
        show x ∈ (runS prioS l st ((a + d + 1) + 1)).1.q i
        rw [tick_keep (tick_at l st (a + d + 1)).1 h]
        unfold sendS
        split
        · exact List.mem_append_left _ hx
        · exact hx
theorem heard_in {l : List Sm} {st : List Int} (h : SOk l st) {i : Nat} {s : Sm} (hs : l[i]? = some s) {r : Nat} (hr : Timely l i s r) {a : Nat} (ha : relB l st a i = true) : ∃ n : Nat, a ≤ n ∧ n < a + r ∧ ouT l st n = i := by
  have h1 := hr.one
  have hp := (h.sm s (List.mem_of_getElem? hs)).2.2.2.1
  have hd := hr.dl
  rcases heard_or ha (r - 1) with ⟨n, h2, h3, h4⟩ | ⟨x, hx, h2⟩
  · exact ⟨n, h2, by omega, h4⟩
  · exfalso
    rw [show a + (r - 1) + 1 = a + r by omega] at hx
    obtain ⟨t0, h3, h4, -, h5⟩ := (win_run h hs (r := r) (by omega) (by omega) hr.fix (a + r)).ex
    have := h5 i (Nat.le_refl _) x hx
    rw [h2] at this
    omega
/-- The ticks, of the first ones, at which a stream is carried. -/
def hrdK (o : List Int) (k : Int) : Nat → List Int
  | 0 => []
  | t + 1 => hrdK o k t ++ if o[t]? = some k then [(t : Int)] else []
theorem hrdK_len (o : List Int) (k : Int) : ∀ n, (hrdK o k n).length ≤ n
  | 0 => Nat.le_refl 0
  | n + 1 => by
    have := hrdK_len o k n
    rw [hrdK, List.length_append]
    split <;> simp <;> omega
theorem hrdK_mem {o : List Int} {k : Int} {x : Int} : ∀ {n : Nat}, x ∈ hrdK o k n ↔ ∃ t : Nat, t < n ∧ x = t ∧ o[t]? = some k
  | 0 => by simp [hrdK]
  | n + 1 => by
    rw [hrdK, List.mem_append, hrdK_mem]
    constructor
    · rintro (⟨t, h1, h2, h3⟩ | h)
      · exact ⟨t, by omega, h2, h3⟩
      · split at h
        · rename_i h0
          exact ⟨n, by omega, List.mem_singleton.1 h, h0⟩
        · cases h
    · rintro ⟨t, h1, h2, h3⟩
      by_cases e : t < n
      · exact .inl ⟨t, e, h2, h3⟩
      · have : t = n := by omega
        subst this
        rw [if_pos h3, h2]
        exact .inr (List.mem_singleton.2 rfl)
theorem hrdK_sort (o : List Int) (k : Int) : ∀ n, (hrdK o k n).Pairwise (· < ·)
  | 0 => List.Pairwise.nil
  | n + 1 => by
    rw [hrdK, List.pairwise_append]
    refine ⟨hrdK_sort o k n, by split <;> simp, fun a ha b hb => ?_⟩
    obtain ⟨t, h1, h2, -⟩ := hrdK_mem.1 ha
    split at hb
    · have := List.mem_singleton.1 hb
      omega
    · cases hb
theorem heardE_zero {l : List Int} (hs : l.Pairwise (· < ·)) (hb : ∀ x ∈ l, 0 ≤ x ∧ x ≤ 1000) : heardE l = 0 := by
  unfold heardE
  rw [eachS_zero]
  intro j x hx
  rw [Nat.zero_add]
  have h1 := hb x (List.mem_of_getElem? hx)
  refine (fst_cons _ _).2 ⟨(unl_zero (by decide)).2 (by unfold tickB; exact inR_iff.2 (by omega)), (fst_cons _ _).2 ⟨(unl_zero (by decide)).2 (decide_eq_true ?_), rfl⟩⟩
  unfold prevI
  by_cases h0 : j = 0
  · rw [if_pos h0]
    omega
  · rw [if_neg h0]
    have hj := (List.getElem?_eq_some_iff.1 hx).1
    have e : l.getD (j - 1) 0 = l[j - 1] := by rw [List.getD_eq_getElem?_getD, List.getElem?_eq_getElem (by omega)]; rfl
    rw [e, ← (List.getElem?_eq_some_iff.1 hx).2]
    exact List.pairwise_iff_getElem.1 hs (j - 1) j (by omega) hj (by omega)
theorem silFrom_nil (hi T : Int) : ∀ (l : List Int) (f : Int), l.Pairwise (· < ·) → (∀ x, f ≤ x → x ≤ hi → ∃ n ∈ l, n ≤ x ∧ x ≤ n + T) → silFrom hi T l f = []
  | [], f, _, h => by
    show silOne f hi hi = []
    unfold silOne
    rw [if_neg]
    intro h0
    obtain ⟨n, hn, -⟩ := h f (Int.le_refl _) (by omega)
    cases hn
  | n :: l, f, hp, h => by
    obtain ⟨h1, h2⟩ := List.pairwise_cons.1 hp
    show silOne f (n - 1) hi ++ silFrom hi T l (max f (n + T + 1)) = []
    rw [silFrom_nil hi T l _ h2 fun x hx1 hx2 => ?_, List.append_nil]
    · unfold silOne
      rw [if_neg]
      intro h0
      obtain ⟨m, hm, h3, h4⟩ := h f (Int.le_refl _) (by omega)
      rcases List.mem_cons.1 hm with e | hm
      · omega
      · have := h1 m hm
        omega
    · obtain ⟨m, hm, h3, h4⟩ := h x (by omega) hx2
      rcases List.mem_cons.1 hm with e | hm
      · omega
      · exact ⟨m, hm, h3, h4⟩
/-- A watchdog that waits for a period and a deadline never finds a stream silent, once its first deadline is over. -/
theorem not_silent {l : List Sm} {st : List Int} (h : SOk l st) {k : Nat} {s : Sm} (hs : l[k]? = some s) {r : Nat} (hr : Timely l k s r) {a : Int} (ha : st[k]? = some a) {T : Nat} (hT : T ≤ 60) (hf : a + s.dl < T) :
    silE (hrdK (runS prioS l st T).2 k T) ⟨a + s.dl, (T : Int) - 1⟩ (s.per + s.dl) = 0 ∧ silR (hrdK (runS prioS l st T).2 k T) ⟨a + s.dl, (T : Int) - 1⟩ (s.per + s.dl) = [] := by
  have h0 := h.nn a (List.mem_of_getElem? ha)
  obtain ⟨p1, p2, p3, p4, -, -⟩ := h.sm s (List.mem_of_getElem? hs)
  have hlen := hrdK_len (runS prioS l st T).2 k T
  have hE : silE (hrdK (runS prioS l st T).2 k T) ⟨a + s.dl, (T : Int) - 1⟩ (s.per + s.dl) = 0 := by
    unfold silE
    refine (fst_cons _ _).2 ⟨(unl_zero (by decide)).2 (decide_eq_true (by omega)), (fst_cons _ _).2 ⟨heardE_zero (hrdK_sort _ _ _) fun x hx => ?_, (fst_cons _ _).2 ⟨(unl_zero (by decide)).2 ?_, (fst_cons _ _).2 ⟨(unl_zero (by decide)).2 (decide_eq_true ?_), (fst_cons _ _).2 ⟨(unl_zero (by decide)).2 ?_, rfl⟩⟩⟩⟩⟩
    · obtain ⟨t, h1, h2, -⟩ := hrdK_mem.1 hx
      omega
    · unfold tickB
      rw [Bool.and_eq_true]
      exact ⟨inR_iff.2 (by dsimp only; omega), inR_iff.2 (by dsimp only; omega)⟩
    · dsimp only
      omega
    · unfold tickB
      exact inR_iff.2 (by omega)
  refine ⟨hE, ?_⟩
  unfold silR
  rw [if_pos hE]
  refine silFrom_nil _ _ _ _ (hrdK_sort _ _ _) fun x hx1 hx2 => ?_
  dsimp only at hx1 hx2
  have hd := hr.dl
  have e1 := Int.mul_ediv_add_emod (x - (a + s.dl)) s.per
  have e2 := Int.emod_nonneg (x - (a + s.dl)) (show s.per ≠ 0 by omega)
  have e3 := Int.emod_lt_of_pos (x - (a + s.dl)) (show 0 < s.per by omega)
  have e4 : 0 ≤ s.per * ((x - (a + s.dl)) / s.per) := Int.mul_nonneg (by omega) (Int.ediv_nonneg (by omega) (by omega))
  generalize hm : s.per * ((x - (a + s.dl)) / s.per) = m at *
  have hmod : m % s.per = 0 := by rw [← hm]; exact Int.mul_emod_right _ _
  obtain ⟨b, hb⟩ : ∃ b : Nat, a + m = b := ⟨(a + m).toNat, by omega⟩
  have hrel : relB l st b k = true := by
    unfold relB
    rw [hs, ha]
    simp only [Bool.and_eq_true, decide_eq_true_eq]
    refine ⟨by omega, ?_⟩
    rw [← hb, show a + m - a = m by omega]
    exact hmod
  obtain ⟨n, h1, h2, h3⟩ := heard_in h hs hr hrel
  refine ⟨(n : Int), hrdK_mem.2 ⟨n, by omega, rfl, ?_⟩, by omega, by omega⟩
  rw [out_at l st (by omega), h3]
end Go.Proofs.YtbdgblnccjpahaaGreatDoor
namespace Go.Proofs.YtbdgblnccjpahaaGreatDoor
open Go.RowKit Go.Shelf
attribute [local go_sem] bl_al bl_drew bl_drewN bl_refl bx_al bx_drew bx_drewN bx_refl
set_option maxRecDepth 20000
set_option maxHeartbeats 4000000 in
theorem r_busShown (w : World) : Calls Tryz.prog 7 #[] w (Ret (.bool true) w) := by
  have h1 : Hid (∀ W : World, Calls Tryz.prog 25 #[.agg #[.int .i64 0, .int .i64 0, .int .i64 0, .int .i64 0, .int .i64 0, .int .i64 1, .int .i64 0]] W (Ret (.tuple #[.agg #[.int .i64 0, .int .i64 0, .int .i64 0, .int .i64 0, .int .i64 0, .int .i64 1, .int .i64 0, .int .i64 21], .int .i64 0]) W)) := fun W => by
    have := c_Encoded ⟨0, 0, 0, 0, 0, 1, 0⟩ W
    rw [ev_enc] at this
    exact this
  have h2 : Hid (∀ (W : World) (A : Option Addr), SmIn sms0 A 3 W → Calls Tryz.prog 43 #[.slice A 3 3, .int .i64 2] W (Ret (.tuple #[.int .i64 10, .int .i64 0]) W)) := fun W A h => by
    have := c_ResponseOf sms0 2 A 3 W h
    rw [ev_resp] at this
    exact this
  go_enter Tryz.func7, Tryz.ntmps7
  go_wp2_with fail
  refine (r_Streams w).mono ?_
  rintro e v1 ⟨rfl, hb0, hsm⟩
  go_wp2_with fail
  refine (h2.out v1 _ hsm).mono ?_
  rintro e v2 ⟨rfl, hb1⟩
  replace hb0 := bl_tr hb0 hb1
  clear hsm hb1 h2
  go_wp2_with fail
  refine (h1.out v2).mono ?_
  rintro e v3 ⟨rfl, hb1⟩
  replace hb0 := bl_tr hb0 hb1
  clear hb1 h1
  go_upto_region 3 with fail
  first
  | apply absB1 (w0 := w) (g0 := v3.heap.size)
  | apply absTB1 (w0 := w) (g0 := v3.heap.size)
  | apply absIB1 (w0 := w) (g0 := v3.heap.size)
  iterate 2 (focus exact zL)
  try clear hb3
  try clear hb0
  try clear k1
  intro w4 hb0 k1
  (try simp only [List.setIfInBounds_toArray, List.set_cons_zero, List.set_cons_succ] at k1)
  have L1 := k1.cell
  have heq : ∀ W : World, (Op.equalIn 10000 62 (.agg #[.int .i64 0, .int .i64 0, .int .i64 0, .int .i64 0, .int .i64 0, .int .i64 1, .int .i64 0, .int .i64 21]) (.agg #[.int .i64 0, .int .i64 0, .int .i64 0, .int .i64 0, .int .i64 0, .int .i64 1, .int .i64 0, .int .i64 21])).run Tryz.prog W = .ok true W := fun W => by kernel_rfl
  go_wp2
  go_ret
  exact ⟨rfl, hb0⟩
set_option maxHeartbeats 4000000 in
theorem r_Ordered (l : List Sm) (r : List Nat) (A B : Option Addr) (c d : Nat) (w : World) (hl : Sl cSm 4 w A l) (hr : Sl cI 1 w B (bI r)) (hlt : ∀ x ∈ r, x < l.length) (h6 : r.length ≤ 1000) :
    Calls Tryz.prog 14 #[.slice A l.length c, .slice B r.length d] w (fun e w' => ∃ A2 c2, e = .returned (.slice A2 r.length c2) ∧ Below w.heap.size w w' ∧ r.length ≤ c2 ∧ Sl cSm 4 w' A2 (ordL l r)) := by
  obtain ⟨i0, hi, hz0, hz1, hz2⟩ := info_parts infoSm
  have Hl := Lib.hid hl
  have Hr := Lib.hid hr
  have Hlt := Lib.hid hlt
  have hot := Lib.hid (ordL_take l r)
  have hot0 : Hid (ordL l (r.take 0) = []) := rfl
  have hol := Lib.hid (ordL_len l r)
  clear hl hr hlt
  go_enter Tryz.func14, Tryz.ntmps14
  go_wp2
  go_loopw [5, 6] (fun v i wr => ∃ k : Nat, k ≤ r.length ∧ i = .int .i64 k ∧ Below w.heap.size w wr ∧ wr.ownsRow w.heap.size 43 4 v k ((ordL l (r.take k)).flatMap cSm)) (fun _ i _ => r.length - (intOf i).toNat)
  case atStart => exact ⟨0, Nat.zero_le _, rfl, bl_refl w, by rw [hot0.out]; exact World.ownsRow_nil _ _ _ _⟩
  case round =>
    obtain ⟨k, hk, rfl, hb0, ho⟩ := hrel
    replace ho := Lib.hid ho
    by_cases hkb : k < r.length
    · have hx : r[k]? = some r[k] := List.getElem?_eq_getElem hkb
      have hlt := Hlt.out r[k] (List.getElem_mem hkb)
      generalize r[k] = i at *
      have hi1 : l[i]? = some l[i] := List.getElem?_eq_getElem hlt
      generalize l[i] = s at hi1
      have hnx := Lib.hid (hot.out k i s hx hi1)
      obtain ⟨b1, o1, rfl, hc3⟩ := Hr.out k i (by simp [bI, hx])
      obtain ⟨b2, o2, rfl, hc4⟩ := Hl.out i s hi1
      have LB : ∀ W, Below w.heap.size w W → W.cell? ⟨b1, o1 + k, none⟩ = some (.int .i64 i) := later (by simpa using hc3 0 _ rfl)
      have L0 : ∀ W, Below w.heap.size w W → W.cell? ⟨b2, o2 + i * 4, none⟩ = some (.string s.name) := later (by simpa using hc4 0 _ rfl)
      have L1 : ∀ W, Below w.heap.size w W → W.cell? ⟨b2, o2 + i * 4 + 1, none⟩ = some (.int .i64 s.per) := later (hc4 1 _ rfl)
      have L2 : ∀ W, Below w.heap.size w W → W.cell? ⟨b2, o2 + i * 4 + 2, none⟩ = some (.int .i64 s.dl) := later (hc4 2 _ rfl)
      have L3 : ∀ W, Below w.heap.size w W → W.cell? ⟨b2, o2 + i * 4 + 3, none⟩ = some (.int .i64 s.len) := later (hc4 3 _ rfl)
      have hkb2 : (k : Int) < r.length := by omega
      have hlt2 : (i : Int) < l.length := by omega
      clear hc3 hc4 hx hi1
      obtain ⟨sn, sp, sd, sl⟩ := s
      dsimp only at *
      have hsz := hb0.size
      have hoA := Lib.hid (own_below ho.out (bl_al (.cells #[.string sn, .int .i64 sp, .int .i64 sd, .int .i64 sl] 43) (bl_refl _)))
      go_wp2_with (at_builtin; refine wpList_append_own2 rfl _ _ 22 rfl w.heap.size 43 i0 (.agg #[.string ByteArray.empty, .int .i64 0, .int .i64 0, .int .i64 0]) 4 40 Tryz.underlying22 hi hz0 hz1 hz2 rfl (by decide) _ _ _ rfl (hoA.out) ⟨_, 0, none⟩ 1 1 (cSm ⟨sn, sp, sd, sl⟩) rfl rfl ?c1 ?c2 ?c3 ?c4 ?c5 ?_)
      case c1 =>
        intro j u hj
        match j, hj with
        | 0, hj => simp [cSm] at hj; subst hj; simp [Addr.add]
        | 1, hj => simp [cSm] at hj; subst hj; simp [Addr.add]
        | 2, hj => simp [cSm] at hj; subst hj; simp [Addr.add]
        | 3, hj => simp [cSm] at hj; subst hj; simp [Addr.add]
        | j + 4, hj => simp [cSm] at hj
      case c2 => intro u hu; simp [cSm] at hu; rcases hu with rfl | rfl | rfl | rfl <;> rfl
      case c3 => unfold maxLen; omega
      case c4 => omega
      case c5 => simp; omega
      intro v1 w3 hown hg2 hd2
      replace hb0 := (bl_al (.cells #[.string sn, .int .i64 sp, .int .i64 sd, .int .i64 sl] 43) hb0).grown hg2 (by simp; omega) (own_ge hoA.out)
      replace hown := Lib.hid hown
      clear hg2 hd2 hoA hsz ho
      go_wp2
      go_roundw
      case rel => exact ⟨k + 1, by omega, by go_num, hb0, by rw [hnx.out]; simpa using hown.out⟩
      case measure => simp [intOf]; omega
    · obtain rfl : k = r.length := by omega
      rw [List.take_length] at ho
      obtain ⟨A5, c5, hv⟩ := own_slice ho.out
      subst hv
      have hc5 : r.length ≤ c5 := by
        rcases ho.out.2 with ⟨e, h⟩ | ⟨_, _, _, e, _, _, h, _⟩
        · omega
        · injection e with _ _ e
          omega
      have hs5 : Hid (Sl cSm 4 wr A5 (ordL l r)) := own_slC (cs := cSm) (fun _ => rfl) (by decide) (by rw [hol.out]; exact ho.out)
      clear ho
      go_wp2
      go_ret
      exact ⟨A5, c5, rfl, hb0, hc5, hs5.out⟩
end Go.Proofs.YtbdgblnccjpahaaGreatDoor
namespace Go.Proofs.YtbdgblnccjpahaaGreatDoor
open Go.RowKit
attribute [local go_sem] bl_al bl_drew bl_drewN bl_refl bx_al bx_drew bx_drewN bx_refl
set_option maxRecDepth 20000
set_option maxHeartbeats 4000000 in
theorem r_SameStreamsE (l : List Sm) (A B : Option Addr) (c d : Nat) (w : World) (ha : Sl cSm 4 w A l) (hb : Sl cSm 4 w B l) (h1 : l.length ≤ 1000) :
    Calls Tryz.prog 18 #[.slice A l.length c, .slice B l.length d] w (Ret (.bool true) w) := by
  have Ha := Lib.hid ha
  have Hb := Lib.hid hb
  clear ha hb
  obtain ⟨n, Hn⟩ : ∃ n, Hid (l.length = n) := ⟨_, rfl⟩
  rw [Hn.out] at h1 ⊢
  go_enter Tryz.func18, Tryz.ntmps18
  go_wp2
  go_loopw [5] (fun i wr => ∃ k : Nat, k ≤ n ∧ i = .int .i64 k ∧ Below w.heap.size w wr) (fun i _ => n - (intOf i).toNat)
  case atStart => exact ⟨0, Nat.zero_le _, rfl, Below.refl _ _⟩
  case round =>
    obtain ⟨k, hk, rfl, hbw⟩ := hrel
    by_cases hlt : k < n
    · have hx : l[k]? = some (l[k]'(by rw [Hn.out]; exact hlt)) := List.getElem?_eq_getElem _
      generalize l[k]'(by rw [Hn.out]; exact hlt) = x at hx
      obtain ⟨ba, oa, hA, hca⟩ := Ha.out k x hx
      obtain ⟨bb, ob, hB, hcb⟩ := Hb.out k x hx
      obtain ⟨nm, per, dl, ln⟩ := x
      have c0 : ∀ W, Below wr.heap.size wr W → W.cell? ⟨ba, oa + k * 4, none⟩ = some (.string nm) := later (by have := kcell hbw (hca 0 _ rfl); simpa using this)
      have c1 : ∀ W, Below wr.heap.size wr W → W.cell? ⟨ba, oa + k * 4 + 1, none⟩ = some (.int .i64 per) := later (kcell hbw (hca 1 _ rfl))
      have c2 : ∀ W, Below wr.heap.size wr W → W.cell? ⟨ba, oa + k * 4 + 2, none⟩ = some (.int .i64 dl) := later (kcell hbw (hca 2 _ rfl))
      have c3 : ∀ W, Below wr.heap.size wr W → W.cell? ⟨ba, oa + k * 4 + 3, none⟩ = some (.int .i64 ln) := later (kcell hbw (hca 3 _ rfl))
      have d0 : ∀ W, Below wr.heap.size wr W → W.cell? ⟨bb, ob + k * 4, none⟩ = some (.string nm) := later (by have := kcell hbw (hcb 0 _ rfl); simpa using this)
      have d1 : ∀ W, Below wr.heap.size wr W → W.cell? ⟨bb, ob + k * 4 + 1, none⟩ = some (.int .i64 per) := later (kcell hbw (hcb 1 _ rfl))
      have d2 : ∀ W, Below wr.heap.size wr W → W.cell? ⟨bb, ob + k * 4 + 2, none⟩ = some (.int .i64 dl) := later (kcell hbw (hcb 2 _ rfl))
      have d3 : ∀ W, Below wr.heap.size wr W → W.cell? ⟨bb, ob + k * 4 + 3, none⟩ = some (.int .i64 ln) := later (kcell hbw (hcb 3 _ rfl))
      clear hca hcb hx
      subst hA hB
      go_wp2
      refine wp_any (w0 := wr) ⟨[], [], [some 17, some 18, some 19, some 20, some 21, some 22, some 23, some 24, some 25], [[], [], [0, 1], [0, 1, 2], [], [], [4, 5], [4, 5, 6], [0, 1, 2, 3, 4, 5, 6, 7]], [[], [], [0, 1], [2], [], [], [4, 5], [6], [3, 7]]⟩ (fun _ => []) (by kernel_rfl) (by kernel_rfl) (by (exact zE)) (fun u => by simp only [putD, Act.put, List.setIfInBounds_toArray, List.set_cons_zero, List.set_cons_succ, Nat.zero_add, Nat.reduceAdd]; rfl) ?_
      apply RGW.on (i := 0) rfl
      · exact zG
      · intro γ u W hcur hd
        clear hd
        (try dsimp only)
        exact ⟨rfl, zS⟩
      · exact zC
      · rfl
      dsimp only [nA, cA]
      apply RGW.on (i := 1) rfl
      · exact zG
      · intro γ u W hcur hd
        clear hd
        (try dsimp only)
        exact ⟨rfl, zS⟩
      · exact zC
      · rfl
      dsimp only [nA, cA]
      apply RGW.on (i := 2) rfl
      · exact zG
      · intro γ u W hcur hd
        obtain ⟨⟨h0, -, -⟩, ⟨h1, -, -⟩, -⟩ := hd
        dsimp only at h0 h1
        (try simp only [h0, h1])
        exact ⟨rfl, zS⟩
      · exact zC
      · rfl
      dsimp only [nA, cA]
      apply RGW.on (i := 3) rfl
      · exact zG
      · intro γ u W hcur hd
        obtain ⟨⟨h2, -, -⟩, -⟩ := hd
        dsimp only at h2
        (try simp only [h2])
        exact ⟨rfl, zS⟩
      · exact zC
      · rfl
      dsimp only [nA, cA]
      apply RGW.on (i := 4) rfl
      · exact zG
      · intro γ u W hcur hd
        clear hd
        (try dsimp only)
        exact ⟨rfl, zS⟩
      · exact zC
      · rfl
      dsimp only [nA, cA]
      apply RGW.on (i := 5) rfl
      · exact zG
      · intro γ u W hcur hd
        clear hd
        (try dsimp only)
        exact ⟨rfl, zS⟩
      · exact zC
      · rfl
      dsimp only [nA, cA]
      apply RGW.on (i := 6) rfl
      · exact zG
      · intro γ u W hcur hd
        obtain ⟨⟨h4, -, -⟩, ⟨h5, -, -⟩, -⟩ := hd
        dsimp only at h4 h5
        (try simp only [h4, h5])
        exact ⟨rfl, zS⟩
      · exact zC
      · rfl
      dsimp only [nA, cA]
      apply RGW.on (i := 7) rfl
      · exact zG
      · intro γ u W hcur hd
        obtain ⟨⟨h6, -, -⟩, -⟩ := hd
        dsimp only at h6
        (try simp only [h6])
        exact ⟨rfl, zS⟩
      · exact zC
      · rfl
      dsimp only [nA, cA]
      apply RGW.on (i := 8) rfl
      · exact zG
      · intro γ u W hcur hd
        obtain ⟨⟨h3, -, -⟩, ⟨h7, -, -⟩, -⟩ := hd
        dsimp only at h3 h7
        (try simp only [h3, h7])
        exact ⟨rfl, zS⟩
      · exact zC
      · rfl
      dsimp only [nA, cA]
      refine RGW.fin (fun γ u wj hwj hd hdis => ?_)
      obtain ⟨⟨h0, -, -⟩, ⟨h1, -, -⟩, ⟨h2, -, -⟩, ⟨h3, -, -⟩, ⟨h4, -, -⟩, ⟨h5, -, -⟩, ⟨h6, -, -⟩, ⟨h7, -, -⟩, ⟨h8, -, -⟩, -⟩ := hd
      dsimp only at h0 h1 h2 h3 h4 h5 h6 h7 h8
      clear hdis
      simp only [h0, h1, h2, h3, h4, h5, h6, h7, h8]
      clear h8 h7 h6 h5 h4 h3 h2 h1 h0
      clear u
      simp only [List.map_nil]
      refine PlanW.done ?_
      have hb3 := bl_tt hwj
      have hbj := bl_tr hbw hwj
      go_wp2
      go_roundw
      case rel => exact ⟨k + 1, by omega, by go_num, hbj⟩
      case measure => simp [intOf]; omega
    · go_wp2
      go_ret
      exact ⟨rfl, hbw⟩
end Go.Proofs.YtbdgblnccjpahaaGreatDoor
namespace Go.Proofs.YtbdgblnccjpahaaGreatDoor
def Fu.con (f : Fu) : ByteArray × List (List Int) := (f.name, f.ws.map fun r : Rw => r.l)
def Md.con (m : Md) : ByteArray × List Int := (m.name, m.r.l)
/-- Two nets say the same. -/
structure NtEq (n m : Nt) : Prop where
  ps : m.ps = n.ps
  fs : m.fs.map Fu.con = n.fs.map Fu.con
  ms : m.ms.map Md.con = n.ms.map Md.con
theorem NtEq.refl (n : Nt) : NtEq n n := ⟨rfl, rfl, rfl⟩
theorem NtEq.flen {n m : Nt} (h : NtEq n m) : m.fs.length = n.fs.length := by have := congrArg List.length h.fs; simpa using this
theorem NtEq.mlen {n m : Nt} (h : NtEq n m) : m.ms.length = n.ms.length := by have := congrArg List.length h.ms; simpa using this
theorem eachS_map {α β : Type} (g : α → β) (err : Nat → β → Int) : ∀ (l : List α) (k : Nat), eachS (fun k x => err k (g x)) l k = eachS err (l.map g) k
  | [], _ => rfl
  | x :: l, k => by
    simp only [eachS, List.map_cons]
    rw [eachS_map g err l (k + 1)]
def wayC (parts : Int) (e : Int) (ws : List (List Int)) : Int := ws.foldl (fun e w => fstE [e, unl (decide (0 < w.length)) 10, idxErr w parts]) e
def fuErrC (parts : Int) (names : List ByteArray) (i : Nat) (f : ByteArray × List (List Int)) : Int :=
  wayC parts (fstE [nmErr names i f.1, unl (decide (0 < f.2.length)) 10, unl (decide ((f.2.length : Int) ≤ 6)) 8]) f.2
def mdErrC (funs : Int) (names : List ByteArray) (i : Nat) (m : ByteArray × List Int) : Int := fstE [nmErr names i m.1, idxErr m.2 funs]
theorem waysE_con (parts e : Int) (ws : List Rw) : waysE parts e ws = wayC parts e (ws.map fun r : Rw => r.l) := by
  unfold waysE wayC
  rw [List.foldl_map]
theorem fuErr_con (parts : Int) (names : List ByteArray) : fuErr parts names = fun i f => fuErrC parts names i f.con := by
  funext i f
  unfold fuErr fuErrC Fu.con
  rw [waysE_con]
  simp
theorem mdErr_con (funs : Int) (names : List ByteArray) : mdErr funs names = fun i f => mdErrC funs names i f.con := rfl
theorem NtEq.fnames {n m : Nt} (h : NtEq n m) : (m.fs.map fun f : Fu => f.name) = n.fs.map fun f : Fu => f.name := by
  have := congrArg (List.map Prod.fst) h.fs
  rw [List.map_map, List.map_map] at this
  exact this
theorem NtEq.mnames {n m : Nt} (h : NtEq n m) : (m.ms.map fun f : Md => f.name) = n.ms.map fun f : Md => f.name := by
  have := congrArg (List.map Prod.fst) h.ms
  rw [List.map_map, List.map_map] at this
  exact this
theorem NtEq.chk {n m : Nt} (h : NtEq n m) : netChk m = netChk n := by
  have e0 : m.e0 = n.e0 := by
    unfold Nt.e0
    rw [h.ps, h.flen, h.mlen]
  have e1 : eachS (fuErr m.ps.length (m.fs.map fun f : Fu => f.name)) m.fs 0 = eachS (fuErr n.ps.length (n.fs.map fun f : Fu => f.name)) n.fs 0 := by
    rw [fuErr_con, fuErr_con, eachS_map Fu.con, eachS_map Fu.con, h.fs, h.ps, h.fnames]
  have e2 : eachS (mdErr m.fs.length (m.ms.map fun f : Md => f.name)) m.ms 0 = eachS (mdErr n.fs.length (n.ms.map fun f : Md => f.name)) n.ms 0 := by
    rw [mdErr_con, mdErr_con, eachS_map Md.con, eachS_map Md.con, h.ms, h.flen, h.mnames]
  unfold netChk
  rw [e0, e1, e2, h.ps]
theorem NtEq.err {n m : Nt} (h : NtEq n m) : netErr m = netErr n := by unfold netErr; rw [h.chk]
theorem NtEq.symm {n m : Nt} (h : NtEq n m) : NtEq m n := ⟨h.ps.symm, h.fs.symm, h.ms.symm⟩
end Go.Proofs.YtbdgblnccjpahaaGreatDoor
namespace Go.Proofs.YtbdgblnccjpahaaGreatDoor
open Go.RowKit
theorem splitC_not (c : UInt8) : ∀ l : List UInt8, c ∉ l → splitC c l = [l]
  | [], _ => rfl
  | x :: l, h => by
    have hx : x ≠ c := fun e => h (by simp [e])
    rw [splitC, if_neg hx, splitC_not c l (fun m => h (by simp [m]))]
theorem splitC_app (c : UInt8) : ∀ (a b : List UInt8), c ∉ a → splitC c (a ++ c :: b) = a :: splitC c b
  | [], b, _ => by simp [splitC]
  | x :: a, b, h => by
    have hx : x ≠ c := fun e => h (by simp [e])
    rw [List.cons_append, splitC, if_neg hx, splitC_app c a b (fun m => h (by simp [m]))]
theorem splitC_join (c : UInt8) : ∀ (x : List UInt8) (xs : List (List UInt8)), (∀ y ∈ x :: xs, c ∉ y) → splitC c (Lib.join (x :: xs) [c]) = x :: xs
  | x, [], h => by rw [Lib.join_one, splitC_not c x (h x (by simp))]
  | x, y :: xs, h => by
    have ih := splitC_join c y xs (fun z hz => h z (List.mem_cons_of_mem _ hz))
    rw [Lib.join_cons] at ih ⊢
    have : x ++ Lib.joinTail [c] (y :: xs) = x ++ c :: (y ++ Lib.joinTail [c] xs) := by simp [Lib.joinTail]
    rw [this, splitC_app c x _ (h x (by simp)), ih]
theorem splitC_joinL (c : UInt8) (xs : List (List UInt8)) (h0 : xs ≠ []) (h : ∀ y ∈ xs, c ∉ y) : splitC c (Lib.join xs [c]) = xs := by
  cases xs with
  | nil => exact absurd rfl h0
  | cons x xs => exact splitC_join c x xs h
theorem join_not (c d : UInt8) (hd : c ≠ d) (xs : List (List UInt8)) (h : ∀ y ∈ xs, c ∉ y) : c ∉ Lib.join xs [d] := by
  cases xs with
  | nil => simp [Lib.join_nil]
  | cons x xs =>
    rw [Lib.join_cons]
    intro m
    rcases List.mem_append.1 m with m | m
    · exact h x (by simp) m
    · unfold Lib.joinTail at m
      obtain ⟨z, hz, m⟩ := List.mem_flatten.1 m
      obtain ⟨y, hy, rfl⟩ := List.mem_map.1 hz
      rcases List.mem_append.1 m with m | m
      · exact hd (by simpa using m)
      · exact h y (by simp [hy]) m
theorem cutC_app (c : UInt8) : ∀ (a b : List UInt8), c ∉ a → cutC c (a ++ c :: b) = (a, b, true)
  | [], b, _ => by simp [cutC]
  | x :: a, b, h => by
    have hx : x ≠ c := fun e => h (by simp [e])
    rw [List.cons_append, cutC, if_neg hx, cutC_app c a b (fun m => h (by simp [m]))]
theorem nameFrom_mem : ∀ (k : Nat) (l : List UInt8), nameFrom k l = true → ∀ c ∈ l, letter c = true ∨ other c = true
  | _, [], _, c, h => by simp at h
  | k, x :: l, h, c, hc => by
    rw [nameFrom] at h
    simp only [Bool.and_eq_true, Bool.or_eq_true] at h
    rcases List.mem_cons.1 hc with rfl | hc
    · rcases h.1 with h1 | h1
      · exact .inl h1
      · exact .inr h1.2
    · exact nameFrom_mem (k + 1) l h.2 c hc
/-- The signs of strings. -/
def sep (c : UInt8) : Bool := !(letter c || other c)
theorem name_sep {s : ByteArray} (h : nameB s = true) (c : UInt8) (hc : sep c = true) : c ∉ s.data.toList := by
  unfold nameB at h
  simp only [Bool.and_eq_true] at h
  intro m
  rcases nameFrom_mem 0 _ h.1 c m with h1 | h1 <;> simp [sep, h1] at hc
theorem name_ne {s : ByteArray} (h : nameB s = true) : s.data.toList ≠ [] := by
  unfold nameB at h
  simp only [Bool.and_eq_true] at h
  have := (inR_iff.1 h.2).1
  intro e
  have h2 : s.data.toList.length = s.size := rfl
  rw [e] at h2
  simp at h2
  omega
theorem name_len {s : ByteArray} (h : nameB s = true) : s.data.toList.length ≤ 12 := by
  unfold nameB at h
  simp only [Bool.and_eq_true] at h
  have := (inR_iff.1 h.2).2
  have h2 : s.data.toList.length = s.size := rfl
  omega
theorem itoa_dd {v : Int} (h0 : 0 ≤ v) (h1 : v < 100) : Lib.itoa v = dd v.toNat := by
  rw [Lib.itoa, if_neg (by omega), dd_dec (by omega)]
theorem dd_sep_fin : ∀ n : _root_.Fin 100, (dd n.val).all (fun c => other c && dig c) = true := by decide +kernel
theorem itoa_sep {v : Int} (h0 : 0 ≤ v) (h1 : v < 100) (c : UInt8) (hc : sep c = true) : c ∉ Lib.itoa v := by
  rw [itoa_dd h0 h1]
  intro m
  have h := List.all_eq_true.1 (dd_sep_fin ⟨v.toNat, by omega⟩) c m
  simp only [Bool.and_eq_true] at h
  simp [sep, h.1] at hc
theorem itoa_nat {v : Int} (h0 : 0 ≤ v) (h1 : v < 100) : natS (Lib.itoa v) = some v.toNat := by
  rw [itoa_dd h0 h1, natS_dd (by omega)]
theorem itoas_sep {l : List Int} (h : ∀ v ∈ l, 0 ≤ v ∧ v < 100) (c : UInt8) (hc : sep c = true) : ∀ y ∈ itoas l, c ∉ y := fun y hy => by
  obtain ⟨v, hv, rfl⟩ := List.mem_map.1 hy
  exact itoa_sep (h v hv).1 (h v hv).2 c hc
theorem itoas_ok {l : List Int} (h : ∀ v ∈ l, 0 ≤ v ∧ v < 100) : natsOk (itoas l) = true := by
  unfold natsOk itoas
  rw [List.all_map, List.all_eq_true]
  intro v hv
  simp [itoa_nat (h v hv).1 (h v hv).2]
theorem itoas_v {l : List Int} (h : ∀ v ∈ l, 0 ≤ v ∧ v < 100) : natsV (itoas l) = l := by
  unfold natsV itoas
  rw [List.map_map]
  conv => rhs; rw [← List.map_id l]
  apply List.map_congr_left
  intro v hv
  have h1 := h v hv
  simp [itoa_nat h1.1 h1.2]
  omega
/-! ### Streams. -/
theorem fmtSm_cut (s : Sm) (h : 32 ∉ s.name.data.toList) : cutC 32 (fmtSm s) = (s.name.data.toList, Lib.join (itoas [s.per, s.dl, s.len]) [32], true) := by
  unfold fmtSm
  rw [List.append_assoc]
  exact cutC_app 32 _ _ h
theorem fmtSm_sep (s : Sm) (hn : nameB s.name = true) (h : ∀ v ∈ [s.per, s.dl, s.len], 0 ≤ v ∧ v < 100) (c : UInt8) (hc : sep c = true) (h32 : c ≠ 32) : c ∉ fmtSm s := by
  unfold fmtSm
  intro m
  rcases List.mem_append.1 m with m | m
  · rcases List.mem_append.1 m with m | m
    · exact name_sep hn c hc m
    · exact h32 (by simpa using m)
  · exact join_not c 32 h32 _ (itoas_sep h c hc) m
/-- Valid streams are read again. -/
theorem sms_round {l : List Sm} (h : smsErr l = 0) : psOk (splitC 59 (fmtSms l)) = true ∧ psV (splitC 59 (fmtSms l)) = l ∧ (fmtSms l).length ≤ 900 := by
  obtain ⟨h1, h2, h3⟩ := sms_ok h
  have hv : ∀ s ∈ l, ∀ v ∈ [s.per, s.dl, s.len], 0 ≤ v ∧ v < 100 := fun s hs v hv => by
    obtain ⟨⟨a1, a2, a3, a4, a5, a6⟩, -⟩ := h3 s hs
    simp at hv
    rcases hv with rfl | rfl | rfl <;> omega
  have hsp : splitC 59 (fmtSms l) = l.map fmtSm := by
    unfold fmtSms
    refine splitC_joinL 59 _ (by intro e; have := congrArg List.length e; simp at this; subst this; simp at h1) fun y hy => ?_
    obtain ⟨s, hs, rfl⟩ := List.mem_map.1 hy
    exact fmtSm_sep s (h3 s hs).2 (hv s hs) 59 (by decide) (by decide)
  have hone : ∀ s ∈ l, partOk (fmtSm s) = true ∧ partSm (fmtSm s) = s := fun s hs => by
    have hc := fmtSm_cut s (name_sep (h3 s hs).2 32 (by decide))
    have hp : prt (fmtSm s) = itoas [s.per, s.dl, s.len] := by
      unfold prt
      rw [hc]
      exact splitC_joinL 32 _ (by simp [itoas]) (itoas_sep (hv s hs) 32 (by decide))
    constructor
    · unfold partOk
      rw [hp, hc, itoas_ok (hv s hs)]
      simp [itoas, name_ne (h3 s hs).2]
    · unfold partSm
      rw [hp, hc, itoas_v (hv s hs)]
      rfl
  refine ⟨?_, ?_, ?_⟩
  · rw [hsp]
    unfold psOk
    rw [List.all_map, List.all_eq_true]
    exact fun s hs => (hone s hs).1
  · rw [hsp]
    unfold psV
    rw [List.map_map]
    conv => rhs; rw [← List.map_id l]
    apply List.map_congr_left
    exact fun s hs => (hone s hs).2
  · have := join_len (l.map fmtSm) [59] 100 (fun x hx => by
      obtain ⟨s, hs, rfl⟩ := List.mem_map.1 hx
      have a := name_len (h3 s hs).2
      have b := join_len (itoas [s.per, s.dl, s.len]) [32] 21 (fun x hx => by
        obtain ⟨v, hv', rfl⟩ := List.mem_map.1 hx
        have := hv s hs v hv'
        exact Lib.itoa_length_le v (by omega) (by omega))
      have hz : s.name.data.toList.length = s.name.size := rfl
      simp [itoas] at b
      simp [fmtSm, itoas]
      omega)
    simp at this
    unfold fmtSms
    have h9 : l.length * 101 ≤ 6 * 101 := Nat.mul_le_mul_right _ h2
    omega
/-! ### Nets. -/
end Go.Proofs.YtbdgblnccjpahaaGreatDoor
namespace Go.Proofs.YtbdgblnccjpahaaGreatDoor
open Go.RowKit Go.Shelf
attribute [local go_sem] bl_al bl_drew bl_drewN bl_refl bx_al bx_drew bx_drewN bx_refl
set_option maxRecDepth 20000
set_option maxHeartbeats 2000000 in
theorem r_StartsErr (l : List Sm) (st : List Int) (t : Int) (Al As : Option Addr) (cl cs : Nat) (w : World) (hs : Sl cI 1 w As st) (hl : l.length ≤ 8) :
    Calls Tryz.prog 9 #[.slice Al l.length cl, .slice As st.length cs, .int .i64 t] w (Ret (.int .i64 (stE0 l st t)) w) := by
  have Hs := Lib.hid hs
  clear hs
  have h1 : Hid (¬ (st.length : Int) = l.length → stE0 l st t = 10) := fun h => by simp [stE0, fstE, unl, h]
  have h2 : Hid ((st.length : Int) = l.length → stE0 l st t = fstE [(eachS (fun _ n => unl (inR n 0 400) 2) st 0).2, unl (inR t 0 400) 2]) := fun h => by simp [stE0, fstE, unl, h]
  have hd := Lib.hid fun k x (hx : st[k]? = some x) => eachS_drop (fun _ n => unl (inR n 0 400) 2) st k x hx
  have hen : Hid ((eachS (fun _ n => unl (inR n 0 400) 2) (st.drop st.length) st.length).2 = 0) := Lib.hid (by rw [List.drop_length]; rfl)
  generalize stE0 l st t = E at *
  obtain ⟨m, Hm⟩ : ∃ m, Hid (st.length = m) := ⟨_, rfl⟩
  rw [Hm.out] at h1 h2 hen ⊢
  generalize l.length = n at *
  by_cases hne : (m : Int) = n
  rotate_left
  · rw [h1.out hne]
    have hne' : ((m : Int) != n) = true := by simpa using hne
    go_enter Tryz.func9, Tryz.ntmps9
    go_wp2
    go_ret
    exact ⟨rfl, bl_refl _⟩
  rw [h2.out hne]
  have hmn : m = n := by omega
  subst hmn
  clear h1 h2 hne
  obtain ⟨g, hg⟩ : ∃ g : Nat → Int, ∀ k, (eachS (fun _ n => unl (inR n 0 400) 2) (st.drop k) k).2 = g k := ⟨_, fun _ => rfl⟩
  have hg0 : (eachS (fun _ n => unl (inR n 0 400) 2) st 0).2 = g 0 := hg 0
  have hst : Hid (∀ k x, st[k]? = some x → g k = if inR x 0 400 then g (k + 1) else 2) := fun k x hx => by
    have := hd.out k x hx
    rw [← hg, ← hg, this]
    cases inR x 0 400 <;> simp [unl]
  rw [hg, ] at hen
  rw [hg0]
  clear hd hg hg0
  go_enter Tryz.func9, Tryz.ntmps9
  go_wp2
  go_loop [7] (fun i => ∃ k : Nat, k ≤ m ∧ i = .int .i64 k ∧ g 0 = g k) (fun i => m - (intOf i).toNat)
  case atStart => exact ⟨0, Nat.zero_le _, rfl, rfl⟩
  case round =>
    obtain ⟨k, hk, rfl, hi⟩ := hrel
    replace hi := Lib.hid hi
    by_cases hkm : k < m
    · have hx : st[k]? = some (st[k]'(by rw [Hm.out]; exact hkm)) := List.getElem?_eq_getElem _
      generalize st[k]'(by rw [Hm.out]; exact hkm) = x at hx
      have hs := hst.out k x hx
      obtain ⟨b, off, rfl, hc⟩ := Hs.out k x hx
      have c0 : w.cell? ⟨b, off + k, none⟩ = some (.int .i64 x) := by simpa using hc 0 _ rfl
      clear hc hx
      cases hT : inR x 0 400
      · have e : Hid (g 0 = 2) := Lib.hid (by rw [hi.out, hs, hT]; rfl)
        clear hs
        go_wp2_with (go_at_call 12; (with_reducible refine (hT ▸ r_Within x 0 400 _).mono ?_); rintro e w3 ⟨rfl, rfl⟩)
        go_ret
        exact ⟨by rw [e.out] <;> rfl, bl_refl _⟩
      · have e : Hid (g 0 = g (k + 1)) := Lib.hid (by rw [hi.out, hs, hT]; rfl)
        clear hs
        go_wp2_with (go_at_call 12; (with_reducible refine (hT ▸ r_Within x 0 400 _).mono ?_); rintro e w3 ⟨rfl, rfl⟩)
        go_round
        case rel => exact ⟨k + 1, by omega, by go_num, e.out⟩
        case measure => simp [intOf]; omega
    · have e : k = m := by omega
      have e0 : Hid (g 0 = 0) := Lib.hid (by rw [hi.out, e, hen.out])
      clear e
      cases hT : inR t 0 400
      · go_wp2_with (go_at_call 12; (with_reducible refine (hT ▸ r_Within t 0 400 _).mono ?_); rintro e w3 ⟨rfl, rfl⟩)
        go_ret
        exact ⟨by rw [e0.out, hT] <;> rfl, bl_refl _⟩
      · go_wp2_with (go_at_call 12; (with_reducible refine (hT ▸ r_Within t 0 400 _).mono ?_); rintro e w3 ⟨rfl, rfl⟩)
        go_ret
        exact ⟨by rw [e0.out, hT] <;> rfl, bl_refl _⟩
end Go.Proofs.YtbdgblnccjpahaaGreatDoor
namespace Go.Proofs.YtbdgblnccjpahaaGreatDoor
open Go.RowKit Go.Shelf
set_option maxRecDepth 20000
theorem stE0_ok {l : List Sm} {st : List Int} {t : Int} (h : stE0 l st t = 0) : st.length = l.length ∧ 0 ≤ t ∧ t ≤ 400 := by
  obtain ⟨h1, h2⟩ := (fst_cons _ _).1 h
  obtain ⟨-, h3⟩ := (fst_cons _ _).1 h2
  have h4 := (unl_zero (by decide)).1 h1
  have h5 := inR_iff.1 ((unl_zero (by decide)).1 ((fst_cons _ _).1 h3).1)
  simp at h4
  exact ⟨by omega, h5⟩
end Go.Proofs.YtbdgblnccjpahaaGreatDoor
