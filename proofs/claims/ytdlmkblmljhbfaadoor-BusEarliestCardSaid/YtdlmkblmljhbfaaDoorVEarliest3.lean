/-
  Walks: an order in which no stream is late.
  Walk: the first order in which no stream is late.
  Walk: the law on the earliest deadline.
-/
import Derived.Test.YtdlmkblmljhbfaaDoorVEarliest2
import Derived.Test.YtdlmkblmljhbfaaDoorVEarliest1
import Derived.Test.YtdlmkblmljhbfaaDoorU6
namespace Go.Proofs.YtdlmkblmljhbfaaDoor
set_option linter.unusedSimpArgs false
set_option linter.unusedVariables false
open Go.RowKit Go.Shelf
attribute [local go_sem] bl_al bl_drew bl_drewN bl_refl bx_al bx_drew bx_drewN bx_refl
set_option maxRecDepth 20000
def bI (b : List Nat) : List Int := b.map fun i : Nat => (i : Int)
theorem bI_len (b : List Nat) : (bI b).length = b.length := by simp [bI]
/-- 'append' onto a slice without room: a slice of the call's own. -/
theorem run_app_clip (ty : TypeId) (W : World) (A : Option Addr) (L : List Int) (v : Int) (g : Nat) (hs : Sl cI 1 W A L) (hg : Blk W g 3 #[.int .i64 v]) (hL : L.length ≤ 1000) (hA : A = none → L = []) :
    ∃ v' w', (Builtin.append_ #[22, 22 ] ty #[.slice A L.length L.length, .slice (some ⟨g, 0, none⟩) 1 1]).run Tryd.prog W = .ok v' w' ∧ w'.ownsRow W.heap.size 3 1 v' (L.length + 1) ((L ++ [v]).map (.int .i64)) ∧ W.grownBy w' none := by
  obtain ⟨i0, hi, hz0, hz1, hz2⟩ := info_parts infoI
  have hn : ∀ (j : Nat) (u : Value), [Value.int .i64 v][j]? = some u → W.cell? ((⟨g, 0, none⟩ : Addr).add j) = some u := fun j u hj => by
    match j, hj with
    | 0, hj =>
      simp at hj; subst hj
      simp only [Addr.add, if_true]
      rw [hg.cell]
      rfl
    | j + 1, hj => simp at hj
  cases A with
  | none =>
    have := hA rfl
    subst this
    obtain ⟨v', w', h1, h2, h3, h4⟩ := run_append_own2 (P := Tryd.prog) W.heap.size 22 ty 3 i0 (.int .i64 0) 1 8 Tryd.underlying22 hi hz0 hz1 hz2 rfl (by decide) _ 0 [] (World.ownsRow_nil W W.heap.size 3 1) ⟨g, 0, none⟩ 1 1 [.int .i64 v] rfl hn (fun u hu => by simp at hu; subst hu; rfl) (by unfold maxLen; omega) (by omega) (Nat.le_refl _)
    exact ⟨v', w', h1, h2, h3⟩
  | some a =>
    obtain ⟨v', w', h1, h2, h3⟩ := run_append_arg_grows (P := Tryd.prog) W 22 ty 3 i0 (.int .i64 0) 1 8 Tryd.underlying22 hi hz0 hz1 hz2 rfl (by decide) a L.length L.length (L.map (.int .i64)) (by simp) (fun j u hj => by
      rw [List.getElem?_map] at hj
      cases hx : L[j]? with
      | none => rw [hx] at hj; cases hj
      | some x =>
        rw [hx] at hj
        injection hj with hj
        subst hj
        obtain ⟨b, off, e, hc⟩ := hs j x hx
        injection e with e
        subst e
        have := hc 0 _ rfl
        by_cases h0 : j = 0
        · subst h0
          simpa [Addr.add] using this
        · simpa [Addr.add, h0] using this) ⟨g, 0, none⟩ 1 1 [.int .i64 v] rfl hn (by omega) (by unfold maxLen; omega) (by omega)
    exact ⟨v', w', h1, by simpa using h2, h3⟩
theorem wp_app_clip {o : Oper} {a : Act} {K : Act → World → Prop} {Q : Exit → Act → World → Prop} {W : World} (s x : Operand) (ho : o.op = .call { callee := .builtin .append, args := #[s, x], argTypes := #[22, 22 ] })
    (A : Option Addr) (L : List Int) (n : Nat) (v : Int) (g : Nat) (hn : L.length = n) (hs' : a.eval s = .slice A n n) (hx : a.eval x = .slice (some ⟨g, 0, none⟩) 1 1) (hs : Sl cI 1 W A L) (hg : Blk W g 3 #[.int .i64 v]) (hL : L.length ≤ 1000) (hA : A = none → L = [])
    (h : ∀ v' w', w'.ownsRow W.heap.size 3 1 v' (L.length + 1) ((L ++ [v]).map (.int .i64)) → W.grownBy w' none → K (a.put o.dst v') w') : o.wp Tryd.prog a W K Q := by
  subst hn
  obtain ⟨v', w', hr, h2, h3⟩ := run_app_clip o.type W A L v g hs hg hL hA
  unfold Oper.wp execOp
  simp only [ho, resolve, invoke, builtin, Sem.run_bind, Sem.run_pure, Result.andThen_ok, List.map_toArray, List.map_cons, List.map_nil, hs', hx, hr]
  exact h _ _ h2 h3
theorem bI_app (b : List Nat) (k : Nat) : bI (b ++ [k]) = bI b ++ [(k : Int)] := by simp [bI]
theorem own_hdr {W : World} {D n m : Nat} {v : Value} {xs : List Value} (h : W.ownsRow D 3 1 v (n + 1) xs) (hm : n + 1 = m) : ∃ A c, v = .slice A m c ∧ m ≤ c ∧ c ≤ maxLen ∧ A ≠ none := by
  subst hm
  rcases h.2 with ⟨_, e0⟩ | ⟨g, cap, cur, e1, _, _, e3, e4, _, _⟩
  · omega
  · exact ⟨_, _, e1, e3, e4, by simp⟩
/-- The first order that goes on from some indexes, in which no stream is late; of so many that still lack. -/
def tmL (l : List Sm) (b : List Nat) (f : List Nat → Option (List Nat)) : Nat → Nat → Option (List Nat)
  | 0, _ => none
  | n + 1, k => match l[k]? with
    | none => none
    | some s => if ((bI b).any fun y => decide ((k : Int) = y)) || lateB (ordL l b) s then tmL l b f n (k + 1)
      else match f (b ++ [k]) with
        | some r => some r
        | none => tmL l b f n (k + 1)
def tmS (l : List Sm) : Nat → List Nat → Option (List Nat)
  | 0, b => some b
  | d + 1, b => tmL l b (tmS l d) l.length 0
/-- What stands at an index of the search. -/
def tmG (l : List Sm) (b : List Nat) (f : List Nat → Option (List Nat)) (k : Nat) : Option (List Nat) := tmL l b f (l.length - k) k
theorem tmG_end (l : List Sm) (b : List Nat) (f : List Nat → Option (List Nat)) : tmG l b f l.length = none := by
  rw [tmG, Nat.sub_self]
  rfl
theorem tmG_next {l : List Sm} (b : List Nat) (f : List Nat → Option (List Nat)) {k : Nat} {s : Sm} (hs : l[k]? = some s) :
    tmG l b f k = if ((bI b).any fun y => decide ((k : Int) = y)) || lateB (ordL l b) s then tmG l b f (k + 1)
      else match f (b ++ [k]) with
        | some r => some r
        | none => tmG l b f (k + 1) := by
  have hk := (List.getElem?_eq_some_iff.1 hs).1
  unfold tmG
  rw [show l.length - k = (l.length - (k + 1)) + 1 by omega, tmL, hs]
/-- An order, or none. -/
def TmP (R : Option (List Nat)) (w : World) (e : Ending) (w' : World) : Prop :=
  Below w.heap.size w w' ∧ (R = none → e = .returned (.tuple #[.slice none 0 0, .bool false])) ∧ ∀ r, R = some r → ∃ A c, e = .returned (.tuple #[.slice A r.length c, .bool true]) ∧ Sl cI 1 w' A (bI r)
theorem ordL_take (l : List Sm) (b : List Nat) (k i : Nat) (s : Sm) (hb : b[k]? = some i) (hs : l[i]? = some s) : ordL l (b.take (k + 1)) = ordL l (b.take k) ++ [s] := by
  rw [List.take_add_one, hb]
  exact ordL_app l (b.take k) i s hs
theorem ordL_len (l : List Sm) (b : List Nat) : (ordL l b).length = b.length := by simp [ordL]
set_option maxHeartbeats 8000000 in
theorem c_timely (l : List Sm) (hok : ∀ s ∈ l, OkSm s) (h6 : l.length ≤ 6) (A : Option Addr) (c : Nat) : ∀ (d : Nat) (b : List Nat) (A1 : Option Addr) (c1 : Nat) (w : World), b.length + d = l.length → Begun l b → Sl cSm 4 w A l → Sl cI 1 w A1 (bI b) → b.length ≤ c1 → c1 ≤ maxLen → (A1 = none → bI b = []) →
    Calls Tryd.prog 124 #[.slice A l.length c, .slice A1 b.length c1] w (TmP (tmS l d b) w)
  | 0, b, A1, c1, w, hd, hb, hl, hs, hc, hc2, hn => by
    have hs' := Lib.hid hs
    have hr : Hid (tmS l 0 b = some b) := rfl
    generalize tmS l 0 b = R at *
    have e : b.length = l.length := by omega
    rw [e]
    have e' := Lib.hid e
    clear hb hl hs hn hd hc e
    generalize l.length = n at *
    go_enter Tryd.func124, Tryd.ntmps124
    go_wp2
    go_ret2
    exact ⟨bl_refl w, fun h => by (have := hr.out; rw [h] at this; cases this), fun r h => by
      have h2 := hr.out
      rw [h] at h2
      injection h2 with h2
      subst h2
      exact ⟨A1, c1, by rw [e'.out] <;> rfl, hs'.out⟩⟩
  | d + 1, b, A1, c1, w, hd, hb, hl, hs, hc, hc2, hn => by
    obtain ⟨i0, hi, hz0, hz1, hz2⟩ := info_parts infoSm
    have ih := Lib.hid fun b A1 c1 w => c_timely l hok h6 A c d b A1 c1 w
    have Hl := Lib.hid hl
    have Hs := Lib.hid hs
    have Hb := Lib.hid hb
    have hbl := bI_len b
    have hne : ¬ (b.length : Int) = l.length := by omega
    have hne2 : ¬ b.length = l.length := by omega
    have hbeq : ((b.length : Int) == (l.length : Int)) = false := by simp; omega
    have hot := Lib.hid (ordL_take l b)
    have hol := Lib.hid (ordL_len l)
    have hot0 : Hid (ordL l (b.take 0) = []) := rfl
    have hT0 : Hid (tmS l (d + 1) b = tmG l b (tmS l d) 0) := rfl
    have hTn := Lib.hid (tmG_end l b (tmS l d))
    have hTs := Lib.hid fun (k : Nat) (s : Sm) (hs : l[k]? = some s) => tmG_next b (tmS l d) hs
    obtain ⟨G, hG⟩ : ∃ G : Nat → Option (List Nat), ∀ k, tmG l b (tmS l d) k = G k := ⟨_, fun _ => rfl⟩
    simp only [hG] at hT0 hTn hTs
    clear hG
    generalize tmS l (d + 1) b = R at *
    obtain ⟨Q, hQ⟩ : ∃ Q : List Nat → Option (List Nat), ∀ b, tmS l d b = Q b := ⟨_, fun _ => rfl⟩
    simp only [hQ] at hTs ih
    clear hQ
    clear hl hs hb
    go_enter Tryd.func124, Tryd.ntmps124
    go_upto_region 5 with fail
    (try simp only [hbeq])
    go_loopw [6, 21] (fun v i wr => ∃ k : Nat, k ≤ b.length ∧ i = .int .i64 k ∧ Below w.heap.size w wr ∧ wr.ownsRow w.heap.size 82 4 v k ((ordL l (b.take k)).flatMap cSm)) (fun _ i _ => b.length - (intOf i).toNat)
    case atStart => exact ⟨0, Nat.zero_le _, rfl, bl_refl w, by rw [hot0.out]; exact World.ownsRow_nil _ _ _ _⟩
    case round =>
      obtain ⟨k, hk, rfl, hb0, ho⟩ := hrel
      replace ho := Lib.hid ho
      by_cases hkb : k < b.length
      · have hx : b[k]? = some b[k] := List.getElem?_eq_getElem hkb
        have hlt := Hb.out.lt b[k] (List.getElem_mem hkb)
        generalize b[k] = i at *
        have hi1 : l[i]? = some l[i] := List.getElem?_eq_getElem hlt
        generalize l[i] = s at hi1
        have hnx := Lib.hid (hot.out k i s hx hi1)
        obtain ⟨b1, o1, rfl, hc3⟩ := Hs.out k i (by simp [bI, hx])
        obtain ⟨b2, o2, rfl, hc4⟩ := Hl.out i s hi1
        have LB : ∀ W, Below w.heap.size w W → W.cell? ⟨b1, o1 + k, none⟩ = some (.int .i64 i) := later (by simpa using hc3 0 _ rfl)
        have L0 : ∀ W, Below w.heap.size w W → W.cell? ⟨b2, o2 + i * 4, none⟩ = some (.string s.name) := later (by simpa using hc4 0 _ rfl)
        have L1 : ∀ W, Below w.heap.size w W → W.cell? ⟨b2, o2 + i * 4 + 1, none⟩ = some (.int .i64 s.per) := later (hc4 1 _ rfl)
        have L2 : ∀ W, Below w.heap.size w W → W.cell? ⟨b2, o2 + i * 4 + 2, none⟩ = some (.int .i64 s.dl) := later (hc4 2 _ rfl)
        have L3 : ∀ W, Below w.heap.size w W → W.cell? ⟨b2, o2 + i * 4 + 3, none⟩ = some (.int .i64 s.len) := later (hc4 3 _ rfl)
        have hkb2 : (k : Int) < b.length := by omega
        have hlt2 : (i : Int) < l.length := by omega
        clear hc3 hc4 hx hi1
        obtain ⟨sn, sp, sd, sl⟩ := s
        dsimp only at *
        have hsz := hb0.size
        have hoA := Lib.hid (own_below ho.out (bl_al (.cells #[.string sn, .int .i64 sp, .int .i64 sd, .int .i64 sl] 82) (bl_refl _)))
        go_wp2_with (at_builtin; refine wpList_append_own2 rfl _ _ 74 rfl w.heap.size 82 i0 (.agg #[.string ByteArray.empty, .int .i64 0, .int .i64 0, .int .i64 0]) 4 40 Tryd.underlying74 hi hz0 hz1 hz2 rfl (by decide) _ _ _ rfl (hoA.out) ⟨_, 0, none⟩ 1 1 (cSm ⟨sn, sp, sd, sl⟩) rfl rfl ?c1 ?c2 ?c3 ?c4 ?c5 ?_)
        case c1 =>
          intro j u hj
          match j, hj with
          | 0, hj => simp [cSm] at hj; subst hj; simp [Addr.add]
          | 1, hj => simp [cSm] at hj; subst hj; simp [Addr.add]
          | 2, hj => simp [cSm] at hj; subst hj; simp [Addr.add]
          | 3, hj => simp [cSm] at hj; subst hj; simp [Addr.add]
          | j + 4, hj => simp [cSm] at hj
        case c2 => intro u hu; simp [cSm] at hu; rcases hu with rfl | rfl | rfl | rfl <;> rfl
        case c3 => unfold maxLen; omega
        case c4 => omega
        case c5 => simp; omega
        intro v1 w3 hown hg2 hd2
        replace hb0 := (bl_al (.cells #[.string sn, .int .i64 sp, .int .i64 sd, .int .i64 sl] 82) hb0).grown hg2 (by simp; omega) (own_ge hoA.out)
        replace hown := Lib.hid hown
        clear hg2 hd2 hoA hsz ho
        go_wp2
        go_roundw
        case rel => exact ⟨k + 1, by omega, by go_num, hb0, by rw [hnx.out]; simpa using hown.out⟩
        case measure => simp [intOf]; omega
      · obtain rfl : k = b.length := by omega
        rw [List.take_length] at ho
        have holb := hol.out b
        have Hnx := Lib.hid fun (i : Nat) (s : Sm) (hs : l[i]? = some s) (hn : i ∉ b) (hl : lateB (ordL l b) s = false) => Hb.out.next hs hn hl
        have hokP : ∀ o ∈ ordL l b, OkSm o := fun o ho => by
          obtain ⟨i, hi, rfl⟩ := List.mem_map.1 ho
          have := Hb.out.lt i hi
          rw [List.getElem?_eq_getElem this]
          exact hok _ (List.getElem_mem this)
        generalize ordL l b = P at *
        clear hot hot0 hol
        rw [← holb] at ho
        obtain ⟨A5, c5, hv⟩ := own_slice ho.out
        subst hv
        have sP := Lib.hid (own_slC (cs := cSm) (fun _ => rfl) (by decide) ho.out)
        obtain ⟨wq, hwq⟩ : ∃ wq, wq = wr := ⟨_, rfl⟩
        subst hwq
        have hct := Lib.hid fun (i : Nat) W (hW : Below w.heap.size w W) => c_ContainsI (bI b) i A1 c1 W (Hs.out.below hW) (by rw [hbl]; omega)
        rw [hbl] at hct
        have hla := Lib.hid fun (s : Sm) (hs : s ∈ l) W (hW : Below wq.heap.size wq W) => c_isLate P s A5 c5 W (sP.out.below hW) (by omega) hokP (hok s hs)
        have hcl := Lib.hid fun W => c_ClipI (bI b) A1 c1 W (by rw [hbl]; exact hc) hc2
        rw [hbl] at hcl
        clear ho hbeq
        replace holb := Lib.hid holb
        go_wp2
        go_loopw [35] (fun i wr => ∃ k : Nat, k ≤ l.length ∧ i = .int .i64 k ∧ R = G k ∧ Below wq.heap.size wq wr) (fun i _ => l.length - (intOf i).toNat)
        case atStart => exact ⟨0, Nat.zero_le _, rfl, hT0.out, bl_refl _⟩
        case round =>
          obtain ⟨k, hk, rfl, hR, hb1⟩ := hrel
          by_cases hkn : k < l.length
          rotate_left
          · obtain rfl : k = l.length := by omega
            have hR2 := Lib.hid (hR.trans hTn.out)
            clear hR
            go_wp2
            go_ret2
            exact ⟨bl_tr hb0 hb1, fun _ => rfl, fun r h => by (have := hR2.out; rw [h] at this; cases this)⟩
          · have hx : l[k]? = some l[k] := List.getElem?_eq_getElem hkn
            have hm : l[k] ∈ l := List.getElem_mem hkn
            have hlk := Lib.hid fun W hW => hla.out l[k] hm W hW
            have hnx := Lib.hid fun (h1 : k ∉ b) (h2 : lateB P l[k] = false) => Hnx.out k l[k] hx h1 h2
            have hT := Lib.hid (hR.trans (hTs.out k l[k] hx))
            clear hR
            generalize l[k] = s at *
            obtain ⟨b2, o2, rfl, hc4⟩ := Hl.out k s hx
            have hb2 := bl_tr hb0 hb1
            have L0 : wr.cell? ⟨b2, o2 + k * 4, none⟩ = some (.string s.name) := later (by simpa using hc4 0 _ rfl) wr hb2
            have L1 : wr.cell? ⟨b2, o2 + k * 4 + 1, none⟩ = some (.int .i64 s.per) := later (hc4 1 _ rfl) wr hb2
            have L2 : wr.cell? ⟨b2, o2 + k * 4 + 2, none⟩ = some (.int .i64 s.dl) := later (hc4 2 _ rfl) wr hb2
            have L3 : wr.cell? ⟨b2, o2 + k * 4 + 3, none⟩ = some (.int .i64 s.len) := later (hc4 3 _ rfl) wr hb2
            have hkn2 : (k : Int) < l.length := by omega
            have hctk := Lib.hid (hct.out k)
            have hany := Lib.hid fun h : ((bI b).any fun y => decide ((k : Int) = y)) = false => (show k ∉ b from fun hm => by
              rw [List.any_eq_false] at h
              have := h (k : Int) (List.mem_map.2 ⟨k, hm, rfl⟩)
              simp at this)
            generalize ((bI b).any fun y => decide ((k : Int) = y)) = B at *
            generalize lateB P s = LB at *
            clear hc4 hx hla hct
            obtain ⟨sn, sp, sd, sl⟩ := s
            dsimp only at *
            go_upto_region 12 with fail
            have k1 := Blk.new wr 82 #[.string sn, .int .i64 sp, .int .i64 sd, .int .i64 sl]
            replace hb1 := bl_al (.cells #[.string sn, .int .i64 sp, .int .i64 sd, .int .i64 sl] 82) hb1
            clear L0 L1 L2 L3 hb2
            generalize wr.alloc (.cells #[.string sn, .int .i64 sp, .int .i64 sd, .int .i64 sl] 82) = wb at *
            go_wp2_with fail
            refine (hctk.out _ (bl_tr hb0 hb1)).mono ?_
            rintro e w3 ⟨rfl, rfl⟩
            have LX := k1.cell
            cases B
            rotate_left
            · go_wp2
              go_roundw
              case rel => exact ⟨k + 1, by omega, by go_num, by simpa using hT.out, hb1⟩
              case measure => simp [intOf]; omega
            have hnb := hany.out rfl
            replace hnx := Lib.hid fun h2 => hnx.out hnb h2
            clear hany hctk
            go_wp2_with fail
            refine (hlk.out _ hb1).mono ?_
            rintro e w4 ⟨rfl, hb4⟩
            replace hb1 := bl_tr hb1 hb4
            clear LX k1 hb4 hlk
            cases LB
            rotate_left
            · go_wp2
              go_roundw
              case rel => exact ⟨k + 1, by omega, by go_num, by simpa using hT.out, hb1⟩
              case measure => simp [intOf]; omega
            have hT2 := Lib.hid (show R = (match Q (b ++ [k]) with | some r => some r | none => G (k + 1)) by simpa using hT.out)
            clear hT
            have hnx2 := Lib.hid (hnx.out rfl)
            clear hnx
            have hb9 := bl_tr hb0 hb1
            have hs9 := Lib.hid (Hs.out.below hb9)
            go_wp2_with fail
            refine (hcl.out _).mono ?_
            rintro e w5 ⟨rfl, rfl⟩
            have hbT := Lib.hid (bl_al (.cells #[.int .i64 k] 3) (bl_refl w4))
            have kT := Lib.hid (Blk.new w4 3 #[.int .i64 k])
            replace hbl := Lib.hid hbl
            have hlt6 : b.length ≤ 1000 := by omega
            go_wp2_with (at_builtin; refine wpList_plain rfl fun _ hK => wp_app_clip _ _ rfl A1 (bI b) b.length k w4.heap.size hbl.out rfl rfl (hs9.out.below hbT.out) kT.out (by rw [hbl.out]; exact hlt6) hn (fun v' w6 ho hg => hK _ _ ?_))
            have hb6 : Below w4.heap.size w4 w6 := hbT.out.grown hg hbT.out.size (fun k hk => nomatch hk)
            rw [← bI_app] at ho
            replace ho := Lib.hid ho
            obtain ⟨A6, c6, rfl, hc6, hm6, hA6⟩ := own_hdr (m := b.length + 1) ho.out (by rw [hbl.out])
            have hi6 := ih.out (b ++ [k]) A6 c6 w6 (by simp; omega) hnx2.out (Hl.out.below (bl_tr hb9 hb6)) (own_sl (by have h6 := ho.out; rw [hbl.out] at h6; rw [show (bI (b ++ [k])).length = b.length + 1 by rw [bI_len]; simp]; exact h6)) (by simp; exact hc6) hm6 (fun h => absurd h hA6)
            rw [show (b ++ [k]).length = b.length + 1 by simp] at hi6
            replace hi6 := Lib.hid hi6
            generalize Q (b ++ [k]) = QR at *
            clear ho hnx2 hs9 hbT kT hbl hn
            go_wp2_with fail
            refine hi6.out.mono ?_
            rintro e w7 ⟨hb7, h1, h2⟩
            have hbw : Below wq.heap.size wq w7 := bl_tr (bl_tr hb1 hb6) hb7
            cases QR with
            | none =>
              obtain rfl := h1 rfl
              have hT3 := Lib.hid (show R = G (k + 1) from hT2.out)
              clear hT2 h1 h2 hi6
              go_wp2
              go_roundw
              case rel => exact ⟨k + 1, by omega, by go_num, hT3.out, hbw⟩
              case measure => simp [intOf]; omega
            | some r =>
              obtain ⟨A7, c7, rfl, hs7⟩ := h2 r rfl
              have hT3 := Lib.hid (show R = some r from hT2.out)
              replace hs7 := Lib.hid hs7
              clear hT2 h1 h2 hi6
              go_wp2
              go_ret2
              exact ⟨bl_tr hb0 hbw, fun h => by (have := hT3.out; rw [h] at this; cases this), fun r' h => by
                have h3 := hT3.out
                rw [h] at h3
                injection h3 with h3
                subst h3
                exact ⟨A7, c7, rfl, hs7.out⟩⟩
end Go.Proofs.YtdlmkblmljhbfaaDoor
namespace Go.Proofs.YtdlmkblmljhbfaaDoor
set_option linter.unusedSimpArgs false
set_option linter.unusedVariables false
open Go.RowKit Go.Shelf
attribute [local go_sem] bl_al bl_drew bl_drewN bl_refl bx_al bx_drew bx_drewN bx_refl
set_option maxRecDepth 20000
theorem tmL_some {l : List Sm} {b : List Nat} {f : List Nat → Option (List Nat)} {r : List Nat} : ∀ (n k : Nat), tmL l b f n k = some r → ∃ (j : Nat) (s : Sm), l[j]? = some s ∧ j ∉ b ∧ lateB (ordL l b) s = false ∧ f (b ++ [j]) = some r
  | 0, k, h => by cases h
  | n + 1, k, h => by
    rw [tmL] at h
    cases hs : l[k]? with
    | none => rw [hs] at h; cases h
    | some s =>
      rw [hs] at h
      simp only at h
      split at h
      · exact tmL_some n (k + 1) h
      · rename_i hc
        simp only [Bool.or_eq_true, not_or, Bool.not_eq_true] at hc
        cases hf : f (b ++ [k]) with
        | none => rw [hf] at h; exact tmL_some n (k + 1) h
        | some r' =>
          rw [hf] at h
          refine ⟨k, s, hs, fun hm => ?_, hc.2, by rw [hf]; exact h⟩
          have h1 := hc.1
          rw [List.any_eq_false] at h1
          have := h1 (k : Int) (List.mem_map.2 ⟨k, hm, rfl⟩)
          simp at this
theorem tmS_begun {l : List Sm} {r : List Nat} : ∀ (d : Nat) (b : List Nat), Begun l b → b.length + d = l.length → tmS l d b = some r → Begun l r ∧ r.length = l.length
  | 0, b, hb, hd, h => by
    rw [tmS] at h
    injection h with h
    subst h
    exact ⟨hb, by omega⟩
  | d + 1, b, hb, hd, h => by
    obtain ⟨j, s, hs, hn, hl, hf⟩ := tmL_some _ _ h
    exact tmS_begun d (b ++ [j]) (hb.next hs hn hl) (by simp; omega) hf
theorem tmS_ordr {l : List Sm} {r : List Nat} (h : tmS l l.length [] = some r) : Ordr l := by
  obtain ⟨h1, h2⟩ := tmS_begun l.length [] (Begun.nil l) (by simp) h
  exact h1.ordr h2
set_option maxHeartbeats 2000000 in
theorem c_OrderFor (l : List Sm) (A : Option Addr) (c : Nat) (w : World) (hn : SmIn l A c w) :
    Calls Tryd.prog 70 #[.slice A l.length c] w (fun e w' => Below w.heap.size w w' ∧
      ((smsErr l ≠ 0 ∧ e = .returned (.tuple #[.slice none 0 0, .int .i64 (smsErr l)])) ∨
        (smsErr l = 0 ∧ ((tmS l l.length [] = none ∧ e = .returned (.tuple #[.slice none 0 0, .int .i64 12])) ∨
          ∃ r A2 c2, tmS l l.length [] = some r ∧ e = .returned (.tuple #[.slice A2 r.length c2, .int .i64 0]) ∧ Sl cI 1 w' A2 (bI r))))) := by
  have hse := Lib.hid (c_streamsErr l A c w hn)
  have htm := Lib.hid fun (h : smsErr l = 0) W (hb : Below w.heap.size w W) => (show Calls Tryd.prog 124 #[.slice A l.length c, .slice none 0 0] W (TmP (tmS l l.length []) W) from
    c_timely l (fun s hs => ((sms_ok h).2.2 s hs).1) (sms_ok h).2.1 A c l.length [] none 0 W (by simp) (Begun.nil l) (hn.sl.below hb) (fun k x hx => by simp [bI] at hx) (Nat.le_refl _) (by unfold maxLen; omega) (fun _ => rfl))
  clear hn
  generalize tmS l l.length [] = R at *
  generalize smsErr l = E at *
  generalize l.length = n at *
  go_enter Tryd.func70, Tryd.ntmps70
  go_wp2_with fail
  refine hse.out.mono ?_
  rintro e wa ⟨rfl, hb0⟩
  by_cases h0 : E = 0
  rotate_left
  · have h0' : (E != 0) = true := by simp [h0]
    replace h0 := Lib.hid h0
    go_wp2
    go_ret2
    exact ⟨hb0, .inl ⟨h0.out, rfl⟩⟩
  subst h0
  have ht := Lib.hid (htm.out rfl)
  clear hse htm
  go_wp2_with fail
  refine (ht.out _ hb0).mono ?_
  rintro e wb ⟨hb1, h1, h2⟩
  replace hb0 := bl_tr hb0 hb1
  cases R with
  | none =>
    obtain rfl := h1 rfl
    clear h1 h2 ht
    go_wp2_with (go_at_call 78; (with_reducible refine (c_unless _ _ _).mono ?_); rintro e w3 ⟨rfl, rfl⟩)
    go_ret2
    exact ⟨hb0, rfl⟩
  | some r =>
    obtain ⟨A2, c2, rfl, hs⟩ := h2 r rfl
    replace hs := Lib.hid hs
    clear h1 h2 ht
    go_wp2_with (go_at_call 78; (with_reducible refine (c_unless _ _ _).mono ?_); rintro e w3 ⟨rfl, rfl⟩)
    go_ret2
    exact ⟨hb0, A2, ⟨c2, rfl⟩, hs.out⟩
end Go.Proofs.YtdlmkblmljhbfaaDoor
namespace Go.Proofs.YtdlmkblmljhbfaaDoor
set_option linter.unusedSimpArgs false
set_option linter.unusedVariables false
open Go.RowKit Go.Shelf
attribute [local go_sem] bl_al bl_drew bl_drewN bl_refl bx_al bx_drew bx_drewN bx_refl
set_option maxRecDepth 20000
/-- What OverloadIn answers of valid streams. -/
inductive Ov (l : List Sm) : Int × Int → Prop
  | large : Ov l (0, 8)
  | none : (∀ L : Nat, dmdS l L ≤ L) → Ov l (0, 12)
  | some (D : Nat) : 1 ≤ D → (D : Int) < dmdS l D → Ov l ((D : Int), 0)
theorem ov_of {l : List Sm} (h : smsErr l = 0) : Ov l (ovR l) := by
  have hok : ∀ s ∈ l, OkSm s := fun s hs => ((sms_ok h).2.2 s hs).1
  unfold ovR
  rw [if_pos h]
  cases hc : cyS l 1 with
  | none => exact .large
  | some n =>
    simp only
    cases ho : ovS l n with
    | none => exact .none (dm_cycle hok hc ho)
    | some t =>
      obtain ⟨h1, h2⟩ := ovF_some _ _ _ ho
      exact .some t h1 h2
theorem ov_order {l : List Sm} (h : smsErr l = 0) {D : Nat} (hD : (D : Int) < dmdS l D) : tmS l l.length [] = none := by
  cases hr : tmS l l.length [] with
  | none => rfl
  | some r =>
    have := ordr_dm (fun s hs => ((sms_ok h).2.2 s hs).1) (sms_ok h).2.1 (tmS_ordr hr) D
    omega
theorem zrs_sl {l : List Sm} {W : World} {g : Nat} {t : TypeId} (h : Blk W g t ((zrs l.length).map (Value.int .i64)).toArray) : Sl cI 1 W (some ⟨g, 0, none⟩) (zrs l.length) := Blk.ints h
set_option maxHeartbeats 0 in
theorem r_BusEarliest (l : List Sm) (st : List Int) (x0 : Int) (A As : Option Addr) (c cs : Nat) (w : World) (hs : Sl cSm 4 w A l) (hc : l.length ≤ c) (hnm : ∀ s ∈ l, s.name.size ≤ maxLen) (hst : Sl cI 1 w As st) (hT : Tab w) :
    Calls Tryd.prog 14 #[.slice A l.length c, .slice As st.length cs, .int .i64 x0] w (Ret (.bool true) w) := by
  have haw := Lib.hid fun W (hb : Below w.heap.size w W) => r_awake W (hT.below hb)
  have hfw := Lib.hid fun W (hb : Below w.heap.size w W) => r_fewStreams l A c W (hs.below hb)
  have hF8 := Lib.hid fun h : fewB l = true => few_ok2 h
  have hn0 := Lib.hid fun (h : fewB l = true) W (hb : Below w.heap.size w W) => (show SmIn l A c W from ⟨by have := few_ok2 h; omega, hc, hnm, hs.below hb⟩)
  have hse := Lib.hid fun (h : fewB l = true) W (hb : Below w.heap.size w W) => r_StreamsErr l A c W (hn0.out h W hb)
  have hsr := Lib.hid fun (h : fewB l = true) W (hb : Below w.heap.size w W) => r_StartsErr l st x0 A As c cs W (hst.below hb) (few_ok2 h)
  have Hst := Lib.hid fun W (hb : Below w.heap.size w W) => hst.below hb
  clear hs hc hnm hst hT
  go_enter Tryd.func14, Tryd.ntmps14
  go_wp2_with fail
  refine (haw.out w (bl_refl _)).mono ?_
  rintro e w1 ⟨rfl, hb0⟩
  clear haw
  cases hF : fewB l
  · rw [hF] at hfw
    clear hse hsr hn0 hF8 Hst
    generalize l.length = n at *
    go_wp2_with (go_at_call 40; (with_reducible refine (hfw.out _ hb0).mono ?_); rintro e w3 ⟨rfl, rfl⟩)
    go_ret
    exact ⟨rfl, hb0⟩
  rw [hF] at hfw
  have hl8 := hF8.out hF
  have hn1 := Lib.hid (hn0.out hF)
  have hse1 := Lib.hid (hse.out hF)
  have hsr1 := Lib.hid (hsr.out hF)
  clear hF8 hn0 hse hsr hF
  by_cases hE : smsErr l = 0
  rotate_left
  · have hE' : (smsErr l != 0) = true := by simp [hE]
    generalize smsErr l = E at *
    replace hE := Lib.hid hE
    go_wp2_with (first | (go_at_call 40; (with_reducible refine (hfw.out _ hb0).mono ?_); rintro e w3 ⟨rfl, rfl⟩) | (go_at_call 41; (with_reducible refine (hse1.out _ hb0).mono ?_); rintro e w4 ⟨rfl, hb4⟩; replace hb0 := bl_tr hb0 hb4))
    go_ret
    exact ⟨rfl, hb0⟩
  have hse2 : Hid (∀ W, Below w.heap.size w W → Calls Tryd.prog 41 #[.slice A l.length c] W (Ret (.int .i64 0) W)) := fun W hb => by
    have := hse1.out W hb
    rw [hE] at this
    exact this
  clear hse1
  by_cases hS : stE0 l st x0 = 0
  rotate_left
  · have hS' : (stE0 l st x0 != 0) = true := by simp [hS]
    generalize stE0 l st x0 = S at *
    replace hS := Lib.hid hS
    replace hE := Lib.hid hE
    go_wp2_with (first | (go_at_call 40; (with_reducible refine (hfw.out _ hb0).mono ?_); rintro e w3 ⟨rfl, rfl⟩) | (go_at_call 41; (with_reducible refine (hse2.out _ hb0).mono ?_); rintro e w4 ⟨rfl, hb4⟩; replace hb0 := bl_tr hb0 hb4) | (go_at_call 42; (with_reducible refine (hsr1.out _ hb0).mono ?_); rintro e w5 ⟨rfl, hb5⟩; replace hb0 := bl_tr hb0 hb5))
    go_ret
    exact ⟨rfl, hb0⟩
  obtain ⟨hlst, hx0, hx4⟩ := stE0_ok hS
  have hsr2 : Hid (∀ W, Below w.heap.size w W → Calls Tryd.prog 42 #[.slice A l.length c, .slice As l.length cs, .int .i64 x0] W (Ret (.int .i64 0) W)) := fun W hb => by
    have := hsr1.out W hb
    rw [hS, hlst] at this
    exact this
  clear hsr1
  rw [hlst]
  replace hlst := Lib.hid hlst
  by_cases h90 : x0 ≤ 90
  rotate_left
  · have h90' : 90 < x0 := by omega
    replace hS := Lib.hid hS
    replace hE := Lib.hid hE
    go_wp2_with (first | (go_at_call 40; (with_reducible refine (hfw.out _ hb0).mono ?_); rintro e w3 ⟨rfl, rfl⟩) | (go_at_call 41; (with_reducible refine (hse2.out _ hb0).mono ?_); rintro e w4 ⟨rfl, hb4⟩; replace hb0 := bl_tr hb0 hb4) | (go_at_call 42; (with_reducible refine (hsr2.out _ hb0).mono ?_); rintro e w5 ⟨rfl, hb5⟩; replace hb0 := bl_tr hb0 hb5))
    go_ret
    exact ⟨rfl, hb0⟩
  have h90' : ¬ 90 < x0 := by omega
  obtain ⟨T, rfl⟩ : ∃ T : Nat, x0 = T := ⟨x0.toNat, by omega⟩
  have hok := sms_ok hE
  have hn6 : l.length ≤ 6 := hok.2.1
  have hsE : stE l st T = 0 := by rw [stE_eq0 hE]; exact hS
  have hopn := (stE_ok hsE).1
  have hcp := Lib.hid fun W (hb : Below w.heap.size w W) => r_CopyStreams l A c W (hn1.out W hb)
  have hci : Hid (∀ W, Below w.heap.size w W → Calls Tryd.prog 17 #[.slice As l.length cs] W (RetI st W)) := fun W hb => by
    have := r_CopyInts st As cs W (Hst.out W hb) (by rw [hlst.out]; omega)
    rw [hlst.out] at this
    exact this
  have hov := Lib.hid fun A2 c2 W (h : SmIn l A2 c2 W) => c_OverloadIn l A2 c2 W h
  have hef : Hid (∀ (A2 : Option Addr) (c2 : Nat) (A1 : Option Addr) (c1 : Nat) (W : World), SmIn l A2 c2 W → Sl cI 1 W A1 st → Calls Tryd.prog 56 #[.slice A2 l.length c2, .slice A1 st.length c1, .int .i64 (T : Nat)] W
      (fun e w' => Below W.heap.size W w' ∧ ∃ A3 c3, e = .returned (.tuple #[.slice A3 T c3, .int .i64 0]) ∧ Sl cI 1 w' A3 (runS (dlS l) l st T).2)) := fun A2 c2 A1 c1 W h1 h2 =>
    (c_EarliestFirst l st T A2 A1 c2 c1 W h1 h2 (by rw [hlst.out]; omega)).mono fun e w' ⟨hb, hh⟩ => by
      rcases hh with ⟨h0, _⟩ | ⟨_, A3, c3, e3, h3⟩
      · exact absurd hsE h0
      · rw [Int.toNat_natCast] at e3 h3
        exact ⟨hb, A3, c3, e3, own_sl (L := (runS (dlS l) l st T).2) (by rw [runS_len]; exact h3)⟩
  have hip := Lib.hid fun (Ao : Option Addr) (co : Nat) (W : World) (hb : Below w.heap.size w W) (ho : Sl cI 1 W Ao (runS (dlS l) l st T).2) => (show Calls Tryd.prog 69 #[.slice A l.length c, .slice As l.length cs, .slice Ao T co] W (Same (.bool (punB l st (runS (dlS l) l st T).2)) W) from by
    have := r_isPunctual l st (runS (dlS l) l st T).2 A As Ao c cs co W hopn (hn1.out W hb).sl (Hst.out W hb) ho (by rw [runS_len]; omega)
    rw [runS_len, hlst.out] at this
    exact this)
  have hpu := Lib.hid fun h : (∀ L : Nat, dmdS l L ≤ L) => (punB_iff l st _).2 (edf_punct (opn_sok hopn) h T)
  have hoz : ∀ D : Nat, D ≤ 90 → Opn l (zrs l.length) ∧ stE l (zrs l.length) D = 0 := fun D hD => by
    have h1 : stE l (zrs l.length) D = 0 := by rw [stE_eq0 hE]; exact zrs_ok ⟨by omega, by omega⟩
    exact ⟨(stE_ok h1).1, h1⟩
  have hez : Hid (∀ (D : Nat), D ≤ 90 → ∀ (A2 : Option Addr) (c2 : Nat) (A1 : Option Addr) (c1 : Nat) (W : World), SmIn l A2 c2 W → Sl cI 1 W A1 (zrs l.length) → Calls Tryd.prog 56 #[.slice A2 l.length c2, .slice A1 l.length c1, .int .i64 (D : Nat)] W
      (fun e w' => Below W.heap.size W w' ∧ ∃ A3 c3, e = .returned (.tuple #[.slice A3 D c3, .int .i64 0]) ∧ Sl cI 1 w' A3 (runS (dlS l) l (zrs l.length) D).2)) := fun D hD A2 c2 A1 c1 W h1 h2 => by
    have := c_EarliestFirst l (zrs l.length) D A2 A1 c2 c1 W h1 h2 (by rw [zrs_len]; omega)
    rw [zrs_len] at this
    exact this.mono fun e w' ⟨hb, hh⟩ => by
      rcases hh with ⟨h0, _⟩ | ⟨_, A3, c3, e3, h3⟩
      · exact absurd (hoz D hD).2 h0
      · rw [Int.toNat_natCast] at e3 h3
        exact ⟨hb, A3, c3, e3, own_sl (L := (runS (dlS l) l (zrs l.length) D).2) (by rw [runS_len]; exact h3)⟩
  have hiz := Lib.hid fun (D : Nat) (hD : D ≤ 90) (h1 : 1 ≤ D) (h2 : (D : Int) < dmdS l D) (Az Ao : Option Addr) (cz co : Nat) (W : World) (hb : Below w.heap.size w W) (hz : Sl cI 1 W Az (zrs l.length)) (ho : Sl cI 1 W Ao (runS (dlS l) l (zrs l.length) D).2) =>
    (show Calls Tryd.prog 69 #[.slice A l.length c, .slice Az l.length cz, .slice Ao D co] W (Same (.bool false) W) from by
      have := r_isPunctual l (zrs l.length) (runS (dlS l) l (zrs l.length) D).2 A Az Ao c cz co W (hoz D hD).1 (hn1.out W hb).sl hz ho (by rw [runS_len]; omega)
      have e : punB l (zrs l.length) (runS (dlS l) l (zrs l.length) D).2 = false := by
        rw [Bool.eq_false_iff]
        intro h
        exact over_late (opn_sok (hoz D hD).1) (zrs_zero _) D h1 h2 _ (runS_len ..) ((punB_iff l _ _).1 h)
      rw [runS_len, zrs_len, e] at this
      exact this)
  have hof : Hid ((∃ D : Nat, (D : Int) < dmdS l D) → ∀ (A2 : Option Addr) (c2 : Nat) (W : World), SmIn l A2 c2 W → Calls Tryd.prog 70 #[.slice A2 l.length c2] W (Ret (.tuple #[.slice none 0 0, .int .i64 12]) W)) := fun ⟨D, hD⟩ A2 c2 W h =>
    (c_OrderFor l A2 c2 W h).mono fun e w' ⟨hb, hh⟩ => by
      rcases hh with ⟨h0, _⟩ | ⟨_, ⟨_, h2⟩ | ⟨r, A3, c3, h2, _⟩⟩
      · exact absurd hE h0
      · exact ⟨h2, hb⟩
      · rw [ov_order hE hD] at h2
        cases h2
  have hmk : ∀ W : World, (Instr.makeSlice 22 (.int .i64 (l.length : Nat)) (.int .i64 (l.length : Nat))).run Tryd.prog W = .ok (.slice (some ⟨W.heap.size, 0, none⟩) l.length l.length) (W.alloc (.cells ((zrs l.length).map (Value.int .i64)).toArray 3)) := fun W => by
    have := mk_ints l.length hn6 W
    have e : ((List.range l.length).map fun i => Value.int .i64 (ss0.wo i)) = (zrs l.length).map (Value.int .i64) := by
      unfold zrs
      rw [List.map_map]
      rfl
    rw [e] at this
    exact this
  have hcase := ov_of hE
  generalize hz1 : (runS (dlS l) l st T).2 = OU at *
  generalize ovR l = O at *
  clear hz1 hsE hS hopn hok hoz
  replace hE := Lib.hid hE
  go_upto_region 5 with (first | (go_at_call 40; (with_reducible refine (hfw.out _ hb0).mono ?_); rintro e w3 ⟨rfl, rfl⟩) | (go_at_call 41; (with_reducible refine (hse2.out _ hb0).mono ?_); rintro e w4 ⟨rfl, hb4⟩; replace hb0 := bl_tr hb0 hb4) | (go_at_call 42; (with_reducible refine (hsr2.out _ hb0).mono ?_); rintro e w5 ⟨rfl, hb5⟩; replace hb0 := bl_tr hb0 hb5))
  clear hfw hse2 hsr2 h90'
  go_wp2_with fail
  refine (hcp.out _ hb0).mono ?_
  rintro e v1 ⟨A2, c2, rfl, hb1, hm⟩
  replace hb0 := bl_tr hb0 hb1
  clear hb1
  go_wp2_with fail
  refine (hov.out _ _ _ hm).mono ?_
  rintro e v2 ⟨rfl, hb1⟩
  replace hb0 := bl_tr hb0 hb1
  clear hb1 hm hov
  cases hcase with
  | large =>
    clear hpu hiz hez hof hip hef
    go_wp2
    go_ret
    exact ⟨rfl, hb0⟩
  | none hle =>
    have hp := hpu.out hle
    rw [hp] at hip
    replace hle := Lib.hid hle
    clear hpu hiz hez hof hp
    go_wp2_with fail
    refine (hcp.out _ hb0).mono ?_
    rintro e v3 ⟨A2, c2, rfl, hb1, hm⟩
    replace hb0 := bl_tr hb0 hb1
    clear hb1
    go_wp2_with fail
    refine (hci.out _ hb0).mono ?_
    rintro e v4 ⟨A1, c1, rfl, hb1, ho1⟩
    replace hb0 := bl_tr hb0 hb1
    replace hm := hm.below hb1
    clear hb1
    go_wp2_with fail
    refine (hef.out _ _ _ _ _ hm (own_sl ho1)).mono ?_
    rintro e v5 ⟨hb1, A3, c3, rfl, hs3⟩
    replace hb0 := bl_tr hb0 hb1
    clear hb1 hm ho1 hef
    replace hs3 := Lib.hid hs3
    go_wp2_with fail
    refine (hip.out _ _ _ hb0 hs3.out).mono ?_
    rintro e v6 ⟨rfl, rfl⟩
    go_wp2
    go_ret
    exact ⟨rfl, hb0⟩
  | some D hD1 hD2 =>
    have hof1 := Lib.hid (hof.out ⟨D, hD2⟩)
    replace hD2 := Lib.hid hD2
    clear hpu hof hip
    go_wp2_with fail
    refine (hcp.out _ hb0).mono ?_
    rintro e v3 ⟨A2, c2, rfl, hb1, hm⟩
    replace hb0 := bl_tr hb0 hb1
    clear hb1
    go_wp2_with fail
    refine (hci.out _ hb0).mono ?_
    rintro e v4 ⟨A1, c1, rfl, hb1, ho1⟩
    replace hb0 := bl_tr hb0 hb1
    replace hm := hm.below hb1
    clear hb1
    go_wp2_with fail
    refine (hef.out _ _ _ _ _ hm (own_sl ho1)).mono ?_
    rintro e v5 ⟨hb1, A3, c3, rfl, hs3⟩
    replace hb0 := bl_tr hb0 hb1
    clear hb1 hm ho1 hef hs3
    have hD0 : ¬ (D : Int) < 1 := by omega
    go_wp2_with fail
    refine (hcp.out _ hb0).mono ?_
    rintro e v6 ⟨A2, c2, rfl, hb1, hm⟩
    replace hb0 := bl_tr hb0 hb1
    clear hb1
    go_wp2_with fail
    refine (hof1.out _ _ _ hm).mono ?_
    rintro e v7 ⟨rfl, hb1⟩
    replace hb0 := bl_tr hb0 hb1
    clear hb1 hm hof1
    by_cases hD9 : D ≤ 90
    rotate_left
    · have hD9' : (90 : Int) < D := by omega
      go_wp2
      go_ret
      exact ⟨rfl, hb0⟩
    have hD9' : ¬ (90 : Int) < D := by omega
    have hez1 := Lib.hid (hez.out D hD9)
    have hiz1 := Lib.hid (hiz.out D hD9 hD1 hD2.out)
    clear hez hiz
    generalize (runS (dlS l) l (zrs l.length) D).2 = OZ at *
    go_upto_region 20 with fail
    refine wp_any (w0 := v7) ⟨[], [], [some 84, some 85, some 86, some 87, some 88, some 89, some 90, some 83, some 91, some 92, some 13, some 14], [[], [0], [], [2], [2, 3], [], [0, 1, 2, 3, 4, 5], [0, 1, 2, 3, 4, 5, 6], [0, 1, 2, 3, 4, 5, 6, 7], [0, 1, 2, 3, 4, 5, 6, 7], [0, 1, 2, 3, 4, 5, 6, 7, 8], [0, 1, 2, 3, 4, 5, 6, 7, 8, 9, 10]], [[], [0], [], [2], [3], [], [1, 4, 5], [1, 6], [1, 6, 7], [1, 6, 7], [1, 6, 8], [1, 6, 9]]⟩ (fun _ => []) (by kernel_rfl) (by kernel_rfl) (by (with_reducible (repeat' (first | assumption | apply jA | apply jB | apply jC | apply jD | apply jE | apply jF | apply hb3 | omega | (simp; done) | (simp; omega) | (dsimp only; omega))))) (fun u => by simp only [putD, Act.put, List.setIfInBounds_toArray, List.set_cons_zero, List.set_cons_succ, Nat.zero_add, Nat.reduceAdd]; rfl) ?_
    apply RGW.on (i := 0) rfl
    · (simp only [gA, gB, gC] <;> rfl)
    · intro γ u W hcur hd
      clear hd
      (try dsimp only)
      refine ⟨rfl, ?_⟩
      go_simp <;> (try go_bits) <;> with_reducible rfl
    · exact fun _ _ _ => rfl
    · rfl
    dsimp only [nA, cA]
    apply RGW.gh (⟨fun γ => .slice (γ 1).A l.length (γ 1).c, fun γ W => SmIn l (γ 1).A (γ 1).c W, fun _ => []⟩) (i := 1) rfl
    · (simp only [gA, gB, gC] <;> rfl)
    · intro γ u W hcur hd
      obtain ⟨⟨h0, -, -⟩, -⟩ := hd
      dsimp only at h0
      (try simp only [h0])
      refine ⟨rfl, fun K hK => ?_⟩
      go_simp
      first
      | (go_at_call 44; (with_reducible refine (hcp.out _ (bl_tr hb0 hcur)).mono ?_); rintro e w3 ⟨Ax, cx, rfl, hb3, hox⟩; dsimp only; exact hK.out ⟨0, undef, Ax, cx⟩ _ _ (by simp [up]) hb3 (by simpa [up] using hox) (by simp))
      | (exact hK.out ⟨0, undef, some ⟨W.heap.size, 0, none⟩, 0⟩ _ _ (by simp [up]) (bl_al _ (bl_refl _)) (by simpa [up] using Blk.ints (l := zrs l.length) (Blk.new W _ _)) (by simp))
      | (go_at_call 56; (with_reducible refine (hez1.out _ _ _ _ _ r1 r4).mono ?_); rintro e w3 ⟨hb3, Ax, cx, rfl, hox⟩; dsimp only; exact hK.out ⟨0, undef, Ax, cx⟩ _ _ (by simp [up]) hb3 (by simpa [up] using hox) (by simp))
    · first
      | exact fun _ _ _ => rfl
      | intro γ γ' hg
        try dsimp only
        have e1 := hg 1 (by decide)
        simp only [e1]
        try exact ⟨trivial, fun _ h => h⟩
    · intro γ W W' hbl hR
      first | exact hR.below hbl | exact own_below hR hbl | exact trivial | exact ⟨hR.1.below hbl, hR.2⟩
    · rfl
    dsimp only [nA, cA]
    apply RGW.on (i := 2) rfl
    · (simp only [gA, gB, gC] <;> rfl)
    · intro γ u W hcur hd
      clear hd
      (try dsimp only)
      refine ⟨rfl, ?_⟩
      go_simp <;> (try go_bits) <;> with_reducible rfl
    · exact fun _ _ _ => rfl
    · rfl
    dsimp only [nA, cA]
    apply RGW.on (i := 3) rfl
    · (simp only [gA, gB, gC] <;> rfl)
    · intro γ u W hcur hd
      obtain ⟨⟨h2, -, -⟩, -⟩ := hd
      dsimp only at h2
      (try simp only [h2])
      refine ⟨rfl, ?_⟩
      go_simp <;> (try go_bits) <;> with_reducible rfl
    · exact fun _ _ _ => rfl
    · rfl
    dsimp only [nA, cA]
    apply RGW.gh (⟨fun γ => .slice (γ 4).A l.length l.length, fun γ W => Sl cI 1 W (γ 4).A (zrs l.length), fun _ => []⟩) (i := 4) rfl
    · (simp only [gA, gB, gC] <;> rfl)
    · intro γ u W hcur hd
      obtain ⟨⟨h3, -, -⟩, -⟩ := hd
      dsimp only at h3
      (try simp only [h3])
      refine ⟨rfl, fun K hK => ?_⟩
      go_simp
      first
      | (go_at_call 44; (with_reducible refine (hcp.out _ (bl_tr hb0 hcur)).mono ?_); rintro e w3 ⟨Ax, cx, rfl, hb3, hox⟩; dsimp only; exact hK.out ⟨0, undef, Ax, cx⟩ _ _ (by simp [up]) hb3 (by simpa [up] using hox) (by simp))
      | (exact hK.out ⟨0, undef, some ⟨W.heap.size, 0, none⟩, 0⟩ _ _ (by simp [up]) (bl_al _ (bl_refl _)) (by simpa [up] using Blk.ints (l := zrs l.length) (Blk.new W _ _)) (by simp))
      | (go_at_call 56; (with_reducible refine (hez1.out _ _ _ _ _ r1 r4).mono ?_); rintro e w3 ⟨hb3, Ax, cx, rfl, hox⟩; dsimp only; exact hK.out ⟨0, undef, Ax, cx⟩ _ _ (by simp [up]) hb3 (by simpa [up] using hox) (by simp))
    · first
      | exact fun _ _ _ => rfl
      | intro γ γ' hg
        try dsimp only
        have e4 := hg 4 (by decide)
        simp only [e4]
        try exact ⟨trivial, fun _ h => h⟩
    · intro γ W W' hbl hR
      first | exact hR.below hbl | exact own_below hR hbl | exact trivial | exact ⟨hR.1.below hbl, hR.2⟩
    · rfl
    dsimp only [nA, cA]
    apply RGW.on (i := 5) rfl
    · (simp only [gA, gB, gC] <;> rfl)
    · intro γ u W hcur hd
      clear hd
      (try dsimp only)
      refine ⟨rfl, ?_⟩
      go_simp <;> (try go_bits) <;> with_reducible rfl
    · exact fun _ _ _ => rfl
    · rfl
    dsimp only [nA, cA]
    apply RGW.gh (⟨fun γ => .tuple #[.slice (γ 6).A D (γ 6).c, .int .i64 0], fun γ W => Sl cI 1 W (γ 6).A OZ, fun _ => []⟩) (i := 6) rfl
    · (simp only [gA, gB, gC] <;> rfl)
    · intro γ u W hcur hd
      obtain ⟨⟨h1, r1, -⟩, ⟨h4, r4, -⟩, ⟨h5, -, -⟩, -⟩ := hd
      dsimp only at h1 h4 h5 r1 r4
      (try simp only [h1, h4, h5])
      refine ⟨rfl, fun K hK => ?_⟩
      go_simp
      first
      | (go_at_call 44; (with_reducible refine (hcp.out _ (bl_tr hb0 hcur)).mono ?_); rintro e w3 ⟨Ax, cx, rfl, hb3, hox⟩; dsimp only; exact hK.out ⟨0, undef, Ax, cx⟩ _ _ (by simp [up]) hb3 (by simpa [up] using hox) (by simp))
      | (exact hK.out ⟨0, undef, some ⟨W.heap.size, 0, none⟩, 0⟩ _ _ (by simp [up]) (bl_al _ (bl_refl _)) (by simpa [up] using Blk.ints (l := zrs l.length) (Blk.new W _ _)) (by simp))
      | (go_at_call 56; (with_reducible refine (hez1.out _ _ _ _ _ r1 r4).mono ?_); rintro e w3 ⟨hb3, Ax, cx, rfl, hox⟩; dsimp only; exact hK.out ⟨0, undef, Ax, cx⟩ _ _ (by simp [up]) hb3 (by simpa [up] using hox) (by simp))
    · first
      | exact fun _ _ _ => rfl
      | intro γ γ' hg
        try dsimp only
        have e1 := hg 1 (by decide)
        have e6 := hg 6 (by decide)
        simp only [e1, e6]
        try exact ⟨trivial, fun _ h => h⟩
    · intro γ W W' hbl hR
      first | exact hR.below hbl | exact own_below hR hbl | exact trivial | exact ⟨hR.1.below hbl, hR.2⟩
    · rfl
    dsimp only [nA, cA]
    apply RGW.on (i := 7) rfl
    · (simp only [gA, gB, gC] <;> rfl)
    · intro γ u W hcur hd
      obtain ⟨⟨h1, r1, -⟩, ⟨h6, r6, -⟩, -⟩ := hd
      dsimp only at h1 h6 r1 r6
      (try simp only [h1, h6])
      refine ⟨rfl, ?_⟩
      go_simp <;> (try go_bits) <;> with_reducible rfl
    · first
      | exact fun _ _ _ => rfl
      | intro γ γ' hg
        try dsimp only
        have e1 := hg 1 (by decide)
        have e6 := hg 6 (by decide)
        simp only [e1, e6]
    · rfl
    dsimp only [nA, cA]
    apply RGW.on (i := 8) rfl
    · (simp only [gA, gB, gC] <;> rfl)
    · intro γ u W hcur hd
      obtain ⟨⟨h1, r1, -⟩, ⟨h6, r6, -⟩, ⟨h7, -, -⟩, -⟩ := hd
      dsimp only at h1 h6 h7 r1 r6
      (try simp only [h1, h6, h7])
      refine ⟨rfl, ?_⟩
      go_simp <;> (try go_bits) <;> with_reducible rfl
    · first
      | exact fun _ _ _ => rfl
      | intro γ γ' hg
        try dsimp only
        have e1 := hg 1 (by decide)
        have e6 := hg 6 (by decide)
        simp only [e1, e6]
    · rfl
    dsimp only [nA, cA]
    apply RGW.on (i := 9) rfl
    · (simp only [gA, gB, gC] <;> rfl)
    · intro γ u W hcur hd
      obtain ⟨⟨h1, r1, -⟩, ⟨h6, r6, -⟩, ⟨h7, -, -⟩, -⟩ := hd
      dsimp only at h1 h6 h7 r1 r6
      (try simp only [h1, h6, h7])
      refine ⟨rfl, ?_⟩
      go_simp <;> (try go_bits) <;> with_reducible rfl
    · first
      | exact fun _ _ _ => rfl
      | intro γ γ' hg
        try dsimp only
        have e1 := hg 1 (by decide)
        have e6 := hg 6 (by decide)
        simp only [e1, e6]
    · rfl
    dsimp only [nA, cA]
    apply RGW.on (i := 10) rfl
    · (simp only [gA, gB, gC] <;> rfl)
    · intro γ u W hcur hd
      obtain ⟨⟨h1, r1, -⟩, ⟨h6, r6, -⟩, ⟨h8, -, -⟩, -⟩ := hd
      dsimp only at h1 h6 h8 r1 r6
      (try simp only [h1, h6, h8])
      refine ⟨rfl, ?_⟩
      go_simp <;> (try go_bits) <;> with_reducible rfl
    · first
      | exact fun _ _ _ => rfl
      | intro γ γ' hg
        try dsimp only
        have e1 := hg 1 (by decide)
        have e6 := hg 6 (by decide)
        simp only [e1, e6]
    · rfl
    dsimp only [nA, cA]
    apply RGW.on (i := 11) rfl
    · (simp only [gA, gB, gC] <;> rfl)
    · intro γ u W hcur hd
      obtain ⟨⟨h1, r1, -⟩, ⟨h6, r6, -⟩, ⟨h9, -, -⟩, -⟩ := hd
      dsimp only at h1 h6 h9 r1 r6
      (try simp only [h1, h6, h9])
      refine ⟨rfl, ?_⟩
      go_simp <;> (try go_bits) <;> with_reducible rfl
    · first
      | exact fun _ _ _ => rfl
      | intro γ γ' hg
        try dsimp only
        have e1 := hg 1 (by decide)
        have e6 := hg 6 (by decide)
        simp only [e1, e6]
    · rfl
    dsimp only [nA, cA]
    refine RGW.fin (fun γ u v8 hv8 hd hdis => ?_)
    obtain ⟨⟨h0, -, -⟩, ⟨h1, r1, b1⟩, ⟨h2, -, -⟩, ⟨h3, -, -⟩, ⟨h4, r4, b4⟩, ⟨h5, -, -⟩, ⟨h6, r6, b6⟩, ⟨h7, -, -⟩, ⟨h8, -, -⟩, ⟨h9, -, -⟩, ⟨h10, -, -⟩, ⟨h11, -, -⟩, -⟩ := hd
    dsimp only at h0 h1 h2 h3 h4 h5 h6 h7 h8 h9 h10 h11 r1 r4 r6 b1 b4 b6
    clear hdis
    simp only [h0, h1, h2, h3, h4, h5, h6, h7, h8, h9, h10, h11]
    clear h11 h10 h9 h8 h7 h6 h5 h4 h3 h2 h1 h0
    clear u
    simp only [List.map_nil]
    refine PlanW.done ?_
    have hb3 := bl_tt hv8
    have hb0' := bl_tr hb0 hv8
    have hs2 := r6
    generalize (γ 6).A = B2 at *
    generalize (γ 6).c = c2 at *
    clear hb0 hb3 r1 r4 r6 b1 b4 b6 hv8 hez1
    have hb0 := hb0'
    clear hb0'
    replace hs2 := Lib.hid hs2
    have hbm := Lib.hid (bl_al (.cells ((zrs l.length).map (Value.int .i64)).toArray 3) (bl_refl v8))
    have hkz := Lib.hid (zrs_sl (l := l) (Blk.new v8 3 ((zrs l.length).map (Value.int .i64)).toArray))
    go_wp2_with fail
    refine (hiz1.out _ _ _ _ _ (bl_tr hb0 hbm.out) hkz.out (hs2.out.below hbm.out)).mono ?_
    rintro e v9 ⟨rfl, rfl⟩
    go_wp2
    go_ret
    exact ⟨rfl, bl_tr hb0 hbm.out⟩
end Go.Proofs.YtdlmkblmljhbfaaDoor
