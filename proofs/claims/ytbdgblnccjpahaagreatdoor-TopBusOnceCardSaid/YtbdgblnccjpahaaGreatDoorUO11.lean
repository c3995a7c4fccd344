/-
  Walk: a net read from three strings.
-/
import Derived.Test.YtbdgblnccjpahaaGreatDoorUO9
import Derived.Test.YtbdgblnccjpahaaGreatDoorUO10
import Derived.Test.YtbdgblnccjpahaaGreatDoorUO8
set_option linter.unusedSimpArgs false
set_option linter.unusedVariables false
namespace Go.Proofs.YtbdgblnccjpahaaGreatDoor
open Go.RowKit Go.Shelf
attribute [local go_sem] bl_al bl_drew bl_drewN bl_refl bx_al bx_drew bx_drewN bx_refl Oper.semAt_some
set_option maxRecDepth 20000
theorem RT.it {D : Nat} {X Z : List Nat} {Ts : TypeId → Prop} {A B : World} (h : RT D X Ts A B) (hZ : ∀ x ∈ X, x ∈ Z) : IT D Z (fun _ => False) A B :=
  ⟨h.os, h.tape, h.output, h.size, fun k o hk hu => h.keep k o hk (fun m => by
    rcases hu with ⟨_, hz⟩ | ⟨_, _, _, _, hf⟩
    · exact hz (hZ k m)
    · exact hf) (by
    rcases hu with ⟨hu, _⟩ | ⟨_, _, _, _, hf⟩
    · exact .inl hu
    · exact hf.elim)⟩
theorem IT.weak {D D' : Nat} {Y Z : List Nat} {Tk : TypeId → Prop} {A B : World} (hD : D ≤ D') (hY : ∀ y ∈ Y, y ∈ Z) (h : IT D' Y Tk A B) : IT D Z (fun _ => False) A B :=
  ⟨h.os, h.tape, h.output, h.size, fun k o hk hu => h.keep k o hk (.inl (by
    rcases hu with ⟨hu, hz⟩ | ⟨_, _, _, _, hf⟩
    · exact ⟨by omega, fun m => hz (hY k m)⟩
    · exact hf.elim))⟩
theorem IT.of_bx0 {D : Nat} {X Z : List Nat} {A B : World} (h : BX X A B) (hX : ∀ x ∈ X, x ∈ Z ∨ D ≤ x) : IT D Z (fun _ => False) A B :=
  ⟨h.os, h.tape, h.output, h.size, fun k o hk hu => by
    rcases hu with ⟨hu, hz⟩ | ⟨_, _, _, _, hf⟩
    · exact (h.block k (Array.getElem?_eq_some_iff.1 hk).1 (fun m => by
        rcases hX k m with m | m
        · exact hz m
        · omega)).trans hk
    · exact hf.elim⟩
theorem IT.ownT {D b n size : Nat} {Z : List Nat} {Tk : TypeId → Prop} {e : TypeId} {v : Value} {xs : List Value} {A B : World} (h : IT D Z Tk A B) (ho : A.ownsRow b e size v n xs) (hD : A.heap.size ≤ D) (hZ : NoT Z A e) : B.ownsRow b e size v n xs := by
  refine ⟨ho.1, ?_⟩
  rcases ho.2 with h2 | ⟨g, cap, cur, e1, e2, e3, e4⟩
  · exact .inl h2
  · exact .inr ⟨g, cap, cur, e1, e2, h.keep g _ e3 (.inl ⟨Nat.lt_of_lt_of_le (Array.getElem?_eq_some_iff.1 e3).1 hD, fun m => hZ g m cur e3⟩), e4⟩
theorem RwO.itT {D : Nat} {Z : List Nat} {Tk : TypeId → Prop} {r : Rw} {A B : World} (h : IT D Z Tk A B) (hr : RwO r A) (hD : A.heap.size ≤ D) (h1 : NoT Z A 3) : RwO r B := ⟨hr.len, h.ownT hr.own hD h1⟩
theorem FuO.itT {D : Nat} {Z : List Nat} {Tk : TypeId → Prop} {f : Fu} {A B : World} (h : IT D Z Tk A B) (hf : FuO f A) (hD : A.heap.size ≤ D) (h1 : NoT Z A 3) (h2 : NoT Z A 23) : FuO f B := ⟨hf.nm, hf.len, h.ownT hf.own hD h2, fun r hr => (hf.rows r hr).itT h hD h1⟩
theorem MdO.itT {D : Nat} {Z : List Nat} {Tk : TypeId → Prop} {f : Md} {A B : World} (h : IT D Z Tk A B) (hf : MdO f A) (hD : A.heap.size ≤ D) (h1 : NoT Z A 3) : MdO f B := ⟨hf.nm, hf.row.itT h hD h1⟩
theorem RwO.itK {D : Nat} {Z : List Nat} {Tk : TypeId → Prop} {r : Rw} {A B : World} (h : IT D Z Tk A B) (hr : RwO r A) (h1 : Tk 3) : RwO r B := ⟨hr.len, h.own hr.own h1⟩
theorem FuO.itK {D : Nat} {Z : List Nat} {Tk : TypeId → Prop} {f : Fu} {A B : World} (h : IT D Z Tk A B) (hf : FuO f A) (h1 : Tk 3) (h2 : Tk 23) : FuO f B := ⟨hf.nm, hf.len, h.own hf.own h2, fun r hr => (hf.rows r hr).itK h h1⟩
theorem MdO.itK {D : Nat} {Z : List Nat} {Tk : TypeId → Prop} {f : Md} {A B : World} (h : IT D Z Tk A B) (hf : MdO f A) (h1 : Tk 3) : MdO f B := ⟨hf.nm, hf.row.itK h h1⟩
/-- What a string of a net may have of each, that all lists are short. -/
structure Few3 (a b c : List UInt8) : Prop where
  la : a.length ≤ 50000
  lb : b.length ≤ 50000
  lc : c.length ≤ 50000
  ps : (partsL a).length ≤ 1000
  fs : (itemsL b).length ≤ 1000
  ms : (itemsL c).length ≤ 1000
  ws : ∀ x ∈ itemsL b, (splitC 44 x.2).length ≤ 1000 ∧ ∀ r ∈ splitC 44 x.2, (splitC 43 r).length ≤ 1000
  ns : ∀ x ∈ itemsL c, (splitC 43 x.2).length ≤ 1000
theorem strs_len (l : List (List UInt8)) : (l.map baOf).flatMap cS = l.flatMap cB := by
  induction l with
  | nil => rfl
  | cons x l ih => rw [List.map_cons, List.flatMap_cons, List.flatMap_cons, ih]; rfl
def c3 (l : List (List UInt8)) : Bool := l.any fun p => decide (p = [])
theorem c_hasNil (l : List (List UInt8)) (A : Option Addr) (c : Nat) (w : World) (hs : Sl cB 1 w A l) (hl : l.length ≤ 100000) : Calls Tryz.prog 135 #[.slice A l.length c, .string ⟨#[]⟩] w (Same (.bool (c3 l)) w) := by
  cases l with
  | nil => exact (Tryz.slices_Contains_string_empty A c ⟨#[]⟩ w).mono fun e w' ⟨h1, h2⟩ => ⟨h1, h2.symm⟩
  | cons x r =>
    obtain ⟨b, off, rfl, h0⟩ := hs 0 x rfl
    have h := Tryz.slices_Contains_string b off (x :: r).length c ((x :: r).map baOf) ⟨#[]⟩ w (by simp) (by omega) (fun j hj => by
      rw [List.length_map] at hj
      obtain ⟨b', off', e, hc⟩ := hs j _ (List.getElem?_eq_getElem hj)
      injection e with e
      injection e with e1 e2 _
      subst e1 e2
      have hg : ((x :: r).map baOf).getD j ByteArray.empty = baOf (x :: r)[j] := by rw [List.getD_eq_getElem?_getD, List.getElem?_map, List.getElem?_eq_getElem hj]; rfl
      have := hc 0 _ rfl
      rw [hg]
      simpa [baOf] using this)
    refine h.mono fun e w' ⟨h1, h2⟩ => ⟨?_, h2.symm⟩
    rw [h1]
    have he : Lib.containsS (((x :: r).map baOf).take (x :: r).length) ⟨#[]⟩ = c3 (x :: r) := by
      rw [List.take_of_length_le (by simp)]
      apply Bool.eq_iff_iff.2
      rw [Lib.containsS_iff]
      unfold c3
      rw [List.any_eq_true, List.mem_map]
      constructor
      · rintro ⟨p, hp, e⟩
        refine ⟨p, hp, ?_⟩
        have := congrArg (fun s : ByteArray => s.data.toList) e
        simpa [baOf] using this
      · rintro ⟨p, hp, e⟩
        have e := of_decide_eq_true e
        subst e
        exact ⟨[], hp, rfl⟩
    rw [he]
theorem own_keepB {W W' : World} {b n size : Nat} {e : TypeId} {v : Value} {xs : List Value} (h : W.ownsRow b e size v n xs) (hk : ∀ g o, v.ownBlock = some g → W.heap[g]? = some o → W'.heap[g]? = some o) : W'.ownsRow b e size v n xs := by
  refine ⟨h.1, ?_⟩
  rcases h.2 with h2 | ⟨g, cap, cur, rfl, e2, e3, e4⟩
  · exact .inl h2
  · exact .inr ⟨g, cap, cur, rfl, e2, hk g _ rfl e3, e4⟩
theorem c_way (r : List UInt8) (w : World) (hl : r.length ≤ 100000) (hE : Env w) :
    Calls Tryz.prog 61 #[.string ⟨r.toArray⟩, .string ⟨#[43]⟩] w (fun e w' => Below w.heap.size w w' ∧ ∃ A2 c2, e = .returned (.tuple #[.slice A2 (wayV r).length c2, .bool (wayOk r)]) ∧ w'.ownsRow w.heap.size 3 1 (.slice A2 (wayV r).length c2) (wayV r).length ((wayV r).map (.int .i64))) :=
  (c_split r 43 w hl hE).mono fun e w' ⟨hb, h1, h2⟩ => by
    refine ⟨hb, ?_⟩
    unfold wayV wayOk
    cases hk : natsOk (splitC 43 r) with
    | false =>
      rw [h1 hk]
      exact ⟨none, 0, rfl, World.ownsRow_nil _ _ _ _⟩
    | true =>
      obtain ⟨A2, c2, e2, ho⟩ := h2 hk
      rw [e2]
      have hn := natsV_len (splitC 43 r)
      rw [if_pos rfl, hn]
      exact ⟨A2, c2, rfl, ho⟩
theorem wayV_len (r : List UInt8) : (wayV r).length ≤ (splitC 43 r).length := by
  unfold wayV
  split
  · rw [natsV_len]; exact Nat.le_refl _
  · simp
theorem itm_len {s : List UInt8} {x : List UInt8 × List UInt8} (h : x ∈ itemsL s) : x.1.length ≤ s.length ∧ x.2.length ≤ s.length := by
  unfold itemsL at h
  split at h
  · simp at h
  · obtain ⟨p, hp, rfl⟩ := List.mem_map.1 h
    have h1 := splitC_mem 59 s p hp
    have h2 := cutC_len 61 p
    unfold itmOf
    constructor
    · dsimp only
      split
      · omega
      · simp
    · dsimp only
      omega
theorem FuO.ck {D : Nat} {f : Fu} {A B : World} (hf : FuO f A) (h : CK D A B) : FuO f B := hf.itK (IT.of_ck (D := D) (Y := []) (Ts := fun _ => True) h) trivial trivial
theorem MdO.ck {D : Nat} {f : Md} {A B : World} (hf : MdO f A) (h : CK D A B) : MdO f B := hf.itK (IT.of_ck (D := D) (Y := []) (Ts := fun _ => True) h) trivial
theorem own_lt {W : World} {b n size : Nat} {e : TypeId} {v : Value} {xs : List Value} (h : W.ownsRow b e size v n xs) : ∀ g, v.ownBlock = some g → g < W.heap.size := fun g hg => by
  rcases h.2 with ⟨e, _⟩ | ⟨k, _, cur, e, e2, e3, _⟩
  · rw [e] at hg; simp [Value.ownBlock] at hg
  · rw [e] at hg
    obtain rfl : k = g := by simpa [Value.ownBlock] using hg
    exact (Array.getElem?_eq_some_iff.1 e3).1
theorem RwO.ck {D : Nat} {r : Rw} {A B : World} (hf : RwO r A) (h : CK D A B) : RwO r B := hf.itK (IT.of_ck (D := D) (Y := []) (Ts := fun _ => True) h) trivial
theorem postM_taken2 {P : Program} {F : Fence} {m : Nat} {fn : Func} {R : Ending → World → Prop} {v : Value} {ts : Array Value} {w : World} {D1 D2 : Nat} (hK2 : w.heap[D2]? = some (.deferred (some []))) (hK1 : (w.putObj D2 (.deferred none)).heap[D1]? = some (.deferred (some [])))
    (hr : (results fn ts).run P ((w.putObj D2 (.deferred none)).putObj D1 (.deferred none)) = .ok v ((w.putObj D2 (.deferred none)).putObj D1 (.deferred none))) (h : R (.returned v) ((w.putObj D2 (.deferred none)).putObj D1 (.deferred none))) :
    bodyPostM F m P fn R .ret { tmps := ts, defers := [{ target := .collected D2, args := #[] }, { target := .collected D1, args := #[] }] } w :=
  ⟨by simp, .inl ⟨_, _, rfl, run_takeDeferred hK2, ⟨by simp, .inl ⟨_, _, rfl, run_takeDeferred hK1, ⟨v, hr, h⟩⟩⟩⟩⟩
/-- A net of a call's own. -/
structure NtOw (n : Nt) (Ap Af Am : Option Addr) (cp cf cm : Nat) (W : World) : Prop where
  plen : n.ps.length ≤ 1000
  flen : n.fs.length ≤ 1000
  mlen : n.ms.length ≤ 1000
  ps : W.ownsRow 0 9 1 (.slice Ap n.ps.length cp) n.ps.length (n.ps.flatMap cS)
  fs : W.ownsRow 0 144 2 (.slice Af n.fs.length cf) n.fs.length (n.fs.flatMap cFu)
  ms : W.ownsRow 0 146 2 (.slice Am n.ms.length cm) n.ms.length (n.ms.flatMap cMd)
  pnm : ∀ s ∈ n.ps, s.size ≤ maxLen
  fin : ∀ f ∈ n.fs, FuO f W
  min : ∀ m ∈ n.ms, MdO m W
theorem NtOw.net {n : Nt} {Ap Af Am : Option Addr} {cp cf cm : Nat} {W : World} (h : NtOw n Ap Af Am cp cf cm W) : NtIn n Ap Af Am cp cf cm W :=
  ⟨h.plen, h.flen, h.mlen, own_cap h.ps, own_cap h.fs, own_cap h.ms, own_slC (cs := cS) (fun _ => rfl) (by decide) h.ps, own_slC (cs := cFu) (fun _ => rfl) (by decide) h.fs, own_slC (cs := cMd) (fun _ => rfl) (by decide) h.ms, h.pnm, fun f hf => (h.fin f hf).fu, fun m hm => (h.min m hm).md⟩
theorem NtOw.keep {n : Nt} {Ap Af Am : Option Addr} {cp cf cm : Nat} {X : List Nat} {W W' : World} (h : NtOw n Ap Af Am cp cf cm W) (hb : BX X W W') (hX : ∀ e, e = 9 ∨ e = 3 ∨ e = 23 ∨ e = 144 ∨ e = 146 → NoT X W e) : NtOw n Ap Af Am cp cf cm W' :=
  ⟨h.plen, h.flen, h.mlen, own_keepT h.ps hb (hX _ (.inl rfl)), own_keepT h.fs hb (hX _ (.inr (.inr (.inr (.inl rfl))))), own_keepT h.ms hb (hX _ (.inr (.inr (.inr (.inr rfl))))), h.pnm, fun f hf => (h.fin f hf).keep hb (hX _ (.inr (.inl rfl))) (hX _ (.inr (.inr (.inl rfl)))), fun f hf => (h.min f hf).keep hb (hX _ (.inr (.inl rfl)))⟩
theorem NtOw.below {n : Nt} {Ap Af Am : Option Addr} {cp cf cm : Nat} {W W' : World} (h : NtOw n Ap Af Am cp cf cm W) (hb : Below W.heap.size W W') : NtOw n Ap Af Am cp cf cm W' := h.keep (bx_bl [] hb) (fun _ _ => noT_nil _ _)
theorem c3_all (P : List (List UInt8)) : (!c3 P) = P.all fun p => decide (p ≠ []) := by
  unfold c3
  induction P with
  | nil => rfl
  | cons p P ih =>
    simp only [List.any_cons, List.all_cons, Bool.not_or, ih]
    by_cases hp : p = [] <;> simp [hp]
theorem len3x {α : Type} {l : List α} (h : l.length = 3) : ∃ a b c, l = [a, b, c] := by
  match l, h with
  | [a, b, c], _ => exact ⟨a, b, c, rfl⟩
set_option maxHeartbeats 16000000 in
theorem c_parseNet (ls : List (List UInt8)) (A : Option Addr) (c : Nat) (w : World) (hs : Sl cB 1 w A ls) (hE : Env w)
    (hf : ∀ x y z, ls = [x, y, z] → Few3 x y z) :
    Calls Tryz.prog 82 #[.slice A ls.length c] w (fun e w' => Below w.heap.size w w' ∧
      (ls.length ≠ 3 → e = .returned (.tuple #[.agg #[.slice none 0 0, .slice none 0 0, .slice none 0 0], .bool false])) ∧
      (∀ x y z, ls = [x, y, z] → ∃ (n : Nt) (Ap Af Am : Option Addr) (cp cf cm : Nat), n.cn = ntC x y z ∧ NtOw n Ap Af Am cp cf cm w' ∧ e = .returned (.tuple #[.agg #[.slice Ap n.ps.length cp, .slice Af n.fs.length cf, .slice Am n.ms.length cm], .bool (ntOkS x y z)]))) := by
  have kR := Blk.new w 58 #[.slice none 0 0, .slice none 0 0, .slice none 0 0]
  have kN := Blk.new (w.alloc (.cells #[.slice none 0 0, .slice none 0 0, .slice none 0 0] 58)) 58 #[.slice none 0 0, .slice none 0 0, .slice none 0 0]
  simp only [World.size_alloc] at kN
  replace kR := kR.alloc (.cells #[.slice none 0 0, .slice none 0 0, .slice none 0 0] 58)
  have hb0 := bl_al (.cells #[.slice none 0 0, .slice none 0 0, .slice none 0 0] 58) (bl_al (.cells #[.slice none 0 0, .slice none 0 0, .slice none 0 0] 58) (bl_refl w))
  by_cases h3 : ls.length = 3
  rotate_left
  · have h3' : ((ls.length : Int) != 3) = true := by simp; omega
    have L1 := kN.cell
    have F0 := kR.frozen
    have L0 := kR.cell
    replace h3 := Lib.hid h3
    refine calls_marks Tryz.func82 rfl ?_
    simp only [Tryz.ntmps82, List.size_toArray, List.length_cons, List.length_nil, Nat.reduceAdd, Nat.reduceSub, Array.replicate_succ, Array.replicate_zero, List.push_toArray, List.append_toArray, List.nil_append, List.cons_append]
    go_wp2
    generalize (w.alloc (.cells #[.slice none 0 0, .slice none 0 0, .slice none 0 0] 58)).alloc (.cells #[.slice none 0 0, .slice none 0 0, .slice none 0 0] 58) = W at *
    have r0 := kR.cell 0
    have r1 := kR.cell 1
    have r2 := kR.cell 2
    refine postM_ret (v := .tuple #[.agg #[.slice none 0 0, .slice none 0 0, .slice none 0 0], .bool false]) (by simp [results, Tryz.results82, go_sem, L0]) ⟨hb0, fun _ => rfl, fun x y z e => by have h := h3.out; rw [e] at h; exact absurd rfl h⟩
  obtain ⟨x, y, z, rfl⟩ := len3x h3
  have hF := hf x y z rfl
  clear hf
  have HE := Lib.hid fun W (hb : Below w.heap.size w W) => hE.below hb
  obtain ⟨ba, off, rfl, hc0⟩ := hs 0 x rfl
  obtain ⟨bb, o2, e, hc1⟩ := hs 1 y rfl
  injection e with e
  injection e with e1 e2 _
  subst e1 e2
  obtain ⟨bb, o2, e, hc2⟩ := hs 2 z rfl
  injection e with e
  injection e with e1 e2 _
  subst e1 e2
  have d0 : w.cell? ⟨ba, off, none⟩ = some (.string ⟨x.toArray⟩) := by simpa using hc0 0 _ rfl
  have d1 : w.cell? ⟨ba, off + 1, none⟩ = some (.string ⟨y.toArray⟩) := by simpa using hc1 0 _ rfl
  have d2 : w.cell? ⟨ba, off + 2, none⟩ = some (.string ⟨z.toArray⟩) := by simpa using hc2 0 _ rfl
  clear hs hc0 hc1 hc2 h3 hE
  show Calls Tryz.prog 82 #[.slice (some ⟨ba, off, none⟩) 3 c] w _
  refine calls_marks Tryz.func82 rfl ?_
  simp only [Tryz.ntmps82, List.size_toArray, List.length_cons, List.length_nil, Nat.reduceAdd, Nat.reduceSub, Array.replicate_succ, Array.replicate_zero, List.push_toArray, List.append_toArray, List.nil_append, List.cons_append]
  go_upto_region 4 with fail
  generalize (w.alloc (.cells #[.slice none 0 0, .slice none 0 0, .slice none 0 0] 58)).alloc (.cells #[.slice none 0 0, .slice none 0 0, .slice none 0 0] 58) = wA at *
  have g0 := kcell hb0 d0
  have hLa := hF.la
  obtain ⟨P, hP⟩ : ∃ P, Hid (partsL x = P) := ⟨_, rfl⟩
  have hPl : P.length ≤ 1000 := by rw [← hP.out]; exact hF.ps
  have hP1 : Hid (x = [] → P = []) := Lib.hid fun e => by rw [← hP.out, e]; rfl
  have hP2 : Hid (x ≠ [] → splitC 44 x = P) := Lib.hid fun e => by rw [← hP.out, partsL, if_neg e]
  have hcC := Lib.hid fun A c W hs => c_hasNil P A c W hs (by omega)
  have kR' := kR
  have zN : ∀ W, Below wA.heap.size wA W → Blk W (w.heap.size + 1) 58 #[.slice none 0 0, .slice none 0 0, .slice none 0 0] := fun W hb => kN.below hb
  have hszA := kN.lt
  replace hF := Lib.hid hF
  by_cases hx : x = []
  case' pos =>
    have hx2 : (x == ([] : List UInt8)) = true := by rw [hx]; rfl
    have hPx := hP1.out hx
    go_upto_region 6 with fail
    obtain ⟨pA, np, pc, hpn, kN2, hop, hcn⟩ : ∃ (pA : Option Addr) (np pc : Nat), Hid (P.length = np) ∧ Blk wA (w.heap.size + 1) 58 #[.slice pA np pc, .slice none 0 0, .slice none 0 0] ∧ Hid (wA.ownsRow (w.heap.size + 2) 9 1 (.slice pA np pc) np (P.flatMap cB)) ∧
        Hid (∀ W, Below wA.heap.size wA W → Calls Tryz.prog 135 #[.slice pA np pc, .string ⟨#[]⟩] W (Same (.bool (c3 P)) W)) := by
      subst hPx
      exact ⟨none, 0, 0, rfl, kN, World.ownsRow_nil _ _ _ _, fun W _ => hcC.out none 0 W (fun k x hx => by simp at hx)⟩
    replace kN := kN2
    clear kN2 hx2 hPx hx kR' zN hcC hP1 hP2
    generalize wA = wB at *
  case' neg =>
    have hx2 : (x == ([] : List UInt8)) = false := by simpa using hx
    have hPx := hP2.out hx
    have hsB := Lib.hid fun W => c_SplitB x 44 W (by omega)
    rw [hPx] at hsB
    go_upto_region 5 with fail
    have zF : ∀ W, Below wA.heap.size wA W → W.frozen? ⟨w.heap.size + 1, 0, none⟩ = false := fun W hb => (kN.below hb).frozen _
    have zC : ∀ W, Below wA.heap.size wA W → W.cell? ⟨w.heap.size + 1, 0, none⟩ = some (.slice none 0 0) := fun W hb => by rw [(kN.below hb).cell]; rfl
    go_upto_region 6 with (go_at_call 83; (with_reducible refine (hsB.out _).mono ?_); rintro e w1 ⟨A2, c2, rfl, hb1, hop1⟩)
    obtain ⟨wB, hwB⟩ : ∃ W, w1.setCell ⟨w.heap.size + 1, 0, none⟩ (.slice A2 P.length c2) = W := ⟨_, rfl⟩
    rw [hwB]
    obtain ⟨pA, np, pc, hpn, kN2, hop, hcn, hbB, kR2⟩ : ∃ (pA : Option Addr) (np pc : Nat), Hid (P.length = np) ∧ Blk wB (w.heap.size + 1) 58 #[.slice pA np pc, .slice none 0 0, .slice none 0 0] ∧ Hid (wB.ownsRow (w.heap.size + 2) 9 1 (.slice pA np pc) np (P.flatMap cB)) ∧
        Hid (∀ W, Below wB.heap.size wB W → Calls Tryz.prog 135 #[.slice pA np pc, .string ⟨#[]⟩] W (Same (.bool (c3 P)) W)) ∧
        Below w.heap.size w wB ∧ Blk wB w.heap.size 58 #[.slice none 0 0, .slice none 0 0, .slice none 0 0] := by
      have ho2 := own_mono (show w.heap.size + 2 ≤ wA.heap.size by omega) hop1
      have ho3 := own_set (.slice A2 P.length c2) ho2 (show w.heap.size + 1 < w.heap.size + 2 by omega) (i := 0)
      rw [hwB] at ho3
      refine ⟨A2, P.length, c2, rfl, ?_, ho3, fun W hW => hcC.out A2 c2 W ((own_slC (cs := cB) (fun _ => rfl) (by decide) ho3).below hW), ?_, ?_⟩
      · rw [← hwB]; exact (kN.below hb1).set 0 _
      · rw [← hwB]; exact bl_set (by simp) _ (bl_tr hb0 hb1)
      · rw [← hwB]; exact (kR.below hb1).other (p := ⟨w.heap.size + 1, 0, none⟩) (show w.heap.size ≠ w.heap.size + 1 by omega) (.slice A2 P.length c2)
    replace kN := kN2
    replace hb0 := hbB
    replace kR := kR2
    clear kN2 hbB kR2 hx2 hPx hx kR' zN zF zC hcC hP1 hP2 hsB hop1 hb1 hwB
  all_goals
    have LN := kN.cell
    have g1 := kcell hb0 d1
    go_upto_region 7 with (go_at_call 135; (with_reducible refine (hcn.out _ (by (exact zE))).mono ?_); rintro e w3 ⟨rfl, rfl⟩)
    have hopB : ∀ g, (Value.slice pA np pc).ownBlock = some g → w.heap.size + 2 ≤ g ∧ g < wB.heap.size := fun g hg => by
      rcases hop.out.2 with ⟨e, _⟩ | ⟨k, _, cur, e, e2, e3, _⟩
      · rw [e] at hg; simp [Value.ownBlock] at hg
      · rw [e] at hg
        obtain rfl : k = g := by simpa [Value.ownBlock] using hg
        exact ⟨e2, (Array.getElem?_eq_some_iff.1 e3).1⟩
    have kO := Blk.new wB 4 #[.bool (!c3 P)]
    have hbA := bl_al (.cells #[.bool (!c3 P)] 4) (bl_refl wB)
    have hszB := kN.lt
    have hszO : (wB.alloc (.cells #[.bool (!c3 P)] 4)).heap.size = wB.heap.size + 1 := by simp
    replace kR := kR.below hbA
    replace kN := kN.below hbA
    replace hb0 := bl_tr hb0 hbA
    replace hop := Lib.hid (own_below hop.out hbA)
    clear hcn LN g1 hbA
    obtain ⟨bO, hbO⟩ : ∃ bO, wB.heap.size = bO := ⟨_, rfl⟩
    rw [hbO] at hopB
    rw [hbO] at kO hszB hszO ⊢
    generalize wB.alloc (.cells #[.bool (!c3 P)] 4) = wC at *
    have g1 := kcell hb0 d1
    have hitC := Lib.hid fun W => c_items ⟨y.toArray⟩ W
    go_wp2_with fail
    refine (hitC.out wC).mono ?_
    rintro e w3 ⟨rfl, hb1, q0⟩
    replace kR := kR.below hb1
    replace kN := kN.below hb1
    replace kO := kO.below hb1
    replace hb0 := bl_tr hb0 hb1
    replace hop := Lib.hid (own_below hop.out hb1)
    clear hitC g1
    rw [hszO] at q0 ⊢
    have hq0 := q0.lt
    clear hb1
    obtain ⟨D, hD⟩ : ∃ D, w3.heap.size = D := ⟨_, rfl⟩
    have hDw : w.heap.size ≤ D := by omega
    rw [hD] at hq0
    have hit' := items_iter y (bO + 1) D [w.heap.size + 1, bO] (fun t => t = 144 ∨ t = 23) (fun t => t = 144 ∨ t = 23 ∨ t = 3) w3 (by have := hF.out.lb; omega) q0 (by rw [hD]; simp; omega) (by decide) (by decide) (by decide) (by decide)
    have hopD : ∀ g, (Value.slice pA np pc).ownBlock = some g → w.heap.size + 2 ≤ g ∧ g < D ∧ g ≠ bO := fun g hg => by have := hopB g hg; omega
    obtain ⟨i1, hi1, hy0, hy1, hy2⟩ := info_parts infoFu
    obtain ⟨i2, hi2, hm0, hm1, hm2⟩ := info_parts infoMd
    obtain ⟨i0, hi, hz0, hz1, hz2⟩ := info_parts infoLs
    obtain ⟨LB, HLB⟩ : ∃ L, Hid (itemsL y = L) := ⟨_, rfl⟩
    rw [HLB.out] at hit'
    go_wp2
    refine wp_range5 (gf := 165) (lb := #[.pointer (some ⟨bO + 1, 0, none⟩)]) ?hg (enters_of Tryz.func165 (by kernel_rfl) rfl) (Enc := EncNR) (xs := LB) D [w.heap.size + 1, bO] [] _ _ hit' ?hps (by rw [hD]; simp; omega) (by simp)
      (fun pre W => ∃ (fs : List Fu) (v : Value), Hid (fs.map Fu.con = pre.map fuC) ∧ (Below w.heap.size w W ∧ D ≤ W.heap.size) ∧ Blk W w.heap.size 58 #[.slice none 0 0, .slice none 0 0, .slice none 0 0] ∧ Blk W (w.heap.size + 1) 58 #[.slice pA np pc, v, .slice none 0 0] ∧ Blk W bO 4 #[.bool (!c3 P && pre.all fuOk)] ∧
        Hid (W.ownsRow (w.heap.size + 2) 9 1 (.slice pA np pc) np (P.flatMap cB)) ∧ Hid (W.ownsRow D 144 2 v pre.length (fs.flatMap cFu)) ∧ Hid (∀ f ∈ fs, FuO f W))
      (fun _ _ _ => False)
      ?hI ?hIx ?h0 ?round ?done ?stop
    case hg => rfl
    case hps => rintro x args W rfl; rfl
    case hI =>
      rw [hD]
      rintro s A B ⟨fs, v, h1, ⟨h2, h3⟩, h4, h5, h6, h7, h8, h9⟩ hm
      exact ⟨fs, v, h1, ⟨hm.belowOf hDw (by simp) h2, Nat.le_trans h3 hm.size⟩, hm.blk h4 (by omega) (by simp), hm.blk h5 (by omega) (by simp), hm.blk h6 (by omega) (by simp), Lib.hid (own_keepB h7.out fun g o hg ho => hm.keep g o ho (.inl ⟨(hopD g hg).2.1, by simp⟩)), Lib.hid (hm.own h8.out (.inl rfl)), Lib.hid fun f hf => (h9.out f hf).itK hm (.inr (.inr rfl)) (.inr (.inl rfl))⟩
    case hIx => exact fun _ _ _ _ h _ => h.elim
    case h0 => exact ⟨[], .slice none 0 0, rfl, ⟨hb0, by omega⟩, kR, kN, by simpa using kO, hop, Lib.hid (World.ownsRow_nil _ _ _ _), Lib.hid fun f hf => by simp at hf⟩
    case stop => exact fun _ _ _ _ h _ => h.elim
    case round =>
      clear kR kN kO hb0 hop hit'
      rintro ln pre x args W ⟨fs, v, h1, ⟨hb0, hWD⟩, kR, kN, kO, hop, ho, hfo⟩ hpre rfl
      obtain ⟨vA, vc, rfl⟩ := own_slice ho.out
      have hxm : x ∈ LB := by obtain ⟨r, hr⟩ := hpre; rw [← hr]; simp
      have hpl : pre.length ≤ 999 := by
        obtain ⟨r, hr⟩ := hpre
        have a := congrArg List.length hr
        have b := hF.out.fs
        rw [HLB.out] at b
        simp at a
        omega
      obtain ⟨hwl, hwr⟩ := hF.out.ws x (by rw [HLB.out]; exact hxm)
      have hxl := itm_len (by rw [HLB.out]; exact hxm)
      have hyl := hF.out.lb
      gi_wp2
      refine ⟨RT.refl _ _ _ _, fun W2 hc hl2 hlr => ?_⟩
      rw [hD] at hc hl2
      replace hb0 := hc.belowOf hDw hb0
      replace kR := hc.blk kR
      replace kN := hc.blk kN
      replace kO := hc.blk kO
      replace hop := Lib.hid (CK.own hop.out hc)
      replace ho := Lib.hid (CK.own ho.out hc)
      have hvF := own_lt ho.out
      replace hfo := Lib.hid fun f hf => (hfo.out f hf).ck hc
      replace hWD := Nat.le_trans hWD hc.size
      clear hc
      obtain ⟨xn, xr⟩ := x
      dsimp only at hwl hwr hxl
      gi_upto_region 11 with (first | (rename_i h1 h2; exact absurd h1 undef_bool))
      have kF := Blk.new W2 144 #[.string ⟨xn.toArray⟩, .slice none 0 0]
      have hbA := bl_al (.cells #[.string ⟨xn.toArray⟩, .slice none 0 0] 144) (bl_refl W2)
      have hszF : (W2.alloc (.cells #[.string ⟨xn.toArray⟩, .slice none 0 0] 144)).heap.size = W2.heap.size + 1 := by simp
      have hbW := hbA
      replace hb0 := bl_tr hb0 hbA
      replace kR := kR.below hbA
      replace kN := kN.below hbA
      replace kO := kO.below hbA
      replace hop := Lib.hid (own_below hop.out hbA)
      replace ho := Lib.hid (own_below ho.out hbA)
      replace hfo := Lib.hid fun f hf => (hfo.out f hf).below hbA
      replace hlr : ∃ r, (W2.alloc (.cells #[.string ⟨xn.toArray⟩, .slice none 0 0] 144)).heap[ln]? = some (.loop r) := hlr.imp fun r hr => (hbA.block _ (Array.getElem?_eq_some_iff.1 hr).1).trans hr
      obtain ⟨bF, hbF⟩ : ∃ bF, W2.heap.size = bF := ⟨_, rfl⟩
      rw [hbF] at kF hszF hvF hWD hbW ⊢
      generalize W2.alloc (.cells #[.string ⟨xn.toArray⟩, .slice none 0 0] 144) = W3 at *
      have hcS := Lib.hid fun W => c_SplitSeq ⟨xr.toArray⟩ ⟨#[44]⟩ W
      clear hbA
      gi_wp2_with (first | (rename_i h1 h2; exact absurd h1 undef_bool) | (with_reducible refine And.intro (wide_fn _) ?_) | (gi_at_call 59; (with_reducible refine (CallsIn.inRound ln (callsIn_wide.2 (hcS.out _))).mono ?_); rintro e w4 ⟨rfl, hb4, q0, q1, q2⟩))
      rw [hszF] at q0 q1 q2
      replace hb0 := bl_tr hb0 hb4
      replace kR := kR.below hb4
      replace kN := kN.below hb4
      replace kO := kO.below hb4
      replace kF := kF.below hb4
      replace hop := Lib.hid (own_below hop.out hb4)
      replace ho := Lib.hid (own_below ho.out hb4)
      replace hfo := Lib.hid fun f hf => (hfo.out f hf).below hb4
      replace hbW : Below bF W2 w4 := by rw [← hbF] at hbW ⊢; exact bl_tr hbW hb4
      replace hlr : ∃ r, w4.heap[ln]? = some (.loop r) := hlr.imp fun r hr => (hb4.block _ (Array.getElem?_eq_some_iff.1 hr).1).trans hr
      clear hcS hb4
      obtain ⟨D2, hD2⟩ : ∃ D2, w4.heap.size = D2 := ⟨_, rfl⟩
      have hq2 := q2.lt
      rw [hD2] at hq2
      have hit2 := split_iterT xr 44 (bF + 1) D2 [bF, bO] (fun t => t = 23) (fun t => t = 23 ∨ t = 3) w4 (by omega) q0 q1 q2 (by simp; omega) (by decide) (by decide) (.inl hq2)
      obtain ⟨flag, hfl⟩ : ∃ b, Hid ((!c3 P && pre.all fuOk) = b) := ⟨_, rfl⟩
      rw [hfl.out] at kO
      obtain ⟨LW, HLW⟩ : ∃ L, Hid (splitC 44 xr = L) := ⟨_, rfl⟩
      have hmem := Lib.hid (splitC_mem 44 xr)
      rw [HLW.out] at hit2 hwl hwr hmem
      refine wp_range5N (gf := 155) (lb := #[.pointer (some ⟨bF + 1 + 1, 0, none⟩), .pointer (some ⟨bF + 1, 0, none⟩), .pointer (some ⟨bF + 1 + 2, 0, none⟩)]) hlr ?hg2 (enters_of Tryz.func155 (by kernel_rfl) rfl) (Enc := EncP) (xs := LW) D2 [bF, bO] [bF + 1] _ _ hit2 ?hps2 (by rw [hD2]; simp; omega) (by rw [hD2]; simp; omega)
        (fun pre2 W => ∃ (ws : List Rw) (v2 : Value), Hid ((ws.map fun r : Rw => r.l) = pre2.map wayV) ∧ IT D2 [bF + 1, bF, bO] (fun _ => False) w4 W ∧ Blk W bF 144 #[.string ⟨xn.toArray⟩, v2] ∧ Blk W bO 4 #[.bool (flag && pre2.all wayOk)] ∧
          Hid (W.ownsRow D2 23 1 v2 pre2.length (ws.flatMap cRw)) ∧ Hid (∀ r ∈ ws, RwO r W))
        (fun _ _ _ => False)
        ?hI2 ?hIx2 ?h02 ?round2 ?done2 ?stop2
      case hg2 => rfl
      case hps2 => rintro x args W rfl; rfl
      case hI2 =>
        rw [hD2]
        rintro s A B ⟨ws, v2, h1, h2, h3, h4, h5, h6⟩ hm
        exact ⟨ws, v2, h1, h2.trans (hm.weak (Nat.le_refl _) (by simp)), hm.blk h3 (by omega) (by simp), hm.blk h4 (by omega) (by simp; omega), Lib.hid (hm.own h5.out (.inl rfl)), Lib.hid fun r hr => (h6.out r hr).itK hm (.inr rfl)⟩
      case hIx2 => exact fun _ _ _ _ h _ => h.elim
      case h02 => exact ⟨[], .slice none 0 0, rfl, IT.refl _ _ _ _, kF, by simpa using kO, Lib.hid (World.ownsRow_nil _ _ _ _), Lib.hid fun f hf => by simp at hf⟩
      case stop2 => exact fun _ _ _ _ h => h.elim
      case round2 =>
        clear hit2 q0 q1 q2 kF kO
        rintro ln2 pre2 r args W5 ⟨ws, v2, hws, hit3, kF, kO, how, hro⟩ hpre2 rfl
        have hrm : r ∈ LW := by obtain ⟨q, hr⟩ := hpre2; rw [← hr]; simp
        have hpl2 : pre2.length ≤ 999 := by
          obtain ⟨q, hr⟩ := hpre2
          have a := congrArg List.length hr
          simp at a
          omega
        have hrl := hmem.out r hrm
        have hrw := Nat.le_trans (wayV_len r) (hwr r hrm)
        obtain ⟨v2A, v2c, rfl⟩ := own_slice how.out
        gi_wp2
        refine ⟨RT.refl _ _ _ _, fun W6 hc _ _ => ?_⟩
        rw [hD2] at hc
        replace hit3 := hit3.trans (.of_ck hc)
        replace kF := hc.blk kF
        replace kO := hc.blk kO
        replace how := Lib.hid (CK.own how.out hc)
        replace hro := Lib.hid fun r hr => (hro.out r hr).ck hc
        have hb6 := hit3.belowOf (w := w) (by omega) (by simp; omega) hb0
        have hsz6 : D2 ≤ W6.heap.size := by have := hit3.size; omega
        clear hc
        have hway := Lib.hid (c_way r W6 (by omega) (HE.out W6 hb6))
        obtain ⟨rok, hrok⟩ : ∃ b, Hid (wayOk r = b) := ⟨_, rfl⟩
        obtain ⟨rV, hrV⟩ : ∃ b, Hid (wayV r = b) := ⟨_, rfl⟩
        rw [hrok.out, hrV.out] at hway
        rw [hrV.out] at hrw
        gi_upto_region 14 with (first | (rename_i h1 h2; exact absurd h1 undef_bool) | (with_reducible refine And.intro (wide_fn _) ?_) | (gi_at_call 61; (with_reducible refine (CallsIn.inRound ln2 (callsIn_wide.2 hway.out)).mono ?_); rintro e w7 ⟨hb7, A7, c7, rfl, ho7⟩))
        replace kF := kF.below hb7
        replace kO := kO.below hb7
        replace how := Lib.hid (own_below how.out hb7)
        replace hro := Lib.hid fun r hr => (hro.out r hr).below hb7
        replace hit3 := hit3.trans (.of_below hb7)
        have hrB : RT D2 [bF, bO] (fun t => t = 23) W6 w7 := .of_below hb7
        have hsz7 := Nat.le_trans hsz6 hb7.size
        have hfx : bF ∉ ownL (.slice v2A pre2.length v2c) := fun m => by have := ownL_ge how.out _ m; omega
        have hox : bO ∉ ownL (.slice v2A pre2.length v2c) := fun m => by have := ownL_ge how.out _ m; omega
        have hml : ∀ x ∈ ownL (.slice v2A pre2.length v2c), x < w7.heap.size := fun x hx => own_lt how.out x (by simpa [ownL] using hx)
        have LF := kF.laterX hfx
        have LO := kO.laterX hox
        replace ho7 := Lib.hid ho7
        clear hway hb7 hb6
        obtain ⟨fl2, hfl2⟩ : ∃ b, Hid ((flag && pre2.all wayOk) = b) := ⟨_, rfl⟩
        rw [hfl2.out] at kO LO
        have hall : Hid ((flag && (pre2 ++ [r]).all wayOk) = (fl2 && rok)) := Lib.hid (by rw [List.all_append, ← Bool.and_assoc, hfl2.out, ← hrok.out]; simp)
        cases fl2
        all_goals
          refine wpIn_anyL (w0 := w7) 4 (ownL (.slice v2A pre2.length v2c)) ⟨[10, 11], [7, 8], [some 49, some 50, some 51, some 52, some 53, some 54, some 55, some 56, some 57, some 58, none, none], [[], [0], [], [2], [0, 1, 2, 3], [], [0, 1, 2, 3, 4, 5], [0, 1, 2, 3, 4, 5, 6], [0, 1, 2, 3, 4, 5, 6, 7], [0, 1, 2, 3, 4], [0, 1, 2, 3, 4, 5, 6, 9], [0, 1, 2, 3, 4, 5, 6, 7, 8, 9, 10]], [[], [0], [], [2], [1, 3], [], [5], [6], [6, 7], [], [], []]⟩ (fun _ => [bF, bO]) (by kernel_rfl) (by kernel_rfl) (by kernel_rfl) (by (exact zE)) (fun u => by simp only [putD, Act.put, List.setIfInBounds_toArray, List.set_cons_zero, List.set_cons_succ, Nat.zero_add, Nat.reduceAdd]; rfl) ?_
          apply RGL.on (i := 0) rfl (by decide)
          · exact zG
          · intro γ u W hcur hd
            clear hd
            (try dsimp only)
            refine ⟨rfl, ?_⟩
            go_simp <;> (try go_bits) <;> with_reducible rfl
          · exact zC
          · rfl
          dsimp only [nA, cA]
          apply RGL.on (i := 1) rfl (by decide)
          · exact zG
          · intro γ u W hcur hd
            obtain ⟨⟨h0, -, -⟩, -⟩ := hd
            dsimp only at h0
            (try simp only [h0])
            refine ⟨rfl, ?_⟩
            go_simp <;> (try go_bits) <;> with_reducible rfl
          · exact zC
          · rfl
          dsimp only [nA, cA]
          apply RGL.on (i := 2) rfl (by decide)
          · exact zG
          · intro γ u W hcur hd
            clear hd
            (try dsimp only)
            refine ⟨rfl, ?_⟩
            go_simp <;> (try go_bits) <;> with_reducible rfl
          · exact zC
          · rfl
          dsimp only [nA, cA]
          apply RGL.bslice (i := 3) rfl (by decide) hml
          · exact zG
          · intro γ u W hcur hd
            obtain ⟨⟨h2, -, -⟩, -⟩ := hd
            dsimp only at h2
            (try simp only [h2])
            refine ⟨rfl, fun K hK => ?_⟩
            go_simp
            exact hK.out _ _ rfl rfl
          · exact zC
          · rfl
          · rfl
          dsimp only [nA, cA]
          apply RGL.mut (⟨fun γ => (γ 4).v, fun γ W => W.ownsRow D2 23 1 (γ 4).v (pre2.length + 1) (ws.flatMap cRw ++ [.slice A7 rV.length c7]) ∧ ∀ q, (γ 4).v.ownBlock = some q → Value.ownBlock (.slice v2A pre2.length v2c) = some q ∨ w7.heap.size ≤ q, fun _ => []⟩) (i := 4) rfl rfl
          · exact zG
          · intro γ u W hcur hd
            obtain ⟨⟨h1, -, -⟩, ⟨h3, r3, -⟩, -⟩ := hd
            dsimp only at h1 h3 r3
            (try simp only [h1, h3])
            refine ⟨rfl, fun K hK => ?_⟩
            (refine wp_appT _ _ rfl Tryz.underlying53 hi hz0 hz1 hz2 rfl (by decide) (.slice v2A pre2.length v2c) pre2.length _ [.slice A7 rV.length c7] rfl rfl (own_below how.out hcur) r3 rfl (by simp [Value.oneCell']) (by unfold maxLen; omega) (by omega) (Nat.le_trans hsz7 hcur.size) ?_; intro v' w' hown' hbx' hnew'; exact hK.out ⟨0, v', none, 0⟩ _ _ (by simp [up]) hbx' ⟨by simpa [up] using hown', fun q hq => (hnew' q (by simpa [up] using hq)).imp_right fun h => Nat.le_trans hcur.size h⟩ (by simp))
          · intro γ γ' hg
            have e0 := hg 4 (.inl rfl)
            exact ⟨by (try dsimp only); simp only [e0], fun W h => by (try dsimp only at h ⊢); simpa only [e0] using h⟩
          · intro γ W W' hbl hR
            first | exact hR.below hbl | exact ⟨own_below hR.1 hbl, hR.2⟩
          · rfl
          dsimp only [nA, cA]
          apply RGL.on (i := 5) rfl (by decide)
          · exact zG
          · intro γ u W hcur hd
            clear hd
            (try dsimp only)
            refine ⟨rfl, ?_⟩
            go_simp <;> (try go_bits) <;> with_reducible rfl
          · exact zC
          · rfl
          dsimp only [nA, cA]
          apply RGL.on (i := 6) rfl (by decide)
          · exact zG
          · intro γ u W hcur hd
            obtain ⟨⟨h5, -, -⟩, -⟩ := hd
            dsimp only at h5
            (try simp only [h5])
            refine ⟨rfl, ?_⟩
            go_simp <;> (try go_bits) <;> with_reducible rfl
          · first
            | exact zC
            | intro γ γ' hg
              try dsimp only
              have e3 := hg 3 (by decide)
              have e4 := hg 4 (by decide)
              simp only [e3, e4]
          · rfl
          dsimp only [nA, cA]
          first
          | apply RGL.onL (i := 7) rfl (by decide)
            · exact zG
            · intro γ u Wm W hcurM hd hX
              obtain ⟨⟨h6, -, -⟩, -⟩ := hd
              dsimp only at h6
              (try simp only [h6])
              refine ⟨?_, ?_⟩
              · (simp [Region.wanted, yielded, undef, *]; done)
              go_simp <;> (try go_bits) <;> with_reducible rfl
            · first
              | exact zC
              | intro γ γ' hg
                try dsimp only
                have e3 := hg 3 (by decide)
                have e4 := hg 4 (by decide)
                simp only [e3, e4]
          | apply RGL.offL (i := 7) rfl (by decide)
            · exact zG
            · intro γ u Wm W hcurM hd hX
              obtain ⟨⟨h6, -, -⟩, -⟩ := hd
              dsimp only at h6
              (try simp only [h6])
              simp [Region.wanted, yielded, undef, *]
          dsimp only [nA, cA]
          apply RGL.onL (i := 8) rfl (by decide)
          · exact zG
          · intro γ u Wm W hcurM hd hX
            obtain ⟨⟨h6, -, -⟩, ⟨h7, -, -⟩, -⟩ := hd
            dsimp only at h6 h7
            (try simp only [h6, h7])
            refine ⟨rfl, ?_⟩
            go_simp <;> (try go_bits) <;> with_reducible rfl
          · first
            | exact zC
            | intro γ γ' hg
              try dsimp only
              have e3 := hg 3 (by decide)
              have e4 := hg 4 (by decide)
              simp only [e3, e4]
          dsimp only [nA, cA]
          apply RGL.on (i := 9) rfl (by decide)
          · exact zG
          · intro γ u W hcur hd
            clear hd
            (try dsimp only)
            refine ⟨rfl, ?_⟩
            go_simp <;> (try go_bits) <;> with_reducible rfl
          · first
            | exact zC
            | intro γ γ' hg
              try dsimp only
              have e3 := hg 3 (by decide)
              have e4 := hg 4 (by decide)
              simp only [e3, e4]
          · rfl
          dsimp only [nA, cA]
          refine RGL.skip (i := 10) rfl rfl ?_
          dsimp only [nA, cA]
          refine RGL.skip (i := 11) rfl rfl ?_
          dsimp only [nA, cA]
          refine RGL.fin (fun γ u we hwe hd => ?_)
          obtain ⟨⟨h0, -, -⟩, ⟨h1, -, -⟩, ⟨h2, -, -⟩, ⟨h3, r3, b3⟩, ⟨h4, r4, -⟩, ⟨h5, -, -⟩, ⟨h6, -, -⟩, ⟨h7, -, -⟩, ⟨h8, -, -⟩, ⟨h9, -, -⟩, -⟩ := hd
          dsimp only at h0 h1 h2 h3 h4 h5 h6 h7 h8 h9 r3 r4 b3
          simp only [h0, h1, h2, h3, h4, h5, h6, h7, h8, h9]
          clear h9 h8 h7 h6 h5 h4 h3 h2 h1 h0
          replace b3 := b3 _ (List.mem_singleton.2 rfl)
          generalize hγ3 : (γ 3).n = g3 at *
          clear hγ3
          clear u
          simp only [List.map_cons, List.map_nil]
          obtain ⟨r4a, r4b⟩ := r4
          obtain ⟨vN, hvN⟩ : ∃ v, (γ 4).v = v := ⟨_, rfl⟩
          rw [hvN] at r4a r4b ⊢
          obtain ⟨vNA, vNc, rfl⟩ := own_slice r4a
          have kFe := kF.keep hfx hwe
          have kOe := kO.keep hox hwe
          have LFe := kFe.cell
          have FFe := kFe.frozen
          have hsze := Nat.le_trans hsz7 hwe.size
          have hroe : Hid (∀ r ∈ ws, RwO r we) := fun r hr => (hro.out r hr).keep hwe (noT_own how.out (by decide))
          have ho7e : we.ownsRow 0 3 1 (.slice A7 rV.length c7) rV.length (rV.map (.int .i64)) := own_mono (Nat.zero_le _) (own_keepT ho7.out hwe (noT_own how.out (by decide)))
          have hrB2 := hrB.trans (RT.of_bx (D := D2) (X := [bF, bO]) (Ts := fun t => t = 23) hwe (fun z hz => .inr ⟨ownL_ge how.out z hz, by
            obtain ⟨t', cs', hk⟩ := ownL_blk how.out z hz
            rcases how.out.2 with ⟨e, _⟩ | ⟨k, _, cur, e, e2, e3, _⟩
            · rw [e] at hz; simp [ownL, Value.ownBlock] at hz
            · rw [e] at hz
              obtain rfl : z = k := by simpa [ownL, Value.ownBlock] using hz
              exact ⟨_, _, rfl, e3⟩⟩))
          have hit4 := hit3.trans (IT.of_bx0 (Z := [bF + 1, bF, bO]) hwe (fun z hz => .inr (ownL_ge how.out z hz)))
          replace hws := Lib.hid hws.out
          replace hvN := Lib.hid hvN
          replace r4a := Lib.hid r4a
          replace r4b := Lib.hid r4b
          have hS1 : BX [bF, bO] we (we.setCell ⟨bF, 1, none⟩ (.slice vNA (pre2.length + 1) vNc)) := bx_set (.inl (by simp)) _ (bx_refl _ _)
          have kF8 := kFe.set 1 (.slice vNA (pre2.length + 1) vNc)
          have kO8 := kOe.other (p := ⟨bF, 1, none⟩) (show bO ≠ bF by omega) (.slice vNA (pre2.length + 1) vNc)
          apply PlanW.step
          · (simp only [gA, gB, gC] <;> rfl)
          · rfl
          intro K hK
          go_simp
          refine hK.out _ _ hS1 (fun _ => ?_)
          clear hK K LFe FFe LF LO
          try simp only [Act.put, List.setIfInBounds_toArray, List.set_cons_zero, List.set_cons_succ]
          obtain ⟨w8, hw8⟩ : ∃ W, we.setCell ⟨bF, 1, none⟩ (.slice vNA (pre2.length + 1) vNc) = W := ⟨_, rfl⟩
          rw [hw8] at hS1 kF8 kO8 ⊢
          have fin : ∀ b : Bool, (flag && (pre2 ++ [r]).all wayOk) = b → ∀ a', GoesT w4.heap.size D2 [bF, bO] (fun t => t = 23) (fun pre2 W => ∃ (ws : List Rw) (v2 : Value), Hid ((ws.map fun r : Rw => r.l) = pre2.map wayV) ∧ IT D2 [bF + 1, bF, bO] (fun _ => False) w4 W ∧ Blk W bF 144 #[.string ⟨xn.toArray⟩, v2] ∧ Blk W bO 4 #[.bool (flag && pre2.all wayOk)] ∧ Hid (W.ownsRow D2 23 1 v2 pre2.length (ws.flatMap cRw)) ∧ Hid (∀ r ∈ ws, RwO r W)) (fun _ _ _ => False) (pre2 ++ [r]) W6 .normal a' (w8.setCell ⟨bO, 0, none⟩ (.bool b)) := by
            intro b hb a'
            have hS2 : BX [bF, bO] we (w8.setCell ⟨bO, 0, none⟩ (.bool b)) := bx_set (.inl (by simp)) _ hS1
            have hnT1 := noT_blk kFe (show 144 ≠ 3 by decide) (noT_blk kOe (show 4 ≠ 3 by decide) (noT_nil we 3))
            have kF9 := kF8.other (p := ⟨bO, 0, none⟩) (show bF ≠ bO by omega) (.bool b)
            have kO9 := kO8.set 0 (.bool b)
            have h9 := own_bx r4a.out hS2 (fun x hx => by simp at hx; omega)
            generalize w8.setCell ⟨bO, 0, none⟩ (.bool b) = w9 at *
            refine ⟨hrB2.trans (RT.of_bx hS2 (fun z hz => .inl hz)), ws ++ [⟨A7, c7, rV⟩], _, Lib.hid ?_, hit4.trans (IT.of_bx0 hS2 (fun z hz => .inl (List.mem_cons_of_mem _ hz))), kF9, ?_, Lib.hid ?_, Lib.hid ?_⟩
            · rw [List.map_append, List.map_append, hws.out, ← hrV.out]
              rfl
            · rw [hb]
              exact kO9
            · rw [List.length_append, List.flatMap_append]
              exact h9
            · intro q hq
              rcases List.mem_append.1 hq with hq | hq
              · exact (hroe.out q hq).keep hS2 hnT1
              · obtain rfl := List.mem_singleton.1 hq
                exact ⟨hrw, own_keepT ho7e hS2 hnT1⟩
          have LO8 := kO8.cell
          have FO8 := kO8.frozen
          have hS2 : ∀ b : Bool, BX [bF, bO] we (w8.setCell ⟨bO, 0, none⟩ (.bool b)) := fun b => bx_set (.inl (by simp)) _ hS1
          apply PlanW.step
          · (simp only [gA, gB, gC] <;> rfl)
          · rfl
          intro K hK
          go_simp
          refine hK.out _ _ (hS2 _) (fun _ => ?_)
          clear hK K LO8 FO8
          try simp only [Act.put, List.setIfInBounds_toArray, List.set_cons_zero, List.set_cons_succ]
          refine PlanW.done (only_done ?_)
          gi_wp2
          have h := hall.out
          simp only [Bool.false_and, Bool.true_and] at h
          exact fin _ h _
      case done2 =>
        clear hit2
        have hnA := noT_blk q0 (show 9 ≠ 3 by decide) (noT_blk kF (show 144 ≠ 3 by decide) (noT_blk kO (show 4 ≠ 3 by decide) (noT_nil w4 3)))
        have hnB := noT_blk q0 (show 9 ≠ 23 by decide) (noT_blk kF (show 144 ≠ 23 by decide) (noT_blk kO (show 4 ≠ 23 by decide) (noT_nil w4 23)))
        clear q0 q1 q2 kF kO
        rintro W ⟨ws, v2, hws, hit3, kF, kO, how, hro⟩
        obtain ⟨v2A, v2c, rfl⟩ := own_slice how.out
        replace hb0 := hit3.belowOf (w := w) (by omega) (by simp; omega) hb0
        replace kR := hit3.blk kR (by omega) (by simp; omega)
        replace kN := hit3.blk kN (by omega) (by simp; omega)
        replace hop := Lib.hid (own_keepB hop.out fun g o hg ho => hit3.keep g o ho (.inl (by have := hopD g hg; simp; omega)))
        have hog := own_ge ho.out
        replace ho := Lib.hid (own_keepB ho.out fun g o hg ho => hit3.keep g o ho (.inl (by have := hvF g hg; have := hog g hg; simp; omega)))
        replace hfo := Lib.hid fun f hf => (hfo.out f hf).itT hit3 (by omega) hnA hnB
        have hrW : RT D [w.heap.size + 1, bO] (fun t => t = 144 ∨ t = 23) W2 W := ⟨hit3.os.trans hbW.os, hit3.tape.trans hbW.tape, hit3.output.trans hbW.output, Nat.le_trans hbW.size hit3.size, fun k o hk hX _ => by
          have hk1 := (Array.getElem?_eq_some_iff.1 hk).1
          rw [hbF] at hk1
          exact hit3.keep k o ((hbW.block k hk1).trans hk) (.inl (by simp at hX ⊢; omega))⟩
        have hszW := hit3.size
        rw [hD2] at hszW
        have hszD : D ≤ W.heap.size := by omega
        clear hit3 hbW hlr hnA hnB
        have hfx : w.heap.size + 1 ∉ ownL (.slice vA pre.length vc) := fun m => by have := ownL_ge ho.out _ m; omega
        have hox : bO ∉ ownL (.slice vA pre.length vc) := fun m => by have := ownL_ge ho.out _ m; omega
        have hbx : bF ∉ ownL (.slice vA pre.length vc) := fun m => by have := hvF bF (by simpa [ownL] using m); omega
        have hml : ∀ x ∈ ownL (.slice vA pre.length vc), x < W.heap.size := fun x hx => own_lt ho.out x (by simpa [ownL] using hx)
        have LN := kN.laterX hfx
        have LO := kO.laterX hox
        have LF := kF.laterX hbx
        obtain ⟨nw, hnw⟩ : ∃ n, Hid (LW.length = n) := ⟨_, rfl⟩
        rw [hnw.out] at kF LF how hwl
        obtain ⟨fl2, hfl2⟩ : ∃ b, Hid ((flag && LW.all wayOk) = b) := ⟨_, rfl⟩
        rw [hfl2.out] at kO LO
        have hall : Hid ((!c3 P && (pre ++ [(xn, xr)]).all fuOk) = (fl2 && decide (xn ≠ []))) := Lib.hid (by
          have e : fuOk (xn, xr) = (LW.all wayOk && decide (xn ≠ [])) := by unfold fuOk; rw [← HLW.out]
          rw [List.all_append, ← Bool.and_assoc, hfl.out, ← hfl2.out, Bool.and_assoc]
          simp [e])
        by_cases hxn : xn = []
        case' pos =>
          have hx2 : (xn == ([] : List UInt8)) = true := by rw [hxn]; rfl
          have hdn : Hid (decide (xn ≠ []) = false) := Lib.hid (by simp [hxn])
        case' neg =>
          have hx2 : (xn == ([] : List UInt8)) = false := by simpa using hxn
          have hdn : Hid (decide (xn ≠ []) = true) := Lib.hid (by simpa using hxn)
        all_goals
          replace hxn := Lib.hid hxn
          rw [hdn.out] at hall
          cases fl2
        all_goals
          gi_upto_region 15 with (first | (rename_i h1 h2; exact absurd h1 undef_bool))
          refine wpIn_anyL (w0 := W) 4 (ownL (.slice vA pre.length vc)) ⟨[11, 12], [7, 8, 9], [some 59, some 60, some 61, some 62, some 63, some 64, some 65, some 66, some 67, some 68, some 69, none, none], [[], [0], [], [2], [0, 1, 2, 3], [], [0, 1, 2, 3, 4, 5], [0, 1, 2, 3, 4, 5, 6], [0, 1, 2, 3, 4, 5, 6, 7], [0, 1, 2, 3, 4, 5, 6, 7, 8], [0, 1, 2, 3, 4], [0, 1, 2, 3, 4, 5, 6, 10], [0, 1, 2, 3, 4, 5, 6, 7, 8, 9, 10, 11]], [[], [0], [], [2], [1, 3], [], [5], [6], [6, 7], [6, 8], [], [], []]⟩ (fun _ => [w.heap.size + 1, bO]) (by kernel_rfl) (by kernel_rfl) (by kernel_rfl) (by (exact zE)) (fun u => by simp only [putD, Act.put, List.setIfInBounds_toArray, List.set_cons_zero, List.set_cons_succ, Nat.zero_add, Nat.reduceAdd]; rfl) ?_
          apply RGL.on (i := 0) rfl (by decide)
          · exact zG
          · intro γ u W hcur hd
            clear hd
            (try dsimp only)
            refine ⟨rfl, ?_⟩
            go_simp <;> (try go_bits) <;> with_reducible rfl
          · exact zC
          · rfl
          dsimp only [nA, cA]
          apply RGL.on (i := 1) rfl (by decide)
          · exact zG
          · intro γ u W hcur hd
            obtain ⟨⟨h0, -, -⟩, -⟩ := hd
            dsimp only at h0
            (try simp only [h0])
            refine ⟨rfl, ?_⟩
            go_simp <;> (try go_bits) <;> with_reducible rfl
          · exact zC
          · rfl
          dsimp only [nA, cA]
          apply RGL.on (i := 2) rfl (by decide)
          · exact zG
          · intro γ u W hcur hd
            clear hd
            (try dsimp only)
            refine ⟨rfl, ?_⟩
            go_simp <;> (try go_bits) <;> with_reducible rfl
          · exact zC
          · rfl
          dsimp only [nA, cA]
          apply RGL.bslice (i := 3) rfl (by decide) hml
          · exact zG
          · intro γ u W hcur hd
            obtain ⟨⟨h2, -, -⟩, -⟩ := hd
            dsimp only at h2
            (try simp only [h2])
            refine ⟨rfl, fun K hK => ?_⟩
            go_simp
            exact hK.out _ _ rfl rfl
          · exact zC
          · rfl
          · rfl
          dsimp only [nA, cA]
          apply RGL.mut (⟨fun γ => (γ 4).v, fun γ W' => W'.ownsRow D 144 2 (γ 4).v (pre.length + 1) (fs.flatMap cFu ++ [.string ⟨xn.toArray⟩, .slice v2A nw v2c]) ∧ ∀ q, (γ 4).v.ownBlock = some q → Value.ownBlock (.slice vA pre.length vc) = some q ∨ W.heap.size ≤ q, fun _ => []⟩) (i := 4) rfl rfl
          · exact zG
          · intro γ u W hcur hd
            obtain ⟨⟨h1, -, -⟩, ⟨h3, r3, -⟩, -⟩ := hd
            dsimp only at h1 h3 r3
            (try simp only [h1, h3])
            refine ⟨rfl, fun K hK => ?_⟩
            (refine wp_appT _ _ rfl Tryz.underlying55 hi1 hy0 hy1 hy2 rfl (by decide) (.slice vA pre.length vc) pre.length _ [.string ⟨xn.toArray⟩, .slice v2A nw v2c] rfl rfl (own_below ho.out hcur) r3 rfl (by intro u hu; simp at hu; rcases hu with rfl | rfl <;> rfl) (by unfold maxLen; omega) (by omega) (Nat.le_trans hszD hcur.size) ?_; intro v' w' hown' hbx' hnew'; exact hK.out ⟨0, v', none, 0⟩ _ _ (by simp [up]) hbx' ⟨by simpa [up] using hown', fun q hq => (hnew' q (by simpa [up] using hq)).imp_right fun h => Nat.le_trans hcur.size h⟩ (by simp))
          · intro γ γ' hg
            have e0 := hg 4 (.inl rfl)
            exact ⟨by (try dsimp only); simp only [e0], fun W h => by (try dsimp only at h ⊢); simpa only [e0] using h⟩
          · intro γ W W' hbl hR
            first | exact hR.below hbl | exact ⟨own_below hR.1 hbl, hR.2⟩
          · rfl
          dsimp only [nA, cA]
          apply RGL.on (i := 5) rfl (by decide)
          · exact zG
          · intro γ u W hcur hd
            clear hd
            (try dsimp only)
            refine ⟨rfl, ?_⟩
            go_simp <;> (try go_bits) <;> with_reducible rfl
          · exact zC
          · rfl
          dsimp only [nA, cA]
          apply RGL.on (i := 6) rfl (by decide)
          · exact zG
          · intro γ u W hcur hd
            obtain ⟨⟨h5, -, -⟩, -⟩ := hd
            dsimp only at h5
            (try simp only [h5])
            refine ⟨rfl, ?_⟩
            go_simp <;> (try go_bits) <;> with_reducible rfl
          · first
            | exact zC
            | intro γ γ' hg
              try dsimp only
              have e3 := hg 3 (by decide)
              have e4 := hg 4 (by decide)
              simp only [e3, e4]
          · rfl
          dsimp only [nA, cA]
          first
          | apply RGL.onL (i := 7) rfl (by decide)
            · exact zG
            · intro γ u Wm W hcurM hd hX
              obtain ⟨⟨h6, -, -⟩, -⟩ := hd
              dsimp only at h6
              (try simp only [h6])
              refine ⟨?_, ?_⟩
              · (simp [Region.wanted, yielded, undef, *]; done)
              go_simp <;> (try go_bits) <;> with_reducible rfl
            · first
              | exact zC
              | intro γ γ' hg
                try dsimp only
                have e3 := hg 3 (by decide)
                have e4 := hg 4 (by decide)
                simp only [e3, e4]
          | apply RGL.offL (i := 7) rfl (by decide)
            · exact zG
            · intro γ u Wm W hcurM hd hX
              obtain ⟨⟨h6, -, -⟩, -⟩ := hd
              dsimp only at h6
              (try simp only [h6])
              simp [Region.wanted, yielded, undef, *]
          dsimp only [nA, cA]
          first
          | apply RGL.onL (i := 8) rfl (by decide)
            · exact zG
            · intro γ u Wm W hcurM hd hX
              obtain ⟨⟨h6, -, -⟩, ⟨h7, -, -⟩, -⟩ := hd
              dsimp only at h6 h7
              (try simp only [h6, h7])
              refine ⟨?_, ?_⟩
              · (simp [Region.wanted, yielded, undef, *]; done)
              go_simp <;> (try go_bits) <;> with_reducible rfl
            · first
              | exact zC
              | intro γ γ' hg
                try dsimp only
                have e3 := hg 3 (by decide)
                have e4 := hg 4 (by decide)
                simp only [e3, e4]
          | apply RGL.offL (i := 8) rfl (by decide)
            · exact zG
            · intro γ u Wm W hcurM hd hX
              obtain ⟨⟨h6, -, -⟩, ⟨h7, -, -⟩, -⟩ := hd
              dsimp only at h6 h7
              (try simp only [h6, h7])
              simp [Region.wanted, yielded, undef, *]
          dsimp only [nA, cA]
          apply RGL.onL (i := 9) rfl (by decide)
          · exact zG
          · intro γ u Wm W hcurM hd hX
            obtain ⟨⟨h6, -, -⟩, ⟨h8, -, -⟩, -⟩ := hd
            dsimp only at h6 h8
            (try simp only [h6, h8])
            refine ⟨rfl, ?_⟩
            go_simp <;> (try go_bits) <;> with_reducible rfl
          · first
            | exact zC
            | intro γ γ' hg
              try dsimp only
              have e3 := hg 3 (by decide)
              have e4 := hg 4 (by decide)
              simp only [e3, e4]
          dsimp only [nA, cA]
          apply RGL.on (i := 10) rfl (by decide)
          · exact zG
          · intro γ u W hcur hd
            clear hd
            (try dsimp only)
            refine ⟨rfl, ?_⟩
            go_simp <;> (try go_bits) <;> with_reducible rfl
          · first
            | exact zC
            | intro γ γ' hg
              try dsimp only
              have e3 := hg 3 (by decide)
              have e4 := hg 4 (by decide)
              simp only [e3, e4]
          · rfl
          dsimp only [nA, cA]
          refine RGL.skip (i := 11) rfl rfl ?_
          dsimp only [nA, cA]
          refine RGL.skip (i := 12) rfl rfl ?_
          dsimp only [nA, cA]
          refine RGL.fin (fun γ u we hwe hd => ?_)
          obtain ⟨⟨h0, -, -⟩, ⟨h1, -, -⟩, ⟨h2, -, -⟩, ⟨h3, r3, b3⟩, ⟨h4, r4, -⟩, ⟨h5, -, -⟩, ⟨h6, -, -⟩, ⟨h7, -, -⟩, ⟨h8, -, -⟩, ⟨h9, -, -⟩, ⟨h10, -, -⟩, -⟩ := hd
          dsimp only at h0 h1 h2 h3 h4 h5 h6 h7 h8 h9 h10 r3 r4 b3
          simp only [h0, h1, h2, h3, h4, h5, h6, h7, h8, h9, h10]
          clear h10 h9 h8 h7 h6 h5 h4 h3 h2 h1 h0
          replace b3 := b3 _ (List.mem_singleton.2 rfl)
          generalize hγ3 : (γ 3).n = g3 at *
          clear hγ3
          clear u
          simp only [List.map_cons, List.map_nil]
          obtain ⟨r4a, r4b⟩ := r4
          obtain ⟨vN, hvN⟩ : ∃ v, (γ 4).v = v := ⟨_, rfl⟩
          rw [hvN] at r4a r4b ⊢
          obtain ⟨vNA, vNc, rfl⟩ := own_slice r4a
          have kNe := kN.keep hfx hwe
          have kOe := kO.keep hox hwe
          have kRe := kR.keep (fun m => by have := ownL_ge ho.out _ m; omega) hwe
          have hsze := Nat.le_trans hszD hwe.size
          have hb0e := bx_below hb0 hwe (fun z hz => by have := ownL_ge ho.out z hz; omega)
          have hnTi := noT_own ho.out (show 144 ≠ 3 by decide)
          have hnTl := noT_own ho.out (show 144 ≠ 23 by decide)
          have hfoe : Hid (∀ f ∈ fs, FuO f we) := fun f hf => (hfo.out f hf).keep hwe hnTi hnTl
          have hroe : Hid (∀ r ∈ ws, RwO r we) := fun r hr => (hro.out r hr).keep hwe hnTi
          have howe : Hid (we.ownsRow 0 23 1 (.slice v2A nw v2c) nw (ws.flatMap cRw)) := own_mono (Nat.zero_le _) (own_keepT how.out hwe hnTl)
          have hope : Hid (we.ownsRow (w.heap.size + 2) 9 1 (.slice pA np pc) np (P.flatMap cB)) := own_keepT hop.out hwe (noT_own ho.out (by decide))
          have hrWe := hrW.trans (RT.of_bx (D := D) (X := [w.heap.size + 1, bO]) (Ts := fun t => t = 144 ∨ t = 23) hwe (fun z hz => .inr ⟨ownL_ge ho.out z hz, by
            rcases ho.out.2 with ⟨e, _⟩ | ⟨k, _, cur, e, e2, e3, _⟩
            · rw [e] at hz; simp [ownL, Value.ownBlock] at hz
            · rw [e] at hz
              obtain rfl : z = k := by simpa [ownL, Value.ownBlock] using hz
              exact ⟨_, _, .inl rfl, e3⟩⟩))
          replace hvN := Lib.hid hvN
          replace r4a := Lib.hid r4a
          replace r4b := Lib.hid r4b
          have hS1 : BX [w.heap.size + 1, bO] we (we.setCell ⟨w.heap.size + 1, 1, none⟩ (.slice vNA (pre.length + 1) vNc)) := bx_set (.inl (by simp)) _ (bx_refl _ _)
          have kN8 := kNe.set 1 (.slice vNA (pre.length + 1) vNc)
          have kO8 := kOe.other (p := ⟨w.heap.size + 1, 1, none⟩) (show bO ≠ w.heap.size + 1 by omega) (.slice vNA (pre.length + 1) vNc)
          have kR8 := kRe.other (p := ⟨w.heap.size + 1, 1, none⟩) (show w.heap.size ≠ w.heap.size + 1 by omega) (.slice vNA (pre.length + 1) vNc)
          have LNe := kNe.cell
          have FNe := kNe.frozen
          clear LF LN LO
          apply PlanW.step
          · (simp only [gA, gB, gC] <;> rfl)
          · rfl
          intro K hK
          go_simp
          refine hK.out _ _ hS1 (fun _ => ?_)
          clear hK K LNe FNe
          try simp only [Act.put, List.setIfInBounds_toArray, List.set_cons_zero, List.set_cons_succ]
          obtain ⟨w8, hw8⟩ : ∃ W, we.setCell ⟨w.heap.size + 1, 1, none⟩ (.slice vNA (pre.length + 1) vNc) = W := ⟨_, rfl⟩
          rw [hw8] at hS1 kN8 kO8 kR8 ⊢
          have fin : ∀ b : Bool, (!c3 P && (pre ++ [(xn, xr)]).all fuOk) = b → ∀ a', GoesT w3.heap.size D [w.heap.size + 1, bO] (fun t => t = 144 ∨ t = 23) (fun pre W => ∃ (fs : List Fu) (v : Value), Hid (fs.map Fu.con = pre.map fuC) ∧ (Below w.heap.size w W ∧ D ≤ W.heap.size) ∧ Blk W w.heap.size 58 #[.slice none 0 0, .slice none 0 0, .slice none 0 0] ∧ Blk W (w.heap.size + 1) 58 #[.slice pA np pc, v, .slice none 0 0] ∧ Blk W bO 4 #[.bool (!c3 P && pre.all fuOk)] ∧ Hid (W.ownsRow (w.heap.size + 2) 9 1 (.slice pA np pc) np (P.flatMap cB)) ∧ Hid (W.ownsRow D 144 2 v pre.length (fs.flatMap cFu)) ∧ Hid (∀ f ∈ fs, FuO f W)) (fun _ _ _ => False) (pre ++ [(xn, xr)]) W2 .normal a' (w8.setCell ⟨bO, 0, none⟩ (.bool b)) := by
            intro b hb a'
            have hS2 : BX [w.heap.size + 1, bO] we (w8.setCell ⟨bO, 0, none⟩ (.bool b)) := bx_set (.inl (by simp)) _ hS1
            have hnT1 := noT_blk kNe (show 58 ≠ 3 by decide) (noT_blk kOe (show 4 ≠ 3 by decide) (noT_nil we 3))
            have hnT2 := noT_blk kNe (show 58 ≠ 23 by decide) (noT_blk kOe (show 4 ≠ 23 by decide) (noT_nil we 23))
            have hnT3 := noT_blk kNe (show 58 ≠ 9 by decide) (noT_blk kOe (show 4 ≠ 9 by decide) (noT_nil we 9))
            have kN9 := kN8.other (p := ⟨bO, 0, none⟩) (show w.heap.size + 1 ≠ bO by omega) (.bool b)
            have kR9 := kR8.other (p := ⟨bO, 0, none⟩) (show w.heap.size ≠ bO by omega) (.bool b)
            have kO9 := kO8.set 0 (.bool b)
            have h9 := own_bx r4a.out hS2 (fun x hx => by simp at hx; omega)
            have hb9 := bx_below hb0e hS2 (fun x hx => by simp at hx; omega)
            generalize w8.setCell ⟨bO, 0, none⟩ (.bool b) = w9 at *
            refine ⟨hrWe.trans (RT.of_bx hS2 (fun z hz => .inl hz)), fs ++ [⟨baOf xn, v2A, v2c, ws⟩], _, Lib.hid ?_, ⟨hb9, Nat.le_trans hsze hS2.size⟩, kR9, kN9, ?_, Lib.hid (own_keepT hope.out hS2 hnT3), Lib.hid ?_, Lib.hid ?_⟩
            · rw [List.map_append, List.map_append, h1.out]
              have : Fu.con ⟨baOf xn, v2A, v2c, ws⟩ = fuC (xn, xr) := by
                unfold Fu.con fuC
                rw [hws.out, ← HLW.out]
              rw [List.map_singleton, List.map_singleton, this]
            · rw [hb]
              exact kO9
            · have hwsl : ws.length = nw := by
                have := congrArg List.length hws.out
                rw [List.length_map, List.length_map] at this
                rw [this]; exact hnw.out
              rw [List.length_append, List.flatMap_append]
              have e : List.flatMap cFu [⟨baOf xn, v2A, v2c, ws⟩] = [.string ⟨xn.toArray⟩, .slice v2A nw v2c] := by
                simp only [List.flatMap_cons, List.flatMap_nil, List.append_nil, cFu, hwsl]
                rfl
              rw [e]
              exact h9
            · intro q hq
              rcases List.mem_append.1 hq with hq | hq
              · exact (hfoe.out q hq).keep hS2 hnT1 hnT2
              · obtain rfl := List.mem_singleton.1 hq
                have hwsl : ws.length = nw := by
                  have := congrArg List.length hws.out
                  rw [List.length_map, List.length_map] at this
                  rw [this]; exact hnw.out
                refine ⟨?_, by dsimp only; omega, ?_, fun r hr => (hroe.out r hr).keep hS2 hnT1⟩
                · show xn.length ≤ maxLen
                  unfold maxLen
                  omega
                · dsimp only
                  rw [hwsl]
                  exact own_keepT howe.out hS2 hnT2
          have LO8 := kO8.cell
          have FO8 := kO8.frozen
          have hS2 : ∀ b : Bool, BX [w.heap.size + 1, bO] we (w8.setCell ⟨bO, 0, none⟩ (.bool b)) := fun b => bx_set (.inl (by simp)) _ hS1
          apply PlanW.step
          · (simp only [gA, gB, gC] <;> rfl)
          · rfl
          intro K hK
          go_simp
          refine hK.out _ _ (hS2 _) (fun _ => ?_)
          clear hK K LO8 FO8
          try simp only [Act.put, List.setIfInBounds_toArray, List.set_cons_zero, List.set_cons_succ]
          refine PlanW.done (only_done ?_)
          gi_wp2
          have h := hall.out
          simp only [Bool.false_and, Bool.true_and] at h
          exact fin _ h _
    case done =>
      clear kR kN kO hb0 hop hit'
      rintro W ⟨fs, v, h1, ⟨hb0, hWD⟩, kR, kN, kO, hop, ho, hfo⟩ hK1
      obtain ⟨vA, vc, rfl⟩ := own_slice ho.out
      rw [hD] at hK1
      have hKl0 := (Array.getElem?_eq_some_iff.1 hK1).1
      have g2 := kcell hb0 d2
      have hitC := Lib.hid fun W => c_items ⟨z.toArray⟩ W
      obtain ⟨nf, hnf⟩ : ∃ n, Hid (LB.length = n) := ⟨_, rfl⟩
      rw [hnf.out] at ho kN
      obtain ⟨flag, hfl'⟩ : ∃ b, Hid ((!c3 P && LB.all fuOk) = b) := ⟨_, rfl⟩
      rw [hfl'.out] at kO
      go_wp2_with fail
      refine (hitC.out W).mono ?_
      rintro e w4 ⟨rfl, hb1, q0⟩
      replace kR := kR.below hb1
      replace kN := kN.below hb1
      replace kO := kO.below hb1
      replace hb0 := bl_tr hb0 hb1
      replace hop := Lib.hid (own_below hop.out hb1)
      replace ho := Lib.hid (own_below ho.out hb1)
      replace hfo := Lib.hid fun f hf => (hfo.out f hf).below hb1
      replace hK1 := Lib.hid ((hb1.block _ (Array.getElem?_eq_some_iff.1 hK1).1).trans hK1)
      have hq0' := q0.lt
      have hKl : D < W.heap.size := by
        exact hKl0
      clear hitC g2
      obtain ⟨bI, hbI⟩ : ∃ b, W.heap.size = b := ⟨_, rfl⟩
      rw [hbI] at q0 hq0' hWD hKl ⊢
      clear hb1
      obtain ⟨D2, hD2⟩ : ∃ D2, w4.heap.size = D2 := ⟨_, rfl⟩
      rw [hD2] at hq0'
      have hit' := items_iter z bI D2 [w.heap.size + 1, bO] (fun t => t = 146) (fun t => t = 146 ∨ t = 144 ∨ t = 23 ∨ t = 3) w4 (by have := hF.out.lc; omega) q0 (by rw [hD2]; simp; omega) (by decide) (by decide) (by decide) (by decide)
      obtain ⟨LC, HLC⟩ : ∃ L, Hid (itemsL z = L) := ⟨_, rfl⟩
      rw [HLC.out] at hit'
      go_wp2
      refine wp_range5 (gf := 165) (lb := #[.pointer (some ⟨bI, 0, none⟩)]) ?hg3 (enters_of Tryz.func165 (by kernel_rfl) rfl) (Enc := EncNR) (xs := LC) D2 [w.heap.size + 1, bO] [] _ _ hit' ?hps3 (by rw [hD2]; simp; omega) (by simp)
        (fun pre W => ∃ (ms : List Md) (u : Value), Hid (ms.map Md.con = pre.map mdC) ∧ (Below w.heap.size w W ∧ D2 ≤ W.heap.size) ∧ Blk W w.heap.size 58 #[.slice none 0 0, .slice none 0 0, .slice none 0 0] ∧ Blk W (w.heap.size + 1) 58 #[.slice pA np pc, .slice vA nf vc, u] ∧ Blk W bO 4 #[.bool (flag && pre.all mdOk)] ∧ Hid (W.ownsRow (w.heap.size + 2) 9 1 (.slice pA np pc) np (P.flatMap cB)) ∧ Hid (W.ownsRow D 144 2 (.slice vA nf vc) nf (fs.flatMap cFu)) ∧ Hid (∀ f ∈ fs, FuO f W) ∧ Hid (W.heap[D]? = some (.deferred (some []))) ∧ Hid (W.ownsRow D2 146 2 u pre.length (ms.flatMap cMd)) ∧ Hid (∀ m ∈ ms, MdO m W))
        (fun _ _ _ => False)
        ?hI3 ?hIx3 ?h03 ?round3 ?done3 ?stop3
      case hg3 => rfl
      case hps3 => rintro x args W rfl; rfl
      case hI3 =>
        rw [hD2]
        have hvD := own_lt ho.out
        rintro s A B ⟨ms, u, e1, ⟨h2, h3⟩, h4, h5, h6, h7, h8, h9, h10, h11, h12⟩ hm
        exact ⟨ms, u, e1, ⟨hm.belowOf (by omega) (by simp) h2, Nat.le_trans h3 hm.size⟩, hm.blk h4 (by omega) (by simp), hm.blk h5 (by omega) (by simp), hm.blk h6 (by omega) (by simp), Lib.hid (own_keepB h7.out fun g o hg ho => hm.keep g o ho (.inl ⟨by have := (hopD g hg).2.1; omega, by simp⟩)), Lib.hid (hm.own h8.out (.inr (.inl rfl))), Lib.hid fun f hf => (h9.out f hf).itK hm (.inr (.inr (.inr rfl))) (.inr (.inr (.inl rfl))),
          Lib.hid (hm.keep _ _ h10.out (.inl ⟨by omega, by simp⟩)), Lib.hid (hm.own h11.out (.inl rfl)), Lib.hid fun f hf => (h12.out f hf).itK hm (.inr (.inr (.inr rfl)))⟩
      case hIx3 => exact fun _ _ _ _ h _ => h.elim
      case h03 => exact ⟨[], .slice none 0 0, rfl, ⟨hb0, by omega⟩, kR, kN, by simpa using kO, hop, ho, hfo, hK1, Lib.hid (World.ownsRow_nil _ _ _ _), Lib.hid fun f hf => by simp at hf⟩
      case stop3 => exact fun _ _ _ _ h _ => h.elim
      case round3 =>
        clear kR kN kO hb0 hop hit' ho hfo hK1
        rintro ln pre x args W ⟨ms, u, h1, ⟨hb0, hWD⟩, kR, kN, kO, hop, ho, hfo, hK1, hu, hmo⟩ hpre rfl
        obtain ⟨uA, uc, rfl⟩ := own_slice hu.out
        have hxm : x ∈ LC := by obtain ⟨r, hr⟩ := hpre; rw [← hr]; simp
        have hpl : pre.length ≤ 999 := by
          obtain ⟨r, hr⟩ := hpre
          have a := congrArg List.length hr
          have b := hF.out.ms
          rw [HLC.out] at b
          simp at a
          omega
        have hwr := hF.out.ns x (by rw [HLC.out]; exact hxm)
        have hxl := itm_len (by rw [HLC.out]; exact hxm)
        have hzl := hF.out.lc
        gi_wp2
        refine ⟨RT.refl _ _ _ _, fun W2 hc _ _ => ?_⟩
        rw [hD2] at hc
        replace hb0 := hc.belowOf (by omega) hb0
        replace kR := hc.blk kR
        replace kN := hc.blk kN
        replace kO := hc.blk kO
        replace hop := Lib.hid (CK.own hop.out hc)
        replace ho := Lib.hid (CK.own ho.out hc)
        replace hfo := Lib.hid fun f hf => (hfo.out f hf).ck hc
        replace hK1 := Lib.hid (hc.keep _ _ hK1.out (.inl (by omega)))
        replace hu := Lib.hid (CK.own hu.out hc)
        replace hmo := Lib.hid fun f hf => (hmo.out f hf).ck hc
        replace hWD := Nat.le_trans hWD hc.size
        clear hc
        obtain ⟨xn, xr⟩ := x
        dsimp only at hwr hxl
        by_cases hxr : xr = []
        case' pos => have hxr2 : (xr == ([] : List UInt8)) = true := by rw [hxr]; rfl
        case' neg => have hxr2 : (xr == ([] : List UInt8)) = false := by simpa using hxr
        all_goals
          have kM := Blk.new W2 146 #[.string ⟨xn.toArray⟩, .slice none 0 0]
          have hbA := bl_al (.cells #[.string ⟨xn.toArray⟩, .slice none 0 0] 146) (bl_refl W2)
          have hszM : (W2.alloc (.cells #[.string ⟨xn.toArray⟩, .slice none 0 0] 146)).heap.size = W2.heap.size + 1 := by simp
          obtain ⟨bM, hbM⟩ : ∃ bM, W2.heap.size = bM := ⟨_, rfl⟩
        case' pos =>
          gi_upto_region 22 with (first | (rename_i h1 h2; exact absurd h1 undef_bool))
          have hbW := hbA
          rw [hbM] at hszM kM hWD hbW
          obtain ⟨A7, c7, rV, hrV, hrw, kM2, ho7⟩ : ∃ (A7 : Option Addr) (c7 : Nat) (rV : List Int), Hid (ndV xr = rV) ∧ rV.length ≤ 1000 ∧ Blk (W2.alloc (.cells #[.string ⟨xn.toArray⟩, .slice none 0 0] 146)) bM 146 #[.string ⟨xn.toArray⟩, .slice A7 rV.length c7] ∧
              Hid ((W2.alloc (.cells #[.string ⟨xn.toArray⟩, .slice none 0 0] 146)).ownsRow 0 3 1 (.slice A7 rV.length c7) rV.length (rV.map (.int .i64))) := ⟨none, 0, [], by rw [hxr]; rfl, by simp, kM, World.ownsRow_nil _ _ _ _⟩
          have hndO : Hid (ndOk xr = true) := Lib.hid (by rw [hxr]; rfl)
          clear hxr hxr2
          replace kM := kM2
          replace hszM : bM < (W2.alloc (.cells #[.string ⟨xn.toArray⟩, .slice none 0 0] 146)).heap.size := kM.lt
          clear kM2
          generalize W2.alloc (.cells #[.string ⟨xn.toArray⟩, .slice none 0 0] 146) = w7 at *
        case' neg =>
          gi_upto_region 21 with (first | (rename_i h1 h2; exact absurd h1 undef_bool))
          have hway := Lib.hid (c_way xr _ (by omega) (HE.out _ (bl_tr hb0 hbA)))
          have zC : ∀ W, Below (W2.alloc (.cells #[.string ⟨xn.toArray⟩, .slice none 0 0] 146)).heap.size (W2.alloc (.cells #[.string ⟨xn.toArray⟩, .slice none 0 0] 146)) W → W.cell? ⟨bM, 1, none⟩ = some (.slice none 0 0) := fun W hb => by rw [← hbM, (kM.below hb).cell]; rfl
          have zF : ∀ W, Below (W2.alloc (.cells #[.string ⟨xn.toArray⟩, .slice none 0 0] 146)).heap.size (W2.alloc (.cells #[.string ⟨xn.toArray⟩, .slice none 0 0] 146)) W → W.frozen? ⟨bM, 1, none⟩ = false := fun W hb => by rw [← hbM]; exact (kM.below hb).frozen _
          have hndV : Hid (ndV xr = wayV xr) := Lib.hid (by unfold ndV; rw [if_neg hxr])
          have hndO : Hid (ndOk xr = wayOk xr) := Lib.hid (by unfold ndOk; rw [if_neg hxr])
          have hrl := Nat.le_trans (wayV_len xr) hwr
          obtain ⟨rok, hrok⟩ : ∃ b, Hid (wayOk xr = b) := ⟨_, rfl⟩
          obtain ⟨rV, hrV⟩ : ∃ b, Hid (wayV xr = b) := ⟨_, rfl⟩
          rw [hrok.out] at hway hndO
          rw [hrV.out] at hway hndV hrl
          clear hrok hrV
          have hrV := hndV
          have hrw := hrl
          have hbW := hbA
          rw [hbM] at hszM kM hWD hbW
          obtain ⟨w5, hw5⟩ : ∃ W, W2.alloc (.cells #[.string ⟨xn.toArray⟩, .slice none 0 0] 146) = W := ⟨_, rfl⟩
          rw [hw5] at hszM kM hbA hbW zC zF hway ⊢
          replace hszM : bM < w5.heap.size := by omega
          gi_upto_region 22 with (first | (rename_i h1 h2; exact absurd h1 undef_bool) | (with_reducible refine And.intro (wide_fn _) ?_) | (gi_at_call 61; (with_reducible refine (CallsIn.inRound ln (callsIn_wide.2 hway.out)).mono ?_); rintro e w6 ⟨hb6, A7, c7, rfl, ho7⟩))
          obtain ⟨w7, hw7⟩ : ∃ W, w6.setCell ⟨bM, 1, none⟩ (.slice A7 rV.length c7) = W := ⟨_, rfl⟩
          have kM7 := (kM.below hb6).set 1 (.slice A7 rV.length c7)
          have ho72 := own_set (.slice A7 rV.length c7) ho7 (show bM < w5.heap.size from hszM) (i := 1)
          have hb72 : Below bM W2 (w6.setCell ⟨bM, 1, none⟩ (.slice A7 rV.length c7)) := by
            rw [← hbM] at hbW ⊢
            exact bl_set (by simp) _ (bl_tr hbW hb6)
          have hszM' := hb6.size
          rw [hw7] at kM7 ho72 hb72 ⊢
          replace kM := kM7
          replace ho7 := Lib.hid (own_mono (Nat.zero_le _) ho72)
          replace hbW := hb72
          clear kM7 ho72 hb72 hszM' hb6 hw7 zC zF hway hw5
          cases rok
        all_goals
          have hbA2 : Below W2.heap.size W2 w7 := by rw [hbM]; exact hbW
          replace hb0 := bl_tr hb0 hbA2
          replace kR := kR.below hbA2
          replace kN := kN.below hbA2
          replace kO := kO.below hbA2
          replace hop := Lib.hid (own_below hop.out hbA2)
          replace ho := Lib.hid (own_below ho.out hbA2)
          replace hfo := Lib.hid fun f hf => (hfo.out f hf).below hbA2
          replace hK1 := Lib.hid ((hbA2.block _ (Array.getElem?_eq_some_iff.1 hK1.out).1).trans hK1.out)
          have huF := own_lt hu.out
          rw [hbM] at huF
          replace hu := Lib.hid (own_below hu.out hbA2)
          replace hmo := Lib.hid fun f hf => (hmo.out f hf).below hbA2
          have hrW : RT D2 [w.heap.size + 1, bO] (fun t => t = 146) W2 w7 := .of_below hbA2
          have hszD : D2 ≤ w7.heap.size := by have := kM.lt; omega
          clear hbA2 hbW
          have hfx : w.heap.size + 1 ∉ ownL (.slice uA pre.length uc) := fun m => by have := ownL_ge hu.out _ m; omega
          have hox : bO ∉ ownL (.slice uA pre.length uc) := fun m => by have := ownL_ge hu.out _ m; omega
          have hbx : bM ∉ ownL (.slice uA pre.length uc) := fun m => by have := huF bM (by simpa [ownL] using m); omega
          have hml : ∀ x ∈ ownL (.slice uA pre.length uc), x < w7.heap.size := fun x hx => own_lt hu.out x (by simpa [ownL] using hx)
          have LN := kN.laterX hfx
          have LO := kO.laterX hox
          have LM := kM.laterX hbx
          obtain ⟨fl2, hfl2⟩ : ∃ b, Hid ((flag && pre.all mdOk) = b) := ⟨_, rfl⟩
          rw [hfl2.out] at kO LO
          have hall : Hid ((flag && (pre ++ [(xn, xr)]).all mdOk) = (fl2 && (ndOk xr && decide (xn ≠ [])))) := Lib.hid (by
            rw [List.all_append, ← Bool.and_assoc, hfl2.out]
            simp [mdOk])
          rw [hndO.out] at hall
          by_cases hxn : xn = []
          case' pos =>
            have hx2 : (xn == ([] : List UInt8)) = true := by rw [hxn]; rfl
            have hdn : Hid (decide (xn ≠ []) = false) := Lib.hid (by simp [hxn])
          case' neg =>
            have hx2 : (xn == ([] : List UInt8)) = false := by simpa using hxn
            have hdn : Hid (decide (xn ≠ []) = true) := Lib.hid (by simpa using hxn)
          all_goals
            replace hxn := Lib.hid hxn
            rw [hdn.out] at hall
            cases fl2
          all_goals
            refine wpIn_anyL (w0 := w7) 4 (ownL (.slice uA pre.length uc)) ⟨[14, 15], [10, 11, 12], [some 86, some 87, some 88, some 89, some 90, some 91, some 92, some 93, some 94, some 95, some 96, some 97, some 98, some 99, none, none], [[], [0], [], [2], [0, 1, 2, 3], [], [0, 1, 2, 3, 4, 5], [0, 1, 2, 3, 4, 5, 6], [0, 1, 2, 3, 4, 5, 6, 7], [0, 1, 2, 3, 4, 5, 6, 7, 8], [0, 1, 2, 3, 4, 5, 6, 7, 8, 9], [0, 1, 2, 3, 4, 5, 6, 7, 8, 9, 10], [0, 1, 2, 3, 4, 5, 6, 7, 8, 9, 10, 11], [0, 1, 2, 3, 4], [0, 1, 2, 3, 4, 5, 6, 7, 8, 9, 13], [0, 1, 2, 3, 4, 5, 6, 7, 8, 9, 10, 11, 12, 13, 14]], [[], [0], [], [2], [1, 3], [], [5], [6], [6, 7], [8], [9], [9, 10], [9, 11], [], [], []]⟩ (fun _ => [w.heap.size + 1, bO]) (by kernel_rfl) (by kernel_rfl) (by kernel_rfl) (by (exact zE)) (fun u => by simp only [putD, Act.put, List.setIfInBounds_toArray, List.set_cons_zero, List.set_cons_succ, Nat.zero_add, Nat.reduceAdd]; rfl) ?_
            apply RGL.on (i := 0) rfl (by decide)
            · exact zG
            · intro γ u W hcur hd
              clear hd
              (try dsimp only)
              refine ⟨rfl, ?_⟩
              go_simp <;> (try go_bits) <;> with_reducible rfl
            · exact zC
            · rfl
            dsimp only [nA, cA]
            apply RGL.on (i := 1) rfl (by decide)
            · exact zG
            · intro γ u W hcur hd
              obtain ⟨⟨h0, -, -⟩, -⟩ := hd
              dsimp only at h0
              (try simp only [h0])
              refine ⟨rfl, ?_⟩
              go_simp <;> (try go_bits) <;> with_reducible rfl
            · exact zC
            · rfl
            dsimp only [nA, cA]
            apply RGL.on (i := 2) rfl (by decide)
            · exact zG
            · intro γ u W hcur hd
              clear hd
              (try dsimp only)
              refine ⟨rfl, ?_⟩
              go_simp <;> (try go_bits) <;> with_reducible rfl
            · exact zC
            · rfl
            dsimp only [nA, cA]
            apply RGL.bslice (i := 3) rfl (by decide) hml
            · exact zG
            · intro γ u W hcur hd
              obtain ⟨⟨h2, -, -⟩, -⟩ := hd
              dsimp only at h2
              (try simp only [h2])
              refine ⟨rfl, fun K hK => ?_⟩
              go_simp
              exact hK.out _ _ rfl rfl
            · exact zC
            · rfl
            · rfl
            dsimp only [nA, cA]
            apply RGL.mut (⟨fun γ => (γ 4).v, fun γ W' => W'.ownsRow D2 146 2 (γ 4).v (pre.length + 1) (ms.flatMap cMd ++ [.string ⟨xn.toArray⟩, .slice A7 rV.length c7]) ∧ ∀ q, (γ 4).v.ownBlock = some q → Value.ownBlock (.slice uA pre.length uc) = some q ∨ w7.heap.size ≤ q, fun _ => []⟩) (i := 4) rfl rfl
            · exact zG
            · intro γ u W hcur hd
              obtain ⟨⟨h1, -, -⟩, ⟨h3, r3, -⟩, -⟩ := hd
              dsimp only at h1 h3 r3
              (try simp only [h1, h3])
              refine ⟨rfl, fun K hK => ?_⟩
              (refine wp_appT _ _ rfl Tryz.underlying56 hi2 hm0 hm1 hm2 rfl (by decide) (.slice uA pre.length uc) pre.length _ [.string ⟨xn.toArray⟩, .slice A7 rV.length c7] rfl rfl (own_below hu.out hcur) r3 rfl (by intro u hu; simp at hu; rcases hu with rfl | rfl <;> rfl) (by unfold maxLen; omega) (by omega) (Nat.le_trans hszD hcur.size) ?_; intro v' w' hown' hbx' hnew'; exact hK.out ⟨0, v', none, 0⟩ _ _ (by simp [up]) hbx' ⟨by simpa [up] using hown', fun q hq => (hnew' q (by simpa [up] using hq)).imp_right fun h => Nat.le_trans hcur.size h⟩ (by simp))
            · intro γ γ' hg
              have e0 := hg 4 (.inl rfl)
              exact ⟨by (try dsimp only); simp only [e0], fun W h => by (try dsimp only at h ⊢); simpa only [e0] using h⟩
            · intro γ W W' hbl hR
              first | exact hR.below hbl | exact ⟨own_below hR.1 hbl, hR.2⟩
            · rfl
            dsimp only [nA, cA]
            apply RGL.on (i := 5) rfl (by decide)
            · exact zG
            · intro γ u W hcur hd
              clear hd
              (try dsimp only)
              refine ⟨rfl, ?_⟩
              go_simp <;> (try go_bits) <;> with_reducible rfl
            · exact zC
            · rfl
            dsimp only [nA, cA]
            apply RGL.on (i := 6) rfl (by decide)
            · exact zG
            · intro γ u W hcur hd
              obtain ⟨⟨h5, -, -⟩, -⟩ := hd
              dsimp only at h5
              (try simp only [h5])
              refine ⟨rfl, ?_⟩
              go_simp <;> (try go_bits) <;> with_reducible rfl
            · first
              | exact zC
              | intro γ γ' hg
                try dsimp only
                have e3 := hg 3 (by decide)
                have e4 := hg 4 (by decide)
                simp only [e3, e4]
            · rfl
            dsimp only [nA, cA]
            first
            | apply RGL.on (i := 7) rfl (by decide)
              · exact zG
              · intro γ u W hcur hd
                obtain ⟨⟨h6, -, -⟩, -⟩ := hd
                dsimp only at h6
                (try simp only [h6])
                refine ⟨?_, ?_⟩
                · (simp [Region.wanted, yielded, undef, *]; done)
                go_simp <;> (try go_bits) <;> with_reducible rfl
              · first
                | exact zC
                | intro γ γ' hg
                  try dsimp only
                  have e3 := hg 3 (by decide)
                  have e4 := hg 4 (by decide)
                  simp only [e3, e4]
              · rfl
            | apply RGL.off (i := 7) rfl (by decide)
              · exact zG
              · intro γ u W hcur hd
                obtain ⟨⟨h6, -, -⟩, -⟩ := hd
                dsimp only at h6
                (try simp only [h6])
                simp [Region.wanted, yielded, undef, *]
              · rfl
            dsimp only [nA, cA]
            apply RGL.on (i := 8) rfl (by decide)
            · exact zG
            · intro γ u W hcur hd
              obtain ⟨⟨h6, -, -⟩, ⟨h7, -, -⟩, -⟩ := hd
              dsimp only at h6 h7
              (try simp only [h6, h7])
              refine ⟨rfl, ?_⟩
              go_simp <;> (try go_bits) <;> with_reducible rfl
            · first
              | exact zC
              | intro γ γ' hg
                try dsimp only
                have e3 := hg 3 (by decide)
                have e4 := hg 4 (by decide)
                simp only [e3, e4]
            · rfl
            dsimp only [nA, cA]
            apply RGL.on (i := 9) rfl (by decide)
            · exact zG
            · intro γ u W hcur hd
              obtain ⟨⟨h8, -, -⟩, -⟩ := hd
              dsimp only at h8
              (try simp only [h8])
              refine ⟨rfl, ?_⟩
              go_simp <;> (try go_bits) <;> with_reducible rfl
            · first
              | exact zC
              | intro γ γ' hg
                try dsimp only
                have e3 := hg 3 (by decide)
                have e4 := hg 4 (by decide)
                simp only [e3, e4]
            · rfl
            dsimp only [nA, cA]
            first
            | apply RGL.onL (i := 10) rfl (by decide)
              · exact zG
              · intro γ u Wm W hcurM hd hX
                obtain ⟨⟨h9, -, -⟩, -⟩ := hd
                dsimp only at h9
                (try simp only [h9])
                refine ⟨?_, ?_⟩
                · (simp [Region.wanted, yielded, undef, *]; done)
                go_simp <;> (try go_bits) <;> with_reducible rfl
              · first
                | exact zC
                | intro γ γ' hg
                  try dsimp only
                  have e3 := hg 3 (by decide)
                  have e4 := hg 4 (by decide)
                  simp only [e3, e4]
            | apply RGL.offL (i := 10) rfl (by decide)
              · exact zG
              · intro γ u Wm W hcurM hd hX
                obtain ⟨⟨h9, -, -⟩, -⟩ := hd
                dsimp only at h9
                (try simp only [h9])
                simp [Region.wanted, yielded, undef, *]
            dsimp only [nA, cA]
            first
            | apply RGL.onL (i := 11) rfl (by decide)
              · exact zG
              · intro γ u Wm W hcurM hd hX
                obtain ⟨⟨h9, -, -⟩, ⟨h10, -, -⟩, -⟩ := hd
                dsimp only at h9 h10
                (try simp only [h9, h10])
                refine ⟨?_, ?_⟩
                · (simp [Region.wanted, yielded, undef, *]; done)
                go_simp <;> (try go_bits) <;> with_reducible rfl
              · first
                | exact zC
                | intro γ γ' hg
                  try dsimp only
                  have e3 := hg 3 (by decide)
                  have e4 := hg 4 (by decide)
                  simp only [e3, e4]
            | apply RGL.offL (i := 11) rfl (by decide)
              · exact zG
              · intro γ u Wm W hcurM hd hX
                obtain ⟨⟨h9, -, -⟩, ⟨h10, -, -⟩, -⟩ := hd
                dsimp only at h9 h10
                (try simp only [h9, h10])
                simp [Region.wanted, yielded, undef, *]
            dsimp only [nA, cA]
            apply RGL.onL (i := 12) rfl (by decide)
            · exact zG
            · intro γ u Wm W hcurM hd hX
              obtain ⟨⟨h9, -, -⟩, ⟨h11, -, -⟩, -⟩ := hd
              dsimp only at h9 h11
              (try simp only [h9, h11])
              refine ⟨rfl, ?_⟩
              go_simp <;> (try go_bits) <;> with_reducible rfl
            · first
              | exact zC
              | intro γ γ' hg
                try dsimp only
                have e3 := hg 3 (by decide)
                have e4 := hg 4 (by decide)
                simp only [e3, e4]
            dsimp only [nA, cA]
            apply RGL.on (i := 13) rfl (by decide)
            · exact zG
            · intro γ u W hcur hd
              clear hd
              (try dsimp only)
              refine ⟨rfl, ?_⟩
              go_simp <;> (try go_bits) <;> with_reducible rfl
            · first
              | exact zC
              | intro γ γ' hg
                try dsimp only
                have e3 := hg 3 (by decide)
                have e4 := hg 4 (by decide)
                simp only [e3, e4]
            · rfl
            dsimp only [nA, cA]
            refine RGL.skip (i := 14) rfl rfl ?_
            dsimp only [nA, cA]
            refine RGL.skip (i := 15) rfl rfl ?_
            dsimp only [nA, cA]
            refine RGL.fin (fun γ u we hwe hd => ?_)
            obtain ⟨⟨h0, -, -⟩, ⟨h1, -, -⟩, ⟨h2, -, -⟩, ⟨h3, r3, b3⟩, ⟨h4, r4, -⟩, ⟨h5, -, -⟩, ⟨h6, -, -⟩, ⟨h7, -, -⟩, ⟨h8, -, -⟩, ⟨h9, -, -⟩, ⟨h10, -, -⟩, ⟨h11, -, -⟩, ⟨h12, -, -⟩, ⟨h13, -, -⟩, -⟩ := hd
            dsimp only at h0 h1 h2 h3 h4 h5 h6 h7 h8 h9 h10 h11 h12 h13 r3 r4 b3
            simp only [h0, h1, h2, h3, h4, h5, h6, h7, h8, h9, h10, h11, h12, h13]
            clear h13 h12 h11 h10 h9 h8 h7 h6 h5 h4 h3 h2 h1 h0
            replace b3 := b3 _ (List.mem_singleton.2 rfl)
            generalize hγ3 : (γ 3).n = g3 at *
            clear hγ3
            clear u
            simp only [List.map_cons, List.map_nil]
            obtain ⟨r4a, r4b⟩ := r4
            obtain ⟨vN, hvN⟩ : ∃ v, (γ 4).v = v := ⟨_, rfl⟩
            rw [hvN] at r4a r4b ⊢
            obtain ⟨vNA, vNc, rfl⟩ := own_slice r4a
            have kNe := kN.keep hfx hwe
            have kOe := kO.keep hox hwe
            have kRe := kR.keep (fun m => by have := ownL_ge hu.out _ m; omega) hwe
            have hsze := Nat.le_trans hszD hwe.size
            have hb0e := bx_below hb0 hwe (fun z hz => by have := ownL_ge hu.out z hz; omega)
            have hnTi := noT_own hu.out (show 146 ≠ 3 by decide)
            have hnTl := noT_own hu.out (show 146 ≠ 23 by decide)
            have hfoe : Hid (∀ f ∈ fs, FuO f we) := fun f hf => (hfo.out f hf).keep hwe hnTi hnTl
            have hmoe : Hid (∀ r ∈ ms, MdO r we) := fun r hr => (hmo.out r hr).keep hwe hnTi
            have ho7e : Hid (we.ownsRow 0 3 1 (.slice A7 rV.length c7) rV.length (rV.map (.int .i64))) := own_keepT ho7.out hwe hnTi
            have hope : Hid (we.ownsRow (w.heap.size + 2) 9 1 (.slice pA np pc) np (P.flatMap cB)) := own_keepT hop.out hwe (noT_own hu.out (by decide))
            have hoe : Hid (we.ownsRow D 144 2 (.slice vA nf vc) nf (fs.flatMap cFu)) := own_keepT ho.out hwe (noT_own hu.out (by decide))
            have hK1e : Hid (we.heap[D]? = some (.deferred (some []))) := Lib.hid ((hwe.block D (Array.getElem?_eq_some_iff.1 hK1.out).1 (fun m => by have := ownL_ge hu.out _ m; omega)).trans hK1.out)
            have hrWe := hrW.trans (RT.of_bx (D := D2) (X := [w.heap.size + 1, bO]) (Ts := (fun t => t = 146)) hwe (fun z hz => .inr ⟨ownL_ge hu.out z hz, by
              rcases hu.out.2 with ⟨e, _⟩ | ⟨k, _, cur, e, e2, e3, _⟩
              · rw [e] at hz; simp [ownL, Value.ownBlock] at hz
              · rw [e] at hz
                obtain rfl : z = k := by simpa [ownL, Value.ownBlock] using hz
                exact ⟨_, _, rfl, e3⟩⟩))
            replace hvN := Lib.hid hvN
            replace r4a := Lib.hid r4a
            replace r4b := Lib.hid r4b
            have hS1 : BX [w.heap.size + 1, bO] we (we.setCell ⟨w.heap.size + 1, 2, none⟩ (.slice vNA (pre.length + 1) vNc)) := bx_set (.inl (by simp)) _ (bx_refl _ _)
            have kN8 := kNe.set 2 (.slice vNA (pre.length + 1) vNc)
            have kO8 := kOe.other (p := ⟨w.heap.size + 1, 2, none⟩) (show bO ≠ w.heap.size + 1 by omega) (.slice vNA (pre.length + 1) vNc)
            have kR8 := kRe.other (p := ⟨w.heap.size + 1, 2, none⟩) (show w.heap.size ≠ w.heap.size + 1 by omega) (.slice vNA (pre.length + 1) vNc)
            have LNe := kNe.cell
            have FNe := kNe.frozen
            clear LM LN LO
            apply PlanW.step
            · (simp only [gA, gB, gC] <;> rfl)
            · rfl
            intro K hK
            go_simp
            refine hK.out _ _ hS1 (fun _ => ?_)
            clear hK K LNe FNe
            try simp only [Act.put, List.setIfInBounds_toArray, List.set_cons_zero, List.set_cons_succ]
            obtain ⟨w8, hw8⟩ : ∃ W, we.setCell ⟨w.heap.size + 1, 2, none⟩ (.slice vNA (pre.length + 1) vNc) = W := ⟨_, rfl⟩
            rw [hw8] at hS1 kN8 kO8 kR8 ⊢
            have fin : ∀ b : Bool, (flag && (pre ++ [(xn, xr)]).all mdOk) = b → ∀ a', GoesT w4.heap.size D2 [w.heap.size + 1, bO] (fun t => t = 146) (fun pre W => ∃ (ms : List Md) (u : Value), Hid (ms.map Md.con = pre.map mdC) ∧ (Below w.heap.size w W ∧ D2 ≤ W.heap.size) ∧ Blk W w.heap.size 58 #[.slice none 0 0, .slice none 0 0, .slice none 0 0] ∧ Blk W (w.heap.size + 1) 58 #[.slice pA np pc, .slice vA nf vc, u] ∧ Blk W bO 4 #[.bool (flag && pre.all mdOk)] ∧ Hid (W.ownsRow (w.heap.size + 2) 9 1 (.slice pA np pc) np (P.flatMap cB)) ∧ Hid (W.ownsRow D 144 2 (.slice vA nf vc) nf (fs.flatMap cFu)) ∧ Hid (∀ f ∈ fs, FuO f W) ∧ Hid (W.heap[D]? = some (.deferred (some []))) ∧ Hid (W.ownsRow D2 146 2 u pre.length (ms.flatMap cMd)) ∧ Hid (∀ m ∈ ms, MdO m W)) (fun _ _ _ => False) (pre ++ [(xn, xr)]) W2 .normal a' (w8.setCell ⟨bO, 0, none⟩ (.bool b)) := by
              intro b hb a'
              have hS2 : BX [w.heap.size + 1, bO] we (w8.setCell ⟨bO, 0, none⟩ (.bool b)) := bx_set (.inl (by simp)) _ hS1
              have hnT1 := noT_blk kNe (show 58 ≠ 3 by decide) (noT_blk kOe (show 4 ≠ 3 by decide) (noT_nil we 3))
              have hnT2 := noT_blk kNe (show 58 ≠ 23 by decide) (noT_blk kOe (show 4 ≠ 23 by decide) (noT_nil we 23))
              have hnT3 := noT_blk kNe (show 58 ≠ 9 by decide) (noT_blk kOe (show 4 ≠ 9 by decide) (noT_nil we 9))
              have hnT4 := noT_blk kNe (show 58 ≠ 144 by decide) (noT_blk kOe (show 4 ≠ 144 by decide) (noT_nil we 144))
              have kN9 := kN8.other (p := ⟨bO, 0, none⟩) (show w.heap.size + 1 ≠ bO by omega) (.bool b)
              have kR9 := kR8.other (p := ⟨bO, 0, none⟩) (show w.heap.size ≠ bO by omega) (.bool b)
              have kO9 := kO8.set 0 (.bool b)
              have h9 := own_bx r4a.out hS2 (fun x hx => by simp at hx; omega)
              have hb9 := bx_below hb0e hS2 (fun x hx => by simp at hx; omega)
              have hK9 : (w8.setCell ⟨bO, 0, none⟩ (.bool b)).heap[D]? = some (.deferred (some [])) := (hS2.block D (Array.getElem?_eq_some_iff.1 hK1e.out).1 (by simp; omega)).trans hK1e.out
              generalize w8.setCell ⟨bO, 0, none⟩ (.bool b) = w9 at *
              refine ⟨hrWe.trans (RT.of_bx hS2 (fun z hz => .inl hz)), ms ++ [⟨baOf xn, ⟨A7, c7, rV⟩⟩], _, Lib.hid ?_, ⟨hb9, Nat.le_trans hsze hS2.size⟩, kR9, kN9, ?_, Lib.hid (own_keepT hope.out hS2 hnT3), Lib.hid (own_keepT hoe.out hS2 hnT4), Lib.hid (fun f hf => (hfoe.out f hf).keep hS2 hnT1 hnT2), Lib.hid hK9, Lib.hid ?_, Lib.hid ?_⟩
              · rw [List.map_append, List.map_append, h1.out]
                have : Md.con ⟨baOf xn, ⟨A7, c7, rV⟩⟩ = mdC (xn, xr) := by
                  unfold Md.con mdC
                  rw [← hrV.out]
                rw [List.map_singleton, List.map_singleton, this]
              · rw [hb]
                exact kO9
              · rw [List.length_append, List.flatMap_append]
                exact h9
              · intro q hq
                rcases List.mem_append.1 hq with hq | hq
                · exact (hmoe.out q hq).keep hS2 hnT1
                · obtain rfl := List.mem_singleton.1 hq
                  refine ⟨?_, hrw, own_keepT ho7e.out hS2 hnT1⟩
                  show xn.length ≤ maxLen
                  unfold maxLen
                  omega
            have LO8 := kO8.cell
            have FO8 := kO8.frozen
            have hS2 : ∀ b : Bool, BX [w.heap.size + 1, bO] we (w8.setCell ⟨bO, 0, none⟩ (.bool b)) := fun b => bx_set (.inl (by simp)) _ hS1
            apply PlanW.step
            · (simp only [gA, gB, gC] <;> rfl)
            · rfl
            intro K hK
            go_simp
            refine hK.out _ _ (hS2 _) (fun _ => ?_)
            clear hK K LO8 FO8
            try simp only [Act.put, List.setIfInBounds_toArray, List.set_cons_zero, List.set_cons_succ]
            refine PlanW.done (only_done ?_)
            gi_wp2
            have h := hall.out
            simp only [Bool.false_and, Bool.true_and, Bool.and_self, Bool.and_false] at h
            exact fin _ h _
      case done3 =>
        clear kR kN kO hb0 hop hit' ho hfo hK1
        rintro W ⟨ms, u, h1', ⟨hb0, hWD⟩, kR, kN, kO, hop, ho, hfo, hK1, hu, hmo⟩ hK2
        obtain ⟨uA, uc, rfl⟩ := own_slice hu.out
        have LN := kN.later
        have LO := kO.later
        obtain ⟨nm, hnm⟩ : ∃ n, Hid (LC.length = n) := ⟨_, rfl⟩
        rw [hnm.out] at hu kN LN
        obtain ⟨flag2, hfl2⟩ : ∃ b, Hid ((flag && LC.all mdOk) = b) := ⟨_, rfl⟩
        rw [hfl2.out] at kO LO
        go_upto_region 23 with fail
        have hbne : ¬ bO = w.heap.size := by omega
        refine wp_any (w0 := W) ⟨[2, 3], [1], [some 100, some 101, none, none], [[], [], [0], [0, 1, 2]], [[], [], [], []]⟩ (fun _ => [w.heap.size]) (by kernel_rfl) (by kernel_rfl) (by (exact zE)) (fun u => by simp only [putD, Act.put, List.setIfInBounds_toArray, List.set_cons_zero, List.set_cons_succ, Nat.zero_add, Nat.reduceAdd]; rfl) ?_
        apply RGW.on (i := 0) rfl
        · exact zG
        · intro γ u W hcur hd
          clear hd
          (try dsimp only)
          exact ⟨rfl, zS⟩
        · exact zC
        · rfl
        dsimp only [nA, cA]
        apply RGW.onL (i := 1) rfl
        · exact zG
        · intro γ u Wm W hcur hd hX
          clear hd
          (try dsimp only)
          have MkR := (Blk.below kR hcur).laterN _ _ hX
          have MkN := (Blk.below kN hcur).laterN _ _ hX
          have MkO := (Blk.below kO hcur).laterN _ _ hX
          exact ⟨rfl, zS⟩
        · exact zC
        dsimp only [nA, cA]
        refine RGW.skip (i := 2) rfl rfl ?_
        dsimp only [nA, cA]
        refine RGW.skip (i := 3) rfl rfl ?_
        dsimp only [nA, cA]
        refine RGW.fin (fun γ u wd hwd hd hdis => ?_)
        obtain ⟨⟨h0, -, -⟩, ⟨h1, -, -⟩, -⟩ := hd
        dsimp only at h0 h1
        clear hdis
        simp only [h0, h1]
        clear h1 h0
        clear u
        simp only [List.map_cons, List.map_nil]
        apply PlanW.step
        · exact zG
        · rfl
        intro K hK
        first
        | refine wp_store_keep (X := [w.heap.size]) (w0 := wd) rfl rfl rfl (by with_reducible first | exact bx_refl _ _ | assumption) (by with_reducible first | assumption | (apply Blk.below (hb := hwd); assumption)) (by simp) (by kernel_rfl) (by rfl) (by simp [Value.oneCell']) (fun hres1 hcur => ?_)
          refine hK.out _ _ hcur (fun _ => ?_)
        | go_simp
          refine hK.out _ _ (by (exact zX)) (fun hcur => ?_)
        | obtain ⟨u0, v0, z0⟩ := bx_cell0 hcur (Blk.below kR hwd) (by simp)
          go_simp
          refine hK.out _ _ (by (exact zX)) (fun hcur => ?_)
        | obtain ⟨u0, v0, z0⟩ := bx_cell0 hcur (Blk.below kN hwd) (by simp)
          go_simp
          refine hK.out _ _ (by (exact zX)) (fun hcur => ?_)
        | obtain ⟨u0, v0, z0⟩ := bx_cell0 hcur (Blk.below kO hwd) (by simp)
          go_simp
          refine hK.out _ _ (by (exact zX)) (fun hcur => ?_)
        clear hK K
        try simp only [Act.put, List.setIfInBounds_toArray, List.set_cons_zero, List.set_cons_succ]
        apply PlanW.step
        · exact zG
        · rfl
        intro K hK
        go_simp
        refine hK.out _ _ (by with_reducible first | assumption | exact bx_refl _ _) (fun hcur => ?_)
        clear hK K
        try simp only [Act.put, List.setIfInBounds_toArray, List.set_cons_zero, List.set_cons_succ]
        refine PlanW.done ?_
        have hb3 := bl_tt hwd
        go_wp2
        have kRd := kR.below hwd
        have hbd := bl_tr hb0 hwd
        have hS : BX [w.heap.size] wd (wd.setRow w.heap.size #[.slice pA np pc, .slice vA nf vc, .slice uA nm uc]) := bx_row (by simp) kRd rfl (bx_refl _ _)
        have kRz : Blk (wd.setRow w.heap.size #[.slice pA np pc, .slice vA nf vc, .slice uA nm uc]) w.heap.size 58 #[.slice pA np pc, .slice vA nf vc, .slice uA nm uc] := kRd.row _
        generalize wd.setRow w.heap.size #[.slice pA np pc, .slice vA nf vc, .slice uA nm uc] = Wz at *
        have hbz := bx_below hbd hS (by simp)
        have hnT1 := noT_blk kRd (show 58 ≠ 3 by decide) (noT_nil wd 3)
        have hnT2 := noT_blk kRd (show 58 ≠ 23 by decide) (noT_nil wd 23)
        have hopz := own_keepT (own_below hop.out hwd) hS (noT_blk kRd (show 58 ≠ 9 by decide) (noT_nil wd 9))
        have hoz := own_keepT (own_below ho.out hwd) hS (noT_blk kRd (show 58 ≠ 144 by decide) (noT_nil wd 144))
        have huz := own_keepT (own_below hu.out hwd) hS (noT_blk kRd (show 58 ≠ 146 by decide) (noT_nil wd 146))
        have hfz : ∀ f ∈ fs, FuO f Wz := fun f hf => ((hfo.out f hf).below hwd).keep hS hnT1 hnT2
        have hmz : ∀ f ∈ ms, MdO f Wz := fun f hf => ((hmo.out f hf).below hwd).keep hS hnT1
        have hkz : ∀ d, w.heap.size < d → W.heap[d]? = some (.deferred (some [])) → Wz.heap[d]? = some (.deferred (some [])) := fun d hd h => by
          have h2 := (hwd.block d (Array.getElem?_eq_some_iff.1 h).1).trans h
          exact (hS.block d (Array.getElem?_eq_some_iff.1 h2).1 (by simp; omega)).trans h2
        rw [hD2] at hK2
        have hK2z := hkz D2 (by omega) hK2
        have hK1z := hkz D (by omega) hK1.out
        have hK1y := (World.putObj_heap_other (w := Wz) (o := .deferred none) (show D ≠ D2 by omega)).trans hK1z
        have c1 := CK.put (D := D) (.deferred none) hK2z rfl (by omega)
        have c2' := CK.put (D := D) (.deferred none) hK1y rfl (Nat.le_refl _)
        obtain ⟨Wy, hWy⟩ : ∃ W, (Wz.putObj D2 (.deferred none)).putObj D (.deferred none) = W := ⟨_, rfl⟩
        have kRy := c2'.blk (c1.blk kRz)
        have hby := c2'.belowOf hDw (c1.belowOf hDw hbz)
        have hopy := CK.own (CK.own hopz c1) c2'
        have hoy := CK.own (CK.own hoz c1) c2'
        have huy := CK.own (CK.own huz c1) c2'
        have hfy : ∀ f ∈ fs, FuO f ((Wz.putObj D2 (.deferred none)).putObj D (.deferred none)) := fun f hf => ((hfz f hf).ck c1).ck c2'
        have hmy : ∀ f ∈ ms, MdO f ((Wz.putObj D2 (.deferred none)).putObj D (.deferred none)) := fun f hf => ((hmz f hf).ck c1).ck c2'
        have hfl : fs.length = nf := by
          have := congrArg List.length h1.out
          rw [List.length_map, List.length_map] at this
          rw [this]; exact hnf.out
        have hml : ms.length = nm := by
          have := congrArg List.length h1'.out
          rw [List.length_map, List.length_map] at this
          rw [this]; exact hnm.out
        have hcn : (⟨P.map baOf, fs, ms⟩ : Nt).cn = ntC x y z := by
          unfold Nt.cn ntC
          dsimp only
          rw [h1.out, h1'.out, hP.out, HLB.out, HLC.out]
        have hokE : ntOkS x y z = flag2 := by
          unfold ntOkS
          rw [← hfl2.out, ← hfl'.out, hP.out, HLB.out, HLC.out, c3_all]
        have hLBl : nf ≤ 1000 := by have := hF.out.fs; rw [HLB.out] at this; rw [← hnf.out]; exact this
        have hLCl : nm ≤ 1000 := by have := hF.out.ms; rw [HLC.out] at this; rw [← hnm.out]; exact this
        have hpm : (P.map baOf).length = np := by rw [List.length_map]; exact hpn.out
        have hPm : ∀ p ∈ P, p.length ≤ 50000 := fun p hp => by
          have h : p ∈ partsL x := by rw [hP.out]; exact hp
          unfold partsL at h
          split at h
          · simp at h
          · have := splitC_mem 44 x p h
            have := hF.out.la
            omega
        rw [hWy] at kRy hby hopy hoy huy hfy hmy
        have r0 := kRy.cell 0
        have r1 := kRy.cell 1
        have r2 := kRy.cell 2
        refine postM_taken2 hK2z hK1y (v := .tuple #[.agg #[.slice pA np pc, .slice vA nf vc, .slice uA nm uc], .bool flag2]) (by rw [hWy]; simp [results, Tryz.results82, go_sem, r0, r1, r2]) ?_
        rw [hWy]
        refine ⟨hby, fun h => absurd rfl h, fun x' y' z' e => ?_⟩
        injection e with e0 e
        injection e with e1 e
        injection e with e2 _
        subst e0 e1 e2
        refine ⟨⟨P.map baOf, fs, ms⟩, pA, vA, uA, pc, vc, uc, hcn, ⟨by dsimp only; rw [hpm, ← hpn.out]; exact hPl, by dsimp only; omega, by dsimp only; omega, ?_, ?_, ?_, ?_, hfy, hmy⟩, ?_⟩
        · have h := hopy
          rw [← strs_len, ← hpm] at h
          exact own_mono (Nat.zero_le _) h
        · have h := hoy
          rw [← hfl] at h
          exact own_mono (Nat.zero_le _) h
        · have h := huy
          rw [← hml] at h
          exact own_mono (Nat.zero_le _) h
        · intro s hs
          obtain ⟨p, hp, rfl⟩ := List.mem_map.1 hs
          have := hPm p hp
          show p.length ≤ maxLen
          unfold maxLen
          omega
        · dsimp only
          rw [hokE, hpm, hfl, hml]
end Go.Proofs.YtbdgblnccjpahaaGreatDoor
