/-
  How the laws' arguments read, continued: a net of whose rows the lengths are bounded by the machine alone.
  Plain: which frames are accepted, and the numbers that were lost before them.
  The map of the last numbers, as the fold over what was accepted.
  Walks: the remainder of bytes that is asked; the message of a frame.
  Walks: the error of a message, of bytes, the remainder, a frame and its message, by the reference.
  Walks: a frame, and the message of a frame, by the reference.
  Walks: the reference's accepted frames, and the numbers that were lost.
  Walk: the reference's lost numbers.
  Walks: the iterator of the accepted frames.
  Walks: the accepted frames' numbers.
  Walks: the accepted frames' numbers.
-/
import Derived.Test.YtbdgblnccjpahaaGreatDoorVBusOnce2
import Derived.Test.YtbdgblnccjpahaaGreatDoorUO3
import Derived.Test.YtbdgblnccjpahaaGreatDoorUO6
import Derived.Test.YtbdgblnccjpahaaGreatDoorVBusOnce1
import Derived.Test.YtbdgblnccjpahaaGreatDoorUO10
import Derived.Test.YtbdgblnccjpahaaGreatDoorUO5
import Derived.OwnWalkIn
set_option linter.unusedSimpArgs false
set_option linter.unusedVariables false
namespace Go.Proofs.YtbdgblnccjpahaaGreatDoor
open Go.ChangeShapes Go.WideShapes Go.ChangeAt Go.RowKit Go.Deep
set_option maxRecDepth 20000
section
variable {H : Type} {enc : TypeId × Value → H} {w : World} {base : Nat} {spare : Nat → Bool} {held : Bool} {fuel : Nat} {cs : List Value} {y : DataW H × List MemPlace}
def RwM (r : Rw) (w : World) : Prop := RwR r w ∧ r.l.length ≤ maxLen
def FuM (f : Fu) (w : World) : Prop := FuR f w ∧ ∀ r ∈ f.ws, r.l.length ≤ maxLen
def MdM (f : Md) (w : World) : Prop := MdR f w ∧ f.r.l.length ≤ maxLen
theorem rd_RwM (h : DataW.trod enc Tryz.prog w base spare held fuel 23 cs = some y) : ∃ r : Rw, cs = cRw r ∧ RwM r w := by
  obtain ⟨A, c, l, e, h1, h2, h3⟩ := rd_Is h
  exact ⟨⟨A, c, l⟩, e, ⟨h1, h3⟩, Nat.le_trans h1 h2⟩
theorem rd_RwsM (h : DataW.trod enc Tryz.prog w base spare held fuel 53 cs = some y) : ∃ A c, ∃ l : List Rw, cs = [.slice A l.length c] ∧ l.length ≤ c ∧ c ≤ maxLen ∧ Sl cRw 1 w A l ∧ ∀ r ∈ l, RwM r w :=
  rd_slice (c := cRw) (ok := fun r : Rw => RwM r w) Tryz.underlying53 cRw1 (by decide) (fun _ => rfl) (fun _ _ _ hz => rd_RwM hz) h
theorem rd_FuM (h : DataW.trod enc Tryz.prog w base spare held fuel 144 cs = some y) : ∃ f : Fu, cs = cFu f ∧ FuM f w := by
  obtain ⟨xs, n, -, -, hl, hlen, hf⟩ := DataW.trod_struct Tryz.underlying144 h
  rw [cFu2] at hl
  obtain ⟨c0, c1, rfl⟩ := len2 hl
  obtain ⟨x0, x1, rfl⟩ := len2 (show xs.length = 2 from hlen)
  have h0 := hf 0 _ rfl
  have h1 := hf 1 _ rfl
  simp [cTx1, cWs1] at h0 h1
  obtain ⟨s, e0, -, hs⟩ := DataW.trod_string Tryz.underlying9 h0
  obtain ⟨A, c, l, e1, g1, -, g3, g4⟩ := rd_RwsM h1
  simp at e0 e1
  exact ⟨⟨s, A, c, l⟩, by rw [e0, e1]; rfl, ⟨hs, g1, g3, fun r hr => (g4 r hr).1⟩, fun r hr => (g4 r hr).2⟩
theorem rd_MdM (h : DataW.trod enc Tryz.prog w base spare held fuel 146 cs = some y) : ∃ f : Md, cs = cMd f ∧ MdM f w := by
  obtain ⟨xs, n, -, -, hl, hlen, hf⟩ := DataW.trod_struct Tryz.underlying146 h
  rw [cMd2] at hl
  obtain ⟨c0, c1, rfl⟩ := len2 hl
  obtain ⟨x0, x1, rfl⟩ := len2 (show xs.length = 2 from hlen)
  have h0 := hf 0 _ rfl
  have h1 := hf 1 _ rfl
  simp [cTx1, cRw1] at h0 h1
  obtain ⟨s, e0, -, hs⟩ := DataW.trod_string Tryz.underlying9 h0
  obtain ⟨r, e1, hr⟩ := rd_RwM h1
  simp [cRw] at e0 e1
  exact ⟨⟨s, r⟩, by rw [e0, e1]; rfl, ⟨hs, hr.1⟩, hr.2⟩
theorem rd_FusM (h : DataW.trod enc Tryz.prog w base spare held fuel 55 cs = some y) : ∃ A c, ∃ l : List Fu, cs = [.slice A l.length c] ∧ l.length ≤ c ∧ c ≤ maxLen ∧ Sl cFu 2 w A l ∧ ∀ f ∈ l, FuM f w :=
  rd_slice (c := cFu) (ok := fun f : Fu => FuM f w) Tryz.underlying55 cFu2 (by decide) (fun _ => rfl) (fun _ _ _ hz => rd_FuM hz) h
theorem rd_MdsM (h : DataW.trod enc Tryz.prog w base spare held fuel 56 cs = some y) : ∃ A c, ∃ l : List Md, cs = [.slice A l.length c] ∧ l.length ≤ c ∧ c ≤ maxLen ∧ Sl cMd 2 w A l ∧ ∀ f ∈ l, MdM f w :=
  rd_slice (c := cMd) (ok := fun f : Md => MdM f w) Tryz.underlying56 cMd2 (by decide) (fun _ => rfl) (fun _ _ _ hz => rd_MdM hz) h
theorem rd_NtM (h : DataW.trod enc Tryz.prog w base spare held fuel 58 cs = some y) : ∃ (n : Nt) (Ap Af Am : Option Addr) (cp cf cm : Nat), cs = [.slice Ap n.ps.length cp, .slice Af n.fs.length cf, .slice Am n.ms.length cm] ∧ NtR n Ap Af Am cp cf cm w ∧ (∀ f ∈ n.fs, ∀ r ∈ f.ws, r.l.length ≤ maxLen) ∧ ∀ d ∈ n.ms, d.r.l.length ≤ maxLen := by
  obtain ⟨xs, n, -, -, hl, hlen, hf⟩ := DataW.trod_struct Tryz.underlying58 h
  rw [cNt3] at hl
  obtain ⟨c0, c1, c2, rfl⟩ := len3 hl
  obtain ⟨x0, x1, x2, rfl⟩ := len3 (show xs.length = 3 from hlen)
  have h0 := hf 0 _ rfl
  have h1 := hf 1 _ rfl
  have h2 := hf 2 _ rfl
  simp [cTs1, cFs1, cMm1] at h0 h1 h2
  obtain ⟨Ap, cp, ps, e0, a1, -, a3, a4⟩ := rd_Txs h0
  obtain ⟨Af, cf, fs, e1, b1, -, b3, b4⟩ := rd_FusM h1
  obtain ⟨Am, cm, ms, e2, d1, -, d3, d4⟩ := rd_MdsM h2
  simp at e0 e1 e2
  exact ⟨⟨ps, fs, ms⟩, Ap, Af, Am, cp, cf, cm, by rw [e0, e1, e2], ⟨a1, b1, d1, a3, b3, d3, a4, fun f hf => (b4 f hf).1, fun f hf => (d4 f hf).1⟩, fun f hf => (b4 f hf).2, fun f hf => (d4 f hf).2⟩
end
end Go.Proofs.YtbdgblnccjpahaaGreatDoor
namespace Go.Proofs.YtbdgblnccjpahaaGreatDoor
/-- An accepted frame: its index, its message, and the numbers that were lost before it. -/
structure Rc where
  at_ : Nat
  m : Ms
  lost : List Int
/-- The last accepted number of a source, or -1. -/
def lastN (out : List Rc) (src : Int) : Int := out.foldl (fun a r => if r.m.src = src then r.m.num else a) (-1)
def newN (a b : Int) : Int := (a - b + 256) % 256
def lostL (b : Int) : Nat → List Int
  | 0 => []
  | k + 1 => lostL b k ++ [(b + ((k : Int) + 1)) % 256]
def accNew (k : Nat) (m : Ms) (out : List Rc) : List Rc :=
  if lastN out m.src < 0 then [⟨k, m, []⟩]
  else if inR (newN m.num (lastN out m.src)) 1 127 then [⟨k, m, lostL (lastN out m.src) ((newN m.num (lastN out m.src)).toNat - 1)⟩] else []
def accAt (f : Fr) (k : Nat) (out : List Rc) : List Rc := if (decS f).2 = 0 then out ++ accNew k (decS f).1 out else out
def acK (l : List Fr) : Nat → List Rc
  | 0 => []
  | k + 1 => match l[k]? with
    | some f => accAt f k (acK l k)
    | none => acK l k
def acS (l : List Fr) : List Rc := acK l l.length
theorem acK_next {l : List Fr} {k : Nat} {f : Fr} (h : l[k]? = some f) : acK l (k + 1) = accAt f k (acK l k) := by rw [acK, h]
theorem lastN_app (out : List Rc) (r : Rc) (s : Int) : lastN (out ++ [r]) s = if r.m.src = s then r.m.num else lastN out s := by simp [lastN, List.foldl_append]
/-- What an accepted frame's message says of itself. -/
structure RcOk (r : Rc) : Prop where
  src : 0 ≤ r.m.src ∧ r.m.src ≤ 15
  num : 0 ≤ r.m.num ∧ r.m.num ≤ 255
theorem msE_ok {m : Ms} (h : msE m = 0) : (0 ≤ m.src ∧ m.src ≤ 15) ∧ 0 ≤ m.num ∧ m.num ≤ 255 := by
  obtain ⟨h1, -⟩ := (fst_cons _ _).1 h
  have h2 := (unl_zero (by decide)).1 h1
  rw [Bool.and_eq_true, Bool.and_eq_true] at h2
  exact ⟨inR_iff.1 h2.1.1, inR_iff.1 h2.2⟩
theorem dec_ok {f : Fr} (h : (decS f).2 = 0) : msE (decS f).1 = 0 := by
  unfold decS at h ⊢
  split at h
  · rename_i h0
    rw [if_pos h0]
    split at h
    · rename_i h1
      rw [if_pos h1]
      exact ((fst_cons _ _).1 ((fst_cons _ _).1 h1).2).1
    · rename_i h1
      exact absurd h h1
  · rename_i h0
    exact absurd h h0
theorem accNew_ok {k : Nat} {m : Ms} {out : List Rc} (hm : msE m = 0) : ∀ r ∈ accNew k m out, RcOk r ∧ r.at_ = k ∧ r.m = m := fun r hr => by
  obtain ⟨h1, h2⟩ := msE_ok hm
  unfold accNew at hr
  split at hr
  · have := List.mem_singleton.1 hr
    subst this
    exact ⟨⟨h1, h2⟩, rfl, rfl⟩
  · split at hr
    · have := List.mem_singleton.1 hr
      subst this
      exact ⟨⟨h1, h2⟩, rfl, rfl⟩
    · simp at hr
theorem acK_ok (l : List Fr) : ∀ k, ∀ r ∈ acK l k, RcOk r ∧ r.at_ < k ∧ ∃ f, l[r.at_]? = some f ∧ (decS f).2 = 0 ∧ (decS f).1 = r.m
  | 0, r, h => by simp [acK] at h
  | k + 1, r, h => by
    rw [acK] at h
    cases hf : l[k]? with
    | none =>
      rw [hf] at h
      have := acK_ok l k r h
      exact ⟨this.1, by omega, this.2.2⟩
    | some f =>
      rw [hf] at h
      simp only [accAt] at h
      split at h
      · rename_i h0
        rcases List.mem_append.1 h with h | h
        · have := acK_ok l k r h
          exact ⟨this.1, by omega, this.2.2⟩
        · obtain ⟨h1, h2, h3⟩ := accNew_ok (dec_ok h0) r h
          exact ⟨h1, by omega, f, by rw [h2]; exact hf, h0, h3.symm⟩
      · have := acK_ok l k r h
        exact ⟨this.1, by omega, this.2.2⟩
theorem acK_len (l : List Fr) : ∀ k, (acK l k).length ≤ k
  | 0 => Nat.le_refl 0
  | k + 1 => by
    have ih := acK_len l k
    rw [acK]
    cases hf : l[k]? with
    | none => simp only; omega
    | some f =>
      simp only [accAt]
      split
      · rw [List.length_append]
        have : (accNew k (decS f).1 (acK l k)).length ≤ 1 := by
          unfold accNew
          split
          · simp
          · split <;> simp
        omega
      · omega
def lostS (l : List Fr) (src : Int) : List Int := (acS l).flatMap fun r => if r.m.src = src then r.lost else []
end Go.Proofs.YtbdgblnccjpahaaGreatDoor
namespace Go.Proofs.YtbdgblnccjpahaaGreatDoor
open Go.RowKit Go.Shelf Go.MapKept Go.ChangeMaps Go.WideMaps
set_option maxRecDepth 20000
theorem lawI : Maps.Keyed Tryz.prog 3 := Maps.int_keyed Tryz.underlying3
def numD (out : List Rc) : DataW Unit := out.foldl (fun D r => D.put (.int .i64 r.m.src) (.lit (.int .i64 r.m.num))) (.map [])
theorem numD_snoc (out : List Rc) (r : Rc) : numD (out ++ [r]) = (numD out).put (.int .i64 r.m.src) (.lit (.int .i64 r.m.num)) := by simp [numD, List.foldl_append]
theorem numD_map (out : List Rc) : Maps.IsMap (numD out) := by
  unfold numD
  generalize hD : (DataW.map [] : DataW Unit) = D
  have h : Maps.IsMap D := hD ▸ Maps.isMap_empty
  clear hD
  induction out generalizing D with
  | nil => exact h
  | cons r out ih => exact ih _ (h.put _ _)
theorem isKeyI (s : Int) : WideAt.IsKeyLit (.int .i64 s) := trivial
theorem numD_says (out : List Rc) (hok : ∀ r ∈ out, RcOk r) (s : Int) :
    (Maps.has (numD out) (.int .i64 s) = decide (0 ≤ lastN out s)) ∧ ((numD out).atKey (.int .i64 s) (.lit (.int .i64 0)) = .lit (.int .i64 (if 0 ≤ lastN out s then lastN out s else 0))) := by
  rw [← List.reverse_reverse out] at hok ⊢
  generalize out.reverse = o at hok
  induction o with
  | nil => exact ⟨rfl, rfl⟩
  | cons r o ih =>
    have ih := ih (fun x hx => hok x (by simp at hx ⊢; exact .inl hx))
    rw [List.reverse_cons, numD_snoc, lastN_app]
    by_cases e : r.m.src = s
    · subst e
      rw [if_pos rfl]
      have hr := (hok r (by simp)).num
      exact ⟨by rw [Maps.has_put_same (numD_map _) (isKeyI _)]; exact (decide_eq_true hr.1).symm, by rw [if_pos hr.1]; exact Maps.atKey_put_same (numD_map _) (isKeyI _) _ _⟩
    · rw [if_neg e]
      have hne : Lit.int .i64 s ≠ Lit.int .i64 r.m.src := fun h => by injection h with _ h; exact e h.symm
      rw [Maps.has_put_other hne, Maps.atKey_put_other hne]
      exact ih
theorem wp_lookI {P : Program} {ops : Array Oper} {rest : List Oper} {o : Oper} {a : Act} {Q : Exit → Act → World → Prop} (w : World) (hg : o.guard = none) (m x : Operand) (t : TypeId) (hop : o.op = Op.lookup t m x true)
    (k e : TypeId) (q : IntKind) (K : Maps.Keyed P k) (ht : P.underlying t = some (.map k e)) (he : P.underlying e = some (.int q)) (hz : (zeroValue e).run P w = .ok (.int q 0) w) (b n : Nat) (D : DataW Unit)
    (hm : a.eval m = .map (some b)) (hown : w.ownsMap P k (plainElem P e) b n D) (key : Value) (kl : Lit) (hx : a.eval x = key) (hkey : keyOf P k key = some kl) (v0 : Int) (b0 : Bool)
    (hv0 : D.atKey kl (.lit (.int q 0)) = .lit (.int q v0)) (hb0 : Maps.has D kl = b0)
    (hK : wpList P ops Q rest (a.put o.dst (.tuple #[.int q v0, .bool b0])) w) : wpList P ops Q (o :: rest) a w :=
  wpList_lookup_own_ok_int w hg m x t hop k e q K ht he hz b n D hm hown key kl hx hkey (fun c h _ => by
    rw [hv0] at h
    injection h with h
    injection h with _ h
    subst h
    rw [hb0]
    exact hK)
end Go.Proofs.YtbdgblnccjpahaaGreatDoor
namespace Go.Proofs.YtbdgblnccjpahaaGreatDoor
open Go.RowKit Go.Shelf
attribute [local go_sem] bl_al bl_drew bl_drewN bl_refl bx_al bx_drew bx_drewN bx_refl
set_option maxRecDepth 20000
/-- The message of a frame, by the reference's order of errors. -/
theorem decS_bytes {f : Fr} (h : bytesE f.l ≠ 0) : decS f = (ms0, bytesE f.l) := by rw [decS, if_neg h]
theorem decS_bad {f : Fr} (h : bytesE f.l = 0) (h2 : fstE [unl (decide (f.a7 = (remI f.head : Int))) 19, msE f.ms] ≠ 0) : decS f = (ms0, fstE [unl (decide (f.a7 = (remI f.head : Int))) 19, msE f.ms]) := by rw [decS, if_pos h, if_neg h2]
theorem decS_ok {f : Fr} (h : bytesE f.l = 0) (h2 : fstE [unl (decide (f.a7 = (remI f.head : Int))) 19, msE f.ms] = 0) : decS f = (f.ms, 0) := by rw [decS, if_pos h, if_pos h2]
theorem head_bd {f : Fr} (h : bytesE f.l = 0) : ∀ n ∈ f.head, 0 ≤ n ∧ n ≤ 255 := fun n hn => bytes_ok h n (by
  simp only [Fr.head, Fr.l, List.mem_cons, List.not_mem_nil, or_false] at hn ⊢
  omega)
set_option maxHeartbeats 8000000 in
theorem c_Decoded (f : Fr) (w : World) : Calls Tryz.prog 30 #[vFr f] w (Ret (.tuple #[vMs (decS f).1, .int .i64 (decS f).2]) w) := by
  have hb1 := Lib.hid fun h => decS_bytes (f := f) h
  have hb2 := Lib.hid fun h h2 => decS_bad (f := f) h h2
  have hb3' := Lib.hid fun h h2 => decS_ok (f := f) h h2
  have hhd := Lib.hid fun h => head_bd (f := f) h
  obtain ⟨a0, a1, a2, a3, a4, a5, a6, a7⟩ := f
  dsimp only [Fr.l, Fr.head, Fr.ms] at hb1 hb2 hb3' hhd
  go_enter Tryz.func30, Tryz.ntmps30
  go_upto_region 1 with fail
  first
  | apply absB2 (w0 := w) (g0 := w.heap.size) (g1 := w.heap.size + 1)
  | apply absTB2 (w0 := w) (g0 := w.heap.size) (g1 := w.heap.size + 1)
  | apply absIB2 (w0 := w) (g0 := w.heap.size) (g1 := w.heap.size + 1)
  iterate 3 (focus exact zL)
  try clear hb3
  try clear hb0
  try clear k0
  try clear k1
  intro wa hb0 k0 k1
  (try simp only [List.setIfInBounds_toArray, List.set_cons_zero, List.set_cons_succ] at k0 k1)
  have hcb : Hid (Calls Tryz.prog 80 #[.slice (some ⟨w.heap.size, 0, none⟩) 8 8] wa (Ret (.int .i64 (bytesE [a0, a1, a2, a3, a4, a5, a6, a7])) wa)) := c_bytesErr [a0, a1, a2, a3, a4, a5, a6, a7] (some ⟨w.heap.size, 0, none⟩) 8 wa (by simp) (k0.sub (l := [a0, a1, a2, a3, a4, a5, a6, a7]) (fun k x hx => by match k, hx with | 0, hx | 1, hx | 2, hx | 3, hx | 4, hx | 5, hx | 6, hx | 7, hx => simpa using hx))
  go_wp2_with fail
  refine hcb.out.mono ?_
  rintro e wb ⟨rfl, hb3⟩
  replace hb0 := bl_tr hb0 hb3
  replace k0 := k0.below hb3
  replace k1 := k1.below hb3
  clear hb3 hcb
  generalize hBE : bytesE [a0, a1, a2, a3, a4, a5, a6, a7] = B at *
  clear hBE
  by_cases h0 : B = 0
  rotate_left
  · have h0' : (B != 0) = true := by simp [h0]
    have hs := Lib.hid (hb1.out h0)
    replace h0 := Lib.hid h0
    clear hb1 hb2 hb3' hhd
    have L1 := k1.cell
    have F1 := k1.frozen
    go_wp2
    first
    | apply absPB2 (w0 := w) (g0 := w.heap.size) (g1 := w.heap.size + 1)
    | apply absPMB2 (w0 := w) (g0 := w.heap.size) (g1 := w.heap.size + 1)
    iterate 3 (focus exact zL)
    try clear hb3
    try clear hb0
    try clear k0
    try clear k1
    intro wz hb0 k0 k1
    (try simp only [List.setIfInBounds_toArray, List.set_cons_zero, List.set_cons_succ] at k0 k1)
    have hr := k1.cell
    exact bodyPost_ret (v := .tuple #[vMs ms0, .int .i64 B]) (by simp [results, Tryz.results30, go_sem, hr, ms0]) rfl ⟨by rw [hs.out] <;> rfl, hb0⟩
  have h0' : (B != 0) = false := by simp [h0]
  replace hb2 := Lib.hid (hb2.out h0)
  replace hb3' := Lib.hid (hb3'.out h0)
  replace hhd := Lib.hid (hhd.out h0)
  clear hb1
  replace h0 := Lib.hid h0
  have L0 := k0.cell
  have hat : ∀ W : World, (Instr.arrayAt 50 (.slice (some ⟨w.heap.size, 3, none⟩) 4 5)).run Tryz.prog W = .ok (.pointer (some ⟨w.heap.size, 3, none⟩)) W := fun W => by simp [Instr.arrayAt, run_underlying (Tryz.underlying50)]
  have hq0 := hb0.size
  have hq4 := k0.lt
  have hq5 := k1.lt
  go_upto_region 5 with fail
  first
  | apply absB3 (w0 := w) (g0 := w.heap.size) (g1 := w.heap.size + 1) (g2 := wb.heap.size)
  | apply absTB3 (w0 := w) (g0 := w.heap.size) (g1 := w.heap.size + 1) (g2 := wb.heap.size)
  | apply absIB3 (w0 := w) (g0 := w.heap.size) (g1 := w.heap.size + 1) (g2 := wb.heap.size)
  iterate 4 (focus exact zL)
  try clear hb3
  try clear hb0
  try clear k0
  try clear k1
  try clear k2
  intro wc hb0 k0 k1 k2
  (try simp only [List.setIfInBounds_toArray, List.set_cons_zero, List.set_cons_succ] at k0 k1 k2)
  clear L0
  have L0 := k0.cell
  have L2 := k2.cell
  have F2 := k2.frozen
  have hq1 := hb0.size
  have hq2 := k1.lt
  have hq3 := k2.lt
  go_upto_region 6 with fail
  first
  | apply absB3 (w0 := w) (g0 := w.heap.size) (g1 := w.heap.size + 1) (g2 := wb.heap.size)
  | apply absTB3 (w0 := w) (g0 := w.heap.size) (g1 := w.heap.size + 1) (g2 := wb.heap.size)
  | apply absIB3 (w0 := w) (g0 := w.heap.size) (g1 := w.heap.size + 1) (g2 := wb.heap.size)
  iterate 4 (focus exact zL)
  try clear hb3
  try clear hb0
  try clear k0
  try clear k1
  try clear k2
  intro wd hb0 k0 k1 k2
  (try simp only [List.setIfInBounds_toArray, List.set_cons_zero, List.set_cons_succ] at k0 k1 k2)
  have Lk0 := k0.later
  have Fk0 := k0.laterF
  have Qk0 := k0.lt
  have Lk1 := k1.later
  have Fk1 := k1.laterF
  have Qk1 := k1.lt
  have Lk2 := k2.later
  have Fk2 := k2.laterF
  have Qk2 := k2.lt
  clear L0 L2 F2
  have hrm : Hid (∀ W : World, Below wd.heap.size wd W → Calls Tryz.prog 78 #[.slice (some ⟨w.heap.size, 0, none⟩) 7 8] W (Same (.int .i64 (remI [a0, a1, a2, a3, a4, a5, a6] : Nat)) W)) := fun W hb =>
    c_remainder [a0, a1, a2, a3, a4, a5, a6] (some ⟨w.heap.size, 0, none⟩) 8 W (by simp) hhd.out ((k0.sub (l := [a0, a1, a2, a3, a4, a5, a6]) (fun k x hx => by match k, hx with | 0, hx | 1, hx | 2, hx | 3, hx | 4, hx | 5, hx | 6, hx => simpa using hx)).below hb)
  have hcm := Lib.hid fun W : World => c_CheckMessage ⟨a0, a1, a2, a3, a4, a5, a6⟩ W
  refine wp_any (w0 := wd) ⟨[], [], [some 24, some 25, some 26, some 27, some 28, some 29, some 30, some 31, some 32, some 33, some 6], [[], [0], [], [2], [0, 1, 2, 3], [0, 1, 2, 3, 4], [], [0, 1, 2, 3, 4, 5, 6], [0, 1, 2, 3, 4, 5, 6, 7], [0, 1, 2, 3, 4, 5, 6, 7, 8], [0, 1, 2, 3, 4, 5, 6, 7, 8, 9]], [[], [0], [], [2], [1, 3], [4], [], [6], [5, 7], [8], [8, 9]]⟩ (fun _ => []) (by kernel_rfl) (by kernel_rfl) (by (exact zE)) (fun u => by simp only [putD, Act.put, List.setIfInBounds_toArray, List.set_cons_zero, List.set_cons_succ, Nat.zero_add, Nat.reduceAdd]; rfl) ?_
  apply RGW.on (i := 0) rfl
  · exact zG
  · intro γ u W hcur hd
    clear hd
    (try dsimp only)
    exact ⟨rfl, zS⟩
  · exact zC
  · rfl
  dsimp only [nA, cA]
  apply RGW.on (i := 1) rfl
  · exact zG
  · intro γ u W hcur hd
    obtain ⟨⟨h0, -, -⟩, -⟩ := hd
    dsimp only at h0
    (try simp only [h0])
    exact ⟨rfl, zS⟩
  · exact zC
  · rfl
  dsimp only [nA, cA]
  apply RGW.on (i := 2) rfl
  · exact zG
  · intro γ u W hcur hd
    clear hd
    (try dsimp only)
    exact ⟨rfl, zS⟩
  · exact zC
  · rfl
  dsimp only [nA, cA]
  apply RGW.call (i := 3) rfl
  · exact zG
  · intro γ u W hcur hd
    obtain ⟨⟨h2, -, -⟩, -⟩ := hd
    dsimp only at h2
    (try simp only [h2])
    refine ⟨rfl, fun K hK => ?_⟩
    go_simp
    first
    | (go_at_call 78; (with_reducible refine (hrm.out _ (by (exact zE))).mono ?_); rintro e w3 ⟨rfl, rfl⟩)
    | (go_at_call 58; (with_reducible refine (c_unless _ _ _).mono ?_); rintro e w3 ⟨rfl, rfl⟩)
    | (go_at_call 77; (with_reducible refine (hcm.out _).mono ?_); rintro e w3 ⟨rfl, hb3⟩; replace hb3 := bl_tt hb3)
    | (go_at_call 74; (with_reducible refine (c_first2 (by (exact zK))).mono ?_); rintro e w3 ⟨rfl, rfl⟩)
    (try dsimp only)
    exact hK.out _ _ rfl (by (exact zE))
  · exact zC
  · rfl
  dsimp only [nA, cA]
  apply RGW.on (i := 4) rfl
  · exact zG
  · intro γ u W hcur hd
    obtain ⟨⟨h1, -, -⟩, ⟨h3, -, -⟩, -⟩ := hd
    dsimp only at h1 h3
    (try simp only [h1, h3])
    exact ⟨rfl, zS⟩
  · exact zC
  · rfl
  dsimp only [nA, cA]
  apply RGW.call (i := 5) rfl
  · exact zG
  · intro γ u W hcur hd
    obtain ⟨⟨h4, -, -⟩, -⟩ := hd
    dsimp only at h4
    (try simp only [h4])
    refine ⟨rfl, fun K hK => ?_⟩
    go_simp
    first
    | (go_at_call 78; (with_reducible refine (hrm.out _ (by (exact zE))).mono ?_); rintro e w3 ⟨rfl, rfl⟩)
    | (go_at_call 58; (with_reducible refine (c_unless _ _ _).mono ?_); rintro e w3 ⟨rfl, rfl⟩)
    | (go_at_call 77; (with_reducible refine (hcm.out _).mono ?_); rintro e w3 ⟨rfl, hb3⟩; replace hb3 := bl_tt hb3)
    | (go_at_call 74; (with_reducible refine (c_first2 (by (exact zK))).mono ?_); rintro e w3 ⟨rfl, rfl⟩)
    (try dsimp only)
    exact hK.out _ _ rfl (by (exact zE))
  · exact zC
  · rfl
  dsimp only [nA, cA]
  apply RGW.on (i := 6) rfl
  · exact zG
  · intro γ u W hcur hd
    clear hd
    (try dsimp only)
    exact ⟨rfl, zS⟩
  · exact zC
  · rfl
  dsimp only [nA, cA]
  apply RGW.call (i := 7) rfl
  · exact zG
  · intro γ u W hcur hd
    obtain ⟨⟨h6, -, -⟩, -⟩ := hd
    dsimp only at h6
    (try simp only [h6])
    refine ⟨rfl, fun K hK => ?_⟩
    go_simp
    first
    | (go_at_call 78; (with_reducible refine (hrm.out _ (by (exact zE))).mono ?_); rintro e w3 ⟨rfl, rfl⟩)
    | (go_at_call 58; (with_reducible refine (c_unless _ _ _).mono ?_); rintro e w3 ⟨rfl, rfl⟩)
    | (go_at_call 77; (with_reducible refine (hcm.out _).mono ?_); rintro e w3 ⟨rfl, hb3⟩; replace hb3 := bl_tt hb3)
    | (go_at_call 74; (with_reducible refine (c_first2 (by (exact zK))).mono ?_); rintro e w3 ⟨rfl, rfl⟩)
    (try dsimp only)
    exact hK.out _ _ rfl (by (exact zE))
  · exact zC
  · rfl
  dsimp only [nA, cA]
  apply RGW.bslice (i := 8) rfl
  · exact zG
  · intro γ u W hcur hd
    obtain ⟨⟨h5, -, -⟩, ⟨h7, -, -⟩, -⟩ := hd
    dsimp only at h5 h7
    (try simp only [h5, h7])
    refine ⟨rfl, fun K hK => ?_⟩
    go_simp
    exact hK.out _ _ rfl rfl
  · exact zC
  · rfl
  · rfl
  dsimp only [nA, cA]
  apply RGW.call (i := 9) rfl
  · exact zG
  · intro γ u W hcur hd
    obtain ⟨⟨h8, r8, -⟩, -⟩ := hd
    dsimp only at h8 r8
    have L8 := r8.cell
    (try simp only [h8])
    refine ⟨rfl, fun K hK => ?_⟩
    go_simp
    first
    | (go_at_call 78; (with_reducible refine (hrm.out _ (by (exact zE))).mono ?_); rintro e w3 ⟨rfl, rfl⟩)
    | (go_at_call 58; (with_reducible refine (c_unless _ _ _).mono ?_); rintro e w3 ⟨rfl, rfl⟩)
    | (go_at_call 77; (with_reducible refine (hcm.out _).mono ?_); rintro e w3 ⟨rfl, hb3⟩; replace hb3 := bl_tt hb3)
    | (go_at_call 74; (with_reducible refine (c_first2 (by (exact zK))).mono ?_); rintro e w3 ⟨rfl, rfl⟩)
    (try dsimp only)
    exact hK.out _ _ rfl (by (exact zE))
  · first
    | exact zC
    | intro γ γ' hg
      try dsimp only
      have e8 := hg 8 (by decide)
      simp only [e8]
  · rfl
  dsimp only [nA, cA]
  apply RGW.on (i := 10) rfl
  · exact zG
  · intro γ u W hcur hd
    obtain ⟨⟨h8, r8, -⟩, ⟨h9, -, -⟩, -⟩ := hd
    dsimp only at h8 h9 r8
    have L8 := r8.cell
    (try simp only [h8, h9])
    exact ⟨rfl, zS⟩
  · first
    | exact zC
    | intro γ γ' hg
      try dsimp only
      have e8 := hg 8 (by decide)
      simp only [e8]
  · rfl
  dsimp only [nA, cA]
  refine RGW.fin (fun γ u we hwe hd hdis => ?_)
  obtain ⟨⟨h0, -, -⟩, ⟨h1, -, -⟩, ⟨h2, -, -⟩, ⟨h3, -, -⟩, ⟨h4, -, -⟩, ⟨h5, -, -⟩, ⟨h6, -, -⟩, ⟨h7, -, -⟩, ⟨h8, r8, b8⟩, ⟨h9, -, -⟩, ⟨h10, -, -⟩, -⟩ := hd
  dsimp only at h0 h1 h2 h3 h4 h5 h6 h7 h8 h9 h10 r8 b8
  clear hdis
  simp only [h0, h1, h2, h3, h4, h5, h6, h7, h8, h9, h10]
  clear h10 h9 h8 h7 h6 h5 h4 h3 h2 h1 h0
  replace b8 := b8 _ (List.mem_singleton.2 rfl)
  generalize hγ8 : (γ 8).n = g8 at *
  clear hγ8
  clear u
  simp only [List.map_nil]
  refine PlanW.done ?_
  have hb3 := bl_tt hwe
  have hbe := hb3 _ hb0
  replace k1 := k1.below hwe
  replace k2 := k2.below hwe
  clear Lk0 Lk1 Lk2 Fk0 Fk1 Fk2 k0 hb0 hb3 hrm hcm hwe
  replace hb2 : Hid (fstE [unl (a7 == ((remI [a0, a1, a2, a3, a4, a5, a6] : Nat) : Int)) 19, msE ⟨a0, a1, a2, a3, a4, a5, a6⟩] ≠ 0 → decS ⟨a0, a1, a2, a3, a4, a5, a6, a7⟩ = (ms0, fstE [unl (a7 == ((remI [a0, a1, a2, a3, a4, a5, a6] : Nat) : Int)) 19, msE ⟨a0, a1, a2, a3, a4, a5, a6⟩])) := hb2
  replace hb3' : Hid (fstE [unl (a7 == ((remI [a0, a1, a2, a3, a4, a5, a6] : Nat) : Int)) 19, msE ⟨a0, a1, a2, a3, a4, a5, a6⟩] = 0 → decS ⟨a0, a1, a2, a3, a4, a5, a6, a7⟩ = (⟨a0, a1, a2, a3, a4, a5, a6⟩, 0)) := hb3'
  obtain ⟨E, hE⟩ : ∃ E, fstE [unl (a7 == ((remI [a0, a1, a2, a3, a4, a5, a6] : Nat) : Int)) 19, msE ⟨a0, a1, a2, a3, a4, a5, a6⟩] = E := ⟨_, rfl⟩
  rw [hE] at hb2 hb3' ⊢
  clear hE h0' hhd
  have hb0 := hbe
  have L1 := k1.cell
  have F1 := k1.frozen
  by_cases hE0 : E = 0
  · have hE' : (E != 0) = false := by simp [hE0]
    have hs := Lib.hid (hb3'.out hE0)
    replace hE0 := Lib.hid hE0
    have L2 := k2.cell
    clear hb2 hb3'
    go_wp2
    first
    | apply absPB1 (w0 := w) (g0 := w.heap.size + 1)
    | apply absPMB1 (w0 := w) (g0 := w.heap.size + 1)
    iterate 2 (focus exact zL)
    try clear hb3
    try clear hb0
    try clear k1
    intro wz hb0 k1
    (try simp only [List.setIfInBounds_toArray, List.set_cons_zero, List.set_cons_succ] at k1)
    have hr := k1.cell
    exact bodyPost_ret (v := .tuple #[vMs ⟨a0, a1, a2, a3, a4, a5, a6⟩, .int .i64 0]) (by simp [results, Tryz.results30, go_sem, hr]) rfl ⟨by rw [hs.out] <;> rfl, hb0⟩
  · have hE' : (E != 0) = true := by simp [hE0]
    have hs := Lib.hid (hb2.out hE0)
    replace hE0 := Lib.hid hE0
    clear hb2 hb3'
    go_wp2
    first
    | apply absPB1 (w0 := w) (g0 := w.heap.size + 1)
    | apply absPMB1 (w0 := w) (g0 := w.heap.size + 1)
    iterate 2 (focus exact zL)
    try clear hb3
    try clear hb0
    try clear k1
    intro wz hb0 k1
    (try simp only [List.setIfInBounds_toArray, List.set_cons_zero, List.set_cons_succ] at k1)
    have hr := k1.cell
    exact bodyPost_ret (v := .tuple #[vMs ms0, .int .i64 E]) (by simp [results, Tryz.results30, go_sem, hr, ms0]) rfl ⟨by rw [hs.out] <;> rfl, hb0⟩
end Go.Proofs.YtbdgblnccjpahaaGreatDoor
namespace Go.Proofs.YtbdgblnccjpahaaGreatDoor
open Go.RowKit Go.Shelf
attribute [local go_sem] bl_al bl_drew bl_drewN bl_refl bx_al bx_drew bx_drewN bx_refl
set_option maxRecDepth 20000
theorem r_IsByte (n : Int) (w : World) : Calls Tryz.prog 76 #[.int .i64 n] w (Same (.bool (byteB n)) w) := by
  go_enter Tryz.func76, Tryz.ntmps76
  go_wp2_with (go_at_call 12; (with_reducible refine (r_Within _ _ _ _).mono ?_); rintro e w3 ⟨rfl, rfl⟩)
  go_ret
  exact ⟨rfl, rfl⟩
theorem bytesE_cons (x : Int) (l : List Int) : bytesE (x :: l) = if byteB x then bytesE l else 2 := by
  have h : ∀ (l : List Int) (k j : Nat), (eachS (fun _ n => unl (byteB n) 2) l k).2 = (eachS (fun _ n => unl (byteB n) 2) l j).2 := by
    intro l
    induction l with
    | nil => intro k j; rfl
    | cons y l ih =>
      intro k j
      unfold eachS
      cases byteB y <;> simp [unl]
      exact ih _ _
  unfold bytesE
  rw [eachS]
  cases byteB x <;> simp [unl]
  exact h l _ _
theorem bytesE_nil : bytesE [] = 0 := rfl
/-- The error of a message, test by test. -/
theorem msE_eq (m : Ms) : msE m = if inR m.src 0 15 && inR m.kind 0 3 && byteB m.num then bytesE [m.d0, m.d1, m.d2, m.d3] else 2 := by
  unfold msE fstE unl
  cases inR m.src 0 15 && inR m.kind 0 3 && byteB m.num <;> simp [fstE]
  intro h
  exact h.symm
set_option maxHeartbeats 8000000 in
theorem r_MessageErr (m : Ms) (w : World) : Calls Tryz.prog 24 #[vMs m] w (Ret (.int .i64 (msE m)) w) := by
  have he := msE_eq m
  rw [bytesE_cons, bytesE_cons, bytesE_cons, bytesE_cons, bytesE_nil] at he
  obtain ⟨s, n, kd, a, b, c, d⟩ := m
  dsimp only at he
  obtain ⟨bs, hs⟩ : ∃ b', inR s 0 15 = b' := ⟨_, rfl⟩
  have cs := Lib.hid fun W : World => hs ▸ r_Within s 0 15 W
  rw [hs] at he
  clear hs
  obtain ⟨bk, hk⟩ : ∃ b', inR kd 0 3 = b' := ⟨_, rfl⟩
  have ck := Lib.hid fun W : World => hk ▸ r_Within kd 0 3 W
  rw [hk] at he
  clear hk
  obtain ⟨bn, hn⟩ : ∃ b', byteB n = b' := ⟨_, rfl⟩
  have cn := Lib.hid fun W : World => hn ▸ r_IsByte n W
  rw [hn] at he
  clear hn
  obtain ⟨ba, ha⟩ : ∃ b', byteB a = b' := ⟨_, rfl⟩
  have ca := Lib.hid fun W : World => ha ▸ r_IsByte a W
  rw [ha] at he
  clear ha
  obtain ⟨bb, hb⟩ : ∃ b', byteB b = b' := ⟨_, rfl⟩
  have cb := Lib.hid fun W : World => hb ▸ r_IsByte b W
  rw [hb] at he
  clear hb
  obtain ⟨bc, hc⟩ : ∃ b', byteB c = b' := ⟨_, rfl⟩
  have cc := Lib.hid fun W : World => hc ▸ r_IsByte c W
  rw [hc] at he
  clear hc
  obtain ⟨bd, hd⟩ : ∃ b', byteB d = b' := ⟨_, rfl⟩
  have cd := Lib.hid fun W : World => hd ▸ r_IsByte d W
  rw [hd] at he
  clear hd
  go_enter Tryz.func24, Tryz.ntmps24
  go_upto_region 1 with fail
  first
  | apply absB1 (w0 := w) (g0 := w.heap.size)
  | apply absTB1 (w0 := w) (g0 := w.heap.size)
  | apply absIB1 (w0 := w) (g0 := w.heap.size)
  iterate 2 (focus exact zL)
  try clear hb3
  try clear hb0
  try clear k0
  intro wa hb0 k0
  (try simp only [List.setIfInBounds_toArray, List.set_cons_zero, List.set_cons_succ] at k0)
  have L0 := k0.cell
  cases bs
  · go_wp2_with (go_at_call 12; (first | (with_reducible refine (cs.out _).mono ?_) | (with_reducible refine (ck.out _).mono ?_)); rintro e w3 ⟨rfl, rfl⟩)
    go_ret
    exact ⟨by rw [he] <;> rfl, hb0⟩
  cases bk
  · go_wp2_with (go_at_call 12; (first | (with_reducible refine (cs.out _).mono ?_) | (with_reducible refine (ck.out _).mono ?_)); rintro e w3 ⟨rfl, rfl⟩)
    go_ret
    exact ⟨by rw [he] <;> rfl, hb0⟩
  cases bn
  · go_wp2_with (first | (go_at_call 12; (first | (with_reducible refine (cs.out _).mono ?_) | (with_reducible refine (ck.out _).mono ?_)); rintro e w3 ⟨rfl, rfl⟩) | (go_at_call 76; (with_reducible refine (cn.out _).mono ?_); rintro e w3 ⟨rfl, rfl⟩))
    go_ret
    exact ⟨by rw [he] <;> rfl, hb0⟩
  go_upto_region 3 with (first | (go_at_call 12; (first | (with_reducible refine (cs.out _).mono ?_) | (with_reducible refine (ck.out _).mono ?_)); rintro e w3 ⟨rfl, rfl⟩) | (go_at_call 76; (with_reducible refine (cn.out _).mono ?_); rintro e w3 ⟨rfl, rfl⟩))
  clear cs ck cn
  go_wp2
  refine wp_loop_rounds 5 ?_
  rw [rounds_succ]
  cases ba
  · go_wp2_with (go_at_call 76; (first | (with_reducible refine (ca.out _).mono ?_) | (with_reducible refine (cb.out _).mono ?_) | (with_reducible refine (cc.out _).mono ?_) | (with_reducible refine (cd.out _).mono ?_)); rintro e w3 ⟨rfl, rfl⟩)
    go_ret
    exact ⟨by rw [he] <;> rfl, hb0⟩
  go_wp2_with (go_at_call 76; (first | (with_reducible refine (ca.out _).mono ?_) | (with_reducible refine (cb.out _).mono ?_) | (with_reducible refine (cc.out _).mono ?_) | (with_reducible refine (cd.out _).mono ?_)); rintro e w3 ⟨rfl, rfl⟩)
  rw [rounds_succ]
  cases bb
  · go_wp2_with (go_at_call 76; (first | (with_reducible refine (ca.out _).mono ?_) | (with_reducible refine (cb.out _).mono ?_) | (with_reducible refine (cc.out _).mono ?_) | (with_reducible refine (cd.out _).mono ?_)); rintro e w3 ⟨rfl, rfl⟩)
    go_ret
    exact ⟨by rw [he] <;> rfl, hb0⟩
  go_wp2_with (go_at_call 76; (first | (with_reducible refine (ca.out _).mono ?_) | (with_reducible refine (cb.out _).mono ?_) | (with_reducible refine (cc.out _).mono ?_) | (with_reducible refine (cd.out _).mono ?_)); rintro e w3 ⟨rfl, rfl⟩)
  rw [rounds_succ]
  cases bc
  · go_wp2_with (go_at_call 76; (first | (with_reducible refine (ca.out _).mono ?_) | (with_reducible refine (cb.out _).mono ?_) | (with_reducible refine (cc.out _).mono ?_) | (with_reducible refine (cd.out _).mono ?_)); rintro e w3 ⟨rfl, rfl⟩)
    go_ret
    exact ⟨by rw [he] <;> rfl, hb0⟩
  go_wp2_with (go_at_call 76; (first | (with_reducible refine (ca.out _).mono ?_) | (with_reducible refine (cb.out _).mono ?_) | (with_reducible refine (cc.out _).mono ?_) | (with_reducible refine (cd.out _).mono ?_)); rintro e w3 ⟨rfl, rfl⟩)
  rw [rounds_succ]
  cases bd
  · go_wp2_with (go_at_call 76; (first | (with_reducible refine (ca.out _).mono ?_) | (with_reducible refine (cb.out _).mono ?_) | (with_reducible refine (cc.out _).mono ?_) | (with_reducible refine (cd.out _).mono ?_)); rintro e w3 ⟨rfl, rfl⟩)
    go_ret
    exact ⟨by rw [he] <;> rfl, hb0⟩
  go_wp2_with (go_at_call 76; (first | (with_reducible refine (ca.out _).mono ?_) | (with_reducible refine (cb.out _).mono ?_) | (with_reducible refine (cc.out _).mono ?_) | (with_reducible refine (cd.out _).mono ?_)); rintro e w3 ⟨rfl, rfl⟩)
  rw [rounds_succ]
  go_wp2
  go_ret
  exact ⟨by rw [he] <;> rfl, hb0⟩
end Go.Proofs.YtbdgblnccjpahaaGreatDoor
namespace Go.Proofs.YtbdgblnccjpahaaGreatDoor
open Go.RowKit Go.Shelf
attribute [local go_sem] bl_al bl_drew bl_drewN bl_refl bx_al bx_drew bx_drewN bx_refl
set_option maxRecDepth 20000
end Go.Proofs.YtbdgblnccjpahaaGreatDoor
namespace Go.Proofs.YtbdgblnccjpahaaGreatDoor
open Go.RowKit Go.Shelf
attribute [local go_sem] bl_al bl_drew bl_drewN bl_refl bx_al bx_drew bx_drewN bx_refl
set_option maxRecDepth 20000
theorem infoFr : (Tryz.prog.info? 62).map (fun i => (i.zero, i.size, i.bytes)) = some (some (.agg #[.int .i64 0, .int .i64 0, .int .i64 0, .int .i64 0, .int .i64 0, .int .i64 0, .int .i64 0, .int .i64 0]), 8, 64) := by kernel_rfl
set_option maxHeartbeats 2000000 in
theorem r_CopyFrames (l : List Fr) (A : Option Addr) (c : Nat) (w : World) (hs : Sl cFr 8 w A l) (hl : l.length ≤ 1000) :
    Calls Tryz.prog 28 #[.slice A l.length c] w (fun e w' => ∃ A2 c2, e = .returned (.slice A2 l.length c2) ∧ Below w.heap.size w w' ∧ Sl cFr 8 w' A2 l ∧ l.length ≤ c2) := by
  obtain ⟨i0, hi, hz0, hz1, hz2⟩ := info_parts infoFr
  have Hs := Lib.hid hs
  clear hs
  go_enter Tryz.func28, Tryz.ntmps28
  go_wp2_with (at_builtin; refine wpList_plain rfl fun _ hK => wp_copy (cs := cFr) (l := l) (A := A) (c := c) (g := w.heap.size) _ _ rfl Tryz.underlying60 hi hz0 hz1 hz2 rfl (by decide) (fun _ => rfl) (fun x u hu => by obtain ⟨y, -, rfl⟩ := List.mem_map.1 hu; rfl) rfl rfl (Hs.out.below (bl_al _ (bl_refl _))) hl (by decide) (Blk.new w _ _) (fun A2 c2 w' ho hb => hK _ _ ?_))
  have hb2 : Below w.heap.size w w' := bl_tr (bl_al _ (bl_refl w)) hb
  replace ho := Lib.hid ho
  clear hb
  go_wp2
  go_ret
  refine ⟨A2, c2, rfl, hb2, own_slC (cs := cFr) (fun _ => rfl) (by decide) ho.out, ?_⟩
  rcases ho.out.2 with ⟨e, h⟩ | ⟨_, _, _, e, _, _, h, _⟩
  · omega
  · injection e with _ _ e
    omega
def atI (r : Rc) : Int := (r.at_ : Int)
theorem lastN_bd {out : List Rc} (h : ∀ r ∈ out, RcOk r) (s : Int) : -1 ≤ lastN out s ∧ lastN out s ≤ 255 := by
  have key : ∀ (out : List Rc) (a : Int), (∀ r ∈ out, RcOk r) → -1 ≤ a ∧ a ≤ 255 → -1 ≤ out.foldl (fun a r => if r.m.src = s then r.m.num else a) a ∧ out.foldl (fun a r => if r.m.src = s then r.m.num else a) a ≤ 255 := by
    intro out
    induction out with
    | nil => intro a _ h; exact h
    | cons r out ih =>
      intro a h ha
      rw [List.foldl_cons]
      refine ih _ (fun x hx => h x (List.mem_cons_of_mem _ hx)) ?_
      have := (h r (by simp)).num
      split <;> omega
  exact key out (-1) h (by omega)
theorem accAt_skip {f : Fr} {k : Nat} {out : List Rc} (h : (decS f).2 ≠ 0) : accAt f k out = out := by rw [accAt, if_neg h]
theorem accAt_first {f : Fr} {k : Nat} {out : List Rc} (h : (decS f).2 = 0) (h1 : lastN out (decS f).1.src < 0) : accAt f k out = out ++ [⟨k, (decS f).1, []⟩] := by rw [accAt, if_pos h, accNew, if_pos h1]
theorem accAt_old {f : Fr} {k : Nat} {out : List Rc} (h : (decS f).2 = 0) (h1 : ¬ lastN out (decS f).1.src < 0) (h2 : inR (newN (decS f).1.num (lastN out (decS f).1.src)) 1 127 = false) : accAt f k out = out := by
  rw [accAt, if_pos h, accNew, if_neg h1, h2]
  simp
theorem accAt_new {f : Fr} {k : Nat} {out : List Rc} (h : (decS f).2 = 0) (h1 : ¬ lastN out (decS f).1.src < 0) (h2 : inR (newN (decS f).1.num (lastN out (decS f).1.src)) 1 127 = true) : accAt f k out = out ++ [⟨k, (decS f).1, lostL (lastN out (decS f).1.src) ((newN (decS f).1.num (lastN out (decS f).1.src)).toNat - 1)⟩] := by
  rw [accAt, if_pos h, accNew, if_neg h1, if_pos h2]
end Go.Proofs.YtbdgblnccjpahaaGreatDoor
namespace Go.Proofs.YtbdgblnccjpahaaGreatDoor
open Go.RowKit Go.Shelf
attribute [local go_sem] bl_al bl_drew bl_drewN bl_refl bx_al bx_drew bx_drewN bx_refl
set_option maxRecDepth 20000
theorem lostL_len (b : Int) : ∀ k, (lostL b k).length = k
  | 0 => rfl
  | k + 1 => by rw [lostL, List.length_append, lostL_len b k]; rfl
end Go.Proofs.YtbdgblnccjpahaaGreatDoor
namespace Go.Proofs.YtbdgblnccjpahaaGreatDoor
open Go.RowKit Go.Shelf Go.MapKept Go.ChangeMaps Go.WideMaps
attribute [local go_sem] bl_al bl_drew bl_drewN bl_refl bx_al bx_drew bx_drewN bx_refl
set_option maxRecDepth 20000
theorem acK_up (l : List Fr) (k : Nat) : acK l k <+: acK l (k + 1) := by
  rw [acK]
  cases l[k]? with
  | none => exact List.prefix_refl _
  | some f =>
    simp only [accAt]
    split
    · exact List.prefix_append _ _
    · exact List.prefix_refl _
theorem acK_pre (l : List Fr) {k n : Nat} (h : k ≤ n) : acK l k <+: acK l n := by
  induction n with
  | zero => obtain rfl : k = 0 := by omega
            exact List.prefix_refl _
  | succ n ih =>
    by_cases e : k = n + 1
    · exact e ▸ List.prefix_refl _
    · exact (ih (by omega)).trans (acK_up l n)
/-- The values that stand for an accepted frame. -/
def EncR (D : Nat) (r : Rc) (args : Array Value) (W : World) : Prop := ∃ v, args = #[.agg (#[.int .i64 r.at_] ++ aMs r.m ++ #[v])] ∧ W.ownsRow D 3 1 v r.lost.length (r.lost.map (.int .i64))
theorem zeroI (w : World) : (zeroValue 3).run Tryz.prog w = .ok (.int .i64 0) w := by kernel_rfl
theorem mapI_ck {D b n : Nat} {E : DataW Unit} {w w' : World} (h : w.ownsMap Tryz.prog 3 (plainElem Tryz.prog 3) b n E) (hb : w'.heap[b]? = w.heap[b]?) : w'.ownsMap Tryz.prog 3 (plainElem Tryz.prog 3) b n E := by
  obtain ⟨es, clock, h1, F, hs, hD⟩ := h
  exact ⟨es, clock, hb.trans h1, F, hs, hD⟩
theorem mapI_below {b n : Nat} {E : DataW Unit} {w w' : World} (h : w.ownsMap Tryz.prog 3 (plainElem Tryz.prog 3) b n E) (hb : Below w.heap.size w w') : w'.ownsMap Tryz.prog 3 (plainElem Tryz.prog 3) b n E := by
  obtain ⟨es, clock, h1, _⟩ := id h
  exact mapI_ck (D := 0) h (hb.block b (Array.getElem?_eq_some_iff.1 h1).1)
theorem mk_map {D b : Nat} {w w' : World} (h : w.mapTurned w' b) (hD : D ≤ b) : MK D w w' := by
  have hbx := bx_map h
  obtain ⟨es, clock, es', clock', hb, rfl⟩ := h
  exact ⟨hbx.os, hbx.tape, hbx.output, hbx.size, fun k o hk hu => by
    by_cases e : k = b
    · subst e
      rw [hb] at hk
      cases hk
      rcases hu with hu | hu
      · omega
      · cases hu
    · exact (hbx.block k (Array.getElem?_eq_some_iff.1 hk).1 (by simpa using e)).trans hk⟩
theorem mapI_ne {g b n : Nat} {t : TypeId} {cs : Array Value} {E : DataW Unit} {w : World} (h : w.ownsMap Tryz.prog 3 (plainElem Tryz.prog 3) b n E) (k : Blk w g t cs) : g ≠ b := fun e => by
  subst e
  obtain ⟨es, clock, h1, _⟩ := h
  unfold Blk at k
  rw [h1] at k
  cases k
theorem sl_mk {α : Type} {cs : α → List Value} {sz D : Nat} {A : Option Addr} {l : List α} {w w' : World} (h : Sl cs sz w A l) (hm : MK D w w') : Sl cs sz w' A l := fun k x hx => by
  obtain ⟨b, off, e, hc⟩ := h k x hx
  refine ⟨b, off, e, fun j v hv => ?_⟩
  have h1 := hc j v hv
  have hlt := World.block_lt_of_cell? w _ h1
  have hk : w.heap[b]? = some w.heap[b] := Array.getElem?_eq_getElem hlt
  refine (World.cell?_of_block ?_).trans h1
  rw [hk]
  refine hm.keep b _ hk (.inr ?_)
  simp only [World.cell?, hk] at h1
  generalize w.heap[b] = o at h1
  cases o <;> first | rfl | (simp at h1)
theorem sl_rx {α : Type} {cs : α → List Value} {sz D : Nat} {e : TypeId} {X : List Nat} {A : Option Addr} {l : List α} {w w' : World} (h : Sl cs sz w A l) (hr : RX D e X w w') (hA : ∀ b off, A = some ⟨b, off, none⟩ → 0 < l.length → b ∉ X ∧ b < D) : Sl cs sz w' A l := fun k x hx => by
  obtain ⟨b, off, e, hc⟩ := h k x hx
  obtain ⟨hX, hb⟩ := hA b off e (by have := (List.getElem?_eq_some_iff.1 hx).1; omega)
  refine ⟨b, off, e, fun j v hv => ?_⟩
  have h1 := hc j v hv
  have hlt := World.block_lt_of_cell? w _ h1
  have hk : w.heap[b]? = some w.heap[b] := Array.getElem?_eq_getElem hlt
  refine (World.cell?_of_block ?_).trans h1
  rw [hk]
  exact hr.keep b _ hk hX (.inl hb)
theorem mapI_rx {D b n : Nat} {e : TypeId} {X : List Nat} {E : DataW Unit} {w w' : World} (h : w.ownsMap Tryz.prog 3 (plainElem Tryz.prog 3) b n E) (hr : RX D e X w w') (hX : b ∉ X) : w'.ownsMap Tryz.prog 3 (plainElem Tryz.prog 3) b n E := by
  obtain ⟨es, clock, h1, F, hs, hD⟩ := h
  exact ⟨es, clock, hr.noRow h1 hX (fun _ h => by cases h), F, hs, hD⟩
theorem noT_map {b n : Nat} {e : TypeId} {E : DataW Unit} {w : World} (h : w.ownsMap Tryz.prog 3 (plainElem Tryz.prog 3) b n E) : NoT [b] w e := fun g hg cs hc => by
  obtain ⟨es, clock, h1, _⟩ := h
  have := List.mem_singleton.1 hg
  subst this
  rw [h1] at hc
  cases hc
theorem mapI_lt {b n : Nat} {E : DataW Unit} {w : World} (h : w.ownsMap Tryz.prog 3 (plainElem Tryz.prog 3) b n E) : b < w.heap.size := by
  obtain ⟨es, clock, h1, _⟩ := h
  exact (Array.getElem?_eq_some_iff.1 h1).1
theorem bx_grownA {X : List Nat} {w A B : World} {o : Option Nat} (h : BX X w A) (hg : A.grownBy B o) (ho : ∀ k, o = some k → w.heap.size ≤ k) : BX X w B :=
  ⟨hg.os.trans h.os, hg.tape.trans h.tape, hg.output.trans h.output, Nat.le_trans h.size hg.size,
   fun i hi hX => (hg.block i (Nat.lt_of_lt_of_le hi h.size) (fun e => by have := ho i e.symm; omega)).trans (h.block i hi hX),
   fun g hgX t cs hk => by
    obtain ⟨c1, h1, h2⟩ := h.shape g hgX t cs hk
    exact ⟨c1, (hg.block g (Nat.lt_of_lt_of_le hk.lt h.size) (fun e => by have := ho g e.symm; have := hk.lt; omega)).trans h1, h2⟩⟩
set_option maxHeartbeats 8000000 in
theorem acc_iter (l : List Fr) (A : Option Addr) (c g D : Nat) (X : List Nat) (W0 : World) (hD : W0.heap.size = D) (hl : l.length ≤ 60) (hs : Sl cFr 8 W0 A l) (hk : Blk W0 g 60 #[.slice A l.length c]) (hgX : g ∉ X)
    (hAX : ∀ b off, A = some ⟨b, off, none⟩ → 0 < l.length → b ∉ X ∧ b < D) (hg0 : g < D) (hXD : ∀ x ∈ X, x < D) :
    Yields Tryz.prog D 3 X 131 #[.pointer (some ⟨g, 0, none⟩)] (EncR D) (acS l) W0 := by
  intro ln J W hb hJ hY h0
  refine callsIn_wide.2 ?_
  replace hY := Lib.hid hY
  replace hJ := Lib.hid hJ
  replace h0 := Lib.hid h0
  have Hs := Lib.hid (hs.below (hD ▸ hb))
  have kg := hk.below (hD ▸ hb)
  have hDW : D ≤ W.heap.size := hD ▸ hb.size
  clear hs hk hb
  show Calls Tryz.prog 131 #[.func (.yield ln) #[] #[], .pointer (some ⟨g, 0, none⟩)] W _
  have hmm := @run_makeMap Tryz.prog
  obtain ⟨n, Hn⟩ : ∃ n, Hid (l.length = n) := ⟨_, rfl⟩
  rw [Hn.out] at hl kg
  have h0' : Hid (acK l 0 = []) := rfl
  have hend : Hid (acK l n = acS l) := Lib.hid (by rw [← Hn.out]; rfl)
  have hst := Lib.hid fun (k : Nat) (f : Fr) (h : l[k]? = some f) => acK_next h
  have hok := Lib.hid (acK_ok l)
  have hpr := Lib.hid fun (k : Nat) (h : k + 1 ≤ n) => hend.out ▸ acK_pre l (k := k + 1) (n := n) h
  generalize acS l = R at *
  obtain ⟨q, hq⟩ : ∃ q : Nat → List Rc, ∀ k, acK l k = q k := ⟨_, fun _ => rfl⟩
  simp only [hq] at hst h0' hend hok hpr
  clear hq
  go_enter Tryz.func131, Tryz.ntmps131
  go_upto_region 1 with fail
  have hbA : Below W.heap.size W (W.alloc (.map #[] 0)) := bl_al _ (bl_refl W)
  have hmp : Hid ((W.alloc (.map #[] 0)).ownsMap Tryz.prog 3 (plainElem Tryz.prog 3) W.heap.size 0 (numD [])) := Lib.hid (World.ownsMap_made W _ _ _)
  replace h0 := Lib.hid (hJ.out _ _ _ h0.out (MK.of_below hbA))
  replace kg := kg.below hbA
  replace Hs := Lib.hid (Hs.out.below hbA)
  have hmD : D ≤ W.heap.size := hDW
  have hmg : g ≠ W.heap.size := by omega
  have hmX : W.heap.size ∉ X := fun h => by have := hXD _ h; omega
  generalize W.alloc (.map #[] 0) = W1 at *
  generalize W.heap.size = mb at *
  have L := kg.cell
  go_wp2
  go_loopw [16] (fun i wr => ∃ k : Nat, k ≤ n ∧ i = .int .i64 k ∧ J (q k) wr ∧ Blk wr g 60 #[.slice A n c] ∧ Sl cFr 8 wr A l ∧ wr.ownsMap Tryz.prog 3 (plainElem Tryz.prog 3) mb k (numD (q k))) (fun i _ => n - (intOf i).toNat)
  case atStart => exact ⟨0, Nat.zero_le _, rfl, by rw [h0'.out]; exact h0.out, kg, Hs.out, by rw [h0'.out]; exact hmp.out⟩
  case round =>
    clear h0 kg Hs hmp L
    obtain ⟨k, hk, rfl, hj, kg, hs, hm⟩ := hrel
    replace hj := Lib.hid hj
    replace hm := Lib.hid hm
    have L := kg.cell
    by_cases hkn : k < n
    rotate_left
    · obtain rfl : n = k := by omega
      replace hs := Lib.hid hs
      go_wp2
      go_end0
      exact ⟨⟨_, rfl⟩, hend.out ▸ hj.out⟩
    have hx : l[k]? = some (l[k]'(by rw [Hn.out]; exact hkn)) := List.getElem?_eq_getElem _
    generalize l[k]'(by rw [Hn.out]; exact hkn) = f at hx
    have hAX2 := hAX
    have hsk := hst.out k f hx
    obtain ⟨b, off, eA, hc⟩ := hs k f hx
    subst eA
    have hmf := Lib.hid fun W : World => c_Decoded f W
    have f0 := hc 0 _ rfl
    have f1 := hc 1 _ rfl
    have f2 := hc 2 _ rfl
    have f3 := hc 3 _ rfl
    have f4 := hc 4 _ rfl
    have f5 := hc 5 _ rfl
    have f6 := hc 6 _ rfl
    have f7 := hc 7 _ rfl
    simp only [Nat.add_zero] at f0
    clear hc
    replace hs := Lib.hid hs
    have hm0 := Lib.hid fun h : (decS f).2 = 0 => msE_ok (dec_ok h)
    have hbd := lastN_bd (fun r hr => (hok.out k r hr).1) (decS f).1.src
    have hsay := Lib.hid (numD_says (q k) (fun r hr => (hok.out k r hr).1) (decS f).1.src)
    have e1 := Lib.hid fun h => accAt_skip (f := f) (k := k) (out := q k) h
    have e2 := Lib.hid fun h h1 => accAt_first (f := f) (k := k) (out := q k) h h1
    have e3 := Lib.hid fun h h1 h2 => accAt_old (f := f) (k := k) (out := q k) h h1 h2
    have e4 := Lib.hid fun h h1 h2 => accAt_new (f := f) (k := k) (out := q k) h h1 h2
    rw [← hsk] at e1 e2 e3 e4
    clear hsk hx
    generalize hDf : decS f = E at *
    clear hDf
    obtain ⟨⟨ms, mn, mk, m0, m1, m2, m3⟩, me⟩ := E
    dsimp only at *
    obtain ⟨LL, hLL⟩ : ∃ z, z = lastN (q k) ms := ⟨_, rfl⟩
    rw [← hLL] at hbd hsay e2 e3 e4
    replace hLL := Lib.hid hLL
    dsimp only [vFr, aFr, vMs, aMs] at hmf
    have hkn2 : (k : Int) < n := by omega
    have hb0 := bl_refl wr
    go_wp2_with fail
    refine (hmf.out _).mono ?_
    rintro e w1 ⟨rfl, hb1⟩
    replace hb0 := bl_tr (bl_al _ hb0) hb1
    clear f0 f1 f2 f3 f4 f5 f6 f7 hb1 L
    by_cases hme0 : me = 0
    rotate_left
    · have hne : (me != 0) = true := by simp [hme0]
      have e := Lib.hid (e1.out hme0)
      replace hme0 := Lib.hid hme0
      clear e1 e2 e3 e4
      go_wp2
      go_roundw
      case rel =>
        have hb2 := bl_tr hb0 (bl_al (.cells #[.int .i64 ms, .int .i64 mn, .int .i64 mk, .int .i64 m0, .int .i64 m1, .int .i64 m2, .int .i64 m3] 52) (bl_refl w1))
        refine ⟨k + 1, by omega, by go_num, ?_, kg.below hb2, hs.out.below hb2, ?_⟩
        · rw [e.out]; exact hJ.out _ _ _ hj.out (MK.of_below hb2)
        · rw [e.out]; exact (mapI_below hm.out hb2).mono (by omega)
      case measure => simp [intOf]; omega
    subst hme0
    obtain ⟨⟨hs0, hs1⟩, hn0, hn1⟩ := hm0.out rfl
    replace e2 := Lib.hid (e2.out rfl)
    replace e3 := Lib.hid (e3.out rfl)
    replace e4 := Lib.hid (e4.out rfl)
    clear e1 hm0
    have hj1 := Lib.hid (hJ.out _ _ _ hj.out (MK.of_below hb0))
    have kg1 := Lib.hid (kg.below hb0)
    have hs1' := Lib.hid (hs.out.below hb0)
    have hm1 := Lib.hid (mapI_below hm.out hb0)
    go_upto_region 7 with fail
    have kM := Blk.new w1 52 #[.int .i64 ms, .int .i64 mn, .int .i64 mk, .int .i64 m0, .int .i64 m1, .int .i64 m2, .int .i64 m3]
    have hbA := bl_al (.cells #[.int .i64 ms, .int .i64 mn, .int .i64 mk, .int .i64 m0, .int .i64 m1, .int .i64 m2, .int .i64 m3] 52) (bl_refl w1)
    have kR := Blk.new (w1.alloc (.cells #[.int .i64 ms, .int .i64 mn, .int .i64 mk, .int .i64 m0, .int .i64 m1, .int .i64 m2, .int .i64 m3] 52)) 136 #[.int .i64 k, .int .i64 ms, .int .i64 mn, .int .i64 mk, .int .i64 m0, .int .i64 m1, .int .i64 m2, .int .i64 m3, .slice none 0 0]
    replace kM := kM.below (bl_al (.cells #[.int .i64 k, .int .i64 ms, .int .i64 mn, .int .i64 mk, .int .i64 m0, .int .i64 m1, .int .i64 m2, .int .i64 m3, .slice none 0 0] 136) (bl_refl _))
    replace hbA := bl_al (.cells #[.int .i64 k, .int .i64 ms, .int .i64 mn, .int .i64 mk, .int .i64 m0, .int .i64 m1, .int .i64 m2, .int .i64 m3, .slice none 0 0] 136) hbA
    rw [World.size_alloc] at kR
    replace hb0 := bl_tr hb0 hbA
    generalize hgM : w1.heap.size = gM at *
    generalize (w1.alloc (.cells #[.int .i64 ms, .int .i64 mn, .int .i64 mk, .int .i64 m0, .int .i64 m1, .int .i64 m2, .int .i64 m3] 52)).alloc (.cells #[.int .i64 k, .int .i64 ms, .int .i64 mn, .int .i64 mk, .int .i64 m0, .int .i64 m1, .int .i64 m2, .int .i64 m3, .slice none 0 0] 136) = wA at *
    replace hgM := Lib.hid hgM
    replace hbA := Lib.hid hbA
    have hRT := kR.lt
    clear hmf
    replace kg := kg.below hb0
    replace hs := Lib.hid (hs.out.below hb0)
    replace hm := Lib.hid (mapI_below hm.out hb0)
    replace hj := Lib.hid (hJ.out _ _ _ hj.out (MK.of_below hb0))
    clear hb0
    have hwS : (Lit.int .i64 ms).wf = true := by simp [Lit.wf, IntKind.min, IntKind.max, IntKind.signed, IntKind.bits]; omega
    have hwN : (Lit.int .i64 mn).wf = true := by simp [Lit.wf, IntKind.min, IntKind.max, IntKind.signed, IntKind.bits]; omega
    have hkey := Maps.keyOf_int_mk Tryz.underlying3 hwS
    have LM := kM.cell
    have LR := kR.cell
    by_cases hL : LL < 0
    · have hh : Maps.has (numD (q k)) (.int .i64 ms) = false := by rw [hsay.out.1]; exact decide_eq_false (by omega)
      have ha : (numD (q k)).atKey (.int .i64 ms) (.lit (.int .i64 0)) = .lit (.int .i64 0) := by rw [hsay.out.2, if_neg (by omega)]
      replace e2 := Lib.hid (e2.out hL)
      clear e3 e4 hsay
      go_upto_region 16 with (first
        | (at_lookup; refine wp_lookI _ rfl _ _ 200 rfl 3 3 .i64 lawI Tryz.underlying200 Tryz.underlying3 (zeroI _) mb k _ rfl hm.out _ _ rfl hkey 0 false ha hh ?_)
        | (at_mapUpdate; refine wpList_mapUpdate_in _ rfl _ _ _ 200 rfl 3 3 lawI Tryz.underlying200 (plainElem Tryz.prog 3) mb k _ rfl hm.out (by unfold maxLen; omega) _ _ _ rfl rfl hkey _ [] (plainElem_int Tryz.underlying3 hwN) ?_; intro w5 hown5 hturn5))
      have hmk := mk_map hturn5 hmD
      have hbx := bx_map hturn5
      have hgR : gM + 1 ≠ mb := mapI_ne hm.out kR
      replace kg := kg.keep (by simpa using hmg) hbx
      replace kR := kR.keep (by simpa using hgR) hbx
      replace hs := Lib.hid (sl_mk hs.out hmk)
      replace hj := Lib.hid (hJ.out _ _ _ hj.out hmk)
      have hnew : Hid (w5.ownsMap Tryz.prog 3 (plainElem Tryz.prog 3) mb (k + 1) (numD (q (k + 1)))) := Lib.hid (by rw [e2.out, numD_snoc]; exact hown5)
      clear LM LR kM hm hown5 hturn5 hmk hbx hh ha
      have LR := kR.cell
      obtain ⟨fn, tmps, assign, body, hy, hR⟩ := hY.out (q k) ⟨k, ⟨ms, mn, mk, m0, m1, m2, m3⟩, []⟩ _ w5 hj.out (by rw [← e2.out]; exact hpr.out k (by omega)) ⟨.slice none 0 0, rfl, World.ownsRow_nil _ _ _ _⟩
      dsimp only [aMs] at hy
      simp only [List.append_toArray, List.cons_append, List.nil_append] at hy
      refine (wpIn_wide (n := 5)).1 ?_
      gi_wp2
      refine hR.mono ?_
      rintro e W3 ⟨rfl, hj3, hx3⟩
      rw [← e2.out] at hj3
      replace hj3 := Lib.hid hj3
      replace kg := hx3.noRow kg hgX (fun _ h => by injection h with _ h _; exact absurd h (by decide))
      replace hs := Lib.hid (sl_rx hs.out hx3 hAX2)
      replace hnew := Lib.hid (mapI_rx hnew.out hx3 hmX)
      clear hx3 hR hy hj kR LR
      gi_wp2
      go_wp2
      go_roundw
      case rel => exact ⟨k + 1, by omega, by go_num, hj3.out, kg, hs.out, hnew.out⟩
      case measure => simp [intOf]; omega
    have hL2 : 0 ≤ LL := by omega
    have hh : Maps.has (numD (q k)) (.int .i64 ms) = true := by rw [hsay.out.1]; exact decide_eq_true hL2
    have ha : (numD (q k)).atKey (.int .i64 ms) (.lit (.int .i64 0)) = .lit (.int .i64 LL) := by rw [hsay.out.2, if_pos hL2]
    replace e3 := Lib.hid (e3.out hL2)
    replace e4 := Lib.hid (e4.out hL2)
    clear e2 hsay hL
    obtain ⟨nw, hnw⟩ : ∃ z, newN mn LL = z := ⟨_, rfl⟩
    rw [hnw] at e3 e4
    unfold newN at hnw
    replace hnw := Lib.hid hnw
    have hmod : (mn - LL) % 256 = nw := by have := hnw.out; omega
    have hnb : 0 ≤ nw ∧ nw ≤ 255 := by omega
    go_upto_region 10 with (first
      | (at_lookup; refine wp_lookI _ rfl _ _ 200 rfl 3 3 .i64 lawI Tryz.underlying200 Tryz.underlying3 (zeroI _) mb k _ rfl hm.out _ _ rfl hkey LL true ha hh ?_))
    obtain ⟨bt, hbt⟩ : ∃ z, inR nw 1 127 = z := ⟨_, rfl⟩
    have hcw := Lib.hid fun W : World => hbt ▸ c_within nw 1 127 W
    rw [hbt] at e3 e4
    cases bt
    · replace e3 := Lib.hid (e3.out rfl)
      clear e4
      replace hbt := Lib.hid hbt
      go_wp2_with (go_at_call 71; (with_reducible refine (hcw.out _).mono ?_); rintro e w3 ⟨rfl, rfl⟩)
      go_roundw
      case rel => exact ⟨k + 1, by omega, by go_num, by rw [e3.out]; exact hj.out, kg, hs.out, by rw [e3.out]; exact hm.out.mono (by omega)⟩
      case measure => simp [intOf]; omega
    have hnr := inR_iff.1 hbt
    replace hbt := Lib.hid hbt
    replace e4 := Lib.hid (e4.out rfl)
    clear e3 hj kg hs hm hh ha
    go_wp2_with (go_at_call 71; (with_reducible refine (hcw.out _).mono ?_); rintro e w3 ⟨rfl, rfl⟩)
    clear LM LR hmod
    obtain ⟨i0, hi, hz0, hz1, hz2⟩ := info_parts infoI
    go_loopw [12] (fun i wi => ∃ (x : Int) (j : Nat) (v : Value), i = .int .i64 x ∧ x = (j : Int) + 1 ∧ x ≤ nw ∧ BX [gM + 1] wA wi ∧ Blk wi (gM + 1) 136 #[.int .i64 k, .int .i64 ms, .int .i64 mn, .int .i64 mk, .int .i64 m0, .int .i64 m1, .int .i64 m2, .int .i64 m3, v] ∧ wi.ownsRow wA.heap.size 3 1 v j ((lostL LL j).map (.int .i64))) (fun i _ => (nw - intOf i).toNat)
    case atStart => exact ⟨1, 0, .slice none 0 0, rfl, rfl, by omega, bx_refl _ _, kR, World.ownsRow_nil _ _ _ _⟩
    case round =>
      clear kR
      obtain ⟨x, j, v, rfl, hxj, hxn, hbx, kR, ho⟩ := hrel
      obtain ⟨vA, vc, rfl⟩ := own_slice ho
      replace ho := Lib.hid ho
      have LR := kR.cell
      have FR := kR.frozen
      have hx0 : 0 < x := by omega
      replace hxj := Lib.hid hxj
      by_cases hlt : x < nw
      · obtain ⟨nj, hnj⟩ : ∃ z, (LL + x) % 256 = z := ⟨_, rfl⟩
        have Hnj : Hid (lostL LL (j + 1) = lostL LL j ++ [nj]) := Lib.hid (by rw [lostL, ← hnj, hxj.out])
        have hszA := hbx.size
        have hoA := Lib.hid (own_below ho.out (bl_al (.cells #[.int .i64 nj] 3) (bl_refl _)))
        have hjs : (j : Int) < 128 := by have := hxj.out; omega
        go_wp2_with (at_builtin; refine wpList_append_own2 rfl _ _ 23 rfl wA.heap.size 3 i0 (.int .i64 0) 1 8 Tryz.underlying23 hi hz0 hz1 hz2 rfl (by decide) _ _ _ rfl hoA.out ⟨_, 0, none⟩ 1 1 [.int .i64 nj] rfl rfl ?c1 ?c2 ?c3 ?c4 ?c5 ?_)
        try case c1 =>
          intro q u hq
          match q, hq with
          | 0, hq => simp at hq; subst hq; simp [Addr.add]
          | q + 1, hq => simp at hq
        case c2 => first | (intro u hu; simp at hu; subst hu; rfl) | rfl
        case c3 => unfold maxLen; omega
        case c4 => omega
        case c5 => first | omega | (simp; omega)
        intro v9 w9 hown hg2 hd2
        have hge := own_ge hoA.out
        have hbx9 := bx_grownA (bx_al (.cells #[.int .i64 nj] 3) hbx) hg2 hge
        have kRA := kR.alloc (.cells #[.int .i64 nj] 3)
        have kR9 := kRA.grown hg2 (fun h => noT_own hoA.out (show 3 ≠ 136 by decide) (gM + 1) (by simp [ownL, ← h]) _ kRA)
        have hown9 : w9.ownsRow wA.heap.size 3 1 v9 (j + 1) ((lostL LL (j + 1)).map (.int .i64)) := by
          rw [Hnj.out, List.map_append]
          exact hown
        obtain ⟨vB, vd, rfl⟩ := own_slice hown9
        have hown10 := Lib.hid (own_keepT hown9 (show BX [gM + 1] w9 (w9.setCell ⟨gM + 1, 8, none⟩ (.slice vB (j + 1) vd)) from bx_set (.inl (by simp)) _ (bx_refl _ w9)) (noT_blk kR9 (by decide) (noT_nil _ _)))
        replace hown9 := Lib.hid hown9
        clear hg2 hd2 hown hoA hge kRA LR FR kR hbx ho
        have LR := kR9.cell
        have FR := kR9.frozen
        go_wp2
        go_roundw
        case rel => exact ⟨x + 1, j + 1, _, rfl, by have := hxj.out; omega, by omega, bx_set (.inl (by simp)) _ hbx9, kR9.set 8 _, hown10.out⟩
        case measure => simp [intOf]; omega
      have hjn : nw.toNat - 1 = j := by have := hxj.out; omega
      have hx2 : x = nw := by omega
      rw [hjn] at e4
      have hbw : Below w1.heap.size w1 wr := bx_below (by have h := hbA.out; rw [← hgM.out] at h; exact h) hbx (by have := hgM.out; simp; omega)
      have kg := kg1.out.below hbw
      have hs := Lib.hid (hs1'.out.below hbw)
      have hm := Lib.hid (mapI_below hm1.out hbw)
      have hj := Lib.hid (hJ.out _ _ _ hj1.out (MK.of_below hbw))
      replace kM := kM.keep (by simp) hbx
      have LM := kM.cell
      have hDA : D ≤ wA.heap.size := by have := mapI_lt hm1.out; have := hgM.out; omega
      clear hbw hbx hxj hjn
      go_upto_region 16 with (first
        | (at_mapUpdate; refine wpList_mapUpdate_in _ rfl _ _ _ 200 rfl 3 3 lawI Tryz.underlying200 (plainElem Tryz.prog 3) mb k _ rfl hm.out (by unfold maxLen; omega) _ _ _ rfl rfl hkey _ [] (plainElem_int Tryz.underlying3 hwN) ?_; intro w5 hown5 hturn5))
      have hmk := mk_map hturn5 hmD
      have hbx := bx_map hturn5
      have hgR : gM + 1 ≠ mb := mapI_ne hm.out kR
      have ho5 := Lib.hid (own_keepT ho.out hbx (noT_map hm.out))
      replace kg := kg.keep (by simpa using hmg) hbx
      replace kR := kR.keep (by simpa using hgR) hbx
      replace hs := Lib.hid (sl_mk hs.out hmk)
      replace hj := Lib.hid (hJ.out _ _ _ hj.out hmk)
      have hnew : Hid (w5.ownsMap Tryz.prog 3 (plainElem Tryz.prog 3) mb (k + 1) (numD (q (k + 1)))) := Lib.hid (by rw [e4.out, numD_snoc]; exact hown5)
      clear LM LR FR kM hm hown5 hturn5 hmk hbx ho
      have LR := kR.cell
      obtain ⟨fn, tmps, assign, body, hy, hR⟩ := hY.out (q k) ⟨k, ⟨ms, mn, mk, m0, m1, m2, m3⟩, lostL LL j⟩ _ w5 hj.out (by rw [← e4.out]; exact hpr.out k (by omega)) ⟨.slice vA j vc, rfl, by have h := own_mono hDA ho5.out; rw [lostL_len]; exact h⟩
      dsimp only [aMs] at hy
      simp only [List.append_toArray, List.cons_append, List.nil_append] at hy
      refine (wpIn_wide (n := 5)).1 ?_
      gi_wp2
      refine hR.mono ?_
      rintro e W3 ⟨rfl, hj3, hx3⟩
      rw [← e4.out] at hj3
      replace hj3 := Lib.hid hj3
      replace kg := hx3.noRow kg hgX (fun _ h => by injection h with _ h _; exact absurd h (by decide))
      replace hs := Lib.hid (sl_rx hs.out hx3 hAX2)
      replace hnew := Lib.hid (mapI_rx hnew.out hx3 hmX)
      clear hx3 hR hy hj kR LR
      gi_wp2
      go_wp2
      go_roundw
      case rel => exact ⟨k + 1, by omega, by go_num, hj3.out, kg, hs.out, hnew.out⟩
      case measure => simp [intOf]; omega
end Go.Proofs.YtbdgblnccjpahaaGreatDoor
namespace Go.Proofs.YtbdgblnccjpahaaGreatDoor
open Go.RowKit Go.Shelf
attribute [local go_sem] bl_al bl_drew bl_drewN bl_refl bx_al bx_drew bx_drewN bx_refl
set_option maxRecDepth 20000
set_option maxHeartbeats 4000000 in
theorem c_accepted (A : Option Addr) (n c : Nat) (w : World) : Calls Tryz.prog 79 #[.slice A n c] w
    (fun e w' => e = .returned (.func (.func 131) #[] #[.pointer (some ⟨w.heap.size, 0, none⟩)]) ∧ Below w.heap.size w w' ∧ Blk w' w.heap.size 60 #[.slice A n c]) := by
  go_enter Tryz.func79, Tryz.ntmps79
  go_wp2
  go_ret
  exact ⟨rfl, bl_al _ (bl_refl w), Blk.new _ _ _⟩
end Go.Proofs.YtbdgblnccjpahaaGreatDoor
namespace Go.Proofs.YtbdgblnccjpahaaGreatDoor
open Go.RowKit Go.Shelf
attribute [local go_sem] bl_al bl_drew bl_drewN bl_refl bx_al bx_drew bx_drewN bx_refl Oper.semAt_some
set_option maxRecDepth 20000
theorem rx_grown {D n size : Nat} {e : TypeId} {X : List Nat} {v : Value} {xs : List Value} {A B : World} (h : A.ownsRow D e size v n xs) (hg : A.grownBy B v.ownBlock) : RX D e X A B :=
  ⟨hg.os, hg.tape, hg.output, hg.size, fun k o hk _ hu => by
    refine (hg.block k (Array.getElem?_eq_some_iff.1 hk).1 fun e' => ?_).trans hk
    rcases h.2 with ⟨rfl, _⟩ | ⟨g, cap, cur, rfl, e2, e3, _⟩
    · simp [Value.ownBlock] at e'
    · have : k = g := by simpa [Value.ownBlock] using e'
      subst this
      rw [hk] at e3
      injection e3 with e3
      rcases hu with hu | hu
      · omega
      · exact hu cur e3⟩
set_option maxHeartbeats 8000000 in
theorem c_AcceptedOf (l : List Fr) (A : Option Addr) (c : Nat) (w : World) (hs : Sl cFr 8 w A l) (hl : l.length ≤ 100) :
    Calls Tryz.prog 27 #[.slice A l.length c] w (fun e w' => Below w.heap.size w w' ∧ (60 < l.length → e = .returned (.tuple #[.slice none 0 0, .int .i64 8])) ∧
      (l.length ≤ 60 → ∃ A2 c2, e = .returned (.tuple #[.slice A2 (acS l).length c2, .int .i64 0]) ∧ w'.ownsRow w.heap.size 3 1 (.slice A2 (acS l).length c2) (acS l).length (((acS l).map atI).map (.int .i64)))) := by
  obtain ⟨i0, hi, hz0, hz1, hz2⟩ := info_parts infoI
  have Hs := Lib.hid hs
  have Hit := Lib.hid fun (g D : Nat) (X : List Nat) (W : World) (hD : W.heap.size = D) (h60 : l.length ≤ 60) (h2 : Sl cFr 8 W A l) => acc_iter l A c g D X W hD h60 h2
  have hlen := acK_len l l.length
  change (acS l).length ≤ l.length at hlen
  obtain ⟨R, hR⟩ : ∃ R, acS l = R := ⟨_, rfl⟩
  rw [hR] at Hit hlen ⊢
  clear hs hR
  obtain ⟨n, Hn⟩ : ∃ n, Hid (l.length = n) := ⟨_, rfl⟩
  rw [Hn.out] at hl hlen Hit ⊢
  refine calls_marks Tryz.func27 rfl ?_
  simp only [Tryz.ntmps27, List.size_toArray, List.length_cons, List.length_nil, Nat.reduceAdd, Nat.reduceSub, Array.replicate_succ, Array.replicate_zero, List.push_toArray, List.append_toArray, List.nil_append, List.cons_append]
  by_cases h60 : n ≤ 60
  rotate_left
  · have h1 : decide ((n : Int) > 60) = true := by simp; omega
    have h2 : (n : Int) > 60 := by omega
    go_wp2
    exact postM_ret (by simp [results, Tryz.results27, go_sem]) ⟨bl_refl w, fun _ => rfl, fun h => absurd h (by omega)⟩
  have h1 : ¬ (n : Int) > 60 := by omega
  go_upto_region 4 with fail
  have kO := Blk.new w 23 #[.slice none 0 0]
  have hb0 := bl_al (.cells #[.slice none 0 0] 23) (bl_refl w)
  go_wp2_with fail
  refine (c_accepted A n c _).mono ?_
  rintro e w3 ⟨rfl, hb3, kg⟩
  have hsz : (w.alloc (.cells #[.slice none 0 0] 23)).heap.size = w.heap.size + 1 := by simp
  have hgz : (w.alloc (.cells #[.slice none 0 0] 23)).heap.size < w3.heap.size := kg.lt
  replace kO := kO.below hb3
  replace hb0 := bl_tr hb0 hb3
  rw [hsz] at kg hgz hb3 ⊢
  go_wp2
  have hXD : ∀ x ∈ [w.heap.size], x < w3.heap.size := by simp; omega
  have hsA : ∀ b off, A = some ⟨b, off, none⟩ → 0 < n → b ∉ [w.heap.size] ∧ b < w3.heap.size := fun b off e h => by
    obtain ⟨b', o', e', hc⟩ := Hs.out 0 (l[0]'(by rw [Hn.out]; exact h)) (List.getElem?_eq_getElem _)
    rw [e] at e'
    injection e' with e'
    injection e' with e' _ _
    have h1 := World.block_lt_of_cell? _ _ (hc 0 _ rfl)
    simp at h1 ⊢
    omega
  refine wp_range3 (gf := 131) (lb := #[.pointer (some ⟨w.heap.size + 1, 0, none⟩)]) ?hg (enters_of Tryz.func131 (by kernel_rfl) rfl) (Enc := EncR w3.heap.size) (xs := R) 3 [w.heap.size] ?seq ?hps hXD
    (fun pre W => (Below w.heap.size w W ∧ w3.heap.size ≤ W.heap.size) ∧ ∃ v, Blk W w.heap.size 23 #[v] ∧ W.ownsRow w3.heap.size 3 1 v pre.length ((pre.map atI).map (.int .i64)))
    (fun s A B h hc => ⟨⟨hc.belowOf (by omega) h.1.1, Nat.le_trans h.1.2 hc.size⟩, by obtain ⟨v, h1, h2⟩ := h.2; exact ⟨v, hc.blk h1, CK.own h2 hc⟩⟩)
    ⟨⟨hb0, Nat.le_refl _⟩, _, kO, World.ownsRow_nil _ _ _ _⟩ ?round ?done
  case hg => rfl
  case hps => rintro x args W ⟨v, rfl, -⟩; rfl
  case seq => exact Hit _ _ _ _ rfl h60 (Hs.out.below hb0) kg (by simp) hsA hgz hXD
  case round =>
    rintro ln pre r args W ⟨⟨hb0, hWg⟩, v, kO, ho⟩ ⟨rest, hrest⟩ ⟨vl, rfl, hol⟩
    have hlen2 : pre.length + 1 ≤ 60 := by
      have := congrArg List.length hrest
      simp at this
      omega
    obtain ⟨vA, vc, rfl⟩ := own_slice ho
    obtain ⟨vB, vd, rfl⟩ := own_slice hol
    replace ho := Lib.hid ho
    replace hol := Lib.hid hol
    dsimp only [aMs]
    clear hrest Hit hsA hXD kg hb3
    obtain ⟨rl, Hrl⟩ : ∃ q, Hid (r.lost.length = q) := ⟨_, rfl⟩
    rw [Hrl.out] at hol ⊢
    simp only [List.append_toArray, List.cons_append, List.nil_append]
    gi_wp2
    refine ⟨RX.of_below (bl_al _ (bl_refl W)), fun W2 hc => ?_⟩
    have kX := hc.blk (Blk.new W 136 #[.int .i64 r.at_, .int .i64 r.m.src, .int .i64 r.m.num, .int .i64 r.m.kind, .int .i64 r.m.d0, .int .i64 r.m.d1, .int .i64 r.m.d2, .int .i64 r.m.d3, .slice vB rl vd])
    replace hb0 := hc.belowOf (by omega) (bl_al _ hb0)
    replace kO := hc.blk (kO.alloc _)
    replace ho := Lib.hid (CK.own (own_below ho.out (bl_al _ (bl_refl W))) hc)
    replace hWg : w3.heap.size ≤ W2.heap.size := Nat.le_trans hWg (Nat.le_trans (by simp) hc.size)
    clear hol hc
    have LO := kO.cell
    have FO := kO.frozen
    have LX := kX.cell
    have hoA := Lib.hid (own_below ho.out (bl_al (.cells #[.int .i64 r.at_] 3) (bl_refl W2)))
    gi_wp2_with (gi_at_builtin; refine wpListIn_append_own2 rfl _ _ 23 rfl w3.heap.size 3 i0 (.int .i64 0) 1 8 Tryz.underlying23 hi hz0 hz1 hz2 rfl (by decide) _ _ _ rfl hoA.out ⟨_, 0, none⟩ 1 1 [.int .i64 r.at_] rfl rfl ?c1 ?c2 ?c3 ?c4 ?c5 ?_)
    try case c1 =>
      intro q u hq
      match q, hq with
      | 0, hq => simp at hq; subst hq; simp [Addr.add]
      | q + 1, hq => simp at hq
    case c2 => first | (intro u hu; simp at hu; subst hu; rfl) | rfl
    case c3 => unfold maxLen; omega
    case c4 => omega
    case c5 => first | omega | (simp; omega)
    intro v9 w9 hown hg2 hd2
    obtain ⟨vC, ve, rfl⟩ := own_slice hown
    have hrx : RX w3.heap.size 3 [w.heap.size] W2 w9 := (RX.of_below (bl_al _ (bl_refl W2))).trans (rx_grown hoA.out hg2)
    have kO9 := hrx.trans (RX.refl _ _ _ _)
    have hb9 := (bl_al (.cells #[.int .i64 r.at_] 3) hb0).grown hg2 (by simp; omega) (fun k hk => by have := own_ge hoA.out k hk; omega)
    have kOA := kO.alloc (.cells #[.int .i64 r.at_] 3)
    have kO9 := kOA.grown hg2 (fun h => noT_own hoA.out (show 3 ≠ 23 by decide) w.heap.size (by simp [ownL, ← h]) _ kOA)
    have hown10 := Lib.hid (own_keepT hown (show BX [w.heap.size] w9 (w9.setCell ⟨w.heap.size, 0, none⟩ (.slice vC (pre.length + 1) ve)) from bx_set (.inl (by simp)) _ (bx_refl _ w9)) (noT_blk kO9 (by decide) (noT_nil _ _)))
    have LO := kO9.cell
    have FO := kO9.frozen
    gi_wp2
    have hset : BX [w.heap.size] w9 (w9.setCell ⟨w.heap.size, 0, none⟩ (.slice vC (pre.length + 1) ve)) := bx_set (.inl (by simp)) _ (bx_refl _ w9)
    have hs9 := hb9.size
    have hg9 := hrx.size
    refine ⟨hrx.trans (RX.of_bx hset), ⟨bx_below hb9 hset (by simp), Nat.le_trans hWg (Nat.le_trans hg9 hset.size)⟩, _, kO9.set 0 _, ?_⟩
    have h := hown10.out
    simpa [List.map_append, show atI r = (r.at_ : Int) from rfl] using h
  case done =>
    rintro W ⟨⟨hb0, hWg⟩, v, kO, ho⟩ hK
    obtain ⟨vA, vc, rfl⟩ := own_slice ho
    replace ho := Lib.hid ho
    have LO := kO.cell
    go_wp2
    have hck := CK.put (D := w3.heap.size) (.deferred none) hK rfl (Nat.le_refl _)
    have hw3 : w.heap.size ≤ w3.heap.size := by omega
    exact postM_taken hK (v := .tuple #[.slice vA R.length vc, .int .i64 0]) (by simp [results, Tryz.results27, go_sem]) ⟨hck.belowOf hw3 hb0, fun h => absurd h (by omega), fun _ => ⟨vA, vc, rfl, own_mono hw3 (CK.own ho.out hck)⟩⟩
end Go.Proofs.YtbdgblnccjpahaaGreatDoor
