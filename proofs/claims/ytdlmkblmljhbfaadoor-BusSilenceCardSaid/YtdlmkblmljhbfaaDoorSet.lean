/-
  Walks: sets of numbers as bits: the lowest one, how many, the list, the set of a list. The table of the library's that is read: Tab.
-/
import Derived.Test.YtdlmkblmljhbfaaDoorW1
import Derived.Lib.TrailingZeros
import Derived.Laws.Bits64b
namespace Go.Proofs.YtdlmkblmljhbfaaDoor
set_option linter.unusedSimpArgs false
set_option linter.unusedVariables false
open Go.RowKit Go.Shelf
attribute [local go_sem] bl_al bl_drew bl_drewN bl_refl
set_option maxRecDepth 20000
/-- math/bits.deBruijn64tab as its initialiser lays it. -/
def Tab (w : World) : Prop := ∀ j, j < 64 → w.cell? ⟨1, j, none⟩ = some (.int .u8 ((Lib.deBruijn64tab.getD j 0 : Nat) : Int))
theorem Tab.below {w w' : World} (h : Tab w) (hb : Below w.heap.size w w') : Tab w' := fun j hj => kcell hb (h j hj)
theorem Tab.bx {X : List Nat} {w w' : World} (h : Tab w) (hb : BX X w w') (hX : 1 ∉ X) : Tab w' := fun j hj => by
  have h1 := h j hj
  have hlt := World.block_lt_of_cell? w _ h1
  have : w'.heap[1]? = w.heap[1]? := hb.block 1 hlt hX
  simp only [World.cell?] at h1 ⊢
  rw [this]
  exact h1
theorem tz_key (x a : Nat) (hx : x < 18446744073709551616) (hx0 : x ≠ 0) (hlow : x &&& (18446744073709551616 - x) = a) :
    IntKind.u64.wrap (bits BinOp.and IntKind.u64 (x : Int) (IntKind.u64.wrap (-(x : Int))) * 285870213051353865) / 288230376151711744 = ((a * 285870213051353865 % 18446744073709551616 / 288230376151711744 : Nat) : Int) := by
  have e1 : IntKind.u64.wrap (-(x : Int)) = ((18446744073709551616 - x : Nat) : Int) := by rw [IntKind.wrap_u64]; omega
  rw [e1, bits_and_u64_nat x _ hx (by omega), hlow, IntKind.wrap_u64]
  omega
set_option maxHeartbeats 1000000 in
theorem tz_core (x k idx : Nat) (w : World) (hx0 : ((x : Int) == 0) = false)
    (key : IntKind.u64.wrap (bits BinOp.and IntKind.u64 (x : Int) (IntKind.u64.wrap (-(x : Int))) * 285870213051353865) / 288230376151711744 = (idx : Int))
    (hi : idx < 64) (hk : k < 64) (hcell : w.cell? ⟨1, idx, none⟩ = some (.int .u8 k)) :
    Calls Tryd.prog 147 #[.int .u64 x] w (Same (.int .i64 k) w) := by
  go_enter Tryd.func147, Tryd.ntmps147
  go_wp2_with (simp only [key])
  go_ret
  exact ⟨rfl, rfl⟩
theorem c_tz (x : Nat) (w : World) (hx0 : x ≠ 0) (hx : x < 1024) (hT : Tab w) : Calls Tryd.prog 128 #[.int .u64 x] w (Same (.int .i64 (Lib.ctz 64 x)) w) := by
  obtain ⟨hlow, hk⟩ := Lib.lowest_bit 64 x hx0 (by omega)
  obtain ⟨hi, htab⟩ := Lib.deBruijn64_at _ hk
  have hcell := hT _ hi
  rw [htab] at hcell
  have hc := Lib.hid (tz_core x _ _ w (by simp; omega) (tz_key x _ (by omega) hx0 hlow) hi hk hcell)
  clear hcell hi htab hlow hk
  generalize Lib.ctz 64 x = k at *
  go_enter Tryd.func128, Tryd.ntmps128
  go_wp2_with (go_at_call 147; (with_reducible refine hc.out.mono ?_); rintro e w3 ⟨rfl, rfl⟩)
  go_ret
  exact ⟨rfl, rfl⟩
theorem c_Ones64 : ∃ f : Nat → Int, (∀ (s : Nat) (w : World), Calls Tryd.prog 149 #[.int .u64 (s : Nat)] w (Same (.int .i64 (f s)) w)) ∧ ∀ s, s < 1024 → f s = (sizeS s : Nat) := by
  apply Exists.intro
  apply And.intro
  · intro s w
    go_enter Tryd.func149, Tryd.ntmps149
    go_wp2
    go_ret
    exact ⟨rfl, rfl⟩
  · decide +kernel
theorem c_Ones (s : Nat) (w : World) (hs : s < 1024) : Calls Tryd.prog 129 #[.int .u64 (s : Nat)] w (Same (.int .i64 (sizeS s : Nat)) w) := by
  obtain ⟨f, h1, h2⟩ := c_Ones64
  have hc := Lib.hid fun W : World => h1 s W
  have e := h2 s hs
  rw [e] at hc
  clear h1 h2 e hs
  go_enter Tryd.func129, Tryd.ntmps129
  go_wp2_with (go_at_call 149; (with_reducible refine (hc.out _).mono ?_); rintro e w3 ⟨rfl, rfl⟩)
  go_ret
  exact ⟨rfl, rfl⟩
theorem c_size (s : Nat) (w : World) (hs : s < 1024) : Calls Tryd.prog 90 #[.int .u64 (s : Nat)] w (Same (.int .i64 (sizeS s : Nat)) w) := by
  have hc := Lib.hid fun W : World => c_Ones s W hs
  go_enter Tryd.func90, Tryd.ntmps90
  go_wp2_with (go_at_call 129; (with_reducible refine (hc.out _).mono ?_); rintro e w3 ⟨rfl, rfl⟩)
  go_ret
  exact ⟨rfl, rfl⟩
/-- The list of a set begins with the lowest number, and goes on with the others. -/
theorem list_step : ∀ s : Nat, s < 1024 → s ≠ 0 → listS s = ((Lib.ctz 64 s : Nat) : Int) :: listS (s &&& (s - 1)) ∧ s &&& (s - 1) < s := by decide +kernel
theorem list_zero : listS 0 = [] := by decide
theorem setL_len (s : Nat) : ∀ k, (setL s k).length ≤ k
  | 0 => Nat.le_refl 0
  | k + 1 => by
    have := setL_len s k
    rw [setL, List.length_append]
    split <;> simp <;> omega
theorem listS_len (s : Nat) : (listS s).length ≤ 10 := setL_len s 10
set_option maxHeartbeats 4000000 in
theorem c_list (s : Nat) (w : World) (hs : s < 1024) (hT : Tab w) : Calls Tryd.prog 87 #[.int .u64 (s : Nat)] w (RetI (listS s) w) := by
  obtain ⟨i0, hi, hz0, hz1, hz2⟩ := info_parts infoI
  have HT := Lib.hid hT
  clear hT
  have htot := listS_len s
  have hst := Lib.hid list_step
  have hs0 := Lib.hid hs
  go_enter Tryd.func87, Tryd.ntmps87
  go_wp2
  go_loopw [0, 3] (fun x v wr => ∃ (r : Nat) (d : List Int), x = .int .u64 (r : Nat) ∧ r < 1024 ∧ d ++ listS r = listS s ∧ Below w.heap.size w wr ∧ wr.ownsRow w.heap.size 3 1 v d.length (d.map (.int .i64))) (fun x _ _ => (intOf x).toNat)
  case atStart => exact ⟨s, [], rfl, hs0.out, rfl, Below.refl _ _, World.ownsRow_nil _ _ _ _⟩
  case round =>
    obtain ⟨r, d, rfl, hr, hd, hb, hown⟩ := hrel
    by_cases h0 : r = 0
    · subst h0
      have hd' : Hid (d = listS s) := Lib.hid (by rw [← hd, list_zero, List.append_nil])
      clear hd
      replace hown := Lib.hid hown
      go_wp2
      go_ret
      exact RetI.of hb (by rw [← hd'.out]; exact hown.out)
    · have h0' : ((r : Int) != 0) = true := by simp; omega
      obtain ⟨h1, h2⟩ := hst.out r hr h0
      have hdl : d.length ≤ 10 := by
        have := congrArg List.length hd
        rw [List.length_append] at this
        omega
      have hand := u64_and_nat r (r - 1) (by omega) (by omega)
      rw [show ((r - 1 : Nat) : Int) = (r : Int) - 1 by omega] at hand
      have htz := Lib.hid fun W (hb : Below w.heap.size w W) => c_tz r W h0 hr (HT.out.below hb)
      rw [h1] at hd
      generalize Lib.ctz 64 r = z at *
      generalize r &&& (r - 1) = r' at *
      replace hand := Lib.hid hand
      replace hd : Hid ((d ++ [(z : Int)]) ++ listS r' = listS s) := Lib.hid (by rw [← hd]; simp)
      clear h1
      replace hown := Lib.hid hown
      have hsz := hb.size
      go_wp2_with (first | (go_at_call 128; (with_reducible refine (htz.out _ hb).mono ?_); rintro e w3 ⟨rfl, rfl⟩) | (at_builtin; refine wpList_append_own _ rfl _ _ 22 rfl w.heap.size 3 i0 (.int .i64 0) 1 8 Tryd.underlying22 hi hz0 hz1 hz2 rfl (by decide) _ _ _ rfl (hown.out.alloc _) ⟨wr.heap.size, 0, none⟩ 1 1 [.int .i64 z] rfl rfl ?c1 ?c2 ?c3 ?c4 ?c5 ?_))
      case c1 =>
        intro j u hj
        match j, hj with
        | 0, hj => simp at hj; subst hj; simp [Addr.add]
      case c2 => intro u hu; simp at hu; subst hu; rfl
      case c3 => unfold maxLen; omega
      case c4 => omega
      case c5 => simp; omega
      intro v' w1 hown' hgrow _
      have hb1 : Below w.heap.size w w1 := (bl_al _ hb).grown hgrow (by simp; omega) (own_ge hown.out)
      clear hgrow hown
      replace hown' := Lib.hid hown'
      go_wp2_with (simp only [hand.out])
      go_roundw
      case rel => exact ⟨r', d ++ [(z : Int)], rfl, by omega, hd.out, hb1, by simpa using hown'.out⟩
      case measure => simp [intOf]; omega
theorem or_step (m k : Nat) (hm : m < 1024) (hk : k ≤ 62) : bits .or .u64 (m : Int) (IntKind.u64.wrap (2 ^ k)) = ((m ||| 2 ^ k : Nat) : Int) := by
  have h1 : (2 : Nat) ^ k ≤ 2 ^ 62 := Nat.pow_le_pow_right (by decide) hk
  have e : ((2 : Int) ^ k) = ((2 ^ k : Nat) : Int) := by simp
  have h2 : (2 : Nat) ^ 62 = 4611686018427387904 := by decide
  have h3 := Nat.two_pow_pos k
  rw [e, IntWalk.u64_in _ (by omega)]
  exact u64_or_nat m (2 ^ k) (by omega) (by omega)
theorem or_bd {m k : Nat} (hm : m < 1024) (hk : k < 10) : m ||| 2 ^ k < 1024 := Nat.or_lt_two_pow (n := 10) hm (Nat.pow_lt_pow_right (by decide) hk)
theorem setN_snoc (l : List Int) (n : Int) : setN (l ++ [n]) = setN l ||| 2 ^ n.toNat := by simp [setN, List.foldl_append]
theorem setN_lt {l : List Int} (h : ∀ n ∈ l, 0 ≤ n ∧ n < 10) : setN l < 1024 := by
  suffices H : ∀ (l : List Int) (s : Nat), s < 1024 → (∀ n ∈ l, 0 ≤ n ∧ n < 10) → l.foldl (fun s n => s ||| 2 ^ n.toNat) s < 1024 from H l 0 (by decide) h
  intro l
  induction l with
  | nil => exact fun s hs _ => hs
  | cons x l ih =>
    intro s hs hl
    have := hl x (by simp)
    exact ih _ (or_bd hs (by omega)) fun n hn => hl n (by simp [hn])
set_option maxHeartbeats 2000000 in
theorem c_setOf (l : List Int) (A : Option Addr) (c : Nat) (w : World) (hr : Sl cI 1 w A l) (hl : l.length ≤ 1000000) (hb : ∀ n ∈ l, 0 ≤ n ∧ n < 10) : Calls Tryd.prog 111 #[.slice A l.length c] w (Same (.int .u64 (setN l : Nat)) w) := by
  have Hr := Lib.hid hr
  clear hr
  have hlt := Lib.hid fun k => setN_lt (l := l.take k) fun n hn => hb n (List.mem_of_mem_take hn)
  have hst := Lib.hid fun k (n : Nat) (h : l[k]? = some (n : Int)) => (show setN (l.take (k + 1)) = setN (l.take k) ||| 2 ^ n by rw [List.take_add_one, h]; exact setN_snoc _ _)
  have h0 : Hid (setN (l.take 0) = 0) := rfl
  have hend : Hid (setN (l.take l.length) = setN l) := Lib.hid (by rw [List.take_length])
  have hbd := Lib.hid fun k x (hx : l[k]? = some x) => hb x (List.mem_of_getElem? hx)
  obtain ⟨g, hg⟩ : ∃ g : Nat → Nat, ∀ k, setN (l.take k) = g k := ⟨_, fun _ => rfl⟩
  simp only [hg] at hlt hst h0 hend
  clear hg hb
  obtain ⟨n, Hn⟩ : ∃ n, Hid (l.length = n) := ⟨_, rfl⟩
  rw [Hn.out] at hl hend ⊢
  go_enter Tryd.func111, Tryd.ntmps111
  go_wp2
  go_loop [3, 8] (fun o i => ∃ k : Nat, k ≤ n ∧ i = .int .i64 k ∧ o = .int .u64 (g k : Nat)) (fun _ i => n - (intOf i).toNat)
  case atStart => exact ⟨0, Nat.zero_le _, rfl, by rw [h0.out]; rfl⟩
  case round =>
    obtain ⟨k, hk, rfl, rfl⟩ := hrel
    by_cases hltn : k < n
    · have hx : l[k]? = some (l[k]'(by rw [Hn.out]; exact hltn)) := List.getElem?_eq_getElem _
      generalize l[k]'(by rw [Hn.out]; exact hltn) = x at hx
      have hxb := hbd.out k x hx
      obtain ⟨m, rfl⟩ : ∃ m : Nat, x = m := ⟨x.toNat, by omega⟩
      obtain ⟨b, off, rfl, hc⟩ := Hr.out k _ hx
      have c0 : w.cell? ⟨b, off + k, none⟩ = some (.int .i64 m) := by simpa using hc 0 _ rfl
      have hs := Lib.hid (hst.out k m hx)
      have hor := Lib.hid (or_step (g k) m (hlt.out k) (by omega))
      clear hc hx
      go_wp2_with (simp only [hor.out])
      go_round
      case rel => exact ⟨k + 1, by omega, by go_num, by rw [hs.out]⟩
      case measure => simp [intOf]; omega
    · go_wp2
      go_ret
      have : k = n := by omega
      exact ⟨by rw [this, hend.out] <;> rfl, rfl⟩
end Go.Proofs.YtdlmkblmljhbfaaDoor
