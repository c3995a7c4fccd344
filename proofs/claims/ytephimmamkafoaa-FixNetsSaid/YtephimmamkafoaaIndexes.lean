/-
  Walk: the indexes of the bits of a number that are as asked for.
-/
import Derived.Test.YtephimmamkafoaaAbs
import Derived.WalkKit
import Derived.Laws.BitsAllLaws
namespace Go.Proofs.Ytephimmamkafoaa
set_option linter.unusedSimpArgs false
set_option linter.unusedVariables false
open Go.RowKit
attribute [local go_sem] bl_al bl_drew bl_drewN bl_refl
set_option maxRecDepth 20000
def idxs (set : Nat) (are : Bool) : Nat → List Int
  | 0 => []
  | k + 1 => idxs set are k ++ if set.testBit k == are then [(k : Int)] else []
/-- A slice of the call's own that holds these numbers. -/
def RetI (L : List Int) (w : World) (e : Ending) (w' : World) : Prop :=
  ∃ A c, e = .returned (.slice A L.length c) ∧ Below w.heap.size w w' ∧ w'.ownsRow w.heap.size 3 1 (.slice A L.length c) L.length (L.map (.int .i64))
theorem info3 : (Try.prog.info? 3).map (fun i => (i.zero, i.size, i.bytes)) = some (some (.int .i64 0), 1, 8) := by kernel_rfl
theorem idxs_len (set : Nat) (are : Bool) : ∀ k, (idxs set are k).length ≤ k
  | 0 => Nat.le_refl 0
  | k + 1 => by
    unfold idxs
    have := idxs_len set are k
    split <;> simp <;> omega
theorem bit_test (set k : Nat) (hs : set < 2 ^ 62) : (bits .and .u64 ((set : Int) / 2 ^ k) 1 == 1) = set.testBit k := by
  have e : ((set : Int) / 2 ^ k) = ((set / 2 ^ k : Nat) : Int) := by simp
  have h1 : set / 2 ^ k ≤ set := Nat.div_le_self _ _
  have h2 : (2 : Nat) ^ 62 = 4611686018427387904 := by decide
  have h3 := u64_and_nat (set / 2 ^ k) 1 (by omega) (by omega)
  rw [e, show (1 : Int) = ((1 : Nat) : Int) from rfl, h3, Nat.and_one_is_mod, Nat.testBit_eq_decide_div_mod_eq]
  by_cases h : set / 2 ^ k % 2 = 1
  · rw [h]; rfl
  · have : set / 2 ^ k % 2 = 0 := by omega
    rw [this]; rfl
theorem idxs_hit {set : Nat} {are : Bool} {k : Nat} (h : (set.testBit k == are) = true) : idxs set are (k + 1) = idxs set are k ++ [(k : Int)] := by rw [idxs, if_pos h]
theorem idxs_miss {set : Nat} {are : Bool} {k : Nat} (h : (set.testBit k == are) = false) : idxs set are (k + 1) = idxs set are k := by rw [idxs, if_neg (by rw [h]; decide), List.append_nil]
theorem own_ge {w : World} {base n : Nat} {e : TypeId} {size : Nat} {v : Value} {xs : List Value} (h : w.ownsRow base e size v n xs) : ∀ k, v.ownBlock = some k → base ≤ k := fun k hk => by
  rcases h.2 with ⟨e, _⟩ | ⟨g, cap, cur, e, hg, _⟩
  · rw [e] at hk; simp [Value.ownBlock] at hk
  · rw [e] at hk; simp [Value.ownBlock] at hk; omega
theorem own_below {W W' : World} {b n : Nat} {e : TypeId} {size : Nat} {v : Value} {xs : List Value} (h : W.ownsRow b e size v n xs) (hb : Below W.heap.size W W') : W'.ownsRow b e size v n xs := by
  refine ⟨h.1, ?_⟩
  rcases h.2 with h2 | ⟨g, cap, cur, e1, e2, e3, e4⟩
  · exact .inl h2
  · exact .inr ⟨g, cap, cur, e1, e2, (hb.block g (Array.getElem?_eq_some_iff.1 e3).1).trans e3, e4⟩
theorem own_mono {W : World} {b b' n : Nat} {e : TypeId} {size : Nat} {v : Value} {xs : List Value} (hb : b ≤ b') (h : W.ownsRow b' e size v n xs) : W.ownsRow b e size v n xs := by
  refine ⟨h.1, ?_⟩
  rcases h.2 with h2 | ⟨g, cap, cur, e1, e2, e4⟩
  · exact .inl h2
  · exact .inr ⟨g, cap, cur, e1, Nat.le_trans hb e2, e4⟩
theorem RetI.of {L : List Int} {w w' : World} {v : Value} (hb : Below w.heap.size w w') (h : w'.ownsRow w.heap.size 3 1 v L.length (L.map (.int .i64))) : RetI L w (.returned v) w' := by
  rcases h.2 with ⟨e, hn⟩ | ⟨g, cap, cur, e, h2⟩
  · refine ⟨none, 0, ?_, hb, ?_⟩
    · rw [e, hn]
    · rw [hn]; rw [e, hn] at h; exact h
  · exact ⟨some ⟨g, 0, none⟩, cap, by rw [e], hb, by rw [e] at h; exact h⟩
set_option maxHeartbeats 4000000 in
theorem c_indexes (set n : Nat) (are : Bool) (w : World) (hs : set < 2 ^ 62) (hn : n ≤ 62) : Calls Try.prog 95 #[.int .u64 (set : Nat), .int .i64 (n : Nat), .bool are] w (RetI (idxs set are n) w) := by
  obtain ⟨i0, hi, hz0, hz1, hz2⟩ := info_parts info3
  go_enter Try.func95, Try.ntmps95
  go_wp2
  go_loopw [7, 10] (fun v i wr => ∃ k : Nat, k ≤ n ∧ i = .int .i64 k ∧ Below w.heap.size w wr ∧ wr.ownsRow w.heap.size 3 1 v (idxs set are k).length ((idxs set are k).map (.int .i64))) (fun _ i _ => n - (intOf i).toNat)
  case atStart => exact ⟨0, Nat.zero_le _, rfl, Below.refl _ _, World.ownsRow_nil _ _ _ _⟩
  case round =>
    obtain ⟨k, hk, rfl, hb, hown⟩ := hrel
    by_cases hlt : k < n
    · have hbt := bit_test set k hs
      have hlen := idxs_len set are k
      have hsz := hb.size
      cases hT : set.testBit k == are
      · have hT' : ((bits .and .u64 ((set : Int) / 2 ^ k) 1 == 1) == are) = false := by rw [hbt]; exact hT
        have hm := Lib.hid (idxs_miss hT)
        clear hbt hT
        go_wp2
        go_roundw
        case rel => exact ⟨k + 1, by omega, by go_num, hb, by rw [hm.out]; exact hown⟩
        case measure => simp [intOf]; omega
      · have hT' : ((bits .and .u64 ((set : Int) / 2 ^ k) 1 == 1) == are) = true := by rw [hbt]; exact hT
        have hm := Lib.hid (idxs_hit hT)
        clear hbt hT
        replace hown := Lib.hid hown
        go_wp2_with (at_builtin; refine wpList_append_own _ rfl _ _ 79 rfl w.heap.size 3 i0 (.int .i64 0) 1 8 Try.underlying79 hi hz0 hz1 hz2 rfl (by decide) _ _ _ rfl (hown.out.alloc _) ⟨wr.heap.size, 0, none⟩ 1 1 [.int .i64 k] rfl rfl ?c1 ?c2 ?c3 ?c4 ?c5 ?_)
        case c1 =>
          intro j u hj
          match j, hj with
          | 0, hj => simp at hj; subst hj; simp [Addr.add]
        case c2 => intro u hu; simp at hu; subst hu; rfl
        case c3 => unfold maxLen; omega
        case c4 => omega
        case c5 => simp; omega
        intro v' w1 hown' hgrow _
        have hb1 : Below w.heap.size w w1 := (bl_al _ hb).grown hgrow (by simp; omega) (own_ge hown.out)
        clear hgrow hown
        replace hown' := Lib.hid hown'
        go_wp2
        go_roundw
        case rel => exact ⟨k + 1, by omega, by go_num, hb1, by rw [hm.out]; simpa using hown'.out⟩
        case measure => simp [intOf]; omega
    · go_wp2
      go_ret
      have : k = n := by omega
      subst this
      exact RetI.of hb hown
end Go.Proofs.Ytephimmamkafoaa
