/-
  Walk: whether two lists of ranges are equal.
-/
import Derived.Test.YtdlmkblmljhbfaaDoorOwn
import Derived.Test.YtdlmkblmljhbfaaDoorPlain
namespace Go.Proofs.YtdlmkblmljhbfaaDoor
set_option linter.unusedSimpArgs false
set_option linter.unusedVariables false
open Go.RowKit
attribute [local go_sem] bl_al bl_drew bl_drewN bl_refl bx_al bx_drew bx_drewN bx_refl
set_option maxRecDepth 20000
/-- Whether two lists of ranges are equal. -/
def rgsB (a b : List Rg) : Bool := decide (a = b)
theorem take_stepR {a b : List Rg} {k : Nat} {x : Rg} (ha : a[k]? = some x) (hb : b[k]? = some x) (h : a.take k = b.take k) : a.take (k + 1) = b.take (k + 1) := by
  rw [List.take_add_one, List.take_add_one, ha, hb, h]
set_option maxHeartbeats 4000000 in
theorem r_Ranges (a b : List Rg) (A B : Option Addr) (c d : Nat) (w : World) (ha : Sl cRg 2 w A a) (hb : Sl cRg 2 w B b) (h1 : a.length ≤ 1000) (h2 : b.length ≤ 1000) :
    Calls Tryd.prog 19 #[.slice A a.length c, .slice B b.length d] w (Ret (.bool (rgsB a b)) w) := by
  have Ha := Lib.hid ha
  have Hb := Lib.hid hb
  clear ha hb
  by_cases hl : a.length = b.length
  · obtain ⟨n, Hn⟩ : ∃ n, Hid (a.length = n) := ⟨_, rfl⟩
    have Hm : Hid (b.length = n) := Lib.hid (by rw [← hl]; exact Hn.out)
    rw [Hn.out] at h1 ⊢
    rw [Hm.out]
    clear hl h2
    go_enter Tryd.func19, Tryd.ntmps19
    go_wp2
    go_loopw [5] (fun i wr => ∃ k : Nat, k ≤ n ∧ i = .int .i64 k ∧ Below w.heap.size w wr ∧ a.take k = b.take k) (fun i _ => n - (intOf i).toNat)
    case atStart => exact ⟨0, Nat.zero_le _, rfl, Below.refl _ _, rfl⟩
    case round =>
      obtain ⟨k, hk, rfl, hbw, hi⟩ := hrel
      replace hi := Lib.hid hi
      by_cases hlt : k < n
      · have hx : a[k]? = some (a[k]'(by rw [Hn.out]; exact hlt)) := List.getElem?_eq_getElem _
        generalize a[k]'(by rw [Hn.out]; exact hlt) = x at hx
        have hy : b[k]? = some (b[k]'(by rw [Hm.out]; exact hlt)) := List.getElem?_eq_getElem _
        generalize b[k]'(by rw [Hm.out]; exact hlt) = y at hy
        obtain ⟨ba, oa, hA, hca⟩ := Ha.out k x hx
        obtain ⟨bb, ob, hB, hcb⟩ := Hb.out k y hy
        have c0 : ∀ W, Below wr.heap.size wr W → W.cell? ⟨ba, oa + k * 2, none⟩ = some (.int .i64 x.lo) := later (kcell hbw (hca 0 _ rfl))
        have c2 : ∀ W, Below wr.heap.size wr W → W.cell? ⟨ba, oa + k * 2 + 1, none⟩ = some (.int .i64 x.hi) := later (kcell hbw (hca 1 _ rfl))
        have c1 : ∀ W, Below wr.heap.size wr W → W.cell? ⟨bb, ob + k * 2, none⟩ = some (.int .i64 y.lo) := later (kcell hbw (hcb 0 _ rfl))
        have c3 : ∀ W, Below wr.heap.size wr W → W.cell? ⟨bb, ob + k * 2 + 1, none⟩ = some (.int .i64 y.hi) := later (kcell hbw (hcb 1 _ rfl))
        clear hca hcb
        have hnx : Hid (x = y → a.take (k + 1) = b.take (k + 1)) := fun h => take_stepR hx (h ▸ hy) hi.out
        have hno : Hid (x ≠ y → rgsB a b = false) := fun h => by
          unfold rgsB
          rw [decide_eq_false_iff_not]
          intro e
          rw [e, hy] at hx
          exact h (by injection hx with hx; exact hx.symm)
        clear hx hy
        subst hA hB
        have hxe : x.lo = y.lo → x.hi = y.hi → x = y := fun h h' => by cases x; cases y; simp_all
        have hxn : ¬ x.lo = y.lo → x ≠ y := fun h e => h (by rw [e])
        have hxm : ¬ x.hi = y.hi → x ≠ y := fun h e => h (by rw [e])
        by_cases e1 : x.lo = y.lo
        · by_cases e2 : x.hi = y.hi
          · have h' := Lib.hid (hnx.out (hxe e1 e2))
            clear hxe hxn hxm hnx hno
            go_wp2
            refine wp_any (w0 := wr) ⟨[], [], [some 17, some 18, some 19, some 20, some 21, some 22, some 23, some 24, some 25], [[], [], [0, 1], [0, 1, 2], [], [], [4, 5], [4, 5, 6], [0, 1, 2, 3, 4, 5, 6, 7]], [[], [], [0, 1], [2], [], [], [4, 5], [6], [3, 7]]⟩ (fun _ => []) (by kernel_rfl) (by kernel_rfl) (by (with_reducible (repeat' (first | assumption | apply jA | apply jB | apply jC | apply jD | apply jE | apply jF | apply hb3 | omega | (simp; done) | (simp; omega) | (dsimp only; omega))))) (fun u => by simp only [putD, Act.put, List.setIfInBounds_toArray, List.set_cons_zero, List.set_cons_succ, Nat.zero_add, Nat.reduceAdd]; rfl) ?_
            apply RGW.on (i := 0) rfl
            · (simp only [gA, gB, gC] <;> rfl)
            · intro γ u W hcur hd
              clear hd
              (try dsimp only)
              refine ⟨rfl, ?_⟩
              go_simp <;> (try go_bits) <;> with_reducible rfl
            · exact fun _ _ _ => rfl
            · rfl
            dsimp only [nA, cA]
            apply RGW.on (i := 1) rfl
            · (simp only [gA, gB, gC] <;> rfl)
            · intro γ u W hcur hd
              clear hd
              (try dsimp only)
              refine ⟨rfl, ?_⟩
              go_simp <;> (try go_bits) <;> with_reducible rfl
            · exact fun _ _ _ => rfl
            · rfl
            dsimp only [nA, cA]
            apply RGW.on (i := 2) rfl
            · (simp only [gA, gB, gC] <;> rfl)
            · intro γ u W hcur hd
              obtain ⟨⟨h0, -, -⟩, ⟨h1, -, -⟩, -⟩ := hd
              dsimp only at h0 h1
              (try simp only [h0, h1])
              refine ⟨rfl, ?_⟩
              go_simp <;> (try go_bits) <;> with_reducible rfl
            · exact fun _ _ _ => rfl
            · rfl
            dsimp only [nA, cA]
            apply RGW.on (i := 3) rfl
            · (simp only [gA, gB, gC] <;> rfl)
            · intro γ u W hcur hd
              obtain ⟨⟨h2, -, -⟩, -⟩ := hd
              dsimp only at h2
              (try simp only [h2])
              refine ⟨rfl, ?_⟩
              go_simp <;> (try go_bits) <;> with_reducible rfl
            · exact fun _ _ _ => rfl
            · rfl
            dsimp only [nA, cA]
            apply RGW.on (i := 4) rfl
            · (simp only [gA, gB, gC] <;> rfl)
            · intro γ u W hcur hd
              clear hd
              (try dsimp only)
              refine ⟨rfl, ?_⟩
              go_simp <;> (try go_bits) <;> with_reducible rfl
            · exact fun _ _ _ => rfl
            · rfl
            dsimp only [nA, cA]
            apply RGW.on (i := 5) rfl
            · (simp only [gA, gB, gC] <;> rfl)
            · intro γ u W hcur hd
              clear hd
              (try dsimp only)
              refine ⟨rfl, ?_⟩
              go_simp <;> (try go_bits) <;> with_reducible rfl
            · exact fun _ _ _ => rfl
            · rfl
            dsimp only [nA, cA]
            apply RGW.on (i := 6) rfl
            · (simp only [gA, gB, gC] <;> rfl)
            · intro γ u W hcur hd
              obtain ⟨⟨h4, -, -⟩, ⟨h5, -, -⟩, -⟩ := hd
              dsimp only at h4 h5
              (try simp only [h4, h5])
              refine ⟨rfl, ?_⟩
              go_simp <;> (try go_bits) <;> with_reducible rfl
            · exact fun _ _ _ => rfl
            · rfl
            dsimp only [nA, cA]
            apply RGW.on (i := 7) rfl
            · (simp only [gA, gB, gC] <;> rfl)
            · intro γ u W hcur hd
              obtain ⟨⟨h6, -, -⟩, -⟩ := hd
              dsimp only at h6
              (try simp only [h6])
              refine ⟨rfl, ?_⟩
              go_simp <;> (try go_bits) <;> with_reducible rfl
            · exact fun _ _ _ => rfl
            · rfl
            dsimp only [nA, cA]
            apply RGW.on (i := 8) rfl
            · (simp only [gA, gB, gC] <;> rfl)
            · intro γ u W hcur hd
              obtain ⟨⟨h3, -, -⟩, ⟨h7, -, -⟩, -⟩ := hd
              dsimp only at h3 h7
              (try simp only [h3, h7])
              refine ⟨rfl, ?_⟩
              go_simp <;> (try go_bits) <;> with_reducible rfl
            · exact fun _ _ _ => rfl
            · rfl
            dsimp only [nA, cA]
            refine RGW.fin (fun γ u wj hwj hd hdis => ?_)
            obtain ⟨⟨h0, -, -⟩, ⟨h1, -, -⟩, ⟨h2, -, -⟩, ⟨h3, -, -⟩, ⟨h4, -, -⟩, ⟨h5, -, -⟩, ⟨h6, -, -⟩, ⟨h7, -, -⟩, ⟨h8, -, -⟩, -⟩ := hd
            dsimp only at h0 h1 h2 h3 h4 h5 h6 h7 h8
            clear hdis
            simp only [h0, h1, h2, h3, h4, h5, h6, h7, h8]
            clear h8 h7 h6 h5 h4 h3 h2 h1 h0
            clear u
            simp only [List.map_nil]
            refine PlanW.done ?_
            have hb3 := bl_tt hwj
            have hbj := bl_tr hbw hwj
            go_wp2
            go_roundw
            case rel => exact ⟨k + 1, by omega, by go_num, hbj, h'.out⟩
            case measure => simp [intOf]; omega
          · have h' := Lib.hid (hno.out (hxm e2))
            clear hxe hxn hxm hnx hno
            go_wp2
            refine wp_any (w0 := wr) ⟨[], [], [some 17, some 18, some 19, some 20, some 21, some 22, some 23, some 24, some 25], [[], [], [0, 1], [0, 1, 2], [], [], [4, 5], [4, 5, 6], [0, 1, 2, 3, 4, 5, 6, 7]], [[], [], [0, 1], [2], [], [], [4, 5], [6], [3, 7]]⟩ (fun _ => []) (by kernel_rfl) (by kernel_rfl) (by (with_reducible (repeat' (first | assumption | apply jA | apply jB | apply jC | apply jD | apply jE | apply jF | apply hb3 | omega | (simp; done) | (simp; omega) | (dsimp only; omega))))) (fun u => by simp only [putD, Act.put, List.setIfInBounds_toArray, List.set_cons_zero, List.set_cons_succ, Nat.zero_add, Nat.reduceAdd]; rfl) ?_
            apply RGW.on (i := 0) rfl
            · (simp only [gA, gB, gC] <;> rfl)
            · intro γ u W hcur hd
              clear hd
              (try dsimp only)
              refine ⟨rfl, ?_⟩
              go_simp <;> (try go_bits) <;> with_reducible rfl
            · exact fun _ _ _ => rfl
            · rfl
            dsimp only [nA, cA]
            apply RGW.on (i := 1) rfl
            · (simp only [gA, gB, gC] <;> rfl)
            · intro γ u W hcur hd
              clear hd
              (try dsimp only)
              refine ⟨rfl, ?_⟩
              go_simp <;> (try go_bits) <;> with_reducible rfl
            · exact fun _ _ _ => rfl
            · rfl
            dsimp only [nA, cA]
            apply RGW.on (i := 2) rfl
            · (simp only [gA, gB, gC] <;> rfl)
            · intro γ u W hcur hd
              obtain ⟨⟨h0, -, -⟩, ⟨h1, -, -⟩, -⟩ := hd
              dsimp only at h0 h1
              (try simp only [h0, h1])
              refine ⟨rfl, ?_⟩
              go_simp <;> (try go_bits) <;> with_reducible rfl
            · exact fun _ _ _ => rfl
            · rfl
            dsimp only [nA, cA]
            apply RGW.on (i := 3) rfl
            · (simp only [gA, gB, gC] <;> rfl)
            · intro γ u W hcur hd
              obtain ⟨⟨h2, -, -⟩, -⟩ := hd
              dsimp only at h2
              (try simp only [h2])
              refine ⟨rfl, ?_⟩
              go_simp <;> (try go_bits) <;> with_reducible rfl
            · exact fun _ _ _ => rfl
            · rfl
            dsimp only [nA, cA]
            apply RGW.on (i := 4) rfl
            · (simp only [gA, gB, gC] <;> rfl)
            · intro γ u W hcur hd
              clear hd
              (try dsimp only)
              refine ⟨rfl, ?_⟩
              go_simp <;> (try go_bits) <;> with_reducible rfl
            · exact fun _ _ _ => rfl
            · rfl
            dsimp only [nA, cA]
            apply RGW.on (i := 5) rfl
            · (simp only [gA, gB, gC] <;> rfl)
            · intro γ u W hcur hd
              clear hd
              (try dsimp only)
              refine ⟨rfl, ?_⟩
              go_simp <;> (try go_bits) <;> with_reducible rfl
            · exact fun _ _ _ => rfl
            · rfl
            dsimp only [nA, cA]
            apply RGW.on (i := 6) rfl
            · (simp only [gA, gB, gC] <;> rfl)
            · intro γ u W hcur hd
              obtain ⟨⟨h4, -, -⟩, ⟨h5, -, -⟩, -⟩ := hd
              dsimp only at h4 h5
              (try simp only [h4, h5])
              refine ⟨rfl, ?_⟩
              go_simp <;> (try go_bits) <;> with_reducible rfl
            · exact fun _ _ _ => rfl
            · rfl
            dsimp only [nA, cA]
            apply RGW.on (i := 7) rfl
            · (simp only [gA, gB, gC] <;> rfl)
            · intro γ u W hcur hd
              obtain ⟨⟨h6, -, -⟩, -⟩ := hd
              dsimp only at h6
              (try simp only [h6])
              refine ⟨rfl, ?_⟩
              go_simp <;> (try go_bits) <;> with_reducible rfl
            · exact fun _ _ _ => rfl
            · rfl
            dsimp only [nA, cA]
            apply RGW.on (i := 8) rfl
            · (simp only [gA, gB, gC] <;> rfl)
            · intro γ u W hcur hd
              obtain ⟨⟨h3, -, -⟩, ⟨h7, -, -⟩, -⟩ := hd
              dsimp only at h3 h7
              (try simp only [h3, h7])
              refine ⟨rfl, ?_⟩
              go_simp <;> (try go_bits) <;> with_reducible rfl
            · exact fun _ _ _ => rfl
            · rfl
            dsimp only [nA, cA]
            refine RGW.fin (fun γ u wj hwj hd hdis => ?_)
            obtain ⟨⟨h0, -, -⟩, ⟨h1, -, -⟩, ⟨h2, -, -⟩, ⟨h3, -, -⟩, ⟨h4, -, -⟩, ⟨h5, -, -⟩, ⟨h6, -, -⟩, ⟨h7, -, -⟩, ⟨h8, -, -⟩, -⟩ := hd
            dsimp only at h0 h1 h2 h3 h4 h5 h6 h7 h8
            clear hdis
            simp only [h0, h1, h2, h3, h4, h5, h6, h7, h8]
            clear h8 h7 h6 h5 h4 h3 h2 h1 h0
            clear u
            simp only [List.map_nil]
            refine PlanW.done ?_
            have hb3 := bl_tt hwj
            have hbj := bl_tr hbw hwj
            go_wp2
            go_ret
            exact ⟨by rw [h'.out] <;> rfl, hbj⟩
        · have h' := Lib.hid (hno.out (hxn e1))
          clear hxe hxn hxm hnx hno
          go_wp2
          refine wp_any (w0 := wr) ⟨[], [], [some 17, some 18, some 19, some 20, some 21, some 22, some 23, some 24, some 25], [[], [], [0, 1], [0, 1, 2], [], [], [4, 5], [4, 5, 6], [0, 1, 2, 3, 4, 5, 6, 7]], [[], [], [0, 1], [2], [], [], [4, 5], [6], [3, 7]]⟩ (fun _ => []) (by kernel_rfl) (by kernel_rfl) (by (with_reducible (repeat' (first | assumption | apply jA | apply jB | apply jC | apply jD | apply jE | apply jF | apply hb3 | omega | (simp; done) | (simp; omega) | (dsimp only; omega))))) (fun u => by simp only [putD, Act.put, List.setIfInBounds_toArray, List.set_cons_zero, List.set_cons_succ, Nat.zero_add, Nat.reduceAdd]; rfl) ?_
          apply RGW.on (i := 0) rfl
          · (simp only [gA, gB, gC] <;> rfl)
          · intro γ u W hcur hd
            clear hd
            (try dsimp only)
            refine ⟨rfl, ?_⟩
            go_simp <;> (try go_bits) <;> with_reducible rfl
          · exact fun _ _ _ => rfl
          · rfl
          dsimp only [nA, cA]
          apply RGW.on (i := 1) rfl
          · (simp only [gA, gB, gC] <;> rfl)
          · intro γ u W hcur hd
            clear hd
            (try dsimp only)
            refine ⟨rfl, ?_⟩
            go_simp <;> (try go_bits) <;> with_reducible rfl
          · exact fun _ _ _ => rfl
          · rfl
          dsimp only [nA, cA]
          apply RGW.on (i := 2) rfl
          · (simp only [gA, gB, gC] <;> rfl)
          · intro γ u W hcur hd
            obtain ⟨⟨h0, -, -⟩, ⟨h1, -, -⟩, -⟩ := hd
            dsimp only at h0 h1
            (try simp only [h0, h1])
            refine ⟨rfl, ?_⟩
            go_simp <;> (try go_bits) <;> with_reducible rfl
          · exact fun _ _ _ => rfl
          · rfl
          dsimp only [nA, cA]
          apply RGW.on (i := 3) rfl
          · (simp only [gA, gB, gC] <;> rfl)
          · intro γ u W hcur hd
            obtain ⟨⟨h2, -, -⟩, -⟩ := hd
            dsimp only at h2
            (try simp only [h2])
            refine ⟨rfl, ?_⟩
            go_simp <;> (try go_bits) <;> with_reducible rfl
          · exact fun _ _ _ => rfl
          · rfl
          dsimp only [nA, cA]
          apply RGW.on (i := 4) rfl
          · (simp only [gA, gB, gC] <;> rfl)
          · intro γ u W hcur hd
            clear hd
            (try dsimp only)
            refine ⟨rfl, ?_⟩
            go_simp <;> (try go_bits) <;> with_reducible rfl
          · exact fun _ _ _ => rfl
          · rfl
          dsimp only [nA, cA]
          apply RGW.on (i := 5) rfl
          · (simp only [gA, gB, gC] <;> rfl)
          · intro γ u W hcur hd
            clear hd
            (try dsimp only)
            refine ⟨rfl, ?_⟩
            go_simp <;> (try go_bits) <;> with_reducible rfl
          · exact fun _ _ _ => rfl
          · rfl
          dsimp only [nA, cA]
          apply RGW.on (i := 6) rfl
          · (simp only [gA, gB, gC] <;> rfl)
          · intro γ u W hcur hd
            obtain ⟨⟨h4, -, -⟩, ⟨h5, -, -⟩, -⟩ := hd
            dsimp only at h4 h5
            (try simp only [h4, h5])
            refine ⟨rfl, ?_⟩
            go_simp <;> (try go_bits) <;> with_reducible rfl
          · exact fun _ _ _ => rfl
          · rfl
          dsimp only [nA, cA]
          apply RGW.on (i := 7) rfl
          · (simp only [gA, gB, gC] <;> rfl)
          · intro γ u W hcur hd
            obtain ⟨⟨h6, -, -⟩, -⟩ := hd
            dsimp only at h6
            (try simp only [h6])
            refine ⟨rfl, ?_⟩
            go_simp <;> (try go_bits) <;> with_reducible rfl
          · exact fun _ _ _ => rfl
          · rfl
          dsimp only [nA, cA]
          apply RGW.on (i := 8) rfl
          · (simp only [gA, gB, gC] <;> rfl)
          · intro γ u W hcur hd
            obtain ⟨⟨h3, -, -⟩, ⟨h7, -, -⟩, -⟩ := hd
            dsimp only at h3 h7
            (try simp only [h3, h7])
            refine ⟨rfl, ?_⟩
            go_simp <;> (try go_bits) <;> with_reducible rfl
          · exact fun _ _ _ => rfl
          · rfl
          dsimp only [nA, cA]
          refine RGW.fin (fun γ u wj hwj hd hdis => ?_)
          obtain ⟨⟨h0, -, -⟩, ⟨h1, -, -⟩, ⟨h2, -, -⟩, ⟨h3, -, -⟩, ⟨h4, -, -⟩, ⟨h5, -, -⟩, ⟨h6, -, -⟩, ⟨h7, -, -⟩, ⟨h8, -, -⟩, -⟩ := hd
          dsimp only at h0 h1 h2 h3 h4 h5 h6 h7 h8
          clear hdis
          simp only [h0, h1, h2, h3, h4, h5, h6, h7, h8]
          clear h8 h7 h6 h5 h4 h3 h2 h1 h0
          clear u
          simp only [List.map_nil]
          refine PlanW.done ?_
          have hb3 := bl_tt hwj
          have hbj := bl_tr hbw hwj
          go_wp2
          go_ret
          exact ⟨by rw [h'.out] <;> rfl, hbj⟩
      · go_wp2
        go_ret
        have hkn : k = n := by omega
        have e : rgsB a b = true := by
          unfold rgsB
          rw [decide_eq_true_eq]
          have := hi.out
          rw [hkn, List.take_of_length_le (by rw [Hn.out]; exact Nat.le_refl _), List.take_of_length_le (by rw [Hm.out]; exact Nat.le_refl _)] at this
          exact this
        exact ⟨by rw [e] <;> rfl, hbw⟩
  · have e : Hid (rgsB a b = false) := by
      refine Lib.hid ?_
      unfold rgsB
      rw [decide_eq_false_iff_not]
      intro h
      exact hl (by rw [h])
    have e' : ((a.length : Int) != (b.length : Int)) = true := by simp; omega
    clear hl
    generalize a.length = n at *
    generalize b.length = m at *
    go_enter Tryd.func19, Tryd.ntmps19
    go_wp2
    go_ret
    exact ⟨by rw [e.out] <;> rfl, bl_refl _⟩
end Go.Proofs.YtdlmkblmljhbfaaDoor
