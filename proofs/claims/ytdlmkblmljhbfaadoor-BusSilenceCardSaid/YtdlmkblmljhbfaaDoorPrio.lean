/-
  Walks: the first stream that has frames left. (Printed by gen_prio.py.)
-/
import Derived.Test.YtdlmkblmljhbfaaDoorTick
import Derived.Shelf.Abstract
namespace Go.Proofs.YtdlmkblmljhbfaaDoor
set_option linter.unusedSimpArgs false
set_option linter.unusedVariables false
open Go.RowKit Go.Shelf
attribute [local go_sem] bl_al bl_drew bl_drewN bl_refl bx_al bx_drew bx_drewN bx_refl
set_option maxRecDepth 20000
/-- A queue's slice. -/
structure Qv where
  A : Option Addr
  n : Nat
  c : Nat
def cQv (x : Qv) : List Value := [.slice x.A x.n x.c]

set_option maxHeartbeats 400000 in
set_option maxRecDepth 20000 in
theorem c_IndexFuncQ (f : FuncId) (lb : Array Value) (p : Qv → Bool) (A : Option Addr) (l : List Qv) (c : Nat) (w : World) (hl : l.length ≤ 1000000)
    (he : Enters Tryd.prog f) (hp : Preds Tryd.prog f lb w (fun x : Qv => .slice x.A x.n x.c) l p) (hr : Sl cQv 1 w A l) :
    Calls Tryd.prog 133 #[.slice A l.length c, .func (.func f) #[] lb] w (Ret (.int .i64 (idxF p l 0)) w) := by
  have he' : ∀ args w, (callFunc f args).run Tryd.prog w = .ok (.enter f args) w := he
  clear he
  have Hp := Lib.hid hp
  have Hr := Lib.hid hr
  clear hp hr
  obtain ⟨n, Hn⟩ : ∃ n, Hid (l.length = n) := ⟨_, rfl⟩
  rw [Hn.out] at hl ⊢
  go_enter Tryd.func133, Tryd.ntmps133
  go_wp2
  go_loopw [8] (fun i wr => ∃ k : Nat, k ≤ n ∧ i = .int .i64 k ∧ Below w.heap.size w wr ∧ idxF p l 0 = idxF p (l.drop k) k) (fun i _ => n - (intOf i).toNat)
  case atStart => exact ⟨0, Nat.zero_le _, rfl, Below.refl _ _, rfl⟩
  case round =>
    obtain ⟨k, hk, rfl, hb, hi⟩ := hrel
    replace hi := Lib.hid hi
    by_cases hlt : k < n
    · have hx : l[k]? = some (l[k]'(by rw [Hn.out]; exact hlt)) := List.getElem?_eq_getElem _
      generalize l[k]'(by rw [Hn.out]; exact hlt) = x at hx
      replace hx := Lib.hid hx
      obtain ⟨b, off, rfl, hc⟩ := (Hr.out.below hb) k x hx.out
      have c0 : wr.cell? ⟨b, off + k, none⟩ = some (.slice x.A x.n x.c) := by simpa using hc 0 _ rfl
      have hm : x ∈ l := List.mem_of_getElem? hx.out
      have hd := Lib.hid (idxF_drop p l k x hx.out)
      clear hc hx
      cases hpx : p x
      all_goals
        have hcall := Hp.out x hm wr hb
        rw [hpx] at hcall
        replace hcall := Lib.hid hcall
        replace hpx := Lib.hid hpx
        clear hm
        go_wp2_with fail
        refine hcall.out.mono ?_
        rintro e w3 ⟨rfl, hb3⟩
        go_wp2
      · go_roundw
        case rel => exact ⟨k + 1, by omega, by go_num, bl_tr hb hb3, by rw [hi.out, hd.out, hpx.out]; simp⟩
        case measure => simp [intOf]; omega
      · go_ret
        exact ⟨by rw [hi.out, hd.out, hpx.out] <;> rfl, bl_tr hb hb3⟩
    · go_wp2
      go_ret
      have : k = l.length := by have := Hn.out; omega
      exact ⟨by rw [hi.out, this]; simp [idxF], hb⟩
theorem c_prio1 (x : Qv) (w : World) : Calls Tryd.prog 134 #[.slice x.A x.n x.c] w (Same (.bool (decide (0 < x.n))) w) := by
  go_enter Tryd.func134, Tryd.ntmps134
  go_wp2
  go_ret
  exact ⟨by simp, rfl⟩
def qvs (Q : QS) (q : Nat → List (Int × Int)) : List Qv := (List.range 6).map fun i => ⟨Q.A i, (q i).length, Q.c i⟩
theorem prio_eq (Q : QS) (q : Nat → List (Int × Int)) : idxF (fun x : Qv => decide (0 < x.n)) (qvs Q q) 0 = prioS q := by
  have e : ∀ i, decide (0 < (q i).length) = !(q i).isEmpty := fun i => by cases q i <;> simp
  simp only [qvs, prioS, prioFrom, List.range, List.range.loop, List.map_cons, List.map_nil, idxF, e]
  cases (q 0).isEmpty <;> cases (q 1).isEmpty <;> cases (q 2).isEmpty <;> cases (q 3).isEmpty <;> cases (q 4).isEmpty <;> cases (q 5).isEmpty <;> rfl
set_option maxHeartbeats 4000000 in
theorem c_byPriority {b S Bw n : Nat} {vl vs : Value} {Q : QS} {s : Ss} {w : World} (h : Snd b S Bw vl vs n Q s w) : Calls Tryd.prog 97 #[.pointer (some ⟨S, 0, none⟩)] w (Ret (.int .i64 (prioS s.q)) w) := by
  have hsl : Sl cQv 1 w (some ⟨S, 2, none⟩) (qvs Q s.q) := fun k x hx => ⟨S, 2, rfl, fun j v hv => by
    have hj : j = 0 := by
      have := (List.getElem?_eq_some_iff.1 hv).1
      simp [cQv] at this; omega
    subst hj
    have hk : k < 6 := by
      have := (List.getElem?_eq_some_iff.1 hx).1
      simpa [qvs] using this
    have hx' : x = ⟨Q.A k, (s.q k).length, Q.c k⟩ := by
      simp [qvs, hk] at hx
      exact hx.symm
    subst hx'
    have hv' : v = .slice (Q.A k) (s.q k).length (Q.c k) := by simpa [cQv] using hv.symm
    subst hv'
    rw [h.blk.cell]
    have := cSnd_at vl vs (.slice (some ⟨Bw, 0, none⟩) n n) (vQ Q s.q) k hk
    simpa [vQ] using this⟩
  have hcall := Lib.hid (c_IndexFuncQ 134 #[] (fun x : Qv => decide (0 < x.n)) (some ⟨S, 2, none⟩) (qvs Q s.q) 6 w (by simp [qvs]) (enters_of Tryd.func134 (by kernel_rfl) rfl)
    (fun x _ W _ => (c_prio1 x W).mono fun _ _ h => h.ret) hsl)
  have e6 : (qvs Q s.q).length = 6 := rfl
  rw [prio_eq, e6] at hcall
  have hS := h.blk.lt
  clear hsl h
  go_enter Tryd.func97, Tryd.ntmps97
  go_wp2_with fail
  refine hcall.out.mono ?_
  rintro e w3 ⟨rfl, hb3⟩
  go_wp2
  go_ret
  exact ⟨rfl, hb3⟩
end Go.Proofs.YtdlmkblmljhbfaaDoor
