/-
  Walk: what is equal is found equal.
  Walk: strings that are too long.
  Plain: what is read is little.
  What the laws through the layers ask of a net: written, read again, cut.
  Plain laws: what the law on streams that are never late asks of responses and of what is carried.
  Plain law: the reference's messages, one list, and the sender's queues carry alike.
  Walks: the demand of streams.
  Walks: common multiples of periods, overloads.
  Plain laws: the earliest deadline carries in time what can be carried in time.
  Walks: the demand and the overload of streams.
  Plain laws: demands, and what is carried in time.
  Plain laws: demands beyond a cycle, and of streams in another order.
  Plain laws: an order of the streams that grows by one at a time.
  Walks: the library's Index, Contains and Clip of numbers.
-/
import Derived.Test.YtbdgblnccjpahaaGreatDoorVBusOnce1
import Derived.Test.YtbdgblnccjpahaaGreatDoorVBusOnce5
import Derived.Test.YtbdgblnccjpahaaGreatDoorVBusOnce4
import Derived.Test.YtbdgblnccjpahaaGreatDoorUO12
import Derived.Test.YtbdgblnccjpahaaGreatDoorVBusOnce2
import Derived.Test.YtbdgblnccjpahaaGreatDoorUO8
import Derived.Test.YtbdgblnccjpahaaGreatDoorUO10
import Derived.Test.YtbdgblnccjpahaaGreatDoorUO9
import Derived.Test.YtbdgblnccjpahaaGreatDoorUO4
set_option linter.unusedSimpArgs false
set_option linter.unusedVariables false
namespace Go.Proofs.YtbdgblnccjpahaaGreatDoor
open Go.RowKit
attribute [local go_sem] bl_al bl_drew bl_drewN bl_refl bx_al bx_drew bx_drewN bx_refl
set_option maxRecDepth 20000
theorem r_IntsE (l : List Int) (A B : Option Addr) (c d : Nat) (w : World) (ha : Sl cI 1 w A l) (hb : Sl cI 1 w B l) (h1 : l.length ≤ 1000) :
    Calls Tryz.prog 45 #[.slice A l.length c, .slice B l.length d] w (Ret (.bool true) w) := by
  have := r_Ints l l A B c d w ha hb h1 h1
  rwa [show intsB l l = true by simp [intsB]] at this
set_option maxHeartbeats 4000000 in
theorem r_TextsE (l : List ByteArray) (A B : Option Addr) (c d : Nat) (w : World) (ha : Sl cS 1 w A l) (hb : Sl cS 1 w B l) (h1 : l.length ≤ 1000) :
    Calls Tryz.prog 87 #[.slice A l.length c, .slice B l.length d] w (Ret (.bool true) w) := by
  have Ha := Lib.hid ha
  have Hb := Lib.hid hb
  clear ha hb
  obtain ⟨n, Hn⟩ : ∃ n, Hid (l.length = n) := ⟨_, rfl⟩
  rw [Hn.out] at h1 ⊢
  go_enter Tryz.func87, Tryz.ntmps87
  go_wp2
  go_loopw [5] (fun i wr => ∃ k : Nat, k ≤ n ∧ i = .int .i64 k ∧ Below w.heap.size w wr) (fun i _ => n - (intOf i).toNat)
  case atStart => exact ⟨0, Nat.zero_le _, rfl, Below.refl _ _⟩
  case round =>
    obtain ⟨k, hk, rfl, hbw⟩ := hrel
    by_cases hlt : k < n
    · have hx : l[k]? = some (l[k]'(by rw [Hn.out]; exact hlt)) := List.getElem?_eq_getElem _
      generalize l[k]'(by rw [Hn.out]; exact hlt) = x at hx
      obtain ⟨ba, oa, hA, hca⟩ := Ha.out k x hx
      obtain ⟨bb, ob, hB, hcb⟩ := Hb.out k x hx
      have c0 : ∀ W, Below wr.heap.size wr W → W.cell? ⟨ba, oa + k, none⟩ = some (.string x) := later (by have := kcell hbw (hca 0 _ rfl); simpa using this)
      have c1 : ∀ W, Below wr.heap.size wr W → W.cell? ⟨bb, ob + k, none⟩ = some (.string x) := later (by have := kcell hbw (hcb 0 _ rfl); simpa using this)
      clear hca hcb hx
      subst hA hB
      go_wp2
      refine wp_any (w0 := wr) ⟨[], [], [some 17, some 18, some 19, some 20, some 21, some 22, some 23, some 24, some 25], [[], [], [0, 1], [0, 1, 2], [], [], [4, 5], [4, 5, 6], [0, 1, 2, 3, 4, 5, 6, 7]], [[], [], [0, 1], [2], [], [], [4, 5], [6], [3, 7]]⟩ (fun _ => []) (by kernel_rfl) (by kernel_rfl) (by (exact zE)) (fun u => by simp only [putD, Act.put, List.setIfInBounds_toArray, List.set_cons_zero, List.set_cons_succ, Nat.zero_add, Nat.reduceAdd]; rfl) ?_
      apply RGW.on (i := 0) rfl
      · exact zG
      · intro γ u W hcur hd
        clear hd
        (try dsimp only)
        exact ⟨rfl, zS⟩
      · exact zC
      · rfl
      dsimp only [nA, cA]
      apply RGW.on (i := 1) rfl
      · exact zG
      · intro γ u W hcur hd
        clear hd
        (try dsimp only)
        exact ⟨rfl, zS⟩
      · exact zC
      · rfl
      dsimp only [nA, cA]
      apply RGW.on (i := 2) rfl
      · exact zG
      · intro γ u W hcur hd
        obtain ⟨⟨h0, -, -⟩, ⟨h1, -, -⟩, -⟩ := hd
        dsimp only at h0 h1
        (try simp only [h0, h1])
        exact ⟨rfl, zS⟩
      · exact zC
      · rfl
      dsimp only [nA, cA]
      apply RGW.on (i := 3) rfl
      · exact zG
      · intro γ u W hcur hd
        obtain ⟨⟨h2, -, -⟩, -⟩ := hd
        dsimp only at h2
        (try simp only [h2])
        exact ⟨rfl, zS⟩
      · exact zC
      · rfl
      dsimp only [nA, cA]
      apply RGW.on (i := 4) rfl
      · exact zG
      · intro γ u W hcur hd
        clear hd
        (try dsimp only)
        exact ⟨rfl, zS⟩
      · exact zC
      · rfl
      dsimp only [nA, cA]
      apply RGW.on (i := 5) rfl
      · exact zG
      · intro γ u W hcur hd
        clear hd
        (try dsimp only)
        exact ⟨rfl, zS⟩
      · exact zC
      · rfl
      dsimp only [nA, cA]
      apply RGW.on (i := 6) rfl
      · exact zG
      · intro γ u W hcur hd
        obtain ⟨⟨h4, -, -⟩, ⟨h5, -, -⟩, -⟩ := hd
        dsimp only at h4 h5
        (try simp only [h4, h5])
        exact ⟨rfl, zS⟩
      · exact zC
      · rfl
      dsimp only [nA, cA]
      apply RGW.on (i := 7) rfl
      · exact zG
      · intro γ u W hcur hd
        obtain ⟨⟨h6, -, -⟩, -⟩ := hd
        dsimp only at h6
        (try simp only [h6])
        exact ⟨rfl, zS⟩
      · exact zC
      · rfl
      dsimp only [nA, cA]
      apply RGW.on (i := 8) rfl
      · exact zG
      · intro γ u W hcur hd
        obtain ⟨⟨h3, -, -⟩, ⟨h7, -, -⟩, -⟩ := hd
        dsimp only at h3 h7
        (try simp only [h3, h7])
        exact ⟨rfl, zS⟩
      · exact zC
      · rfl
      dsimp only [nA, cA]
      refine RGW.fin (fun γ u wj hwj hd hdis => ?_)
      obtain ⟨⟨h0, -, -⟩, ⟨h1, -, -⟩, ⟨h2, -, -⟩, ⟨h3, -, -⟩, ⟨h4, -, -⟩, ⟨h5, -, -⟩, ⟨h6, -, -⟩, ⟨h7, -, -⟩, ⟨h8, -, -⟩, -⟩ := hd
      dsimp only at h0 h1 h2 h3 h4 h5 h6 h7 h8
      clear hdis
      simp only [h0, h1, h2, h3, h4, h5, h6, h7, h8]
      clear h8 h7 h6 h5 h4 h3 h2 h1 h0
      clear u
      simp only [List.map_nil]
      refine PlanW.done ?_
      have hb3 := bl_tt hwj
      have hbj := bl_tr hbw hwj
      go_wp2
      go_roundw
      case rel => exact ⟨k + 1, by omega, by go_num, hbj⟩
      case measure => simp [intOf]; omega
    · go_wp2
      go_ret
      exact ⟨rfl, hbw⟩
set_option maxHeartbeats 4000000 in
theorem r_ListsE (l ls : List Rw) (A B : Option Addr) (c d : Nat) (w : World) (ha : Sl cRw 1 w A l) (hb : Sl cRw 1 w B ls) (hra : ∀ r ∈ l, RwIn r w) (hrb : ∀ r ∈ ls, RwIn r w) (he : l.map (fun r : Rw => r.l) = ls.map (fun r : Rw => r.l)) (h1 : l.length ≤ 1000) :
    Calls Tryz.prog 88 #[.slice A l.length c, .slice B ls.length d] w (Ret (.bool true) w) := by
  have Ha := Lib.hid ha
  have Hb := Lib.hid hb
  have Hra := Lib.hid hra
  have Hrb := Lib.hid hrb
  have hle : ls.length = l.length := by have := congrArg List.length he; simpa using this.symm
  replace he := Lib.hid he
  clear ha hb hra hrb
  rw [hle]
  obtain ⟨n, Hn⟩ : ∃ n, Hid (l.length = n) := ⟨_, rfl⟩
  rw [Hn.out] at h1 hle ⊢
  replace hle := Lib.hid hle
  go_enter Tryz.func88, Tryz.ntmps88
  go_wp2
  go_loopw [5] (fun i wr => ∃ k : Nat, k ≤ n ∧ i = .int .i64 k ∧ Below w.heap.size w wr) (fun i _ => n - (intOf i).toNat)
  case atStart => exact ⟨0, Nat.zero_le _, rfl, Below.refl _ _⟩
  case round =>
    obtain ⟨k, hk, rfl, hbw⟩ := hrel
    by_cases hlt : k < n
    · have hx : l[k]? = some (l[k]'(by rw [Hn.out]; exact hlt)) := List.getElem?_eq_getElem _
      generalize l[k]'(by rw [Hn.out]; exact hlt) = x at hx
      have hy : ls[k]? = some (ls[k]'(by rw [hle.out]; exact hlt)) := List.getElem?_eq_getElem _
      generalize ls[k]'(by rw [hle.out]; exact hlt) = y at hy
      have hxy : y.l = x.l := by
        have := congrArg (fun L => L[k]?) he.out
        simp only [List.getElem?_map, hx, hy, Option.map_some] at this
        injection this with this
        exact this.symm
      obtain ⟨ba, oa, hA, hca⟩ := Ha.out k x hx
      obtain ⟨bb, ob, hB, hcb⟩ := Hb.out k y hy
      have hix := Lib.hid fun W (hW : Below w.heap.size w W) => (show Calls Tryz.prog 45 #[.slice x.A x.l.length x.c, .slice y.A x.l.length y.c] W (Ret (.bool true) W) from r_IntsE x.l x.A y.A x.c y.c W ((Hra.out x (List.mem_of_getElem? hx)).sl.below hW) (hxy ▸ (Hrb.out y (List.mem_of_getElem? hy)).sl.below hW) (Hra.out x (List.mem_of_getElem? hx)).len)
      have c0 : ∀ W, Below wr.heap.size wr W → W.cell? ⟨ba, oa + k, none⟩ = some (.slice x.A x.l.length x.c) := later (by have := kcell hbw (hca 0 _ rfl); simpa using this)
      have c1 : ∀ W, Below wr.heap.size wr W → W.cell? ⟨bb, ob + k, none⟩ = some (.slice y.A x.l.length y.c) := later (by rw [← hxy]; have := kcell hbw (hcb 0 _ rfl); simpa using this)
      clear hca hcb hx hy hxy
      generalize x.l.length = xl at *
      subst hA hB
      go_wp2
      refine wp_any (w0 := wr) ⟨[], [], [some 17, some 18, some 19, some 20, some 21, some 22, some 23, some 24, some 25, some 26], [[], [], [0, 1], [0, 1, 2], [], [], [4, 5], [4, 5, 6], [0, 1, 2, 3, 4, 5, 6, 7], [0, 1, 2, 3, 4, 5, 6, 7, 8]], [[], [], [0, 1], [2], [], [], [4, 5], [6], [3, 7], [8]]⟩ (fun _ => []) (by kernel_rfl) (by kernel_rfl) (by (exact zE)) (fun u => by simp only [putD, Act.put, List.setIfInBounds_toArray, List.set_cons_zero, List.set_cons_succ, Nat.zero_add, Nat.reduceAdd]; rfl) ?_
      apply RGW.on (i := 0) rfl
      · exact zG
      · intro γ u W hcur hd
        clear hd
        (try dsimp only)
        exact ⟨rfl, zS⟩
      · exact zC
      · rfl
      dsimp only [nA, cA]
      apply RGW.on (i := 1) rfl
      · exact zG
      · intro γ u W hcur hd
        clear hd
        (try dsimp only)
        exact ⟨rfl, zS⟩
      · exact zC
      · rfl
      dsimp only [nA, cA]
      apply RGW.on (i := 2) rfl
      · exact zG
      · intro γ u W hcur hd
        obtain ⟨⟨h0, -, -⟩, ⟨h1, -, -⟩, -⟩ := hd
        dsimp only at h0 h1
        (try simp only [h0, h1])
        exact ⟨rfl, zS⟩
      · exact zC
      · rfl
      dsimp only [nA, cA]
      apply RGW.on (i := 3) rfl
      · exact zG
      · intro γ u W hcur hd
        obtain ⟨⟨h2, -, -⟩, -⟩ := hd
        dsimp only at h2
        (try simp only [h2])
        exact ⟨rfl, zS⟩
      · exact zC
      · rfl
      dsimp only [nA, cA]
      apply RGW.on (i := 4) rfl
      · exact zG
      · intro γ u W hcur hd
        clear hd
        (try dsimp only)
        exact ⟨rfl, zS⟩
      · exact zC
      · rfl
      dsimp only [nA, cA]
      apply RGW.on (i := 5) rfl
      · exact zG
      · intro γ u W hcur hd
        clear hd
        (try dsimp only)
        exact ⟨rfl, zS⟩
      · exact zC
      · rfl
      dsimp only [nA, cA]
      apply RGW.on (i := 6) rfl
      · exact zG
      · intro γ u W hcur hd
        obtain ⟨⟨h4, -, -⟩, ⟨h5, -, -⟩, -⟩ := hd
        dsimp only at h4 h5
        (try simp only [h4, h5])
        exact ⟨rfl, zS⟩
      · exact zC
      · rfl
      dsimp only [nA, cA]
      apply RGW.on (i := 7) rfl
      · exact zG
      · intro γ u W hcur hd
        obtain ⟨⟨h6, -, -⟩, -⟩ := hd
        dsimp only at h6
        (try simp only [h6])
        exact ⟨rfl, zS⟩
      · exact zC
      · rfl
      dsimp only [nA, cA]
      apply RGW.call (i := 8) rfl
      · exact zG
      · intro γ u W hcur hd
        obtain ⟨⟨h3, -, -⟩, ⟨h7, -, -⟩, -⟩ := hd
        dsimp only at h3 h7
        (try simp only [h3, h7])
        refine ⟨rfl, fun K hK => ?_⟩
        go_simp
        (go_at_call 45; (with_reducible refine (hix.out _ (bl_tr hbw hcur)).mono ?_); rintro e w3 ⟨rfl, hb3⟩; replace hb3 := bl_tt hb3)
        (try dsimp only)
        exact hK.out _ _ rfl (by (exact zE))
      · exact zC
      · rfl
      dsimp only [nA, cA]
      apply RGW.on (i := 9) rfl
      · exact zG
      · intro γ u W hcur hd
        obtain ⟨⟨h8, -, -⟩, -⟩ := hd
        dsimp only at h8
        (try simp only [h8])
        exact ⟨rfl, zS⟩
      · exact zC
      · rfl
      dsimp only [nA, cA]
      refine RGW.fin (fun γ u wj hwj hd hdis => ?_)
      obtain ⟨⟨h0, -, -⟩, ⟨h1, -, -⟩, ⟨h2, -, -⟩, ⟨h3, -, -⟩, ⟨h4, -, -⟩, ⟨h5, -, -⟩, ⟨h6, -, -⟩, ⟨h7, -, -⟩, ⟨h8, -, -⟩, ⟨h9, -, -⟩, -⟩ := hd
      dsimp only at h0 h1 h2 h3 h4 h5 h6 h7 h8 h9
      clear hdis
      simp only [h0, h1, h2, h3, h4, h5, h6, h7, h8, h9]
      clear h9 h8 h7 h6 h5 h4 h3 h2 h1 h0
      clear u
      simp only [List.map_nil]
      refine PlanW.done ?_
      have hb3 := bl_tt hwj
      have hbj := bl_tr hbw hwj
      go_wp2
      go_roundw
      case rel => exact ⟨k + 1, by omega, by go_num, hbj⟩
      case measure => simp [intOf]; omega
    · go_wp2
      go_ret
      exact ⟨rfl, hbw⟩
set_option maxHeartbeats 8000000 in
theorem r_SameNetE (n m : Nt) (Ap Af Am Bp Bf Bm : Option Addr) (cp cf cm dp df dm : Nat) (w : World) (hn : NtIn n Ap Af Am cp cf cm w) (hm : NtIn m Bp Bf Bm dp df dm w) (he : m.cn = n.cn) :
    Calls Tryz.prog 36 #[vNt Ap Af Am n.ps.length n.fs.length n.ms.length cp cf cm, vNt Bp Bf Bm m.ps.length m.fs.length m.ms.length dp df dm] w (Ret (.bool true) w) := by
  have Hn := Lib.hid hn
  have Hm := Lib.hid hm
  have e1 : m.ps = n.ps := congrArg NC.ps he
  have e2 : m.fs.map Fu.con = n.fs.map Fu.con := congrArg NC.fs he
  have e3 : m.ms.map Md.con = n.ms.map Md.con := congrArg NC.ms he
  have l1 : m.ps.length = n.ps.length := by rw [e1]
  have l2 : m.fs.length = n.fs.length := by have := congrArg List.length e2; simpa using this
  have l3 : m.ms.length = n.ms.length := by have := congrArg List.length e3; simpa using this
  rw [l1, l2, l3]
  have g1 := hn.plen
  have g2 := hn.flen
  have g3 := hn.mlen
  have htx := Lib.hid fun W (hW : Below w.heap.size w W) => (show Calls Tryz.prog 87 #[.slice Ap n.ps.length cp, .slice Bp n.ps.length dp] W (Ret (.bool true) W) from r_TextsE n.ps Ap Bp cp dp W (hn.psl.below hW) (e1 ▸ hm.psl.below hW) hn.plen)
  have hfe := Lib.hid fun (k : Nat) (f : Fu) (h : n.fs[k]? = some f) => (show ∃ g : Fu, m.fs[k]? = some g ∧ g.name = f.name ∧ f.ws.map (fun r : Rw => r.l) = g.ws.map (fun r : Rw => r.l) by
    have h2 : (m.fs.map Fu.con)[k]? = some f.con := by rw [e2, List.getElem?_map, h]; rfl
    rw [List.getElem?_map] at h2
    obtain ⟨g, hg, hc⟩ := Option.map_eq_some_iff.1 h2
    refine ⟨g, hg, congrArg Prod.fst hc, (congrArg Prod.snd hc).symm⟩)
  have hme := Lib.hid fun (k : Nat) (f : Md) (h : n.ms[k]? = some f) => (show ∃ g : Md, m.ms[k]? = some g ∧ g.name = f.name ∧ g.r.l = f.r.l by
    have h2 : (m.ms.map Md.con)[k]? = some f.con := by rw [e3, List.getElem?_map, h]; rfl
    rw [List.getElem?_map] at h2
    obtain ⟨g, hg, hc⟩ := Option.map_eq_some_iff.1 h2
    refine ⟨g, hg, congrArg Prod.fst hc, congrArg Prod.snd hc⟩)
  clear hn hm he e1 e2 e3 l1 l2 l3
  change Calls Tryz.prog 36 #[.agg #[.slice Ap n.ps.length cp, .slice Af n.fs.length cf, .slice Am n.ms.length cm], .agg #[.slice Bp n.ps.length dp, .slice Bf n.fs.length df, .slice Bm n.ms.length dm]] w _
  obtain ⟨np, Hp⟩ : ∃ k, Hid (n.ps.length = k) := ⟨_, rfl⟩
  obtain ⟨nf, Hf⟩ : ∃ k, Hid (n.fs.length = k) := ⟨_, rfl⟩
  obtain ⟨nm, Hmm⟩ : ∃ k, Hid (n.ms.length = k) := ⟨_, rfl⟩
  rw [Hp.out] at g1 htx ⊢
  rw [Hf.out] at g2 ⊢
  rw [Hmm.out] at g3 ⊢
  go_enter Tryz.func36, Tryz.ntmps36
  go_upto_region 1 with fail
  first
  | apply absB2 (w0 := w) (g0 := w.heap.size) (g1 := w.heap.size + 1)
  | apply absTB2 (w0 := w) (g0 := w.heap.size) (g1 := w.heap.size + 1)
  | apply absIB2 (w0 := w) (g0 := w.heap.size) (g1 := w.heap.size + 1)
  iterate 3 (focus exact zL)
  try clear hb3
  try clear hb0
  try clear k0
  try clear k1
  intro wa hb0 k0 k1
  (try simp only [List.setIfInBounds_toArray, List.set_cons_zero, List.set_cons_succ] at k0 k1)
  have L0 := k0.cell
  have L1 := k1.cell
  go_wp2_with fail
  refine (htx.out _ hb0).mono ?_
  rintro e w3 ⟨rfl, hb3⟩
  replace hb0 := bl_tr hb0 hb3
  replace k0 := k0.below hb3
  replace k1 := k1.below hb3
  clear L0 L1 hb3
  have L0 := k0.cell
  have L1 := k1.cell
  go_wp2
  clear L0 L1
  go_loopw [5] (fun i wr => ∃ k : Nat, k ≤ nf ∧ i = .int .i64 k ∧ Below w.heap.size w wr ∧ Blk wr w.heap.size 58 #[.slice Ap np cp, .slice Af nf cf, .slice Am nm cm] ∧ Blk wr (w.heap.size + 1) 58 #[.slice Bp np dp, .slice Bf nf df, .slice Bm nm dm]) (fun i _ => nf - (intOf i).toNat)
  case atStart => exact ⟨0, Nat.zero_le _, rfl, hb0, k0, k1⟩
  case round =>
    clear hb0 k0 k1
    obtain ⟨k, hk, rfl, hb0, k0, k1⟩ := hrel
    have L0 := k0.later
    have L1 := k1.later
    have M0 := k0.cell
    by_cases hkn : k < nf
    · have hx : n.fs[k]? = some (n.fs[k]'(by rw [Hf.out]; exact hkn)) := List.getElem?_eq_getElem _
      generalize n.fs[k]'(by rw [Hf.out]; exact hkn) = f at hx
      obtain ⟨g, hy, hnm, hws⟩ := hfe.out k f hx
      have hff := (Hn.out.fin f (List.mem_of_getElem? hx))
      have hfg := (Hm.out.fin g (List.mem_of_getElem? hy))
      obtain ⟨b1, o1, rfl, hc1⟩ := Hn.out.fsl k f hx
      obtain ⟨b2, o2, rfl, hc2⟩ := Hm.out.fsl k g hy
      have hwl : g.ws.length = f.ws.length := by have := congrArg List.length hws; simpa using this.symm
      have hli := Lib.hid fun W (hW : Below w.heap.size w W) => (show Calls Tryz.prog 88 #[.slice f.A f.ws.length f.c, .slice g.A f.ws.length g.c] W (Ret (.bool true) W) by
        have := r_ListsE f.ws g.ws f.A g.A f.c g.c W (hff.sl.below hW) (hfg.sl.below hW) (fun r hr => (hff.rows r hr).below hW) (fun r hr => (hfg.rows r hr).below hW) hws hff.len
        rwa [hwl] at this)
      have c0 : ∀ W, Below wr.heap.size wr W → W.cell? ⟨b1, o1 + k * 2, none⟩ = some (.string f.name) := later (by have := kcell hb0 (hc1 0 _ rfl); simpa using this)
      have c1 : ∀ W, Below wr.heap.size wr W → W.cell? ⟨b1, o1 + k * 2 + 1, none⟩ = some (.slice f.A f.ws.length f.c) := later (kcell hb0 (hc1 1 _ rfl))
      have d0 : ∀ W, Below wr.heap.size wr W → W.cell? ⟨b2, o2 + k * 2, none⟩ = some (.string f.name) := later (by rw [← hnm]; have := kcell hb0 (hc2 0 _ rfl); simpa using this)
      have d1 : ∀ W, Below wr.heap.size wr W → W.cell? ⟨b2, o2 + k * 2 + 1, none⟩ = some (.slice g.A f.ws.length g.c) := later (by rw [← hwl]; exact kcell hb0 (hc2 1 _ rfl))
      have hkn2 : (k : Int) < nf := by omega
      clear hc1 hc2 hx hy hnm hws hwl hff hfg
      generalize f.ws.length = fl at *
      generalize f.name = fname at *
      go_upto_region 6 with fail
      clear M0
      refine wp_any (w0 := wr) ⟨[], [], [some 38, some 39, some 40, some 41, some 42, some 43, some 44, some 45, some 46, some 47, some 48, some 49, some 50, some 51, some 52, some 53, some 54, some 55, some 56, some 57, some 58, some 59, some 60, some 61, some 62, some 63, some 64, some 65, some 66], [[], [0], [], [0, 1, 2], [0, 1, 2, 3], [0, 1, 2, 3, 4], [], [6], [], [6, 7, 8], [6, 7, 8, 9], [6, 7, 8, 9, 10], [0, 1, 2, 3, 4, 5, 6, 7, 8, 9, 10, 11], [0, 1, 2, 3, 4, 5, 6, 7, 8, 9, 10, 11, 12], [0, 1, 2, 3, 4, 5, 6, 7, 8, 9, 10, 11, 12, 13], [0, 1, 2, 3, 4, 5, 6, 7, 8, 9, 10, 11, 12, 13, 14], [0, 1, 2, 3, 4, 5, 6, 7, 8, 9, 10, 11, 12, 13], [0, 1, 2, 3, 4, 5, 6, 7, 8, 9, 10, 11, 12, 13, 14, 15, 16], [0, 1, 2, 3, 4, 5, 6, 7, 8, 9, 10, 11, 12, 13, 14, 15, 16, 17], [0, 1, 2, 3, 4, 5, 6, 7, 8, 9, 10, 11, 12, 13, 14, 15, 16, 17, 18], [0, 1, 2, 3, 4, 5, 6, 7, 8, 9, 10, 11, 12, 13], [0, 1, 2, 3, 4, 5, 6, 7, 8, 9, 10, 11, 12, 13, 20], [0, 1, 2, 3, 4, 5, 6, 7, 8, 9, 10, 11, 12, 13], [0, 1, 2, 3, 4, 5, 6, 7, 8, 9, 10, 11, 12, 13, 20, 21, 22], [0, 1, 2, 3, 4, 5, 6, 7, 8, 9, 10, 11, 12, 13, 20, 21, 22, 23], [0, 1, 2, 3, 4, 5, 6, 7, 8, 9, 10, 11, 12, 13, 20, 21, 22, 23, 24], [0, 1, 2, 3, 4, 5, 6, 7, 8, 9, 10, 11, 12, 13, 14, 15, 16, 17, 18, 19, 20, 21, 22, 23, 24, 25], [0, 1, 2, 3, 4, 5, 6, 7, 8, 9, 10, 11, 12, 13, 14, 15, 16, 17, 18, 19, 20, 21, 22, 23, 24, 25, 26], [0, 1, 2, 3, 4, 5, 6, 7, 8, 9, 10, 11, 12, 13, 14, 15, 16, 17, 18, 19, 20, 21, 22, 23, 24, 25, 26, 27]], [[], [0], [], [1, 2], [3], [4], [], [6], [], [7, 8], [9], [10], [5, 11], [12], [13], [13, 14], [13], [13, 15, 16], [13, 17], [13, 18], [13], [13, 20], [13], [13, 21, 22], [13, 23], [13, 24], [13, 19, 25], [13, 26], [13, 27]]⟩ (fun _ => []) (by kernel_rfl) (by kernel_rfl) (by (exact zE)) (fun u => by simp only [putD, Act.put, List.setIfInBounds_toArray, List.set_cons_zero, List.set_cons_succ, Nat.zero_add, Nat.reduceAdd]; rfl) ?_
      apply RGW.on (i := 0) rfl
      · exact zG
      · intro γ u W hcur hd
        clear hd
        (try dsimp only)
        exact ⟨rfl, zS⟩
      · exact zC
      · rfl
      dsimp only [nA, cA]
      apply RGW.on (i := 1) rfl
      · exact zG
      · intro γ u W hcur hd
        obtain ⟨⟨h0, -, -⟩, -⟩ := hd
        dsimp only at h0
        (try simp only [h0])
        exact ⟨rfl, zS⟩
      · exact zC
      · rfl
      dsimp only [nA, cA]
      apply RGW.on (i := 2) rfl
      · exact zG
      · intro γ u W hcur hd
        clear hd
        (try dsimp only)
        exact ⟨rfl, zS⟩
      · exact zC
      · rfl
      dsimp only [nA, cA]
      apply RGW.on (i := 3) rfl
      · exact zG
      · intro γ u W hcur hd
        obtain ⟨⟨h1, -, -⟩, ⟨h2, -, -⟩, -⟩ := hd
        dsimp only at h1 h2
        (try simp only [h1, h2])
        exact ⟨rfl, zS⟩
      · exact zC
      · rfl
      dsimp only [nA, cA]
      apply RGW.on (i := 4) rfl
      · exact zG
      · intro γ u W hcur hd
        obtain ⟨⟨h3, -, -⟩, -⟩ := hd
        dsimp only at h3
        (try simp only [h3])
        exact ⟨rfl, zS⟩
      · exact zC
      · rfl
      dsimp only [nA, cA]
      apply RGW.on (i := 5) rfl
      · exact zG
      · intro γ u W hcur hd
        obtain ⟨⟨h4, -, -⟩, -⟩ := hd
        dsimp only at h4
        (try simp only [h4])
        exact ⟨rfl, zS⟩
      · exact zC
      · rfl
      dsimp only [nA, cA]
      apply RGW.on (i := 6) rfl
      · exact zG
      · intro γ u W hcur hd
        clear hd
        (try dsimp only)
        exact ⟨rfl, zS⟩
      · exact zC
      · rfl
      dsimp only [nA, cA]
      apply RGW.on (i := 7) rfl
      · exact zG
      · intro γ u W hcur hd
        obtain ⟨⟨h6, -, -⟩, -⟩ := hd
        dsimp only at h6
        (try simp only [h6])
        exact ⟨rfl, zS⟩
      · exact zC
      · rfl
      dsimp only [nA, cA]
      apply RGW.on (i := 8) rfl
      · exact zG
      · intro γ u W hcur hd
        clear hd
        (try dsimp only)
        exact ⟨rfl, zS⟩
      · exact zC
      · rfl
      dsimp only [nA, cA]
      apply RGW.on (i := 9) rfl
      · exact zG
      · intro γ u W hcur hd
        obtain ⟨⟨h7, -, -⟩, ⟨h8, -, -⟩, -⟩ := hd
        dsimp only at h7 h8
        (try simp only [h7, h8])
        exact ⟨rfl, zS⟩
      · exact zC
      · rfl
      dsimp only [nA, cA]
      apply RGW.on (i := 10) rfl
      · exact zG
      · intro γ u W hcur hd
        obtain ⟨⟨h9, -, -⟩, -⟩ := hd
        dsimp only at h9
        (try simp only [h9])
        exact ⟨rfl, zS⟩
      · exact zC
      · rfl
      dsimp only [nA, cA]
      apply RGW.on (i := 11) rfl
      · exact zG
      · intro γ u W hcur hd
        obtain ⟨⟨h10, -, -⟩, -⟩ := hd
        dsimp only at h10
        (try simp only [h10])
        exact ⟨rfl, zS⟩
      · exact zC
      · rfl
      dsimp only [nA, cA]
      apply RGW.on (i := 12) rfl
      · exact zG
      · intro γ u W hcur hd
        obtain ⟨⟨h5, -, -⟩, ⟨h11, -, -⟩, -⟩ := hd
        dsimp only at h5 h11
        (try simp only [h5, h11])
        exact ⟨rfl, zS⟩
      · exact zC
      · rfl
      dsimp only [nA, cA]
      apply RGW.on (i := 13) rfl
      · exact zG
      · intro γ u W hcur hd
        obtain ⟨⟨h12, -, -⟩, -⟩ := hd
        dsimp only at h12
        (try simp only [h12])
        exact ⟨rfl, zS⟩
      · exact zC
      · rfl
      dsimp only [nA, cA]
      first
      | apply RGW.on (i := 14) rfl
        · exact zG
        · intro γ u W hcur hd
          obtain ⟨⟨h13, -, -⟩, -⟩ := hd
          dsimp only at h13
          (try simp only [h13])
          refine ⟨?_, ?_⟩
          · (simp [Region.wanted, yielded, undef, *]; done)
          exact zS
        · exact zC
        · rfl
      | apply RGW.off (i := 14) rfl
        · exact zG
        · intro γ u W hcur hd
          obtain ⟨⟨h13, -, -⟩, -⟩ := hd
          dsimp only at h13
          (try simp only [h13])
          simp [Region.wanted, yielded, undef, *]
        · rfl
      dsimp only [nA, cA]
      first
      | apply RGW.on (i := 15) rfl
        · exact zG
        · intro γ u W hcur hd
          obtain ⟨⟨h13, -, -⟩, ⟨h14, -, -⟩, -⟩ := hd
          dsimp only at h13 h14
          (try simp only [h13, h14])
          refine ⟨?_, ?_⟩
          · (simp [Region.wanted, yielded, undef, *]; done)
          exact zS
        · exact zC
        · rfl
      | apply RGW.off (i := 15) rfl
        · exact zG
        · intro γ u W hcur hd
          obtain ⟨⟨h13, -, -⟩, ⟨h14, -, -⟩, -⟩ := hd
          dsimp only at h13 h14
          (try simp only [h13, h14])
          simp [Region.wanted, yielded, undef, *]
        · rfl
      dsimp only [nA, cA]
      first
      | apply RGW.on (i := 16) rfl
        · exact zG
        · intro γ u W hcur hd
          obtain ⟨⟨h13, -, -⟩, -⟩ := hd
          dsimp only at h13
          (try simp only [h13])
          refine ⟨?_, ?_⟩
          · (simp [Region.wanted, yielded, undef, *]; done)
          exact zS
        · exact zC
        · rfl
      | apply RGW.off (i := 16) rfl
        · exact zG
        · intro γ u W hcur hd
          obtain ⟨⟨h13, -, -⟩, -⟩ := hd
          dsimp only at h13
          (try simp only [h13])
          simp [Region.wanted, yielded, undef, *]
        · rfl
      dsimp only [nA, cA]
      first
      | apply RGW.on (i := 17) rfl
        · exact zG
        · intro γ u W hcur hd
          obtain ⟨⟨h13, -, -⟩, ⟨h15, -, -⟩, ⟨h16, -, -⟩, -⟩ := hd
          dsimp only at h13 h15 h16
          (try simp only [h13, h15, h16])
          refine ⟨?_, ?_⟩
          · (simp [Region.wanted, yielded, undef, *]; done)
          exact zS
        · exact zC
        · rfl
      | apply RGW.off (i := 17) rfl
        · exact zG
        · intro γ u W hcur hd
          obtain ⟨⟨h13, -, -⟩, ⟨h15, -, -⟩, ⟨h16, -, -⟩, -⟩ := hd
          dsimp only at h13 h15 h16
          (try simp only [h13, h15, h16])
          simp [Region.wanted, yielded, undef, *]
        · rfl
      dsimp only [nA, cA]
      first
      | apply RGW.on (i := 18) rfl
        · exact zG
        · intro γ u W hcur hd
          obtain ⟨⟨h13, -, -⟩, ⟨h17, -, -⟩, -⟩ := hd
          dsimp only at h13 h17
          (try simp only [h13, h17])
          refine ⟨?_, ?_⟩
          · (simp [Region.wanted, yielded, undef, *]; done)
          exact zS
        · exact zC
        · rfl
      | apply RGW.off (i := 18) rfl
        · exact zG
        · intro γ u W hcur hd
          obtain ⟨⟨h13, -, -⟩, ⟨h17, -, -⟩, -⟩ := hd
          dsimp only at h13 h17
          (try simp only [h13, h17])
          simp [Region.wanted, yielded, undef, *]
        · rfl
      dsimp only [nA, cA]
      first
      | apply RGW.on (i := 19) rfl
        · exact zG
        · intro γ u W hcur hd
          obtain ⟨⟨h13, -, -⟩, ⟨h18, -, -⟩, -⟩ := hd
          dsimp only at h13 h18
          (try simp only [h13, h18])
          refine ⟨?_, ?_⟩
          · (simp [Region.wanted, yielded, undef, *]; done)
          exact zS
        · exact zC
        · rfl
      | apply RGW.off (i := 19) rfl
        · exact zG
        · intro γ u W hcur hd
          obtain ⟨⟨h13, -, -⟩, ⟨h18, -, -⟩, -⟩ := hd
          dsimp only at h13 h18
          (try simp only [h13, h18])
          simp [Region.wanted, yielded, undef, *]
        · rfl
      dsimp only [nA, cA]
      first
      | apply RGW.on (i := 20) rfl
        · exact zG
        · intro γ u W hcur hd
          obtain ⟨⟨h13, -, -⟩, -⟩ := hd
          dsimp only at h13
          (try simp only [h13])
          refine ⟨?_, ?_⟩
          · (simp [Region.wanted, yielded, undef, *]; done)
          exact zS
        · exact zC
        · rfl
      | apply RGW.off (i := 20) rfl
        · exact zG
        · intro γ u W hcur hd
          obtain ⟨⟨h13, -, -⟩, -⟩ := hd
          dsimp only at h13
          (try simp only [h13])
          simp [Region.wanted, yielded, undef, *]
        · rfl
      dsimp only [nA, cA]
      first
      | apply RGW.on (i := 21) rfl
        · exact zG
        · intro γ u W hcur hd
          obtain ⟨⟨h13, -, -⟩, ⟨h20, -, -⟩, -⟩ := hd
          dsimp only at h13 h20
          (try simp only [h13, h20])
          refine ⟨?_, ?_⟩
          · (simp [Region.wanted, yielded, undef, *]; done)
          exact zS
        · exact zC
        · rfl
      | apply RGW.off (i := 21) rfl
        · exact zG
        · intro γ u W hcur hd
          obtain ⟨⟨h13, -, -⟩, ⟨h20, -, -⟩, -⟩ := hd
          dsimp only at h13 h20
          (try simp only [h13, h20])
          simp [Region.wanted, yielded, undef, *]
        · rfl
      dsimp only [nA, cA]
      first
      | apply RGW.on (i := 22) rfl
        · exact zG
        · intro γ u W hcur hd
          obtain ⟨⟨h13, -, -⟩, -⟩ := hd
          dsimp only at h13
          (try simp only [h13])
          refine ⟨?_, ?_⟩
          · (simp [Region.wanted, yielded, undef, *]; done)
          exact zS
        · exact zC
        · rfl
      | apply RGW.off (i := 22) rfl
        · exact zG
        · intro γ u W hcur hd
          obtain ⟨⟨h13, -, -⟩, -⟩ := hd
          dsimp only at h13
          (try simp only [h13])
          simp [Region.wanted, yielded, undef, *]
        · rfl
      dsimp only [nA, cA]
      first
      | apply RGW.on (i := 23) rfl
        · exact zG
        · intro γ u W hcur hd
          obtain ⟨⟨h13, -, -⟩, ⟨h21, -, -⟩, ⟨h22, -, -⟩, -⟩ := hd
          dsimp only at h13 h21 h22
          (try simp only [h13, h21, h22])
          refine ⟨?_, ?_⟩
          · (simp [Region.wanted, yielded, undef, *]; done)
          exact zS
        · exact zC
        · rfl
      | apply RGW.off (i := 23) rfl
        · exact zG
        · intro γ u W hcur hd
          obtain ⟨⟨h13, -, -⟩, ⟨h21, -, -⟩, ⟨h22, -, -⟩, -⟩ := hd
          dsimp only at h13 h21 h22
          (try simp only [h13, h21, h22])
          simp [Region.wanted, yielded, undef, *]
        · rfl
      dsimp only [nA, cA]
      first
      | apply RGW.on (i := 24) rfl
        · exact zG
        · intro γ u W hcur hd
          obtain ⟨⟨h13, -, -⟩, ⟨h23, -, -⟩, -⟩ := hd
          dsimp only at h13 h23
          (try simp only [h13, h23])
          refine ⟨?_, ?_⟩
          · (simp [Region.wanted, yielded, undef, *]; done)
          exact zS
        · exact zC
        · rfl
      | apply RGW.off (i := 24) rfl
        · exact zG
        · intro γ u W hcur hd
          obtain ⟨⟨h13, -, -⟩, ⟨h23, -, -⟩, -⟩ := hd
          dsimp only at h13 h23
          (try simp only [h13, h23])
          simp [Region.wanted, yielded, undef, *]
        · rfl
      dsimp only [nA, cA]
      first
      | apply RGW.on (i := 25) rfl
        · exact zG
        · intro γ u W hcur hd
          obtain ⟨⟨h13, -, -⟩, ⟨h24, -, -⟩, -⟩ := hd
          dsimp only at h13 h24
          (try simp only [h13, h24])
          refine ⟨?_, ?_⟩
          · (simp [Region.wanted, yielded, undef, *]; done)
          exact zS
        · exact zC
        · rfl
      | apply RGW.off (i := 25) rfl
        · exact zG
        · intro γ u W hcur hd
          obtain ⟨⟨h13, -, -⟩, ⟨h24, -, -⟩, -⟩ := hd
          dsimp only at h13 h24
          (try simp only [h13, h24])
          simp [Region.wanted, yielded, undef, *]
        · rfl
      dsimp only [nA, cA]
      first
      | apply RGW.call (i := 26) rfl
        · exact zG
        · intro γ u W hcur hd
          obtain ⟨⟨h13, -, -⟩, ⟨h19, -, -⟩, ⟨h25, -, -⟩, -⟩ := hd
          dsimp only at h13 h19 h25
          (try simp only [h13, h19, h25])
          refine ⟨?_, fun K hK => ?_⟩
          · (simp [Region.wanted, yielded, undef, *]; done)
          go_simp
          (go_at_call 88; (with_reducible refine (hli.out _ (bl_tr hb0 hcur)).mono ?_); rintro e w3 ⟨rfl, hb3⟩; replace hb3 := bl_tt hb3)
          (try dsimp only)
          exact hK.out _ _ rfl (by (exact zE))
        · exact zC
        · rfl
      | apply RGW.off (i := 26) rfl
        · exact zG
        · intro γ u W hcur hd
          obtain ⟨⟨h13, -, -⟩, ⟨h19, -, -⟩, ⟨h25, -, -⟩, -⟩ := hd
          dsimp only at h13 h19 h25
          (try simp only [h13, h19, h25])
          simp [Region.wanted, yielded, undef, *]
        · rfl
      dsimp only [nA, cA]
      first
      | apply RGW.on (i := 27) rfl
        · exact zG
        · intro γ u W hcur hd
          obtain ⟨⟨h13, -, -⟩, ⟨h26, -, -⟩, -⟩ := hd
          dsimp only at h13 h26
          (try simp only [h13, h26])
          refine ⟨?_, ?_⟩
          · (simp [Region.wanted, yielded, undef, *]; done)
          exact zS
        · exact zC
        · rfl
      | apply RGW.off (i := 27) rfl
        · exact zG
        · intro γ u W hcur hd
          obtain ⟨⟨h13, -, -⟩, ⟨h26, -, -⟩, -⟩ := hd
          dsimp only at h13 h26
          (try simp only [h13, h26])
          simp [Region.wanted, yielded, undef, *]
        · rfl
      dsimp only [nA, cA]
      apply RGW.on (i := 28) rfl
      · exact zG
      · intro γ u W hcur hd
        obtain ⟨⟨h13, -, -⟩, ⟨h27, -, -⟩, -⟩ := hd
        dsimp only at h13 h27
        (try simp only [h13, h27])
        exact ⟨rfl, zS⟩
      · exact zC
      · rfl
      dsimp only [nA, cA]
      refine RGW.fin (fun γ u wj hwj hd hdis => ?_)
      obtain ⟨⟨h0, -, -⟩, ⟨h1, -, -⟩, ⟨h2, -, -⟩, ⟨h3, -, -⟩, ⟨h4, -, -⟩, ⟨h5, -, -⟩, ⟨h6, -, -⟩, ⟨h7, -, -⟩, ⟨h8, -, -⟩, ⟨h9, -, -⟩, ⟨h10, -, -⟩, ⟨h11, -, -⟩, ⟨h12, -, -⟩, ⟨h13, -, -⟩, ⟨h14, -, -⟩, ⟨h15, -, -⟩, ⟨h16, -, -⟩, ⟨h17, -, -⟩, ⟨h18, -, -⟩, ⟨h19, -, -⟩, ⟨h20, -, -⟩, ⟨h21, -, -⟩, ⟨h22, -, -⟩, ⟨h23, -, -⟩, ⟨h24, -, -⟩, ⟨h25, -, -⟩, ⟨h26, -, -⟩, ⟨h27, -, -⟩, ⟨h28, -, -⟩, -⟩ := hd
      dsimp only at h0 h1 h2 h3 h4 h5 h6 h7 h8 h9 h10 h11 h12 h13 h14 h15 h16 h17 h18 h19 h20 h21 h22 h23 h24 h25 h26 h27 h28
      clear hdis
      simp only [h0, h1, h2, h3, h4, h5, h6, h7, h8, h9, h10, h11, h12, h13, h14, h15, h16, h17, h18, h19, h20, h21, h22, h23, h24, h25, h26, h27, h28]
      clear h28 h27 h26 h25 h24 h23 h22 h21 h20 h19 h18 h17 h16 h15 h14 h13 h12 h11 h10 h9 h8 h7 h6 h5 h4 h3 h2 h1 h0
      clear u
      simp only [List.map_nil]
      refine PlanW.done ?_
      have hb3 := bl_tt hwj
      have hbj := bl_tr hb0 hwj
      have k0j := k0.below hwj
      have k1j := k1.below hwj
      clear L0 L1
      go_wp2
      go_roundw
      case rel => exact ⟨k + 1, by omega, by go_num, hbj, k0j, k1j⟩
      case measure => simp [intOf]; omega
    obtain rfl : nf = k := by omega
    clear L0 L1 hfe
    go_wp2
    clear M0
    go_loopw [6] (fun i wr => ∃ k : Nat, k ≤ nm ∧ i = .int .i64 k ∧ Below w.heap.size w wr ∧ Blk wr w.heap.size 58 #[.slice Ap np cp, .slice Af nf cf, .slice Am nm cm] ∧ Blk wr (w.heap.size + 1) 58 #[.slice Bp np dp, .slice Bf nf df, .slice Bm nm dm]) (fun i _ => nm - (intOf i).toNat)
    case atStart => exact ⟨0, Nat.zero_le _, rfl, hb0, k0, k1⟩
    case round =>
      clear hb0 k0 k1
      obtain ⟨k, hk, rfl, hb0, k0, k1⟩ := hrel
      have M0 := k0.cell
      by_cases hkn : k < nm
      · have hx : n.ms[k]? = some (n.ms[k]'(by rw [Hmm.out]; exact hkn)) := List.getElem?_eq_getElem _
        generalize n.ms[k]'(by rw [Hmm.out]; exact hkn) = f at hx
        obtain ⟨g, hy, hnm, hws⟩ := hme.out k f hx
        have hff := (Hn.out.min f (List.mem_of_getElem? hx))
        have hfg := (Hm.out.min g (List.mem_of_getElem? hy))
        obtain ⟨b1, o1, rfl, hc1⟩ := Hn.out.msl k f hx
        obtain ⟨b2, o2, rfl, hc2⟩ := Hm.out.msl k g hy
        have hwl : g.r.l.length = f.r.l.length := by rw [hws]
        have hli := Lib.hid fun W (hW : Below w.heap.size w W) => (show Calls Tryz.prog 45 #[.slice f.r.A f.r.l.length f.r.c, .slice g.r.A f.r.l.length g.r.c] W (Ret (.bool true) W) from r_IntsE f.r.l f.r.A g.r.A f.r.c g.r.c W (hff.row.sl.below hW) (hws ▸ hfg.row.sl.below hW) hff.row.len)
        have c0 : ∀ W, Below wr.heap.size wr W → W.cell? ⟨b1, o1 + k * 2, none⟩ = some (.string f.name) := later (by have := kcell hb0 (hc1 0 _ rfl); simpa using this)
        have c1 : ∀ W, Below wr.heap.size wr W → W.cell? ⟨b1, o1 + k * 2 + 1, none⟩ = some (.slice f.r.A f.r.l.length f.r.c) := later (kcell hb0 (hc1 1 _ rfl))
        have d0 : ∀ W, Below wr.heap.size wr W → W.cell? ⟨b2, o2 + k * 2, none⟩ = some (.string f.name) := later (by rw [← hnm]; have := kcell hb0 (hc2 0 _ rfl); simpa using this)
        have d1 : ∀ W, Below wr.heap.size wr W → W.cell? ⟨b2, o2 + k * 2 + 1, none⟩ = some (.slice g.r.A f.r.l.length g.r.c) := later (by rw [← hwl]; exact kcell hb0 (hc2 1 _ rfl))
        have hkn2 : (k : Int) < nm := by omega
        clear hc1 hc2 hx hy hnm hws hwl hff hfg
        generalize f.r.l.length = fl at *
        generalize f.name = fname at *
        go_upto_region 11 with fail
        clear M0
        have L0 := k0.later
        have L1 := k1.later
        refine wp_any (w0 := wr) ⟨[], [], [some 74, some 75, some 76, some 77, some 78, some 79, some 80, some 81, some 82, some 83, some 84, some 85, some 86, some 87, some 88, some 89, some 90, some 91, some 92, some 93, some 94, some 95, some 96, some 97, some 98, some 99, some 100, some 101, some 102], [[], [0], [], [0, 1, 2], [0, 1, 2, 3], [0, 1, 2, 3, 4], [], [6], [], [6, 7, 8], [6, 7, 8, 9], [6, 7, 8, 9, 10], [0, 1, 2, 3, 4, 5, 6, 7, 8, 9, 10, 11], [0, 1, 2, 3, 4, 5, 6, 7, 8, 9, 10, 11, 12], [0, 1, 2, 3, 4, 5, 6, 7, 8, 9, 10, 11, 12, 13], [0, 1, 2, 3, 4, 5, 6, 7, 8, 9, 10, 11, 12, 13, 14], [0, 1, 2, 3, 4, 5, 6, 7, 8, 9, 10, 11, 12, 13], [0, 1, 2, 3, 4, 5, 6, 7, 8, 9, 10, 11, 12, 13, 14, 15, 16], [0, 1, 2, 3, 4, 5, 6, 7, 8, 9, 10, 11, 12, 13, 14, 15, 16, 17], [0, 1, 2, 3, 4, 5, 6, 7, 8, 9, 10, 11, 12, 13, 14, 15, 16, 17, 18], [0, 1, 2, 3, 4, 5, 6, 7, 8, 9, 10, 11, 12, 13], [0, 1, 2, 3, 4, 5, 6, 7, 8, 9, 10, 11, 12, 13, 20], [0, 1, 2, 3, 4, 5, 6, 7, 8, 9, 10, 11, 12, 13], [0, 1, 2, 3, 4, 5, 6, 7, 8, 9, 10, 11, 12, 13, 20, 21, 22], [0, 1, 2, 3, 4, 5, 6, 7, 8, 9, 10, 11, 12, 13, 20, 21, 22, 23], [0, 1, 2, 3, 4, 5, 6, 7, 8, 9, 10, 11, 12, 13, 20, 21, 22, 23, 24], [0, 1, 2, 3, 4, 5, 6, 7, 8, 9, 10, 11, 12, 13, 14, 15, 16, 17, 18, 19, 20, 21, 22, 23, 24, 25], [0, 1, 2, 3, 4, 5, 6, 7, 8, 9, 10, 11, 12, 13, 14, 15, 16, 17, 18, 19, 20, 21, 22, 23, 24, 25, 26], [0, 1, 2, 3, 4, 5, 6, 7, 8, 9, 10, 11, 12, 13, 14, 15, 16, 17, 18, 19, 20, 21, 22, 23, 24, 25, 26, 27]], [[], [0], [], [1, 2], [3], [4], [], [6], [], [7, 8], [9], [10], [5, 11], [12], [13], [13, 14], [13], [13, 15, 16], [13, 17], [13, 18], [13], [13, 20], [13], [13, 21, 22], [13, 23], [13, 24], [13, 19, 25], [13, 26], [13, 27]]⟩ (fun _ => []) (by kernel_rfl) (by kernel_rfl) (by (exact zE)) (fun u => by simp only [putD, Act.put, List.setIfInBounds_toArray, List.set_cons_zero, List.set_cons_succ, Nat.zero_add, Nat.reduceAdd]; rfl) ?_
        apply RGW.on (i := 0) rfl
        · exact zG
        · intro γ u W hcur hd
          clear hd
          (try dsimp only)
          exact ⟨rfl, zS⟩
        · exact zC
        · rfl
        dsimp only [nA, cA]
        apply RGW.on (i := 1) rfl
        · exact zG
        · intro γ u W hcur hd
          obtain ⟨⟨h0, -, -⟩, -⟩ := hd
          dsimp only at h0
          (try simp only [h0])
          exact ⟨rfl, zS⟩
        · exact zC
        · rfl
        dsimp only [nA, cA]
        apply RGW.on (i := 2) rfl
        · exact zG
        · intro γ u W hcur hd
          clear hd
          (try dsimp only)
          exact ⟨rfl, zS⟩
        · exact zC
        · rfl
        dsimp only [nA, cA]
        apply RGW.on (i := 3) rfl
        · exact zG
        · intro γ u W hcur hd
          obtain ⟨⟨h1, -, -⟩, ⟨h2, -, -⟩, -⟩ := hd
          dsimp only at h1 h2
          (try simp only [h1, h2])
          exact ⟨rfl, zS⟩
        · exact zC
        · rfl
        dsimp only [nA, cA]
        apply RGW.on (i := 4) rfl
        · exact zG
        · intro γ u W hcur hd
          obtain ⟨⟨h3, -, -⟩, -⟩ := hd
          dsimp only at h3
          (try simp only [h3])
          exact ⟨rfl, zS⟩
        · exact zC
        · rfl
        dsimp only [nA, cA]
        apply RGW.on (i := 5) rfl
        · exact zG
        · intro γ u W hcur hd
          obtain ⟨⟨h4, -, -⟩, -⟩ := hd
          dsimp only at h4
          (try simp only [h4])
          exact ⟨rfl, zS⟩
        · exact zC
        · rfl
        dsimp only [nA, cA]
        apply RGW.on (i := 6) rfl
        · exact zG
        · intro γ u W hcur hd
          clear hd
          (try dsimp only)
          exact ⟨rfl, zS⟩
        · exact zC
        · rfl
        dsimp only [nA, cA]
        apply RGW.on (i := 7) rfl
        · exact zG
        · intro γ u W hcur hd
          obtain ⟨⟨h6, -, -⟩, -⟩ := hd
          dsimp only at h6
          (try simp only [h6])
          exact ⟨rfl, zS⟩
        · exact zC
        · rfl
        dsimp only [nA, cA]
        apply RGW.on (i := 8) rfl
        · exact zG
        · intro γ u W hcur hd
          clear hd
          (try dsimp only)
          exact ⟨rfl, zS⟩
        · exact zC
        · rfl
        dsimp only [nA, cA]
        apply RGW.on (i := 9) rfl
        · exact zG
        · intro γ u W hcur hd
          obtain ⟨⟨h7, -, -⟩, ⟨h8, -, -⟩, -⟩ := hd
          dsimp only at h7 h8
          (try simp only [h7, h8])
          exact ⟨rfl, zS⟩
        · exact zC
        · rfl
        dsimp only [nA, cA]
        apply RGW.on (i := 10) rfl
        · exact zG
        · intro γ u W hcur hd
          obtain ⟨⟨h9, -, -⟩, -⟩ := hd
          dsimp only at h9
          (try simp only [h9])
          exact ⟨rfl, zS⟩
        · exact zC
        · rfl
        dsimp only [nA, cA]
        apply RGW.on (i := 11) rfl
        · exact zG
        · intro γ u W hcur hd
          obtain ⟨⟨h10, -, -⟩, -⟩ := hd
          dsimp only at h10
          (try simp only [h10])
          exact ⟨rfl, zS⟩
        · exact zC
        · rfl
        dsimp only [nA, cA]
        apply RGW.on (i := 12) rfl
        · exact zG
        · intro γ u W hcur hd
          obtain ⟨⟨h5, -, -⟩, ⟨h11, -, -⟩, -⟩ := hd
          dsimp only at h5 h11
          (try simp only [h5, h11])
          exact ⟨rfl, zS⟩
        · exact zC
        · rfl
        dsimp only [nA, cA]
        apply RGW.on (i := 13) rfl
        · exact zG
        · intro γ u W hcur hd
          obtain ⟨⟨h12, -, -⟩, -⟩ := hd
          dsimp only at h12
          (try simp only [h12])
          exact ⟨rfl, zS⟩
        · exact zC
        · rfl
        dsimp only [nA, cA]
        first
        | apply RGW.on (i := 14) rfl
          · exact zG
          · intro γ u W hcur hd
            obtain ⟨⟨h13, -, -⟩, -⟩ := hd
            dsimp only at h13
            (try simp only [h13])
            refine ⟨?_, ?_⟩
            · (simp [Region.wanted, yielded, undef, *]; done)
            exact zS
          · exact zC
          · rfl
        | apply RGW.off (i := 14) rfl
          · exact zG
          · intro γ u W hcur hd
            obtain ⟨⟨h13, -, -⟩, -⟩ := hd
            dsimp only at h13
            (try simp only [h13])
            simp [Region.wanted, yielded, undef, *]
          · rfl
        dsimp only [nA, cA]
        first
        | apply RGW.on (i := 15) rfl
          · exact zG
          · intro γ u W hcur hd
            obtain ⟨⟨h13, -, -⟩, ⟨h14, -, -⟩, -⟩ := hd
            dsimp only at h13 h14
            (try simp only [h13, h14])
            refine ⟨?_, ?_⟩
            · (simp [Region.wanted, yielded, undef, *]; done)
            exact zS
          · exact zC
          · rfl
        | apply RGW.off (i := 15) rfl
          · exact zG
          · intro γ u W hcur hd
            obtain ⟨⟨h13, -, -⟩, ⟨h14, -, -⟩, -⟩ := hd
            dsimp only at h13 h14
            (try simp only [h13, h14])
            simp [Region.wanted, yielded, undef, *]
          · rfl
        dsimp only [nA, cA]
        first
        | apply RGW.on (i := 16) rfl
          · exact zG
          · intro γ u W hcur hd
            obtain ⟨⟨h13, -, -⟩, -⟩ := hd
            dsimp only at h13
            (try simp only [h13])
            refine ⟨?_, ?_⟩
            · (simp [Region.wanted, yielded, undef, *]; done)
            exact zS
          · exact zC
          · rfl
        | apply RGW.off (i := 16) rfl
          · exact zG
          · intro γ u W hcur hd
            obtain ⟨⟨h13, -, -⟩, -⟩ := hd
            dsimp only at h13
            (try simp only [h13])
            simp [Region.wanted, yielded, undef, *]
          · rfl
        dsimp only [nA, cA]
        first
        | apply RGW.on (i := 17) rfl
          · exact zG
          · intro γ u W hcur hd
            obtain ⟨⟨h13, -, -⟩, ⟨h15, -, -⟩, ⟨h16, -, -⟩, -⟩ := hd
            dsimp only at h13 h15 h16
            (try simp only [h13, h15, h16])
            refine ⟨?_, ?_⟩
            · (simp [Region.wanted, yielded, undef, *]; done)
            exact zS
          · exact zC
          · rfl
        | apply RGW.off (i := 17) rfl
          · exact zG
          · intro γ u W hcur hd
            obtain ⟨⟨h13, -, -⟩, ⟨h15, -, -⟩, ⟨h16, -, -⟩, -⟩ := hd
            dsimp only at h13 h15 h16
            (try simp only [h13, h15, h16])
            simp [Region.wanted, yielded, undef, *]
          · rfl
        dsimp only [nA, cA]
        first
        | apply RGW.on (i := 18) rfl
          · exact zG
          · intro γ u W hcur hd
            obtain ⟨⟨h13, -, -⟩, ⟨h17, -, -⟩, -⟩ := hd
            dsimp only at h13 h17
            (try simp only [h13, h17])
            refine ⟨?_, ?_⟩
            · (simp [Region.wanted, yielded, undef, *]; done)
            exact zS
          · exact zC
          · rfl
        | apply RGW.off (i := 18) rfl
          · exact zG
          · intro γ u W hcur hd
            obtain ⟨⟨h13, -, -⟩, ⟨h17, -, -⟩, -⟩ := hd
            dsimp only at h13 h17
            (try simp only [h13, h17])
            simp [Region.wanted, yielded, undef, *]
          · rfl
        dsimp only [nA, cA]
        first
        | apply RGW.on (i := 19) rfl
          · exact zG
          · intro γ u W hcur hd
            obtain ⟨⟨h13, -, -⟩, ⟨h18, -, -⟩, -⟩ := hd
            dsimp only at h13 h18
            (try simp only [h13, h18])
            refine ⟨?_, ?_⟩
            · (simp [Region.wanted, yielded, undef, *]; done)
            exact zS
          · exact zC
          · rfl
        | apply RGW.off (i := 19) rfl
          · exact zG
          · intro γ u W hcur hd
            obtain ⟨⟨h13, -, -⟩, ⟨h18, -, -⟩, -⟩ := hd
            dsimp only at h13 h18
            (try simp only [h13, h18])
            simp [Region.wanted, yielded, undef, *]
          · rfl
        dsimp only [nA, cA]
        first
        | apply RGW.on (i := 20) rfl
          · exact zG
          · intro γ u W hcur hd
            obtain ⟨⟨h13, -, -⟩, -⟩ := hd
            dsimp only at h13
            (try simp only [h13])
            refine ⟨?_, ?_⟩
            · (simp [Region.wanted, yielded, undef, *]; done)
            exact zS
          · exact zC
          · rfl
        | apply RGW.off (i := 20) rfl
          · exact zG
          · intro γ u W hcur hd
            obtain ⟨⟨h13, -, -⟩, -⟩ := hd
            dsimp only at h13
            (try simp only [h13])
            simp [Region.wanted, yielded, undef, *]
          · rfl
        dsimp only [nA, cA]
        first
        | apply RGW.on (i := 21) rfl
          · exact zG
          · intro γ u W hcur hd
            obtain ⟨⟨h13, -, -⟩, ⟨h20, -, -⟩, -⟩ := hd
            dsimp only at h13 h20
            (try simp only [h13, h20])
            refine ⟨?_, ?_⟩
            · (simp [Region.wanted, yielded, undef, *]; done)
            exact zS
          · exact zC
          · rfl
        | apply RGW.off (i := 21) rfl
          · exact zG
          · intro γ u W hcur hd
            obtain ⟨⟨h13, -, -⟩, ⟨h20, -, -⟩, -⟩ := hd
            dsimp only at h13 h20
            (try simp only [h13, h20])
            simp [Region.wanted, yielded, undef, *]
          · rfl
        dsimp only [nA, cA]
        first
        | apply RGW.on (i := 22) rfl
          · exact zG
          · intro γ u W hcur hd
            obtain ⟨⟨h13, -, -⟩, -⟩ := hd
            dsimp only at h13
            (try simp only [h13])
            refine ⟨?_, ?_⟩
            · (simp [Region.wanted, yielded, undef, *]; done)
            exact zS
          · exact zC
          · rfl
        | apply RGW.off (i := 22) rfl
          · exact zG
          · intro γ u W hcur hd
            obtain ⟨⟨h13, -, -⟩, -⟩ := hd
            dsimp only at h13
            (try simp only [h13])
            simp [Region.wanted, yielded, undef, *]
          · rfl
        dsimp only [nA, cA]
        first
        | apply RGW.on (i := 23) rfl
          · exact zG
          · intro γ u W hcur hd
            obtain ⟨⟨h13, -, -⟩, ⟨h21, -, -⟩, ⟨h22, -, -⟩, -⟩ := hd
            dsimp only at h13 h21 h22
            (try simp only [h13, h21, h22])
            refine ⟨?_, ?_⟩
            · (simp [Region.wanted, yielded, undef, *]; done)
            exact zS
          · exact zC
          · rfl
        | apply RGW.off (i := 23) rfl
          · exact zG
          · intro γ u W hcur hd
            obtain ⟨⟨h13, -, -⟩, ⟨h21, -, -⟩, ⟨h22, -, -⟩, -⟩ := hd
            dsimp only at h13 h21 h22
            (try simp only [h13, h21, h22])
            simp [Region.wanted, yielded, undef, *]
          · rfl
        dsimp only [nA, cA]
        first
        | apply RGW.on (i := 24) rfl
          · exact zG
          · intro γ u W hcur hd
            obtain ⟨⟨h13, -, -⟩, ⟨h23, -, -⟩, -⟩ := hd
            dsimp only at h13 h23
            (try simp only [h13, h23])
            refine ⟨?_, ?_⟩
            · (simp [Region.wanted, yielded, undef, *]; done)
            exact zS
          · exact zC
          · rfl
        | apply RGW.off (i := 24) rfl
          · exact zG
          · intro γ u W hcur hd
            obtain ⟨⟨h13, -, -⟩, ⟨h23, -, -⟩, -⟩ := hd
            dsimp only at h13 h23
            (try simp only [h13, h23])
            simp [Region.wanted, yielded, undef, *]
          · rfl
        dsimp only [nA, cA]
        first
        | apply RGW.on (i := 25) rfl
          · exact zG
          · intro γ u W hcur hd
            obtain ⟨⟨h13, -, -⟩, ⟨h24, -, -⟩, -⟩ := hd
            dsimp only at h13 h24
            (try simp only [h13, h24])
            refine ⟨?_, ?_⟩
            · (simp [Region.wanted, yielded, undef, *]; done)
            exact zS
          · exact zC
          · rfl
        | apply RGW.off (i := 25) rfl
          · exact zG
          · intro γ u W hcur hd
            obtain ⟨⟨h13, -, -⟩, ⟨h24, -, -⟩, -⟩ := hd
            dsimp only at h13 h24
            (try simp only [h13, h24])
            simp [Region.wanted, yielded, undef, *]
          · rfl
        dsimp only [nA, cA]
        first
        | apply RGW.call (i := 26) rfl
          · exact zG
          · intro γ u W hcur hd
            obtain ⟨⟨h13, -, -⟩, ⟨h19, -, -⟩, ⟨h25, -, -⟩, -⟩ := hd
            dsimp only at h13 h19 h25
            (try simp only [h13, h19, h25])
            refine ⟨?_, fun K hK => ?_⟩
            · (simp [Region.wanted, yielded, undef, *]; done)
            go_simp
            (go_at_call 45; (with_reducible refine (hli.out _ (bl_tr hb0 hcur)).mono ?_); rintro e w3 ⟨rfl, hb3⟩; replace hb3 := bl_tt hb3)
            (try dsimp only)
            exact hK.out _ _ rfl (by (exact zE))
          · exact zC
          · rfl
        | apply RGW.off (i := 26) rfl
          · exact zG
          · intro γ u W hcur hd
            obtain ⟨⟨h13, -, -⟩, ⟨h19, -, -⟩, ⟨h25, -, -⟩, -⟩ := hd
            dsimp only at h13 h19 h25
            (try simp only [h13, h19, h25])
            simp [Region.wanted, yielded, undef, *]
          · rfl
        dsimp only [nA, cA]
        first
        | apply RGW.on (i := 27) rfl
          · exact zG
          · intro γ u W hcur hd
            obtain ⟨⟨h13, -, -⟩, ⟨h26, -, -⟩, -⟩ := hd
            dsimp only at h13 h26
            (try simp only [h13, h26])
            refine ⟨?_, ?_⟩
            · (simp [Region.wanted, yielded, undef, *]; done)
            exact zS
          · exact zC
          · rfl
        | apply RGW.off (i := 27) rfl
          · exact zG
          · intro γ u W hcur hd
            obtain ⟨⟨h13, -, -⟩, ⟨h26, -, -⟩, -⟩ := hd
            dsimp only at h13 h26
            (try simp only [h13, h26])
            simp [Region.wanted, yielded, undef, *]
          · rfl
        dsimp only [nA, cA]
        apply RGW.on (i := 28) rfl
        · exact zG
        · intro γ u W hcur hd
          obtain ⟨⟨h13, -, -⟩, ⟨h27, -, -⟩, -⟩ := hd
          dsimp only at h13 h27
          (try simp only [h13, h27])
          exact ⟨rfl, zS⟩
        · exact zC
        · rfl
        dsimp only [nA, cA]
        refine RGW.fin (fun γ u wj hwj hd hdis => ?_)
        obtain ⟨⟨h0, -, -⟩, ⟨h1, -, -⟩, ⟨h2, -, -⟩, ⟨h3, -, -⟩, ⟨h4, -, -⟩, ⟨h5, -, -⟩, ⟨h6, -, -⟩, ⟨h7, -, -⟩, ⟨h8, -, -⟩, ⟨h9, -, -⟩, ⟨h10, -, -⟩, ⟨h11, -, -⟩, ⟨h12, -, -⟩, ⟨h13, -, -⟩, ⟨h14, -, -⟩, ⟨h15, -, -⟩, ⟨h16, -, -⟩, ⟨h17, -, -⟩, ⟨h18, -, -⟩, ⟨h19, -, -⟩, ⟨h20, -, -⟩, ⟨h21, -, -⟩, ⟨h22, -, -⟩, ⟨h23, -, -⟩, ⟨h24, -, -⟩, ⟨h25, -, -⟩, ⟨h26, -, -⟩, ⟨h27, -, -⟩, ⟨h28, -, -⟩, -⟩ := hd
        dsimp only at h0 h1 h2 h3 h4 h5 h6 h7 h8 h9 h10 h11 h12 h13 h14 h15 h16 h17 h18 h19 h20 h21 h22 h23 h24 h25 h26 h27 h28
        clear hdis
        simp only [h0, h1, h2, h3, h4, h5, h6, h7, h8, h9, h10, h11, h12, h13, h14, h15, h16, h17, h18, h19, h20, h21, h22, h23, h24, h25, h26, h27, h28]
        clear h28 h27 h26 h25 h24 h23 h22 h21 h20 h19 h18 h17 h16 h15 h14 h13 h12 h11 h10 h9 h8 h7 h6 h5 h4 h3 h2 h1 h0
        clear u
        simp only [List.map_nil]
        refine PlanW.done ?_
        have hb3 := bl_tt hwj
        have hbj := bl_tr hb0 hwj
        have k0j := k0.below hwj
        have k1j := k1.below hwj
        clear L0 L1
        go_wp2
        go_roundw
        case rel => exact ⟨k + 1, by omega, by go_num, hbj, k0j, k1j⟩
        case measure => simp [intOf]; omega
      go_wp2
      go_ret
      exact ⟨rfl, hb0⟩
end Go.Proofs.YtbdgblnccjpahaaGreatDoor
namespace Go.Proofs.YtbdgblnccjpahaaGreatDoor
open Go.RowKit Go.Shelf
attribute [local go_sem] bl_al bl_drew bl_drewN bl_refl bx_al bx_drew bx_drewN bx_refl
set_option maxRecDepth 20000
end Go.Proofs.YtbdgblnccjpahaaGreatDoor
namespace Go.Proofs.YtbdgblnccjpahaaGreatDoor
open Go.RowKit
theorem way_len {r : List UInt8} (h : wayOk r = true) : (wayV r).length = (splitC 43 r).length := by
  unfold wayV
  rw [if_pos h, natsV_len]
theorem few_round {C : NC} (h : NcOk C) : FewS (fmtNt C) := fun x y z e => by
  obtain ⟨h1, h2, h3⟩ := net_round h
  have hl := fmtNt_len h
  have hm := splitC_mem 47 (fmtNt C)
  rw [h1] at e
  injection e with ex e
  injection e with ey e
  injection e with ez _
  rw [h1] at hm
  rw [ex, ey, ez] at h2 h3 hm
  have hx := hm x (by simp)
  have hy := hm y (by simp)
  have hz := hm z (by simp)
  unfold ntOkS at h2
  simp only [Bool.and_eq_true, List.all_eq_true] at h2
  obtain ⟨⟨k1, k2⟩, k3⟩ := h2
  have e1 : (partsL x).map baOf = C.ps := congrArg NC.ps h3
  have e2 : (itemsL y).map fuC = C.fs := congrArg NC.fs h3
  have e3 : (itemsL z).map mdC = C.ms := congrArg NC.ms h3
  have l1 := h.plen
  have l2 := h.flen
  have l3 := h.mlen
  rw [← e1, List.length_map] at l1
  rw [← e2, List.length_map] at l2
  rw [← e3, List.length_map] at l3
  refine ⟨by omega, by omega, by omega, by omega, by omega, by omega, fun u hu => ?_, fun u hu => ?_⟩
  · obtain ⟨-, -, a3, a4⟩ := h.fs (fuC u) (by rw [← e2]; exact List.mem_map.2 ⟨u, hu, rfl⟩)
    have hf := k2 u hu
    unfold fuOk at hf
    rw [Bool.and_eq_true, List.all_eq_true] at hf
    have a3' : ((splitC 44 u.2).map wayV).length ≤ 6 := a3
    rw [List.length_map] at a3'
    refine ⟨by omega, fun r hr => ?_⟩
    have a5 := (a4 (wayV r) (List.mem_map.2 ⟨r, hr, rfl⟩)).2.1
    rw [way_len (hf.1 r hr)] at a5
    omega
  · obtain ⟨-, a3, -⟩ := h.ms (mdC u) (by rw [← e3]; exact List.mem_map.2 ⟨u, hu, rfl⟩)
    have hf := k3 u hu
    unfold mdOk at hf
    rw [Bool.and_eq_true] at hf
    have a3' : (ndV u.2).length ≤ 10 := a3
    have hf1 := hf.1
    unfold ndV at a3'
    unfold ndOk at hf1
    by_cases h0 : u.2 = []
    · rw [h0]; simp [splitC]
    · rw [if_neg h0] at a3' hf1
      rw [way_len hf1] at a3'
      omega
end Go.Proofs.YtbdgblnccjpahaaGreatDoor
namespace Go.Proofs.YtbdgblnccjpahaaGreatDoor
open Go.RowKit Go.Shelf
set_option maxRecDepth 20000
theorem nm_size2 {s : ByteArray} (h : nameB s = true) : s.size ≤ 12 := by
  unfold nameB at h
  rw [Bool.and_eq_true, inR_iff] at h
  omega
theorem flt_idx2 {n : Nt} {l : List Int} (h : netErr n = 0) : fltE n l = idxErr l n.ps.length := by
  simp [fltE, fstE, h]
  exact fun h => h.symm
/-- A net that came in with few parts; if it is valid, it is small in all. -/
theorem net_wide {n : Nt} {Ap Af Am : Option Addr} {cp cf cm : Nat} {w : World} (h : NtR n Ap Af Am cp cf cm w) (hl : (∀ f ∈ n.fs, ∀ r ∈ f.ws, r.l.length ≤ maxLen) ∧ ∀ d ∈ n.ms, d.r.l.length ≤ maxLen) (hb : bsmB n = true) : NtW n Ap Af Am cp cf cm w := by
  unfold bsmB at hb
  simp only [Bool.and_eq_true, decide_eq_true_eq] at hb
  exact ⟨by omega, by omega, by omega, h.pcap, h.psl, h.fsl, h.msl, h.pnm, fun f hf => ⟨(h.fin f hf).nm, (h.fin f hf).sl, fun r hr => ⟨hl.1 f hf r hr, ((h.fin f hf).rows r hr).sl⟩⟩, fun d hd => ⟨(h.min d hd).nm, hl.2 d hd, (h.min d hd).row.sl⟩⟩
theorem net_in {n : Nt} {Ap Af Am : Option Addr} {cp cf cm : Nat} {w : World} (h : NtR n Ap Af Am cp cf cm w) (h0 : netErr n = 0) : NtIn n Ap Af Am cp cf cm w := by
  have hk := nc_ok h0
  have h1 := hk.plen
  have h2 := hk.flen
  have h3 := hk.mlen
  have hfs : ∀ f ∈ n.fs, f.ws.length ≤ 6 ∧ ∀ r ∈ f.ws, r.l.length ≤ 10 := fun f hf => by
    have := hk.fs f.con (List.mem_map.2 ⟨f, hf, rfl⟩)
    obtain ⟨-, -, h5, h6⟩ := this
    refine ⟨by simpa [Fu.con] using h5, fun r hr => (h6 r.l (List.mem_map.2 ⟨r, hr, rfl⟩)).2.1⟩
  have hms : ∀ d ∈ n.ms, d.r.l.length ≤ 10 := fun d hd => (hk.ms d.con (List.mem_map.2 ⟨d, hd, rfl⟩)).2.1
  refine ⟨?_, ?_, ?_, h.pcap, h.fcap, h.mcap, h.psl, h.fsl, h.msl, h.pnm, fun f hf => ⟨(h.fin f hf).nm, ?_, (h.fin f hf).cap, (h.fin f hf).sl, fun r hr => ⟨?_, ((h.fin f hf).rows r hr).cap, ((h.fin f hf).rows r hr).sl⟩⟩, fun d hd => ⟨(h.min d hd).nm, ?_, (h.min d hd).row.cap, (h.min d hd).row.sl⟩⟩
  · have : n.ps.length ≤ 10 := h1
    omega
  · have : (n.fs.map Fu.con).length ≤ 10 := h2
    rw [List.length_map] at this
    omega
  · have : (n.ms.map Md.con).length ≤ 6 := h3
    rw [List.length_map] at this
    omega
  · have := (hfs f hf).1; omega
  · have := (hfs f hf).2 r hr; omega
  · have := hms d hd; omega
theorem net_fit {n : Nt} (h0 : netErr n = 0) : NtFit n := by
  have hk := nc_ok h0
  have hv : ∀ v : Int, 0 ≤ v → v < 100 → Fits v := fun v h1 h2 => by unfold Fits; omega
  refine ⟨fun s hs => ?_, fun f hf => ?_, fun d hd => ?_⟩
  · have := nm_size2 (hk.ps s hs)
    omega
  · obtain ⟨h4, -, -, h6⟩ := hk.fs f.con (List.mem_map.2 ⟨f, hf, rfl⟩)
    have := nm_size2 h4
    refine ⟨by simpa [Fu.con] using (show f.con.1.size ≤ 1000 by omega), fun r hr v hv' => ?_⟩
    have := (h6 r.l (List.mem_map.2 ⟨r, hr, rfl⟩)).2.2 v hv'
    exact hv v this.1 this.2
  · obtain ⟨h4, -, h6⟩ := hk.ms d.con (List.mem_map.2 ⟨d, hd, rfl⟩)
    have := nm_size2 h4
    refine ⟨by simpa [Md.con] using (show d.con.1.size ≤ 1000 by omega), fun v hv' => ?_⟩
    have := h6 v hv'
    exact hv v this.1 this.2
section
variable {n m : Nt} {Bp Bf Bm : Option Addr} {dp df dm : Nat} {W : World}
theorem t_Format (h0 : netErr n = 0) (h : NtEq n m) (hm : NtIn m Bp Bf Bm dp df dm W) (hE : Env W) :
    Calls Tryz.prog 34 #[vNt Bp Bf Bm n.ps.length n.fs.length n.ms.length dp df dm] W (Ret (.string ⟨(fmtNt n.cn).toArray⟩) W) := by
  have := c_FormatNet m Bp Bf Bm dp df dm W hm (net_fit (by rw [h.err]; exact h0)) hE
  rw [h.ps, h.flen, h.mlen, ntEq_cn.1 h] at this
  exact this
theorem t_Parse (h0 : netErr n = 0) (hE : Env W) :
    Calls Tryz.prog 33 #[.string ⟨(fmtNt n.cn).toArray⟩] W (fun e w' => Below W.heap.size W w' ∧ ∃ (m : Nt) (Bp Bf Bm : Option Addr) (dp df dm : Nat), NtEq n m ∧ NtIn m Bp Bf Bm dp df dm w' ∧ e = .returned (.tuple #[vNt Bp Bf Bm n.ps.length n.fs.length n.ms.length dp df dm, .int .i64 0])) := by
  have hk := nc_ok h0
  obtain ⟨h1, h2⟩ := pnE_round hk
  have he : pnE (fmtNt n.cn) = 0 := by
    rw [h1, ← h0]
    exact ((ntEq_cn (n := mkNt n.cn) (m := n)).2 (by rw [mk_cn])).err.symm
  have hl := fmtNt_len hk
  refine (c_ParseNet (fmtNt n.cn) W (by omega) (few_round hk) hE).mono fun e w' ⟨hb, _, hh⟩ => ⟨hb, ?_⟩
  obtain ⟨m, Ap, Af, Am, cp, cf, cm, hc, hn, hr⟩ := hh he
  have hq : NtEq n m := ntEq_cn.2 (by rw [hc, h2])
  refine ⟨m, Ap, Af, Am, cp, cf, cm, hq, hn.net, ?_⟩
  rw [hr, hq.ps, hq.flen, hq.mlen]
theorem t_Same {Ap Af Am : Option Addr} {cp cf cm : Nat} (h : NtEq n m) (hm : NtIn m Bp Bf Bm dp df dm W) (hn : NtIn n Ap Af Am cp cf cm W) :
    Calls Tryz.prog 36 #[vNt Bp Bf Bm n.ps.length n.fs.length n.ms.length dp df dm, vNt Ap Af Am n.ps.length n.fs.length n.ms.length cp cf cm] W (Ret (.bool true) W) := by
  have := r_SameNetE m n Bp Bf Bm Ap Af Am dp df dm cp cf cm W hm hn (by rw [ntEq_cn.1 h])
  rw [h.ps, h.flen, h.mlen] at this
  exact this
theorem t_Cut (h0 : netErr n = 0) (h : NtEq n m) (hm : NtIn m Bp Bf Bm dp df dm W) (hT : Tab W) (k : Nat) (f : Fu) (hf : n.fs[k]? = some f) :
    Calls Tryz.prog 37 #[vNt Bp Bf Bm n.ps.length n.fs.length n.ms.length dp df dm, .int .i64 (k : Nat)] W (fun e w' => Below W.heap.size W w' ∧ ∃ A c, e = .returned (.tuple #[.slice A (listS (cutS f n.ps.length)).length c, .int .i64 0]) ∧ Sl cI 1 w' A (listS (cutS f n.ps.length))) := by
  have hk := (List.getElem?_eq_some_iff.1 hf).1
  have e0 : cutErr n k = 0 := by
    unfold cutErr
    refine (fst_cons _ _).2 ⟨h0, (fst_cons _ _).2 ⟨(unl_zero (by decide)).2 (inR_iff.2 (by omega)), rfl⟩⟩
  refine (q_CutOf h hm hT k).mono fun e w' ⟨hb, hh⟩ => ⟨hb, ?_⟩
  rcases hh with ⟨hh, -⟩ | ⟨-, g, hg, A, c, he, ho⟩
  · exact absurd e0 hh
  · rw [Int.toNat_natCast, hf] at hg
    obtain rfl := Option.some.inj hg
    exact ⟨A, c, he, ho⟩
theorem t_Works (h0 : netErr n = 0) (h : NtEq n m) (hm : NtIn m Bp Bf Bm dp df dm W) (hT : Tab W) (k : Nat) (f : Fu) (hf : n.fs[k]? = some f) (A : Option Addr) (c : Nat) (hs : Sl cI 1 W A (listS (cutS f n.ps.length))) :
    Calls Tryz.prog 38 #[vNt Bp Bf Bm n.ps.length n.fs.length n.ms.length dp df dm, .slice A (listS (cutS f n.ps.length)).length c] W (fun e w' => Below W.heap.size W w' ∧ ∃ A2 c2 L, e = .returned (.tuple #[.slice A2 (List.length L) c2, .int .i64 0]) ∧ Sl cI 1 w' A2 L ∧ L.length ≤ 1000 ∧ L.contains (k : Int) = false) := by
  have ho := net_ok h0
  have hp10 : n.ps.length ≤ 10 := (nc_ok h0).plen
  have hasc := cut_asc (f := f) hp10
  have hf0 : fltE n (listS (cutS f n.ps.length)) = 0 := by rw [flt_idx2 h0]; exact hasc.err
  have hl10 := listS_len (cutS f n.ps.length)
  refine (q_WorksAfter h hm hT _ A c hs (by omega)).mono fun e w' ⟨hb, hh⟩ => ⟨hb, ?_⟩
  rcases hh with ⟨h1, -⟩ | ⟨-, A2, c2, he, h2⟩
  · exact absurd hf0 h1
  · refine ⟨A2, c2, _, he, h2, ?_, ?_⟩
    · have : (afterS n (listS (cutS f n.ps.length))).length ≤ 10 := listS_len _
      omega
    · rw [after_all ho fun x hx => (hasc.rng x hx).1, all_has hf]
      exact cut_stop hp10 (ho.nn f (List.mem_of_getElem? hf)) (ho.st f (List.mem_of_getElem? hf))
end
end Go.Proofs.YtbdgblnccjpahaaGreatDoor
namespace Go.Proofs.YtbdgblnccjpahaaGreatDoor
set_option maxRecDepth 20000
/-- The streams with one that is longer. -/
def longer (l : List Sm) (at' : Nat) (s : Sm) : List Sm := l.set at' ⟨s.name, s.per, s.dl, s.len + 1⟩
end Go.Proofs.YtbdgblnccjpahaaGreatDoor
namespace Go.Proofs.YtbdgblnccjpahaaGreatDoor
end Go.Proofs.YtbdgblnccjpahaaGreatDoor
namespace Go.Proofs.YtbdgblnccjpahaaGreatDoor
open Go.RowKit Go.Shelf
attribute [local go_sem] bl_al bl_drew bl_drewN bl_refl bx_al bx_drew bx_drewN bx_refl
set_option maxRecDepth 20000
end Go.Proofs.YtbdgblnccjpahaaGreatDoor
namespace Go.Proofs.YtbdgblnccjpahaaGreatDoor
open Go.RowKit Go.Shelf
attribute [local go_sem] bl_al bl_drew bl_drewN bl_refl bx_al bx_drew bx_drewN bx_refl
set_option maxRecDepth 20000
end Go.Proofs.YtbdgblnccjpahaaGreatDoor
namespace Go.Proofs.YtbdgblnccjpahaaGreatDoor
section
variable {ch : (Nat → List (Int × Int)) → Int} {l : List Sm} {st : List Int}
end
/-! ### By deadlines. -/
end Go.Proofs.YtbdgblnccjpahaaGreatDoor
namespace Go.Proofs.YtbdgblnccjpahaaGreatDoor
open Go.RowKit Go.Shelf
attribute [local go_sem] bl_al bl_drew bl_drewN bl_refl bx_al bx_drew bx_drewN bx_refl
set_option maxRecDepth 20000
end Go.Proofs.YtbdgblnccjpahaaGreatDoor
namespace Go.Proofs.YtbdgblnccjpahaaGreatDoor
end Go.Proofs.YtbdgblnccjpahaaGreatDoor
namespace Go.Proofs.YtbdgblnccjpahaaGreatDoor
end Go.Proofs.YtbdgblnccjpahaaGreatDoor
namespace Go.Proofs.YtbdgblnccjpahaaGreatDoor
theorem nod_len : ∀ (n : Nat) (a : List Nat), a.Nodup → (∀ x ∈ a, x < n) → a.length ≤ n
  | 0, a, _, h => by
    cases a with
    | nil => simp
    | cons x r => exact absurd (h x (by simp)) (by omega)
  | n + 1, a, hn, h => by
    by_cases hm : n ∈ a
    · have hp := List.perm_cons_erase hm
      have h1 := nod_len n (a.erase n) (hn.erase n) fun x hx => by
        have h2 := (hn.mem_erase_iff).1 hx
        have := h x h2.2
        have := h2.1
        omega
      have := hp.length_eq
      simp only [List.length_cons] at this
      omega
    · have := nod_len n a hn fun x hx => by
        have := h x hx
        have : x ≠ n := fun e => hm (e ▸ hx)
        omega
      omega
/-- The streams of an order that has begun. -/
def ordL (l : List Sm) (b : List Nat) : List Sm := b.map fun i => l[i]?.getD ⟨.empty, 1, 1, 1⟩
/-- An order that has begun, in which no stream is late. -/
structure Begun (l : List Sm) (b : List Nat) : Prop where
  nod : b.Nodup
  lt : ∀ x ∈ b, x < l.length
  ok : ∀ k, k < b.length → lateAt (ordL l b) k = false
theorem Begun.nil (l : List Sm) : Begun l [] := ⟨List.nodup_nil, fun x hx => by simp at hx, fun k hk => by simp at hk⟩
theorem Begun.len {l : List Sm} {b : List Nat} (h : Begun l b) : b.length ≤ l.length := nod_len _ _ h.nod h.lt
end Go.Proofs.YtbdgblnccjpahaaGreatDoor
namespace Go.Proofs.YtbdgblnccjpahaaGreatDoor
open Go.RowKit
attribute [local go_sem] bl_al bl_drew bl_drewN bl_refl bx_al bx_drew bx_drewN bx_refl
set_option maxRecDepth 20000
end Go.Proofs.YtbdgblnccjpahaaGreatDoor
