/- The law on BoxPoints. -/
import Derived.Test.YtojoljffaedpfaaBxP
import Derived.Test.YtojoljffaedpfaaBxQ
import Derived.Test.YtojoljffaedpfaaSlRing
import Derived.Deep.RegionHeld3
import Derived.Deep.Cut
namespace Go.Proofs.Ytojoljffaedpfaa
open Go.RowKit Go.Lib
set_option linter.unusedVariables false
set_option linter.unusedSimpArgs false

theorem heap_farC {W W' : World} {row : Option Nat} {k : Nat} {x : Obj} (hg : W.grownBy W' row) (h : W.heap[k]? = some x) (hne : ∀ j, row = some j → j ≠ k) : W'.heap[k]? = some x :=
  (hg.block k (Array.getElem?_eq_some_iff.1 h).1 (fun e => hne k e.symm rfl)).trans h

set_option maxRecDepth 20000 in
set_option maxHeartbeats 8000000 in
theorem law_BoxPoints (a1 a2 a3 b1 b2 b3 c1 c2 c3 d1 d2 d3 : Int) (w : World) :
    Calls Try.prog 5 #[.agg #[.int .i64 a1, .int .i64 a2, .int .i64 a3], .agg #[.int .i64 b1, .int .i64 b2, .int .i64 b3], .agg #[.int .i64 c1, .int .i64 c2, .int .i64 c3], .agg #[.int .i64 d1, .int .i64 d2, .int .i64 d3]] w fun e w' => e = .returned (.bool true) ∧ Ext w w' := by
  have HTa := fun w => Lib.hid (toRange_any a1 a2 a3 w)
  have HTb := fun w => Lib.hid (toRange_any b1 b2 b3 w)
  have HTc := fun w => Lib.hid (toRange_any c1 c2 c3 w)
  have HTd := fun w => Lib.hid (toRange_any d1 d2 d3 w)
  have HS := fun w => Lib.hid (s_boxPoints_any a1 a2 a3 b1 b2 b3 c1 c2 c3 d1 d2 d3 w)
  have HI := fun w => Lib.hid (boxPoints_any a1 a2 a3 b1 b2 b3 c1 c2 c3 d1 d2 d3 w)
  have hlen := fl4_len (brV a1 a2 a3 b1 b2 b3 c1 c2 c3 d1 d2 d3)
  have hle := brV_len (a1 := a1) (a2 := a2) (a3 := a3) (b1 := b1) (b2 := b2) (b3 := b3) (c1 := c1) (c2 := c2) (c3 := c3) (d1 := d1) (d2 := d2) (d3 := d3)
  generalize fl4 (brV a1 a2 a3 b1 b2 b3 c1 c2 c3 d1 d2 d3) = LL at *
  generalize (brV a1 a2 a3 b1 b2 b3 c1 c2 c3 d1 d2 d3).length = nn at *
  generalize brOk a1 a2 a3 b1 b2 b3 c1 c2 c3 d1 d2 d3 = ok at *
  have HLL := Lib.hid hlen
  clear hlen
  have HK0 : Hid (∀ w', Ext w w' → w'.heap[w.heap.size]? = some (.cells #[.int .i64 a1, .int .i64 a2, .int .i64 a3] 23 (0, 0)) → w'.heap[w.heap.size + 1]? = some (.cells #[.int .i64 b1, .int .i64 b2, .int .i64 b3] 23 (0, 0)) → w'.heap[w.heap.size + 2]? = some (.cells #[.int .i64 c1, .int .i64 c2, .int .i64 c3] 23 (0, 0)) → w'.heap[w.heap.size + 3]? = some (.cells #[.int .i64 d1, .int .i64 d2, .int .i64 d3] 23 (0, 0)) → ∀ W, Ext w' W → (W.cell? ⟨w.heap.size, 0, none⟩ = some (.int .i64 a1) ∧ W.cell? ⟨w.heap.size, 1, none⟩ = some (.int .i64 a2) ∧ W.cell? ⟨w.heap.size, 2, none⟩ = some (.int .i64 a3) ∧ W.cell? ⟨w.heap.size + 1, 0, none⟩ = some (.int .i64 b1) ∧ W.cell? ⟨w.heap.size + 1, 1, none⟩ = some (.int .i64 b2) ∧ W.cell? ⟨w.heap.size + 1, 2, none⟩ = some (.int .i64 b3) ∧ W.cell? ⟨w.heap.size + 2, 0, none⟩ = some (.int .i64 c1) ∧ W.cell? ⟨w.heap.size + 2, 1, none⟩ = some (.int .i64 c2) ∧ W.cell? ⟨w.heap.size + 2, 2, none⟩ = some (.int .i64 c3) ∧ W.cell? ⟨w.heap.size + 3, 0, none⟩ = some (.int .i64 d1) ∧ W.cell? ⟨w.heap.size + 3, 1, none⟩ = some (.int .i64 d2) ∧ W.cell? ⟨w.heap.size + 3, 2, none⟩ = some (.int .i64 d3))) := fun w' hx ha hb hc hd W hW => by
    have za := fun k => cell_of_row _ _ k _ _ _ ((hW.heap (Array.getElem?_eq_some_iff.1 ha).1).trans ha)
    have zb := fun k => cell_of_row _ _ k _ _ _ ((hW.heap (Array.getElem?_eq_some_iff.1 hb).1).trans hb)
    have zc := fun k => cell_of_row _ _ k _ _ _ ((hW.heap (Array.getElem?_eq_some_iff.1 hc).1).trans hc)
    have zd := fun k => cell_of_row _ _ k _ _ _ ((hW.heap (Array.getElem?_eq_some_iff.1 hd).1).trans hd)
    exact ⟨za 0, za 1, za 2, zb 0, zb 1, zb 2, zc 0, zc 1, zc 2, zd 0, zd 1, zd 2⟩
  have Ha0 : Hid (((((w.alloc (.cells #[.int .i64 a1, .int .i64 a2, .int .i64 a3] 23 (0, 0))).alloc (.cells #[.int .i64 b1, .int .i64 b2, .int .i64 b3] 23 (0, 0))).alloc (.cells #[.int .i64 c1, .int .i64 c2, .int .i64 c3] 23 (0, 0))).alloc (.cells #[.int .i64 d1, .int .i64 d2, .int .i64 d3] 23 (0, 0))).heap[w.heap.size]? = some (.cells #[.int .i64 a1, .int .i64 a2, .int .i64 a3] 23 (0, 0))) := (heap_alloc_lt (heap_alloc_lt (heap_alloc_lt (heap_alloc_new _ _))))
  have Hb0 : Hid (((((w.alloc (.cells #[.int .i64 a1, .int .i64 a2, .int .i64 a3] 23 (0, 0))).alloc (.cells #[.int .i64 b1, .int .i64 b2, .int .i64 b3] 23 (0, 0))).alloc (.cells #[.int .i64 c1, .int .i64 c2, .int .i64 c3] 23 (0, 0))).alloc (.cells #[.int .i64 d1, .int .i64 d2, .int .i64 d3] 23 (0, 0))).heap[w.heap.size + 1]? = some (.cells #[.int .i64 b1, .int .i64 b2, .int .i64 b3] 23 (0, 0))) := (heap_alloc_lt (heap_alloc_lt (heap_alloc_at _ _ _ (by simp))))
  have Hc0 : Hid (((((w.alloc (.cells #[.int .i64 a1, .int .i64 a2, .int .i64 a3] 23 (0, 0))).alloc (.cells #[.int .i64 b1, .int .i64 b2, .int .i64 b3] 23 (0, 0))).alloc (.cells #[.int .i64 c1, .int .i64 c2, .int .i64 c3] 23 (0, 0))).alloc (.cells #[.int .i64 d1, .int .i64 d2, .int .i64 d3] 23 (0, 0))).heap[w.heap.size + 2]? = some (.cells #[.int .i64 c1, .int .i64 c2, .int .i64 c3] 23 (0, 0))) := (heap_alloc_lt (heap_alloc_at _ _ _ (by simp)))
  have Hd0 : Hid (((((w.alloc (.cells #[.int .i64 a1, .int .i64 a2, .int .i64 a3] 23 (0, 0))).alloc (.cells #[.int .i64 b1, .int .i64 b2, .int .i64 b3] 23 (0, 0))).alloc (.cells #[.int .i64 c1, .int .i64 c2, .int .i64 c3] 23 (0, 0))).alloc (.cells #[.int .i64 d1, .int .i64 d2, .int .i64 d3] 23 (0, 0))).heap[w.heap.size + 3]? = some (.cells #[.int .i64 d1, .int .i64 d2, .int .i64 d3] 23 (0, 0))) := (heap_alloc_at _ _ _ (by simp))
  have HE0 : Hid (Ext w ((((w.alloc (.cells #[.int .i64 a1, .int .i64 a2, .int .i64 a3] 23 (0, 0))).alloc (.cells #[.int .i64 b1, .int .i64 b2, .int .i64 b3] 23 (0, 0))).alloc (.cells #[.int .i64 c1, .int .i64 c2, .int .i64 c3] 23 (0, 0))).alloc (.cells #[.int .i64 d1, .int .i64 d2, .int .i64 d3] 23 (0, 0)))) := ((((Ext.refl w).alloc _).alloc _).alloc _).alloc _
  have HK1 := Lib.hid (HK0.out _ HE0.out Ha0.out Hb0.out Hc0.out Hd0.out)
  go_enter Try.func5, Try.ntmps5
  go_upto_region 1 with fail
  generalize ((((w.alloc (.cells #[.int .i64 a1, .int .i64 a2, .int .i64 a3] 23 (0, 0))).alloc (.cells #[.int .i64 b1, .int .i64 b2, .int .i64 b3] 23 (0, 0))).alloc (.cells #[.int .i64 c1, .int .i64 c2, .int .i64 c3] 23 (0, 0))).alloc (.cells #[.int .i64 d1, .int .i64 d2, .int .i64 d3] 23 (0, 0))) = W0 at *
  go_cut [9, 10] from 17 (fun u9 u10 wx => ∃ (a : Option Addr) (c : Nat), u9 = .slice a nn c ∧ u10 = .bool ok ∧ wx.ownsRow W0.heap.size 51 4 (.slice a nn c) nn (IL LL) ∧ Ext W0 wx)
  case first =>
    go_region_held3 (fun w' => w'.cell? ⟨w.heap.size, 0, none⟩ = some (.int .i64 a1) ∧ w'.cell? ⟨w.heap.size, 1, none⟩ = some (.int .i64 a2) ∧ w'.cell? ⟨w.heap.size, 2, none⟩ = some (.int .i64 a3) ∧ w'.cell? ⟨w.heap.size + 1, 0, none⟩ = some (.int .i64 b1) ∧ w'.cell? ⟨w.heap.size + 1, 1, none⟩ = some (.int .i64 b2) ∧ w'.cell? ⟨w.heap.size + 1, 2, none⟩ = some (.int .i64 b3) ∧ w'.cell? ⟨w.heap.size + 2, 0, none⟩ = some (.int .i64 c1) ∧ w'.cell? ⟨w.heap.size + 2, 1, none⟩ = some (.int .i64 c2) ∧ w'.cell? ⟨w.heap.size + 2, 2, none⟩ = some (.int .i64 c3) ∧ w'.cell? ⟨w.heap.size + 3, 0, none⟩ = some (.int .i64 d1) ∧ w'.cell? ⟨w.heap.size + 3, 1, none⟩ = some (.int .i64 d2) ∧ w'.cell? ⟨w.heap.size + 3, 2, none⟩ = some (.int .i64 d3)) (exact HK1.out _ (by repeat (first | (with_reducible refine Ext.setCell ?_ (by first | (simp; done) | (simp; omega)) _) | with_reducible refine Ext.alloc ?_ _ | with_reducible refine Ext.drew ?_ | with_reducible refine Ext.drewN ?_ _ | with_reducible assumption | with_reducible exact Ext.refl _ | with_reducible refine Ext.trans ?_ (by with_reducible assumption))))
      (first
      | (go_at_call 9; (with_reducible refine (HTa _).out.mono ?_); rintro e wAa ⟨rfl, hxa⟩; have hsa := hxa.size; (try simp at hsa))
      | (go_at_call 9; (with_reducible refine (HTb _).out.mono ?_); rintro e wAb ⟨rfl, hxb⟩; have hsb := hxb.size; (try simp at hsb))
      | (go_at_call 9; (with_reducible refine (HTc _).out.mono ?_); rintro e wAc ⟨rfl, hxc⟩; have hsc := hxc.size; (try simp at hsc))
      | (go_at_call 9; (with_reducible refine (HTd _).out.mono ?_); rintro e wAd ⟨rfl, hxd⟩; have hsd := hxd.size; (try simp at hsd))
      | (go_at_call 18; (with_reducible refine (HS _).out.mono ?_); rintro e wF ⟨uF, rfl, oF, hxF⟩; obtain ⟨aF, cF, rfl, q1F, q2F, q3F⟩ := own_shape oF; clear q1F q2F q3F; have OF := Lib.hid oF; clear oF; have hsF := hxF.size; (try simp at hsF)))
    all_goals
      go_wp2_with fail
      go_meet
      exact ⟨aF, cF, rfl, rfl, own_base OF.out (by first | omega | (simp <;> omega)), (by repeat (first | (with_reducible refine Ext.setCell ?_ (by first | (simp; done) | (simp; omega)) _) | with_reducible refine Ext.alloc ?_ _ | with_reducible refine Ext.drew ?_ | with_reducible refine Ext.drewN ?_ _ | with_reducible assumption | with_reducible exact Ext.refl _ | with_reducible refine Ext.trans ?_ (by with_reducible assumption)))⟩
  case rest =>
    obtain ⟨ra1, rc1, rfl, rfl, o1, hx1⟩ := hcut
    obtain ⟨w1, rfl⟩ : ∃ x, x = wc := ⟨_, rfl⟩
    have HE1 := Lib.hid (HE0.out.trans hx1)
    have Ha1 := Lib.hid ((hx1.heap (Array.getElem?_eq_some_iff.1 Ha0.out).1).trans Ha0.out)
    have Hb1 := Lib.hid ((hx1.heap (Array.getElem?_eq_some_iff.1 Hb0.out).1).trans Hb0.out)
    have Hc1 := Lib.hid ((hx1.heap (Array.getElem?_eq_some_iff.1 Hc0.out).1).trans Hc0.out)
    have Hd1 := Lib.hid ((hx1.heap (Array.getElem?_eq_some_iff.1 Hd0.out).1).trans Hd0.out)
    have HK2 := Lib.hid (HK0.out _ HE1.out Ha1.out Hb1.out Hc1.out Hd1.out)
    have O1 := Lib.hid o1
    have lim1 : Hid (∀ k, (Value.slice ra1 nn rc1).ownBlock = some k → k < w1.heap.size) := fun k hk => (O1.out.lt k hk).2
    clear o1 hx1 HS HK1 Ha0 Hb0 Hc0 Hd0
    go_upto_region 2 with fail
    go_cut [11, 12] from 29 (fun u11 u12 wx => ∃ (a : Option Addr) (c : Nat), u11 = .slice a nn c ∧ u12 = .bool ok ∧ wx.ownsRow w1.heap.size 51 4 (.slice a nn c) nn (IL LL) ∧ Ext w1 wx)
    case first =>
      go_region_held3 (fun w' => w'.cell? ⟨w.heap.size, 0, none⟩ = some (.int .i64 a1) ∧ w'.cell? ⟨w.heap.size, 1, none⟩ = some (.int .i64 a2) ∧ w'.cell? ⟨w.heap.size, 2, none⟩ = some (.int .i64 a3) ∧ w'.cell? ⟨w.heap.size + 1, 0, none⟩ = some (.int .i64 b1) ∧ w'.cell? ⟨w.heap.size + 1, 1, none⟩ = some (.int .i64 b2) ∧ w'.cell? ⟨w.heap.size + 1, 2, none⟩ = some (.int .i64 b3) ∧ w'.cell? ⟨w.heap.size + 2, 0, none⟩ = some (.int .i64 c1) ∧ w'.cell? ⟨w.heap.size + 2, 1, none⟩ = some (.int .i64 c2) ∧ w'.cell? ⟨w.heap.size + 2, 2, none⟩ = some (.int .i64 c3) ∧ w'.cell? ⟨w.heap.size + 3, 0, none⟩ = some (.int .i64 d1) ∧ w'.cell? ⟨w.heap.size + 3, 1, none⟩ = some (.int .i64 d2) ∧ w'.cell? ⟨w.heap.size + 3, 2, none⟩ = some (.int .i64 d3)) (exact HK2.out _ (by repeat (first | (with_reducible refine Ext.setCell ?_ (by first | (simp; done) | (simp; omega)) _) | with_reducible refine Ext.alloc ?_ _ | with_reducible refine Ext.drew ?_ | with_reducible refine Ext.drewN ?_ _ | with_reducible assumption | with_reducible exact Ext.refl _ | with_reducible refine Ext.trans ?_ (by with_reducible assumption))))
        (first
        | (go_at_call 9; (with_reducible refine (HTa _).out.mono ?_); rintro e wAa ⟨rfl, hxa⟩; have hsa := hxa.size; (try simp at hsa))
        | (go_at_call 9; (with_reducible refine (HTb _).out.mono ?_); rintro e wAb ⟨rfl, hxb⟩; have hsb := hxb.size; (try simp at hsb))
        | (go_at_call 9; (with_reducible refine (HTc _).out.mono ?_); rintro e wAc ⟨rfl, hxc⟩; have hsc := hxc.size; (try simp at hsc))
        | (go_at_call 9; (with_reducible refine (HTd _).out.mono ?_); rintro e wAd ⟨rfl, hxd⟩; have hsd := hxd.size; (try simp at hsd))
        | (go_at_call 19; (with_reducible refine (HI _).out.mono ?_); rintro e wF ⟨uF, rfl, oF, hxF⟩; obtain ⟨aF, cF, rfl, q1F, q2F, q3F⟩ := own_shape oF; clear q1F q2F q3F; have OF := Lib.hid oF; clear oF; have hsF := hxF.size; (try simp at hsF)))
      all_goals
        go_wp2_with fail
        go_meet
        exact ⟨aF, cF, rfl, rfl, own_base OF.out (by first | omega | (simp <;> omega)), (by repeat (first | (with_reducible refine Ext.setCell ?_ (by first | (simp; done) | (simp; omega)) _) | with_reducible refine Ext.alloc ?_ _ | with_reducible refine Ext.drew ?_ | with_reducible refine Ext.drewN ?_ _ | with_reducible assumption | with_reducible exact Ext.refl _ | with_reducible refine Ext.trans ?_ (by with_reducible assumption)))⟩
    case rest =>
      obtain ⟨ra2, rc2, rfl, rfl, o2, hx2⟩ := hcut
      obtain ⟨w2, rfl⟩ : ∃ x, x = wc := ⟨_, rfl⟩
      have HE2 := Lib.hid (HE1.out.trans hx2)
      have Ha2 := Lib.hid ((hx2.heap (Array.getElem?_eq_some_iff.1 Ha1.out).1).trans Ha1.out)
      have Hb2 := Lib.hid ((hx2.heap (Array.getElem?_eq_some_iff.1 Hb1.out).1).trans Hb1.out)
      have Hc2 := Lib.hid ((hx2.heap (Array.getElem?_eq_some_iff.1 Hc1.out).1).trans Hc1.out)
      have Hd2 := Lib.hid ((hx2.heap (Array.getElem?_eq_some_iff.1 Hd1.out).1).trans Hd1.out)
      have P1 := Lib.hid (own_ext O1.out hx2)
      have O2 := Lib.hid o2
      have lim2 : Hid (∀ k, (Value.slice ra2 nn rc2).ownBlock = some k → w1.heap.size ≤ k) := fun k hk => (O2.out.lt k hk).1
      have s2 := hx2.size
      clear o2 hx2 HK2 O1
      go_wp2_with fail
      refine (eqRingS_same HLL.out (by omega) _ O2.out P1.out).mono ?_
      rintro e w3 ⟨rfl, hx3⟩
      have HE3 := Lib.hid (HE2.out.trans hx3)
      have Ha3 := Lib.hid ((hx3.heap (Array.getElem?_eq_some_iff.1 Ha2.out).1).trans Ha2.out)
      have Hb3 := Lib.hid ((hx3.heap (Array.getElem?_eq_some_iff.1 Hb2.out).1).trans Hb2.out)
      have Hc3 := Lib.hid ((hx3.heap (Array.getElem?_eq_some_iff.1 Hc2.out).1).trans Hc2.out)
      have Hd3 := Lib.hid ((hx3.heap (Array.getElem?_eq_some_iff.1 Hd2.out).1).trans Hd2.out)
      have P2 := Lib.hid (own_ext P1.out hx3)
      have Q2 := Lib.hid (own_ext O2.out hx3)
      clear hx3 P1 O2
      go_wp2_with fail
      refine (markRingS_any (by rw [il_length]; exact HLL.out) (by omega) 1 (by omega) _ Q2.out).mono ?_
      rintro e w4 ⟨rfl, om, hg⟩
      have hw1a := (Array.getElem?_eq_some_iff.1 Ha1.out).1
      have hw1b := (Array.getElem?_eq_some_iff.1 Hb1.out).1
      have hw1c := (Array.getElem?_eq_some_iff.1 Hc1.out).1
      have hw1d := (Array.getElem?_eq_some_iff.1 Hd1.out).1
      have HE4 := Lib.hid (Ext.grown HE3.out hg (fun k hk => by have := lim2.out k hk; omega))
      have Ha4 := Lib.hid (heap_farC hg Ha3.out (fun j hj => by have := lim2.out j hj; omega))
      have Hb4 := Lib.hid (heap_farC hg Hb3.out (fun j hj => by have := lim2.out j hj; omega))
      have Hc4 := Lib.hid (heap_farC hg Hc3.out (fun j hj => by have := lim2.out j hj; omega))
      have Hd4 := Lib.hid (heap_farC hg Hd3.out (fun j hj => by have := lim2.out j hj; omega))
      have P3 := Lib.hid (own_farB P2.out hg (fun j hj k hk => by have := lim2.out j hj; have := lim1.out k hk; omega))
      have Q3 := Lib.hid om
      clear om hg P2 Q2 hw1a hw1b hw1c hw1d
      go_wp2_with fail
      refine (heldRingS_any (by omega) 1 (by omega) _ Q3.out).mono ?_
      rintro e w' ⟨rfl, rfl⟩
      have HK4 := Lib.hid (HK0.out _ HE4.out Ha4.out Hb4.out Hc4.out Hd4.out)
      go_upto_region 13 with fail
      go_cut [15, 16] from 61 (fun u15 u16 wx => ∃ (a : Option Addr) (c : Nat), u15 = .slice a nn c ∧ u16 = .bool ok ∧ wx.ownsRow w4.heap.size 51 4 (.slice a nn c) nn (IL LL) ∧ Ext w4 wx)
      case first =>
        go_region_held3 (fun w' => w'.cell? ⟨w.heap.size, 0, none⟩ = some (.int .i64 a1) ∧ w'.cell? ⟨w.heap.size, 1, none⟩ = some (.int .i64 a2) ∧ w'.cell? ⟨w.heap.size, 2, none⟩ = some (.int .i64 a3) ∧ w'.cell? ⟨w.heap.size + 1, 0, none⟩ = some (.int .i64 b1) ∧ w'.cell? ⟨w.heap.size + 1, 1, none⟩ = some (.int .i64 b2) ∧ w'.cell? ⟨w.heap.size + 1, 2, none⟩ = some (.int .i64 b3) ∧ w'.cell? ⟨w.heap.size + 2, 0, none⟩ = some (.int .i64 c1) ∧ w'.cell? ⟨w.heap.size + 2, 1, none⟩ = some (.int .i64 c2) ∧ w'.cell? ⟨w.heap.size + 2, 2, none⟩ = some (.int .i64 c3) ∧ w'.cell? ⟨w.heap.size + 3, 0, none⟩ = some (.int .i64 d1) ∧ w'.cell? ⟨w.heap.size + 3, 1, none⟩ = some (.int .i64 d2) ∧ w'.cell? ⟨w.heap.size + 3, 2, none⟩ = some (.int .i64 d3)) (exact HK4.out _ (by repeat (first | (with_reducible refine Ext.setCell ?_ (by first | (simp; done) | (simp; omega)) _) | with_reducible refine Ext.alloc ?_ _ | with_reducible refine Ext.drew ?_ | with_reducible refine Ext.drewN ?_ _ | with_reducible assumption | with_reducible exact Ext.refl _ | with_reducible refine Ext.trans ?_ (by with_reducible assumption))))
          (first
          | (go_at_call 9; (with_reducible refine (HTa _).out.mono ?_); rintro e wAa ⟨rfl, hxa⟩; have hsa := hxa.size; (try simp at hsa))
          | (go_at_call 9; (with_reducible refine (HTb _).out.mono ?_); rintro e wAb ⟨rfl, hxb⟩; have hsb := hxb.size; (try simp at hsb))
          | (go_at_call 9; (with_reducible refine (HTc _).out.mono ?_); rintro e wAc ⟨rfl, hxc⟩; have hsc := hxc.size; (try simp at hsc))
          | (go_at_call 9; (with_reducible refine (HTd _).out.mono ?_); rintro e wAd ⟨rfl, hxd⟩; have hsd := hxd.size; (try simp at hsd))
          | (go_at_call 19; (with_reducible refine (HI _).out.mono ?_); rintro e wF ⟨uF, rfl, oF, hxF⟩; obtain ⟨aF, cF, rfl, q1F, q2F, q3F⟩ := own_shape oF; clear q1F q2F q3F; have OF := Lib.hid oF; clear oF; have hsF := hxF.size; (try simp at hsF)))
        all_goals
          go_wp2_with fail
          go_meet
          exact ⟨aF, cF, rfl, rfl, own_base OF.out (by first | omega | (simp <;> omega)), (by repeat (first | (with_reducible refine Ext.setCell ?_ (by first | (simp; done) | (simp; omega)) _) | with_reducible refine Ext.alloc ?_ _ | with_reducible refine Ext.drew ?_ | with_reducible refine Ext.drewN ?_ _ | with_reducible assumption | with_reducible exact Ext.refl _ | with_reducible refine Ext.trans ?_ (by with_reducible assumption)))⟩
      case rest =>
        obtain ⟨ra5, rc5, rfl, rfl, o5, hx5⟩ := hcut
        obtain ⟨w5, rfl⟩ : ∃ x, x = wc := ⟨_, rfl⟩
        have HE5 := Lib.hid (HE4.out.trans hx5)
        have P4 := Lib.hid (own_ext P3.out hx5)
        have Q4 := Lib.hid (own_ext Q3.out hx5)
        have O5 := Lib.hid o5
        clear o5 hx5 HK4 P3 Q3
        go_wp2_with fail
        refine (eqRingS_same HLL.out (by omega) _ O5.out P4.out).mono ?_
        rintro e w6 ⟨rfl, hx6⟩
        have HE6 := Lib.hid (HE5.out.trans hx6)
        have Q5 := Lib.hid (own_ext Q4.out hx6)
        clear hx6
        go_wp2_with fail
        refine (heldRingS_any (by omega) 1 (by omega) _ Q5.out).mono ?_
        rintro e w' ⟨rfl, rfl⟩
        go_wp2
        go_ret
        exact ⟨rfl, HE6.out⟩

end Go.Proofs.Ytojoljffaedpfaa
