/- The law on GridPoints. -/
import Derived.Test.YtojoljffaedpfaaGrdW
import Derived.Test.YtojoljffaedpfaaGrdG
import Derived.Test.YtojoljffaedpfaaSlRoot2
import Derived.Deep.RegionHeld3
import Derived.Deep.Cut
namespace Go.Proofs.Ytojoljffaedpfaa
open Go.RowKit Go.Lib
set_option linter.unusedVariables false
set_option linter.unusedSimpArgs false

theorem heap_farG {W W' : World} {row : Option Nat} {k : Nat} {x : Obj} (hg : W.grownBy W' row) (h : W.heap[k]? = some x) (hne : ∀ j, row = some j → j ≠ k) : W'.heap[k]? = some x :=
  (hg.block k (Array.getElem?_eq_some_iff.1 h).1 (fun e => hne k e.symm rfl)).trans h
theorem own_farG {w w' : World} {base : Nat} {e : TypeId} {size : Nat} {v : Value} {n : Nat} {xs : List Value} {row : Option Nat} (h : w.ownsRow base e size v n xs) (hg : w.grownBy w' row) (hne : ∀ j, row = some j → ∀ k, v.ownBlock = some k → j ≠ k) : w'.ownsRow base e size v n xs := by
  refine h.kept hg ?_
  cases hv : v.ownBlock with
  | none => exact .inl rfl
  | some k => exact .inr fun he => hne k he.symm k hv rfl

set_option maxRecDepth 20000 in
set_option maxHeartbeats 8000000 in
theorem law_GridPoints (lo hi den lo' hi' den' : Int) (w : World) :
    Calls Try.prog 3 #[.agg #[.int .i64 lo, .int .i64 hi, .int .i64 den], .agg #[.int .i64 lo', .int .i64 hi', .int .i64 den']] w fun e w' => e = .returned (.bool true) ∧ Ext w w' := by
  have HTA := fun w => Lib.hid (toRange_any lo hi den w)
  have HTB := fun w => Lib.hid (toRange_any lo' hi' den' w)
  have HS := fun w => Lib.hid (s_gridPoints_any lo hi den lo' hi' den' w)
  have HI := fun w => Lib.hid (gridPoints_any lo hi den lo' hi' den' w)
  have hlen := fl2_len (gpV lo hi den lo' hi' den')
  have hle := gp_len lo hi den lo' hi' den'
  generalize fl2 (gpV lo hi den lo' hi' den') = LL at *
  generalize (gpV lo hi den lo' hi' den').length = nn at *
  generalize gpOk lo hi den lo' hi' den' = ok at *
  have HLL := Lib.hid hlen
  clear hlen
  have HK0 : Hid (∀ w', Ext w w' → w'.heap[w.heap.size]? = some (.cells #[.int .i64 lo, .int .i64 hi, .int .i64 den] 23 (0, 0)) → w'.heap[w.heap.size + 1]? = some (.cells #[.int .i64 lo', .int .i64 hi', .int .i64 den'] 23 (0, 0)) → ∀ W, Ext w' W → (W.cell? ⟨w.heap.size, 0, none⟩ = some (.int .i64 lo) ∧ W.cell? ⟨w.heap.size, 1, none⟩ = some (.int .i64 hi) ∧ W.cell? ⟨w.heap.size, 2, none⟩ = some (.int .i64 den) ∧ W.cell? ⟨w.heap.size + 1, 0, none⟩ = some (.int .i64 lo') ∧ W.cell? ⟨w.heap.size + 1, 1, none⟩ = some (.int .i64 hi') ∧ W.cell? ⟨w.heap.size + 1, 2, none⟩ = some (.int .i64 den'))) := fun w' hx hA hB W hW => by
    have zA := fun k => cell_of_row _ _ k _ _ _ ((hW.heap (Array.getElem?_eq_some_iff.1 hA).1).trans hA)
    have zB := fun k => cell_of_row _ _ k _ _ _ ((hW.heap (Array.getElem?_eq_some_iff.1 hB).1).trans hB)
    exact ⟨zA 0, zA 1, zA 2, zB 0, zB 1, zB 2⟩
  have HA0 : Hid (((w.alloc (.cells #[.int .i64 lo, .int .i64 hi, .int .i64 den] 23 (0, 0))).alloc (.cells #[.int .i64 lo', .int .i64 hi', .int .i64 den'] 23 (0, 0))).heap[w.heap.size]? = some (.cells #[.int .i64 lo, .int .i64 hi, .int .i64 den] 23 (0, 0))) := heap_alloc_lt (heap_alloc_new _ _)
  have HB0 : Hid (((w.alloc (.cells #[.int .i64 lo, .int .i64 hi, .int .i64 den] 23 (0, 0))).alloc (.cells #[.int .i64 lo', .int .i64 hi', .int .i64 den'] 23 (0, 0))).heap[w.heap.size + 1]? = some (.cells #[.int .i64 lo', .int .i64 hi', .int .i64 den'] 23 (0, 0))) := heap_alloc_at _ _ _ (by simp)
  have HE0 : Hid (Ext w ((w.alloc (.cells #[.int .i64 lo, .int .i64 hi, .int .i64 den] 23 (0, 0))).alloc (.cells #[.int .i64 lo', .int .i64 hi', .int .i64 den'] 23 (0, 0)))) := ((Ext.refl w).alloc _).alloc _
  have HK1 := Lib.hid (HK0.out _ HE0.out HA0.out HB0.out)
  go_enter Try.func3, Try.ntmps3
  go_upto_region 1 with fail
  generalize ((w.alloc (.cells #[.int .i64 lo, .int .i64 hi, .int .i64 den] 23 (0, 0))).alloc (.cells #[.int .i64 lo', .int .i64 hi', .int .i64 den'] 23 (0, 0))) = W0 at *
  go_cut [5, 6] from 14 (fun u5 u6 wx => ∃ (a : Option Addr) (c : Nat), u5 = .slice a nn c ∧ u6 = .bool ok ∧ wx.ownsRow W0.heap.size 34 2 (.slice a nn c) nn (IL LL) ∧ Ext W0 wx)
  case first =>
    go_region_held3 (fun w' => w'.cell? ⟨w.heap.size, 0, none⟩ = some (.int .i64 lo) ∧ w'.cell? ⟨w.heap.size, 1, none⟩ = some (.int .i64 hi) ∧ w'.cell? ⟨w.heap.size, 2, none⟩ = some (.int .i64 den) ∧ w'.cell? ⟨w.heap.size + 1, 0, none⟩ = some (.int .i64 lo') ∧ w'.cell? ⟨w.heap.size + 1, 1, none⟩ = some (.int .i64 hi') ∧ w'.cell? ⟨w.heap.size + 1, 2, none⟩ = some (.int .i64 den')) (exact HK1.out _ (by repeat (first | (with_reducible refine Ext.setCell ?_ (by first | (simp; done) | (simp; omega)) _) | with_reducible refine Ext.alloc ?_ _ | with_reducible refine Ext.drew ?_ | with_reducible refine Ext.drewN ?_ _ | with_reducible assumption | with_reducible exact Ext.refl _ | with_reducible refine Ext.trans ?_ (by with_reducible assumption))))
      (first
      | (go_at_call 9; (with_reducible refine (HTA _).out.mono ?_); rintro e wA ⟨rfl, hxA⟩; obtain ⟨hcA, hfA⟩ := hxA.cells; have hsA := hxA.size; (try simp at hsA))
      | (go_at_call 9; (with_reducible refine (HTB _).out.mono ?_); rintro e wB ⟨rfl, hxB⟩; obtain ⟨hcB, hfB⟩ := hxB.cells; have hsB := hxB.size; (try simp at hsB))
      | (go_at_call 8; (with_reducible refine (HS _).out.mono ?_); rintro e wF ⟨uF, rfl, oF, hxF⟩; obtain ⟨aF, cF, rfl, q1F, q2F, q3F⟩ := own_shape oF; clear q1F q2F q3F; have OF := Lib.hid oF; clear oF; have hsF := hxF.size; (try simp at hsF)))
    all_goals
      go_wp2_with fail
      go_meet
      exact ⟨aF, cF, rfl, rfl, own_base OF.out (by first | omega | (simp <;> omega)), (by repeat (first | (with_reducible refine Ext.setCell ?_ (by first | (simp; done) | (simp; omega)) _) | with_reducible refine Ext.alloc ?_ _ | with_reducible refine Ext.drew ?_ | with_reducible refine Ext.drewN ?_ _ | with_reducible assumption | with_reducible exact Ext.refl _ | with_reducible refine Ext.trans ?_ (by with_reducible assumption)))⟩
  case rest =>
    obtain ⟨a1, c1, rfl, rfl, o1, hx1⟩ := hcut
    obtain ⟨w1, rfl⟩ : ∃ x, x = wc := ⟨_, rfl⟩
    have HE1 := Lib.hid (HE0.out.trans hx1)
    have HA1 := Lib.hid ((hx1.heap (Array.getElem?_eq_some_iff.1 HA0.out).1).trans HA0.out)
    have HB1 := Lib.hid ((hx1.heap (Array.getElem?_eq_some_iff.1 HB0.out).1).trans HB0.out)
    have HK2 := Lib.hid (HK0.out _ HE1.out HA1.out HB1.out)
    have O1 := Lib.hid o1
    have lim1 : Hid (∀ k, (Value.slice a1 nn c1).ownBlock = some k → k < w1.heap.size) := fun k hk => (O1.out.lt k hk).2
    clear o1 hx1 HS HK1 HA0 HB0
    go_upto_region 2 with fail
    go_cut [7, 8] from 22 (fun u7 u8 wx => ∃ (a : Option Addr) (c : Nat), u7 = .slice a nn c ∧ u8 = .bool ok ∧ wx.ownsRow w1.heap.size 34 2 (.slice a nn c) nn (IL LL) ∧ Ext w1 wx)
    case first =>
      go_region_held3 (fun w' => w'.cell? ⟨w.heap.size, 0, none⟩ = some (.int .i64 lo) ∧ w'.cell? ⟨w.heap.size, 1, none⟩ = some (.int .i64 hi) ∧ w'.cell? ⟨w.heap.size, 2, none⟩ = some (.int .i64 den) ∧ w'.cell? ⟨w.heap.size + 1, 0, none⟩ = some (.int .i64 lo') ∧ w'.cell? ⟨w.heap.size + 1, 1, none⟩ = some (.int .i64 hi') ∧ w'.cell? ⟨w.heap.size + 1, 2, none⟩ = some (.int .i64 den')) (exact HK2.out _ (by repeat (first | (with_reducible refine Ext.setCell ?_ (by first | (simp; done) | (simp; omega)) _) | with_reducible refine Ext.alloc ?_ _ | with_reducible refine Ext.drew ?_ | with_reducible refine Ext.drewN ?_ _ | with_reducible assumption | with_reducible exact Ext.refl _ | with_reducible refine Ext.trans ?_ (by with_reducible assumption))))
        (first
        | (go_at_call 9; (with_reducible refine (HTA _).out.mono ?_); rintro e wA ⟨rfl, hxA⟩; obtain ⟨hcA, hfA⟩ := hxA.cells; have hsA := hxA.size; (try simp at hsA))
        | (go_at_call 9; (with_reducible refine (HTB _).out.mono ?_); rintro e wB ⟨rfl, hxB⟩; obtain ⟨hcB, hfB⟩ := hxB.cells; have hsB := hxB.size; (try simp at hsB))
        | (go_at_call 10; (with_reducible refine (HI _).out.mono ?_); rintro e wF ⟨uF, rfl, oF, hxF⟩; obtain ⟨aF, cF, rfl, q1F, q2F, q3F⟩ := own_shape oF; clear q1F q2F q3F; have OF := Lib.hid oF; clear oF; have hsF := hxF.size; (try simp at hsF)))
      all_goals
        go_wp2_with fail
        go_meet
        exact ⟨aF, cF, rfl, rfl, own_base OF.out (by first | omega | (simp <;> omega)), (by repeat (first | (with_reducible refine Ext.setCell ?_ (by first | (simp; done) | (simp; omega)) _) | with_reducible refine Ext.alloc ?_ _ | with_reducible refine Ext.drew ?_ | with_reducible refine Ext.drewN ?_ _ | with_reducible assumption | with_reducible exact Ext.refl _ | with_reducible refine Ext.trans ?_ (by with_reducible assumption)))⟩
    case rest =>
      obtain ⟨a2, c2, rfl, rfl, o2, hx2⟩ := hcut
      obtain ⟨w2, rfl⟩ : ∃ x, x = wc := ⟨_, rfl⟩
      have HE2 := Lib.hid (HE1.out.trans hx2)
      have HA2 := Lib.hid ((hx2.heap (Array.getElem?_eq_some_iff.1 HA1.out).1).trans HA1.out)
      have HB2 := Lib.hid ((hx2.heap (Array.getElem?_eq_some_iff.1 HB1.out).1).trans HB1.out)
      have P1 := Lib.hid (own_ext O1.out hx2)
      have O2 := Lib.hid o2
      have lim2 : Hid (∀ k, (Value.slice a2 nn c2).ownBlock = some k → w1.heap.size ≤ k) := fun k hk => (O2.out.lt k hk).1
      have s2 := hx2.size
      clear o2 hx2 HK2 O1
      go_wp2_with fail
      refine (eqRoot2S_same HLL.out (by omega) _ O2.out P1.out).mono ?_
      rintro e w3 ⟨rfl, hx3⟩
      have HE3 := Lib.hid (HE2.out.trans hx3)
      have HA3 := Lib.hid ((hx3.heap (Array.getElem?_eq_some_iff.1 HA2.out).1).trans HA2.out)
      have HB3 := Lib.hid ((hx3.heap (Array.getElem?_eq_some_iff.1 HB2.out).1).trans HB2.out)
      have P2 := Lib.hid (own_ext P1.out hx3)
      have Q2 := Lib.hid (own_ext O2.out hx3)
      clear hx3 P1 O2
      go_wp2_with fail
      refine (markRoot2S_any (by rw [il_length]; exact HLL.out) (by omega) 1 (by omega) _ Q2.out).mono ?_
      rintro e w4 ⟨rfl, om, hg⟩
      have hw1A := (Array.getElem?_eq_some_iff.1 HA1.out).1
      have hw1B := (Array.getElem?_eq_some_iff.1 HB1.out).1
      have HE4 := Lib.hid (Ext.grown HE3.out hg (fun k hk => by have := lim2.out k hk; omega))
      have HA4 := Lib.hid (heap_farG hg HA3.out (fun j hj => by have := lim2.out j hj; omega))
      have HB4 := Lib.hid (heap_farG hg HB3.out (fun j hj => by have := lim2.out j hj; omega))
      have P3 := Lib.hid (own_farG P2.out hg (fun j hj k hk => by have := lim2.out j hj; have := lim1.out k hk; omega))
      have Q3 := Lib.hid om
      clear om hg P2 Q2 hw1A hw1B
      go_wp2_with fail
      refine (heldRoot2S_any (by omega) 1 (by omega) _ Q3.out).mono ?_
      rintro e w' ⟨rfl, rfl⟩
      have HK4 := Lib.hid (HK0.out _ HE4.out HA4.out HB4.out)
      go_upto_region 13 with fail
      go_cut [11, 12] from 50 (fun u11 u12 wx => ∃ (a : Option Addr) (c : Nat), u11 = .slice a nn c ∧ u12 = .bool ok ∧ wx.ownsRow w4.heap.size 34 2 (.slice a nn c) nn (IL LL) ∧ Ext w4 wx)
      case first =>
        go_region_held3 (fun w' => w'.cell? ⟨w.heap.size, 0, none⟩ = some (.int .i64 lo) ∧ w'.cell? ⟨w.heap.size, 1, none⟩ = some (.int .i64 hi) ∧ w'.cell? ⟨w.heap.size, 2, none⟩ = some (.int .i64 den) ∧ w'.cell? ⟨w.heap.size + 1, 0, none⟩ = some (.int .i64 lo') ∧ w'.cell? ⟨w.heap.size + 1, 1, none⟩ = some (.int .i64 hi') ∧ w'.cell? ⟨w.heap.size + 1, 2, none⟩ = some (.int .i64 den')) (exact HK4.out _ (by repeat (first | (with_reducible refine Ext.setCell ?_ (by first | (simp; done) | (simp; omega)) _) | with_reducible refine Ext.alloc ?_ _ | with_reducible refine Ext.drew ?_ | with_reducible refine Ext.drewN ?_ _ | with_reducible assumption | with_reducible exact Ext.refl _ | with_reducible refine Ext.trans ?_ (by with_reducible assumption))))
          (first
          | (go_at_call 9; (with_reducible refine (HTA _).out.mono ?_); rintro e wA ⟨rfl, hxA⟩; obtain ⟨hcA, hfA⟩ := hxA.cells; have hsA := hxA.size; (try simp at hsA))
          | (go_at_call 9; (with_reducible refine (HTB _).out.mono ?_); rintro e wB ⟨rfl, hxB⟩; obtain ⟨hcB, hfB⟩ := hxB.cells; have hsB := hxB.size; (try simp at hsB))
          | (go_at_call 10; (with_reducible refine (HI _).out.mono ?_); rintro e wF ⟨uF, rfl, oF, hxF⟩; obtain ⟨aF, cF, rfl, q1F, q2F, q3F⟩ := own_shape oF; clear q1F q2F q3F; have OF := Lib.hid oF; clear oF; have hsF := hxF.size; (try simp at hsF)))
        all_goals
          go_wp2_with fail
          go_meet
          exact ⟨aF, cF, rfl, rfl, own_base OF.out (by first | omega | (simp <;> omega)), (by repeat (first | (with_reducible refine Ext.setCell ?_ (by first | (simp; done) | (simp; omega)) _) | with_reducible refine Ext.alloc ?_ _ | with_reducible refine Ext.drew ?_ | with_reducible refine Ext.drewN ?_ _ | with_reducible assumption | with_reducible exact Ext.refl _ | with_reducible refine Ext.trans ?_ (by with_reducible assumption)))⟩
      case rest =>
        obtain ⟨a5, c5, rfl, rfl, o5, hx5⟩ := hcut
        obtain ⟨w5, rfl⟩ : ∃ x, x = wc := ⟨_, rfl⟩
        have HE5 := Lib.hid (HE4.out.trans hx5)
        have P4 := Lib.hid (own_ext P3.out hx5)
        have Q4 := Lib.hid (own_ext Q3.out hx5)
        have O5 := Lib.hid o5
        clear o5 hx5 HK4 P3 Q3
        go_wp2_with fail
        refine (eqRoot2S_same HLL.out (by omega) _ O5.out P4.out).mono ?_
        rintro e w6 ⟨rfl, hx6⟩
        have HE6 := Lib.hid (HE5.out.trans hx6)
        have Q5 := Lib.hid (own_ext Q4.out hx6)
        clear hx6
        go_wp2_with fail
        refine (heldRoot2S_any (by omega) 1 (by omega) _ Q5.out).mono ?_
        rintro e w' ⟨rfl, rfl⟩
        go_wp2
        go_ret
        exact ⟨rfl, HE6.out⟩

end Go.Proofs.Ytojoljffaedpfaa
