/- Circuits that are equal: both sides. -/
import Derived.Test.YtchaanppoklapaaLu
import Derived.Deep.Cut
namespace Go.Proofs.Ytchaanppoklapaa
open Go.RowKit Go.Lib
set_option linter.unusedVariables false
set_option linter.unusedSimpArgs false

def eqC (p : Int) (n : Nat) (xs : List Int) (q : Int) (m : Nat) (ys : List Int) : Bool := (p == q) && (decide (n = m) && eqG xs ys n)

set_option maxHeartbeats 2000000 in
theorem equalCircuits_any (p q : Int) {v1 v2 : Value} {n m : Nat} {xs ys : List Int} (hn : n ≤ 2000000) (hm : m ≤ 2000000) (w : World) (h1 : RV w 3 v1 n xs) (h2 : RV w 3 v2 m ys) :
    Calls Try.prog 41 #[.agg #[.int .i64 p, v1], .agg #[.int .i64 q, v2]] w fun e w' => e = .returned (.bool (eqC p n xs q m ys)) ∧ Ext w w' := by
  have HC := fun w' (hx : Ext w w') => Lib.hid (equalG_any hn hm w' (h1.ext hx) (h2.ext hx))
  obtain ⟨_, a1, c1, rfl, _, _, _⟩ := h1
  obtain ⟨_, a2, c2, rfl, _, _, _⟩ := h2
  have HV : Hid (eqC p n xs q m ys = ((p == q) && (decide (n = m) && eqG xs ys n))) := rfl
  generalize (decide (n = m) && eqG xs ys n) = g at *
  generalize eqC p n xs q m ys = V at *
  by_cases hpq : p = q
  · subst hpq
    obtain rfl : V = g := by rw [HV.out]; simp
    clear HV
    go_enter Try.func41, Try.ntmps41
    go_wp2_with fail
    refine (HC _ (by repeat (first | (with_reducible refine Ext.setCell ?_ (by first | (simp; done) | (simp; omega)) _) | with_reducible refine Ext.alloc ?_ _ | with_reducible refine Ext.drew ?_ | with_reducible refine Ext.drewN ?_ _ | with_reducible assumption | with_reducible exact Ext.refl _ | with_reducible refine Ext.trans ?_ (by with_reducible assumption)))).out.mono ?_
    rintro e w1 ⟨rfl, hx1⟩
    go_wp2
    go_ret
    exact ⟨rfl, (by repeat (first | (with_reducible refine Ext.setCell ?_ (by first | (simp; done) | (simp; omega)) _) | with_reducible refine Ext.alloc ?_ _ | with_reducible refine Ext.drew ?_ | with_reducible refine Ext.drewN ?_ _ | with_reducible assumption | with_reducible exact Ext.refl _ | with_reducible refine Ext.trans ?_ (by with_reducible assumption)))⟩
  · have hb : (p == q) = false := by simpa using hpq
    obtain rfl : V = false := by rw [HV.out, hb]; rfl
    clear HV
    go_enter Try.func41, Try.ntmps41
    go_wp2
    go_ret
    exact ⟨rfl, (by repeat (first | (with_reducible refine Ext.setCell ?_ (by first | (simp; done) | (simp; omega)) _) | with_reducible refine Ext.alloc ?_ _ | with_reducible refine Ext.drew ?_ | with_reducible refine Ext.drewN ?_ _ | with_reducible assumption | with_reducible exact Ext.refl _ | with_reducible refine Ext.trans ?_ (by with_reducible assumption)))⟩

set_option maxHeartbeats 2000000 in
theorem s_equalCircuits_any (p q : Int) {v1 v2 : Value} {n m : Nat} {xs ys : List Int} (hn : n ≤ 2000000) (hm : m ≤ 2000000) (w : World) (h1 : RV w 3 v1 n xs) (h2 : RV w 3 v2 m ys) :
    Calls Try.prog 40 #[.agg #[.int .i64 p, v1], .agg #[.int .i64 q, v2]] w fun e w' => e = .returned (.bool (eqC p n xs q m ys)) ∧ Ext w w' := by
  obtain ⟨hlx, a1, c1, rfl, p1, p2, hhx⟩ := h1
  obtain ⟨hly, a2, c2, rfl, p3, p4, hhy⟩ := h2
  have HX := Lib.hid hhx
  have HY := Lib.hid hhy
  have HLX := Lib.hid hlx
  have HLY := Lib.hid hly
  clear hhx hhy hlx hly
  have HV : Hid (eqC p n xs q m ys = ((p == q) && (decide (n = m) && eqG xs ys n))) := rfl
  generalize eqC p n xs q m ys = V at *
  by_cases hpq : p = q
  case neg =>
    have hb : (p == q) = false := by simpa using hpq
    obtain rfl : V = false := by rw [HV.out, hb]; rfl
    clear HV
    go_enter Try.func40, Try.ntmps40
    go_wp2
    go_ret
    exact ⟨rfl, (by repeat (first | (with_reducible refine Ext.setCell ?_ (by first | (simp; done) | (simp; omega)) _) | with_reducible refine Ext.alloc ?_ _ | with_reducible refine Ext.drew ?_ | with_reducible refine Ext.drewN ?_ _ | with_reducible assumption | with_reducible exact Ext.refl _ | with_reducible refine Ext.trans ?_ (by with_reducible assumption)))⟩
  subst hpq
  by_cases hnm : n = m
  case neg =>
    have hnm' : ¬ ((n : Int) = m) := by omega
    obtain rfl : V = false := by rw [HV.out]; simp [hnm]
    clear HV
    go_enter Try.func40, Try.ntmps40
    go_wp2
    go_ret
    exact ⟨rfl, (by repeat (first | (with_reducible refine Ext.setCell ?_ (by first | (simp; done) | (simp; omega)) _) | with_reducible refine Ext.alloc ?_ _ | with_reducible refine Ext.drew ?_ | with_reducible refine Ext.drewN ?_ _ | with_reducible assumption | with_reducible exact Ext.refl _ | with_reducible refine Ext.trans ?_ (by with_reducible assumption)))⟩
  subst hnm
  have HV2 : Hid (V = eqG xs ys n) := by unfold Hid; rw [HV.out]; simp
  clear HV
  obtain ⟨w1, hw1⟩ : ∃ w1, w1 = (w.alloc (.cells #[.int .i64 p, .slice a1 n c1] 31 (0, 0))).alloc (.cells #[.int .i64 p, .slice a2 n c2] 31 (0, 0)) := ⟨_, rfl⟩
  have HA1 : Hid (w1.heap[w.heap.size]? = some (.cells #[.int .i64 p, .slice a1 n c1] 31 (0, 0))) := by rw [hw1]; exact heap_alloc_lt (heap_alloc_new _ _)
  have HB1 : Hid (w1.heap[w.heap.size + 1]? = some (.cells #[.int .i64 p, .slice a2 n c2] 31 (0, 0))) := by rw [hw1]; exact heap_alloc_at _ _ _ (by simp)
  have HE1 : Hid (Ext w w1) := by rw [hw1]; exact ((Ext.refl w).alloc _).alloc _
  have lA1 := (Array.getElem?_eq_some_iff.1 HA1.out).1
  have lB1 := (Array.getElem?_eq_some_iff.1 HB1.out).1
  have zA1 := fun k => cell_of_row _ _ k _ _ _ HA1.out
  have zB1 := fun k => cell_of_row _ _ k _ _ _ HB1.out
  go_enter Try.func40, Try.ntmps40
  go_upto_region 1 with fail
  rw [← hw1]
  clear hw1
  go_wp2
  clear zA1 zB1
  go_loopw [5, 23] (fun _ i wr => ∃ j : Nat, j ≤ n ∧ i = .int .i64 j ∧ Hid (eqG xs ys j = true) ∧ Ext w1 wr) (fun _ i _ => n - (intOf i).toNat)
  case atStart => exact ⟨0, by omega, rfl, rfl, Ext.refl _⟩
  case round =>
    obtain ⟨j, hj, rfl, HO, hE⟩ := hrel
    have HEr := Lib.hid hE
    have HEw := Lib.hid (HE1.out.trans hE)
    have hA := (hE.heap lA1).trans HA1.out
    have hB := (hE.heap lB1).trans HB1.out
    have zA := fun k => cell_of_row _ _ k _ _ _ hA
    have zB := fun k => cell_of_row _ _ k _ _ _ hB
    have lA := (Array.getElem?_eq_some_iff.1 hA).1
    have lB := (Array.getElem?_eq_some_iff.1 hB).1
    clear hE hA hB
    by_cases hlt : j < n
    · have hlt' : (j : Int) < n := by omega
      have HS : Hid (eqG xs ys (j + 1) = (eqG xs ys j && ((at3 xs (j * 3) == at3 ys (j * 3)) && ((at3 xs (j * 3 + 1) == at3 ys (j * 3 + 1)) && (at3 xs (j * 3 + 2) == at3 ys (j * 3 + 2)))))) := rfl
      have HF : Hid (((at3 xs (j * 3) == at3 ys (j * 3)) && ((at3 xs (j * 3 + 1) == at3 ys (j * 3 + 1)) && (at3 xs (j * 3 + 2) == at3 ys (j * 3 + 2)))) = false → eqG xs ys n = false) := fun h => allTo_false (f := eqAt xs ys) h hlt
      have hE := HEw.out
      obtain ⟨bx, offx, rfl, hbkx, hcellx⟩ := HX.out (by omega)
      have hbrx : bx < wr.heap.size := by have := hE.size; omega
      have zx0 : wr.cell? ⟨bx, offx + j * 3, none⟩ = some (.int .i64 (at3 xs (j * 3))) := (hE.cells.1 bx (offx + (j * 3)) hbkx).trans (hcellx _ _ (at3_get (by have := HLX.out; omega)))
      have zx1 : wr.cell? ⟨bx, offx + j * 3 + 1, none⟩ = some (.int .i64 (at3 xs (j * 3 + 1))) := (hE.cells.1 bx (offx + (j * 3 + 1)) hbkx).trans (hcellx _ _ (at3_get (by have := HLX.out; omega)))
      have zx2 : wr.cell? ⟨bx, offx + j * 3 + 2, none⟩ = some (.int .i64 (at3 xs (j * 3 + 2))) := (hE.cells.1 bx (offx + (j * 3 + 2)) hbkx).trans (hcellx _ _ (at3_get (by have := HLX.out; omega)))
      clear hcellx
      obtain ⟨bz, offz, rfl, hbkz, hcellz⟩ := HY.out (by omega)
      have hbrz : bz < wr.heap.size := by have := hE.size; omega
      have zz0 : wr.cell? ⟨bz, offz + j * 3, none⟩ = some (.int .i64 (at3 ys (j * 3))) := (hE.cells.1 bz (offz + (j * 3)) hbkz).trans (hcellz _ _ (at3_get (by have := HLY.out; omega)))
      have zz1 : wr.cell? ⟨bz, offz + j * 3 + 1, none⟩ = some (.int .i64 (at3 ys (j * 3 + 1))) := (hE.cells.1 bz (offz + (j * 3 + 1)) hbkz).trans (hcellz _ _ (at3_get (by have := HLY.out; omega)))
      have zz2 : wr.cell? ⟨bz, offz + j * 3 + 2, none⟩ = some (.int .i64 (at3 ys (j * 3 + 2))) := (hE.cells.1 bz (offz + (j * 3 + 2)) hbkz).trans (hcellz _ _ (at3_get (by have := HLY.out; omega)))
      clear hcellz
      generalize at3 xs (j * 3) = x0 at *
      generalize at3 xs (j * 3 + 1) = x1 at *
      generalize at3 xs (j * 3 + 2) = x2 at *
      generalize at3 ys (j * 3) = y0 at *
      generalize at3 ys (j * 3 + 1) = y1 at *
      generalize at3 ys (j * 3 + 2) = y2 at *
      clear hE
      have hneq := fun w => neq_gate x0 x1 x2 y0 y1 y2 w
      generalize hg : ((x0 == y0) && ((x1 == y1) && (x2 == y2))) = g at *
      clear hg
      go_wp2
      refine wp_region_madeC (m := 38) (by kernel_rfl) (by kernel_rfl) rfl (fun hxc => ?_)
      repeat (refine mw_quiet ?_; apply Exists.intro; refine ⟨fun σ => ?_, ?_⟩; (first | (go_simp; rfl) | fail); simp only [Act.put, List.setIfInBounds_toArray, List.set_cons_succ, List.set_cons_zero, List.nil_append, List.cons_append])
      refine ⟨by kernel_rfl, fun σ w2 hF2 => ?_⟩
      have hx2 := hF2.ext
      clear hF2 hxc
      obtain ⟨hc2, hf2⟩ := hx2.cells
      have hz2 := hx2.size
      try simp at hz2
      clear hneq
      cases g
      · go_wp2
        go_ret
        exact ⟨ret_bool (by rw [HV2.out]; simp [HF.out]), HEw.out.trans hx2⟩
      · go_wp2
        go_roundw
        case rel => exact ⟨j + 1, by omega, by go_num, by unfold Hid; rw [HS.out, HO.out]; rfl, HEr.out.trans hx2⟩
        case measure => simp [intOf]; omega
    · obtain rfl : j = n := by omega
      have hnlt : ¬ ((j : Int) < j) := by omega
      go_wp2
      go_ret
      exact ⟨ret_bool (by rw [HV2.out, HO.out]), HEw.out⟩

end Go.Proofs.Ytchaanppoklapaa
