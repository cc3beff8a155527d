/- CountNorm and SolveNorm: the program's side. -/
import Derived.Test.YtbffcpnpdpgfeaaNormsS
import Derived.Test.YtbffcpnpdpgfeaaMade
namespace Go.Proofs.Ytbffcpnpdpgfeaa
open Go.RowKit
set_option linter.unusedVariables false
set_option linter.unusedSimpArgs false

def smallN (P Q : Int) : Bool := R2 P Q && Wn P 0 400
def cntN (P Q : Int) : Int := if smallN P Q then ((nL P Q).length : Int) else 0
def fstN (P Q : Int) : Option (Int × Int × Int × Int) := if smallN P Q then (nL P Q).head? else none

theorem isSmallNorm_any (P Q : Int) (w : World) :
    Calls Try.prog 57 #[.agg #[.int .i64 P, .int .i64 Q]] w fun e w' => e = .returned (.bool (smallN P Q)) ∧ Ext w w' := by
  unfold smallN
  cases h : R2 P Q
  all_goals
    go_enter Try.func57, Try.ntmps57
    go_wp2_with fail
    refine (isRoot2_any P Q _).mono ?_
    rintro e w1 ⟨rfl, hx1⟩
    obtain ⟨hc1, hf1⟩ := hx1.cells
    have hz1 := hx1.size
    try simp at hz1
    have hs1_0 := sz1 (a := w.heap.size) (b := w1.heap.size) (by omega)
    go_wp2_with (go_at_call 25; ((with_reducible refine (within_any _ _ _ _).mono ?_); rintro e w' ⟨rfl, rfl⟩))
    go_ret
    exact ⟨ret_bool (by simp [h]), (by repeat (first | exact Ext.refl _ | assumption | refine Ext.alloc ?_ _ | refine Ext.drew ?_ | refine Ext.drewN ?_ _ | refine Ext.setCell ?_ (by first | omega | (dsimp only; omega) | (simp; done) | (simp; omega)) _ | refine Ext.trans ?_ (by assumption)))⟩

theorem l26Small_any (P Q : Int) (w : World) :
    Calls Try.prog 71 #[.agg #[.int .i64 P, .int .i64 Q]] w fun e w' => e = .returned (.bool (smallN P Q)) ∧ Ext w w' := by
  unfold smallN
  cases h : R2 P Q
  all_goals
    go_enter Try.func71, Try.ntmps71
    go_wp2_with fail
    refine (l25Good_any P Q _).mono ?_
    rintro e w1 ⟨rfl, hx1⟩
    obtain ⟨hc1, hf1⟩ := hx1.cells
    have hz1 := hx1.size
    try simp at hz1
    have hs1_0 := sz1 (a := w.heap.size) (b := w1.heap.size) (by omega)
    go_wp2_with (go_at_call 22; ((with_reducible refine (l1In_any _ _ _ _).mono ?_); rintro e w' ⟨rfl, rfl⟩))
    go_ret
    exact ⟨ret_bool (by simp [h]), (by repeat (first | exact Ext.refl _ | assumption | refine Ext.alloc ?_ _ | refine Ext.drew ?_ | refine Ext.drewN ?_ _ | refine Ext.setCell ?_ (by first | omega | (dsimp only; omega) | (simp; done) | (simp; omega)) _ | refine Ext.trans ?_ (by assumption)))⟩

def solV (P Q : Int) : Int × Int × Int × Int := (fstN P Q).getD (0, 0, 0, 0)
theorem sol_no {P Q : Int} (h : smallN P Q = false) : solV P Q = (0, 0, 0, 0) ∧ (fstN P Q).isSome = false := by unfold solV fstN; rw [h]; exact ⟨rfl, rfl⟩
theorem sol_nil {P Q : Int} (h : smallN P Q = true) (h2 : nL P Q = []) : solV P Q = (0, 0, 0, 0) ∧ (fstN P Q).isSome = false := by unfold solV fstN; rw [h, h2]; exact ⟨rfl, rfl⟩
theorem sol_cons {P Q : Int} {x : Int × Int × Int × Int} {l : List (Int × Int × Int × Int)} (h : smallN P Q = true) (h2 : nL P Q = x :: l) : solV P Q = x ∧ (fstN P Q).isSome = true := by unfold solV fstN; rw [h, h2]; exact ⟨rfl, rfl⟩

set_option maxRecDepth 20000 in
set_option maxHeartbeats 2000000 in
theorem solveNorm_any (P Q : Int) (w : World) :
    Calls Try.prog 38 #[.agg #[.int .i64 P, .int .i64 Q]] w fun e w' => e = .returned (.tuple #[.agg #[.int .i64 (solV P Q).1, .int .i64 (solV P Q).2.1, .int .i64 (solV P Q).2.2.1, .int .i64 (solV P Q).2.2.2], .bool (fstN P Q).isSome]) ∧ Ext w w' := by
  have HS := fun w => Lib.hid (isSmallNorm_any P Q w)
  cases h : smallN P Q
  · rw [h] at HS
    obtain ⟨e1, e2⟩ := sol_no h
    rw [e1, e2]
    go_enter Try.func38, Try.ntmps38
    go_wp2_with fail
    refine (HS _).out.mono ?_
    rintro e w1 ⟨rfl, hx1⟩
    obtain ⟨hc1, hf1⟩ := hx1.cells
    have hz1 := hx1.size
    try simp at hz1
    have hs1_0 := sz4 (a := w.heap.size) (b := w1.heap.size) (by omega)
    go_wp2
    refine bodyPost_ret (v := .tuple #[.agg #[.int .i64 0, .int .i64 0, .int .i64 0, .int .i64 0], .bool false]) (by simp [results, Try.results38, go_sem, *]) rfl ⟨rfl, ?_⟩
    exact (by repeat (first | (with_reducible refine Ext.setCell ?_ (by first | (simp; done) | (simp; omega)) _) | with_reducible refine Ext.alloc ?_ _ | with_reducible refine Ext.drew ?_ | with_reducible refine Ext.drewN ?_ _ | with_reducible assumption | with_reducible exact Ext.refl _ | with_reducible refine Ext.trans ?_ (by with_reducible assumption)))
  · rw [h] at HS
    have h' := h
    unfold smallN at h'
    rw [Bool.and_eq_true] at h'
    have hQ := (R2_bd h'.1).2
    have hP := Wn_iff.1 h'.2
    have HN := fun w0 w Bo Bf hw h1 h2 h3 h4 h5 => Lib.hid (norms_solve P Q hP hQ w0 w Bo Bf hw h1 h2 h3 h4 h5)
    have HN1 := Lib.hid (fun h2 => sol_nil h h2)
    have HN2 : Hid (∀ x l, nL P Q = x :: l → solV P Q = x ∧ (fstN P Q).isSome = true) := fun x l h2 => sol_cons h h2
    clear h' h
    go_enter Try.func38, Try.ntmps38
    go_wp2_with fail
    refine (HS _).out.mono ?_
    rintro e w1 ⟨rfl, hx1⟩
    obtain ⟨hc1, hf1⟩ := hx1.cells
    have hz1 := hx1.size
    try simp at hz1
    have hs1_0 := sz4 (a := w.heap.size) (b := w1.heap.size) (by omega)
    go_wp2_with fail
    have XW : Ext w ((w.alloc (.cells #[.int .i64 P, .int .i64 Q] 53)).alloc (.cells #[.int .i64 0, .int .i64 0, .int .i64 0, .int .i64 0] 33)) := ((Ext.refl w).alloc _).alloc _
    have hBo := (hx1.heap (k := w.heap.size + 1 + 1) (by simp)).trans ((((Ext.refl _).alloc _).heap (by simp)).trans (heap_alloc_at _ _ _ (by simp)))
    have hBf := (hx1.heap (k := w.heap.size + 1 + 1 + 1) (by simp)).trans (heap_alloc_at _ _ _ (by simp))
    refine (HN ((w.alloc (.cells #[.int .i64 P, .int .i64 Q] 53)).alloc (.cells #[.int .i64 0, .int .i64 0, .int .i64 0, .int .i64 0] 33)) _ (w.heap.size + 1 + 1) (w.heap.size + 1 + 1 + 1) ((((Ext.refl _).alloc _).alloc _).trans hx1) (by simp) (by simp) (by omega) hBo hBf).out.mono ?_
    rintro e w2 ⟨rfl, hx2, hc2⟩
    have hR := (hx2.heap (k := w.heap.size + 1) (by simp)).trans (heap_alloc_at _ _ _ (by simp))
    have zR : ∀ k, w2.cell? ⟨w.heap.size + 1, k, none⟩ = (#[.int .i64 0, .int .i64 0, .int .i64 0, .int .i64 0] : Array Value)[k]? := fun k => cell_of_row _ _ _ _ _ _ hR
    have zRf : ∀ k, w2.frozen? ⟨w.heap.size + 1, k, none⟩ = false := fun k => frozen_of_row _ _ _ _ _ hR
    have hx3 := XW.trans hx2
    rcases hc2 with ⟨hn, hx4⟩ | ⟨x, l, hn, h6, h7⟩
    · obtain ⟨e1, e2⟩ := HN1.out hn
      have E1 := Lib.hid e1
      have E2 := Lib.hid e2
      clear e1 e2
      have hB2 := (hx4.heap (Array.getElem?_eq_some_iff.1 hBo).1).trans hBo
      have hF2 := (hx4.heap (Array.getElem?_eq_some_iff.1 hBf).1).trans hBf
      have zO : ∀ k, w2.cell? ⟨w.heap.size + 1 + 1, k, none⟩ = (#[.int .i64 0, .int .i64 0, .int .i64 0, .int .i64 0] : Array Value)[k]? := fun k => cell_of_row _ _ _ _ _ _ hB2
      have zF : ∀ k, w2.cell? ⟨w.heap.size + 1 + 1 + 1, k, none⟩ = (#[.bool false] : Array Value)[k]? := fun k => cell_of_row _ _ _ _ _ _ hF2
      clear hx1 hx2 hx4 hc1 hf1 hB2 hF2 hR hBo hBf
      go_wp2
      go_region
      all_goals
        go_wp2
        refine bodyPost_ret (v := .tuple #[.agg #[.int .i64 0, .int .i64 0, .int .i64 0, .int .i64 0], .bool false]) (by simp [results, Try.results38, go_sem, *]) rfl ?_
        exact ⟨by rw [E1.out, E2.out], (by repeat (first | (with_reducible refine Ext.setCell ?_ (by first | (simp; done) | (simp; omega)) _) | with_reducible refine Ext.alloc ?_ _ | with_reducible refine Ext.drew ?_ | with_reducible refine Ext.drewN ?_ _ | with_reducible assumption | with_reducible exact Ext.refl _ | with_reducible refine Ext.trans ?_ (by with_reducible assumption)))⟩
    · obtain ⟨e1, e2⟩ := HN2.out x l hn
      have E1 := Lib.hid e1
      have E2 := Lib.hid e2
      clear e1 e2
      have zO : ∀ k, w2.cell? ⟨w.heap.size + 1 + 1, k, none⟩ = (#[.int .i64 x.1, .int .i64 x.2.1, .int .i64 x.2.2.1, .int .i64 x.2.2.2] : Array Value)[k]? := fun k => cell_of_row _ _ _ _ _ _ h6
      have zF : ∀ k, w2.cell? ⟨w.heap.size + 1 + 1 + 1, k, none⟩ = (#[.bool true] : Array Value)[k]? := fun k => cell_of_row _ _ _ _ _ _ h7
      clear hx1 hx2 hc1 hf1 h6 h7 hR hBo hBf
      go_wp2
      go_region
      all_goals
        go_wp2
        refine bodyPost_ret (v := .tuple #[.agg #[.int .i64 x.1, .int .i64 x.2.1, .int .i64 x.2.2.1, .int .i64 x.2.2.2], .bool true]) (by simp [results, Try.results38, go_sem, *]) rfl ?_
        exact ⟨by rw [E1.out, E2.out], (by repeat (first | (with_reducible refine Ext.setCell ?_ (by first | (simp; done) | (simp; omega)) _) | with_reducible refine Ext.alloc ?_ _ | with_reducible refine Ext.drew ?_ | with_reducible refine Ext.drewN ?_ _ | with_reducible assumption | with_reducible exact Ext.refl _ | with_reducible refine Ext.trans ?_ (by with_reducible assumption)))⟩

end Go.Proofs.Ytbffcpnpdpgfeaa
