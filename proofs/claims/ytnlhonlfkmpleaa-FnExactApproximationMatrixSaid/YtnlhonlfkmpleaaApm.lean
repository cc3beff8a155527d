/- ApproximationMatrix: the program's side where the approximation is valid. -/
import Derived.Test.YtnlhonlfkmpleaaMat
import Derived.Test.YtnlhonlfkmpleaaMin
import Derived.Test.YtnlhonlfkmpleaaDyI
import Derived.Test.YtnlhonlfkmpleaaApprox
import Derived.Deep.RegionWith
namespace Go.Proofs.Ytnlhonlfkmpleaa
open Go.RowKit Go.Lib
set_option linter.unusedVariables false
set_option linter.unusedSimpArgs false

/-- the cells of the matrix -/
def amC (X : R4) (e : Int) (Y : R4) (j : Int) : List Int := [X.a, X.b, X.c, X.d, e, Y.conj.neg.a, Y.conj.neg.b, Y.conj.neg.c, Y.conj.neg.d, j, Y.a, Y.b, Y.c, Y.d, j, X.conj.a, X.conj.b, X.conj.c, X.conj.d, e]

set_option maxRecDepth 20000 in
set_option maxHeartbeats 2000000 in
theorem approximationMatrix_any (U V : R4) (k : Nat) (hk : k ≤ 8) (hU : U.rg = true) (hV : V.rg = true) (hA : Apx U.a U.b U.c U.d V.a V.b V.c V.d k = true) (w : World) :
    Calls Try.prog 32 #[.agg #[.int .i64 U.a, .int .i64 U.b, .int .i64 U.c, .int .i64 U.d, .int .i64 V.a, .int .i64 V.b, .int .i64 V.c, .int .i64 V.d, .int .i64 k]] w fun en w' =>
      ∃ v, en = .returned (.tuple #[.agg #[.int .i64 2, .int .i64 2, v], .bool true]) ∧ w'.ownsRow w.heap.size 34 5 v 4 (IL (amC (lowX k U) (lowE k U) (lowX k V) (lowE k V))) ∧ Ext w w' := by
  have H0 := fun w' => Lib.hid (isValidApproximation_any U.a U.b U.c U.d V.a V.b V.c V.d k w')
  rw [hA] at H0
  have H1 := fun w' => Lib.hid (dyadicOf_any k (by omega) U hU w')
  have H2 := fun w' => Lib.hid (dyadicOf_any k (by omega) V hV w')
  have g1 : GD (lowX k U) (lowE k U) = true := low_gd (by omega) hU
  have g2 : GD (lowX k V) (lowE k V) = true := low_gd (by omega) hV
  generalize lowX k U = X at *
  generalize lowE k U = e at *
  generalize lowX k V = Y at *
  generalize lowE k V = j at *
  have H3 := fun w' => Lib.hid (conjDyadic_any X e w')
  have H4 := fun w' => Lib.hid (conjDyadic_any Y j w')
  rw [g1] at H3
  rw [g2] at H4
  simp only [ifZ_true] at H3 H4
  have H5 := fun w' => Lib.hid (mulDyadic_any Y.conj j ⟨-1, 0, 0, 0⟩ 0 w')
  obtain ⟨m1, m2, m3⟩ := mu_minus (conj_valid g2)
  rw [m1, m2, m3] at H5
  clear m1 m2 m3 g1 g2 hA hU hV
  go_enter Try.func32, Try.ntmps32
  go_wp2_with fail
  refine ((H0 _).out).mono ?_
  rintro e w1 ⟨rfl, hx1⟩
  obtain ⟨hc1, hf1⟩ := hx1.cells
  have hz1 := hx1.size
  try simp at hz1
  have hs1_0 := sz2 (a := w.heap.size) (b := w1.heap.size) (by omega)
  go_wp2_with fail
  refine ((H1 _).out).mono ?_
  rintro e w2 ⟨rfl, hx2⟩
  obtain ⟨hc2, hf2⟩ := hx2.cells
  have hz2 := hx2.size
  try simp at hz2
  have hs2_0 := sz2 (a := w.heap.size) (b := w2.heap.size) (by omega)
  go_wp2_with fail
  refine ((H2 _).out).mono ?_
  rintro e w3 ⟨rfl, hx3⟩
  obtain ⟨hc3, hf3⟩ := hx3.cells
  have hz3 := hx3.size
  try simp at hz3
  have hs3_0 := sz2 (a := w.heap.size) (b := w3.heap.size) (by omega)
  have hs3_1 := sz1 (a := w2.heap.size) (b := w3.heap.size) (by omega)
  go_wp2_with fail
  refine ((H3 _).out).mono ?_
  rintro e w4 ⟨rfl, hx4⟩
  obtain ⟨hc4, hf4⟩ := hx4.cells
  have hz4 := hx4.size
  try simp at hz4
  have hs4_0 := sz2 (a := w.heap.size) (b := w4.heap.size) (by omega)
  have hs4_1 := sz1 (a := w2.heap.size) (b := w4.heap.size) (by omega)
  have hs4_2 := sz1 (a := w3.heap.size) (b := w4.heap.size) (by omega)
  go_wp2_with fail
  refine ((H4 _).out).mono ?_
  rintro e w5 ⟨rfl, hx5⟩
  obtain ⟨hc5, hf5⟩ := hx5.cells
  have hz5 := hx5.size
  try simp at hz5
  have hs5_0 := sz2 (a := w.heap.size) (b := w5.heap.size) (by omega)
  have hs5_1 := sz1 (a := w2.heap.size) (b := w5.heap.size) (by omega)
  have hs5_2 := sz1 (a := w3.heap.size) (b := w5.heap.size) (by omega)
  have hs5_3 := sz1 (a := w4.heap.size) (b := w5.heap.size) (by omega)
  go_wp2
  refine wp_region_madeC (m := 56) (by kernel_rfl) (by kernel_rfl) rfl (fun hxc => ?_)
  repeat (refine mw_quiet ?_; apply Exists.intro; refine ⟨fun σ => ?_, ?_⟩; (first | (go_simp; rfl) | (go_simp; intro x; first | (go_at_call 74; with_reducible exact whole_any _ _) | (go_at_call 27; with_reducible exact (H5 _).out) | (go_at_call 74; exact whole_any _ _) | (go_at_call 27; exact (H5 _).out))); simp only [Act.put, List.setIfInBounds_toArray, List.set_cons_succ, List.set_cons_zero, List.nil_append, List.cons_append])
  refine mw_maker (fun n => .pointer (some ⟨n, 0, none⟩)) 34 #[.int .i64 0, .int .i64 0, .int .i64 0, .int .i64 0, .int .i64 0] 7 #[.int .i64 Y.conj.neg.a, .int .i64 Y.conj.neg.b, .int .i64 Y.conj.neg.c, .int .i64 Y.conj.neg.d, .int .i64 j] rfl (fun σ x => ?_) ?_
  · go_simp
  simp only [Act.put, List.setIfInBounds_toArray, List.set_cons_succ, List.set_cons_zero, List.nil_append, List.cons_append, List.length_cons, List.length_nil, Nat.reduceAdd]
  repeat (refine mw_quiet ?_; apply Exists.intro; refine ⟨fun σ => ?_, ?_⟩; (first | (go_simp; rfl) | (go_simp; intro x; first | (go_at_call 74; with_reducible exact whole_any _ _) | (go_at_call 27; with_reducible exact (H5 _).out) | (go_at_call 74; exact whole_any _ _) | (go_at_call 27; exact (H5 _).out))); simp only [Act.put, List.setIfInBounds_toArray, List.set_cons_succ, List.set_cons_zero, List.nil_append, List.cons_append])
  refine mw_store 6 rfl rfl (fun σ x hb hc => ?_) ?_
  · have hcell : ∀ k, x.w.cell? ⟨σ 6, k, none⟩ = (#[.int .i64 0, .int .i64 0, .int .i64 0, .int .i64 0, .int .i64 0] : Array Value)[k]? := fun k => cell_of_row _ _ _ _ _ _ hc
    have hfr : ∀ k, x.w.frozen? ⟨σ 6, k, none⟩ = false := fun k => frozen_of_row _ _ _ _ _ hc
    apply Exists.intro
    refine ⟨?_, ?_⟩
    · go_simp
      rfl
    · exact (((((Fill.start hc).set 0 _).set 1 _).set 2 _).set 3 _).set 4 _
  simp only [Act.put, List.nil_append, List.cons_append]
  repeat (refine mw_quiet ?_; apply Exists.intro; refine ⟨fun σ => ?_, ?_⟩; (first | (go_simp; rfl) | (go_simp; intro x; first | (go_at_call 74; with_reducible exact whole_any _ _) | (go_at_call 27; with_reducible exact (H5 _).out) | (go_at_call 74; exact whole_any _ _) | (go_at_call 27; exact (H5 _).out))); simp only [Act.put, List.setIfInBounds_toArray, List.set_cons_succ, List.set_cons_zero, List.nil_append, List.cons_append])
  refine ⟨by kernel_rfl, fun σ w6 hF6 => ?_⟩
  have hx6 := hF6.ext
  obtain ⟨hm6_6, hl6_6, hq6_6, hr6_6⟩ := mfin_blk hF6 6 7 rfl (by decide) #[.int .i64 Y.conj.neg.a, .int .i64 Y.conj.neg.b, .int .i64 Y.conj.neg.c, .int .i64 Y.conj.neg.d, .int .i64 j] rfl
  dsimp only
  generalize σ 6 = B6_6 at *
  clear hF6 hxc
  obtain ⟨hc6, hf6⟩ := hx6.cells
  have hz6 := hx6.size
  try simp at hz6
  have hs6_0 := sz2 (a := w.heap.size) (b := w6.heap.size) (by omega)
  have hs6_1 := sz1 (a := w2.heap.size) (b := w6.heap.size) (by omega)
  have hs6_2 := sz1 (a := w3.heap.size) (b := w6.heap.size) (by omega)
  have hs6_3 := sz1 (a := w4.heap.size) (b := w6.heap.size) (by omega)
  go_wp2
  have hle : w.heap.size ≤ w6.heap.size := by first | omega | (simp at *; omega)
  refine bodyPost_ret (v := .tuple #[.agg #[.int .i64 2, .int .i64 2, .slice (some ⟨w6.heap.size, 0, none⟩) 4 4], .bool true]) (by simp [results, Try.results32, go_sem, *]) rfl ?_
  exact ⟨_, rfl, own_base (own_lit2 (N := w6.heap.size) (by simp) (by decide) (by rfl) (by rfl)) hle, (by repeat (first | (with_reducible refine Ext.setCell ?_ (by first | (simp; done) | (simp; omega)) _) | with_reducible refine Ext.alloc ?_ _ | with_reducible refine Ext.drew ?_ | with_reducible refine Ext.drewN ?_ _ | with_reducible assumption | with_reducible exact Ext.refl _ | with_reducible refine Ext.trans ?_ (by with_reducible assumption)))⟩

end Go.Proofs.Ytnlhonlfkmpleaa
