/- ApproximateRotation: the reference, the law. -/
import Derived.Test.YtbffcpnpdpgfeaaApS
import Derived.Test.YtbffcpnpdpgfeaaSlRing
namespace Go.Proofs.Ytbffcpnpdpgfeaa
open Go.RowKit Go.Lib
set_option linter.unusedVariables false
set_option linter.unusedSimpArgs false

theorem apV_no {x y n num den : Int} (h : Tg x y n = false ∨ Bnd num den = false) : apV x y n num den 9 0 = none := by
  refine apV_bad ?_
  unfold cdOk cdV
  rcases h with h | h <;> rw [h] <;> simp

set_option maxRecDepth 20000 in
set_option maxHeartbeats 4000000 in
theorem s_approximateRotation_any (x y n num den : Int) (w : World) :
    Calls Try.prog 12 #[.agg #[.int .i64 x, .int .i64 y, .int .i64 n], .int .i64 num, .int .i64 den] w fun e w' => e = .returned (.tuple #[.agg #[.int .i64 (apA x y n (apV x y n num den 9 0) 0), .int .i64 (apA x y n (apV x y n num den 9 0) 1), .int .i64 (apA x y n (apV x y n num den 9 0) 2), .int .i64 (apA x y n (apV x y n num den 9 0) 3), .int .i64 (apA x y n (apV x y n num den 9 0) 4), .int .i64 (apA x y n (apV x y n num den 9 0) 5), .int .i64 (apA x y n (apV x y n num den 9 0) 6), .int .i64 (apA x y n (apV x y n num den 9 0) 7), .int .i64 (apA x y n (apV x y n num den 9 0) 8)], .bool (apV x y n num den 9 0).isSome]) ∧ Ext w w' := by
  have HT := fun w' => Lib.hid (l27Target_any x y n w')
  have HN := fun w' => Lib.hid (l27Bound_any num den w')
  cases h1 : Tg x y n
  · rw [h1] at HT
    rw [apV_no (.inl h1)]
    simp only [apA]
    go_enter Try.func12, Try.ntmps12
    go_wp2_with fail
    refine ((HT _).out).mono ?_
    rintro e w1 ⟨rfl, hx1⟩
    obtain ⟨hc1, hf1⟩ := hx1.cells
    have hz1 := hx1.size
    try simp at hz1
    have hs1_0 := sz2 (a := w.heap.size) (b := w1.heap.size) (by omega)
    go_wp2
    refine bodyPost_ret (v := .tuple #[.agg #[.int .i64 0, .int .i64 0, .int .i64 0, .int .i64 0, .int .i64 0, .int .i64 0, .int .i64 0, .int .i64 0, .int .i64 0], .bool false]) (by simp [results, Try.results12, go_sem, *]) rfl ?_
    exact ⟨rfl, (by repeat (first | (with_reducible refine Ext.setCell ?_ (by first | (simp; done) | (simp; omega)) _) | with_reducible refine Ext.alloc ?_ _ | with_reducible refine Ext.drew ?_ | with_reducible refine Ext.drewN ?_ _ | with_reducible assumption | with_reducible exact Ext.refl _ | with_reducible refine Ext.trans ?_ (by with_reducible assumption)))⟩
  cases h2 : Bnd num den
  · rw [h1] at HT
    rw [h2] at HN
    rw [apV_no (.inr h2)]
    simp only [apA]
    go_enter Try.func12, Try.ntmps12
    go_wp2_with fail
    refine ((HT _).out).mono ?_
    rintro e w1 ⟨rfl, hx1⟩
    obtain ⟨hc1, hf1⟩ := hx1.cells
    have hz1 := hx1.size
    try simp at hz1
    have hs1_0 := sz2 (a := w.heap.size) (b := w1.heap.size) (by omega)
    go_wp2_with fail
    refine ((HN _).out).mono ?_
    rintro e w2 ⟨rfl, hx2⟩
    obtain ⟨hc2, hf2⟩ := hx2.cells
    have hz2 := hx2.size
    try simp at hz2
    have hs2_0 := sz2 (a := w.heap.size) (b := w2.heap.size) (by omega)
    go_wp2
    refine bodyPost_ret (v := .tuple #[.agg #[.int .i64 0, .int .i64 0, .int .i64 0, .int .i64 0, .int .i64 0, .int .i64 0, .int .i64 0, .int .i64 0, .int .i64 0], .bool false]) (by simp [results, Try.results12, go_sem, *]) rfl ?_
    exact ⟨rfl, (by repeat (first | (with_reducible refine Ext.setCell ?_ (by first | (simp; done) | (simp; omega)) _) | with_reducible refine Ext.alloc ?_ _ | with_reducible refine Ext.drew ?_ | with_reducible refine Ext.drewN ?_ _ | with_reducible assumption | with_reducible exact Ext.refl _ | with_reducible refine Ext.trans ?_ (by with_reducible assumption)))⟩
  have HA := fun w' => Lib.hid (l27Approximate_any x y n num den h1 h2 w')
  rw [h1] at HT
  rw [h2] at HN
  generalize apA x y n (apV x y n num den 9 0) 0 = a0 at *
  generalize apA x y n (apV x y n num den 9 0) 1 = a1 at *
  generalize apA x y n (apV x y n num den 9 0) 2 = a2 at *
  generalize apA x y n (apV x y n num den 9 0) 3 = a3 at *
  generalize apA x y n (apV x y n num den 9 0) 4 = a4 at *
  generalize apA x y n (apV x y n num den 9 0) 5 = a5 at *
  generalize apA x y n (apV x y n num den 9 0) 6 = a6 at *
  generalize apA x y n (apV x y n num den 9 0) 7 = a7 at *
  generalize apA x y n (apV x y n num den 9 0) 8 = a8 at *
  generalize (apV x y n num den 9 0).isSome = ok at *
  clear h1 h2
  go_enter Try.func12, Try.ntmps12
  go_wp2_with fail
  refine ((HT _).out).mono ?_
  rintro e w1 ⟨rfl, hx1⟩
  obtain ⟨hc1, hf1⟩ := hx1.cells
  have hz1 := hx1.size
  try simp at hz1
  have hs1_0 := sz2 (a := w.heap.size) (b := w1.heap.size) (by omega)
  go_wp2_with fail
  refine ((HN _).out).mono ?_
  rintro e w2 ⟨rfl, hx2⟩
  obtain ⟨hc2, hf2⟩ := hx2.cells
  have hz2 := hx2.size
  try simp at hz2
  have hs2_0 := sz2 (a := w.heap.size) (b := w2.heap.size) (by omega)
  go_wp2_with fail
  refine ((HA _).out).mono ?_
  rintro e w3 ⟨rfl, hx3⟩
  obtain ⟨hc3, hf3⟩ := hx3.cells
  have hz3 := hx3.size
  try simp at hz3
  have hs3_0 := sz2 (a := w.heap.size) (b := w3.heap.size) (by omega)
  go_wp2
  refine bodyPost_ret (v := .tuple #[.agg #[.int .i64 a0, .int .i64 a1, .int .i64 a2, .int .i64 a3, .int .i64 a4, .int .i64 a5, .int .i64 a6, .int .i64 a7, .int .i64 a8], .bool ok]) (by simp [results, Try.results12, go_sem, *]) rfl ?_
  exact ⟨rfl, (by repeat (first | (with_reducible refine Ext.setCell ?_ (by first | (simp; done) | (simp; omega)) _) | with_reducible refine Ext.alloc ?_ _ | with_reducible refine Ext.drew ?_ | with_reducible refine Ext.drewN ?_ _ | with_reducible assumption | with_reducible exact Ext.refl _ | with_reducible refine Ext.trans ?_ (by with_reducible assumption)))⟩

set_option maxHeartbeats 1000000 in
theorem eqApproximation_same (a0 a1 a2 a3 a4 a5 a6 a7 a8 : Int) (w : World) :
    Calls Try.prog 14 #[.agg #[.int .i64 a0, .int .i64 a1, .int .i64 a2, .int .i64 a3, .int .i64 a4, .int .i64 a5, .int .i64 a6, .int .i64 a7, .int .i64 a8], .agg #[.int .i64 a0, .int .i64 a1, .int .i64 a2, .int .i64 a3, .int .i64 a4, .int .i64 a5, .int .i64 a6, .int .i64 a7, .int .i64 a8]] w fun e w' => e = .returned (.bool true) ∧ Ext w w' := by
  go_enter Try.func14, Try.ntmps14
  go_wp2_with fail
  refine (eqRing_same _ _ _ _ _).mono ?_
  rintro e w1 ⟨rfl, hx1⟩
  obtain ⟨hc1, hf1⟩ := hx1.cells
  have hz1 := hx1.size
  try simp at hz1
  have hs1_0 := sz2 (a := w.heap.size) (b := w1.heap.size) (by omega)
  go_wp2_with fail
  refine (eqRing_same _ _ _ _ _).mono ?_
  rintro e w2 ⟨rfl, hx2⟩
  obtain ⟨hc2, hf2⟩ := hx2.cells
  have hz2 := hx2.size
  try simp at hz2
  have hs2_0 := sz2 (a := w.heap.size) (b := w2.heap.size) (by omega)
  go_wp2
  go_ret
  exact ⟨rfl, (by repeat (first | exact Ext.refl _ | assumption | refine Ext.alloc ?_ _ | refine Ext.drew ?_ | refine Ext.drewN ?_ _ | refine Ext.setCell ?_ (by first | omega | (dsimp only; omega) | (simp; done) | (simp; omega)) _ | refine Ext.trans ?_ (by assumption)))⟩

set_option maxHeartbeats 2000000 in
theorem law_ApproximateRotation (x y n num den : Int) (w : World) :
    Calls Try.prog 4 #[.agg #[.int .i64 x, .int .i64 y, .int .i64 n], .int .i64 num, .int .i64 den] w fun e w' => e = .returned (.bool true) ∧ Ext w w' := by
  have HS := fun w' => Lib.hid (s_approximateRotation_any x y n num den w')
  have HI := fun w' => Lib.hid (approximateRotation_any x y n num den w')
  generalize apA x y n (apV x y n num den 9 0) 0 = a0 at *
  generalize apA x y n (apV x y n num den 9 0) 1 = a1 at *
  generalize apA x y n (apV x y n num den 9 0) 2 = a2 at *
  generalize apA x y n (apV x y n num den 9 0) 3 = a3 at *
  generalize apA x y n (apV x y n num den 9 0) 4 = a4 at *
  generalize apA x y n (apV x y n num den 9 0) 5 = a5 at *
  generalize apA x y n (apV x y n num den 9 0) 6 = a6 at *
  generalize apA x y n (apV x y n num den 9 0) 7 = a7 at *
  generalize apA x y n (apV x y n num den 9 0) 8 = a8 at *
  generalize (apV x y n num den 9 0).isSome = ok at *
  cases ok
  all_goals
    go_enter Try.func4, Try.ntmps4
    go_wp2_with fail
    refine (toTarget_any _ _ _ _).mono ?_
    rintro e w1 ⟨rfl, hx1⟩
    obtain ⟨hc1, hf1⟩ := hx1.cells
    have hz1 := hx1.size
    try simp at hz1
    have hs1_0 := sz1 (a := w.heap.size) (b := w1.heap.size) (by omega)
    go_wp2_with fail
    refine ((HS _).out).mono ?_
    rintro e w2 ⟨rfl, hx2⟩
    obtain ⟨hc2, hf2⟩ := hx2.cells
    have hz2 := hx2.size
    try simp at hz2
    have hs2_0 := sz1 (a := w.heap.size) (b := w2.heap.size) (by omega)
    go_wp2_with fail
    refine (toTarget_any _ _ _ _).mono ?_
    rintro e w3 ⟨rfl, hx3⟩
    obtain ⟨hc3, hf3⟩ := hx3.cells
    have hz3 := hx3.size
    try simp at hz3
    have hs3_0 := sz1 (a := w.heap.size) (b := w3.heap.size) (by omega)
    have hs3_1 := sz1 (a := w2.heap.size) (b := w3.heap.size) (by omega)
    go_wp2_with fail
    refine ((HI _).out).mono ?_
    rintro e w4 ⟨rfl, hx4⟩
    obtain ⟨hc4, hf4⟩ := hx4.cells
    have hz4 := hx4.size
    try simp at hz4
    have hs4_0 := sz1 (a := w.heap.size) (b := w4.heap.size) (by omega)
    have hs4_1 := sz1 (a := w2.heap.size) (b := w4.heap.size) (by omega)
    go_wp2_with fail
    refine (eqApproximation_same _ _ _ _ _ _ _ _ _ _).mono ?_
    rintro e w5 ⟨rfl, hx5⟩
    obtain ⟨hc5, hf5⟩ := hx5.cells
    have hz5 := hx5.size
    try simp at hz5
    have hs5_0 := sz1 (a := w.heap.size) (b := w5.heap.size) (by omega)
    have hs5_1 := sz1 (a := w2.heap.size) (b := w5.heap.size) (by omega)
    have hs5_2 := sz1 (a := w4.heap.size) (b := w5.heap.size) (by omega)
    go_wp2
    go_ret
    exact ⟨rfl, (by repeat (first | exact Ext.refl _ | assumption | refine Ext.alloc ?_ _ | refine Ext.drew ?_ | refine Ext.drewN ?_ _ | refine Ext.setCell ?_ (by first | omega | (dsimp only; omega) | (simp; done) | (simp; omega)) _ | refine Ext.trans ?_ (by assumption)))⟩

end Go.Proofs.Ytbffcpnpdpgfeaa
