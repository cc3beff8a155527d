/- SolveNorm: the reference's side, and the law. -/
import Derived.Test.YtkjamaacapaokaaNormE
import Derived.Test.YtkjamaacapaokaaNormsF
import Derived.Test.YtkjamaacapaokaaSlRing
namespace Go.Proofs.Ytkjamaacapaokaa
open Go.RowKit
set_option linter.unusedVariables false
set_option linter.unusedSimpArgs false

set_option maxRecDepth 20000 in
set_option maxHeartbeats 1000000 in
theorem s_solveNorm_any (P Q : Int) (w : World) :
    Calls Try.prog 38 #[.agg #[.int .i64 P, .int .i64 Q]] w fun e w' => e = .returned (.tuple #[.agg #[.int .i64 (solV P Q).1, .int .i64 (solV P Q).2.1, .int .i64 (solV P Q).2.2.1, .int .i64 (solV P Q).2.2.2], .bool (fstN P Q).isSome]) ∧ Ext w w' := by
  have HS := fun w => Lib.hid (l26Small_any P Q w)
  cases h : smallN P Q
  · rw [h] at HS
    obtain ⟨e1, e2⟩ := sol_no h
    rw [e1, e2]
    go_enter Try.func38, Try.ntmps38
    go_wp2_with fail
    refine (HS _).out.mono ?_
    rintro e w1 ⟨rfl, hx1⟩
    obtain ⟨hc1, hf1⟩ := hx1.cells
    have hz1 := hx1.size
    try simp at hz1
    have hs1_0 := sz2 (a := w.heap.size) (b := w1.heap.size) (by omega)
    go_wp2
    refine bodyPost_ret (v := .tuple #[.agg #[.int .i64 0, .int .i64 0, .int .i64 0, .int .i64 0], .bool false]) (by simp [results, Try.results38, go_sem, *]) rfl ⟨rfl, ?_⟩
    exact (by repeat (first | (with_reducible refine Ext.setCell ?_ (by first | (simp; done) | (simp; omega)) _) | with_reducible refine Ext.alloc ?_ _ | with_reducible refine Ext.drew ?_ | with_reducible refine Ext.drewN ?_ _ | with_reducible assumption | with_reducible exact Ext.refl _ | with_reducible refine Ext.trans ?_ (by with_reducible assumption)))
  rw [h] at HS
  have h' := h
  unfold smallN at h'
  rw [Bool.and_eq_true] at h'
  have hQ := (R2_bd h'.1).2
  have hP := Wn_iff.1 h'.2
  have HN := fun w => Lib.hid (l26All_first P Q hP hQ w)
  cases hn : nL P Q with
  | nil =>
    obtain ⟨e1, e2⟩ := sol_nil h hn
    rw [e1, e2]
    rw [hn] at HN
    simp only [List.take_nil, List.length_nil] at HN
    clear h h'
    go_enter Try.func38, Try.ntmps38
    go_wp2_with fail
    refine (HS _).out.mono ?_
    rintro e w1 ⟨rfl, hx1⟩
    obtain ⟨hc1, hf1⟩ := hx1.cells
    have hz1 := hx1.size
    try simp at hz1
    have hs1_0 := sz2 (a := w.heap.size) (b := w1.heap.size) (by omega)
    go_wp2_with fail
    refine (HN _).out.mono ?_
    rintro e w2 ⟨v, rfl, o2, hx2⟩
    obtain ⟨hc2, hf2⟩ := hx2.cells
    have hz2 := hx2.size
    try simp at hz2
    have hs2_0 := sz2 (a := w.heap.size) (b := w2.heap.size) (by omega)
    obtain ⟨a, cap, rfl, _, _, _⟩ := own_shape o2
    clear o2
    go_wp2
    refine bodyPost_ret (v := .tuple #[.agg #[.int .i64 0, .int .i64 0, .int .i64 0, .int .i64 0], .bool false]) (by simp [results, Try.results38, go_sem, *]) rfl ⟨rfl, ?_⟩
    exact (by repeat (first | (with_reducible refine Ext.setCell ?_ (by first | (simp; done) | (simp; omega)) _) | with_reducible refine Ext.alloc ?_ _ | with_reducible refine Ext.drew ?_ | with_reducible refine Ext.drewN ?_ _ | with_reducible assumption | with_reducible exact Ext.refl _ | with_reducible refine Ext.trans ?_ (by with_reducible assumption)))
  | cons x l =>
    obtain ⟨e1, e2⟩ := sol_cons h hn
    rw [e1, e2]
    rw [hn] at HN
    simp only [List.take_succ_cons, List.take_zero, List.length_cons, List.length_nil, Nat.zero_add] at HN
    clear h h'
    go_enter Try.func38, Try.ntmps38
    go_wp2_with fail
    refine (HS _).out.mono ?_
    rintro e w1 ⟨rfl, hx1⟩
    obtain ⟨hc1, hf1⟩ := hx1.cells
    have hz1 := hx1.size
    try simp at hz1
    have hs1_0 := sz2 (a := w.heap.size) (b := w1.heap.size) (by omega)
    go_wp2_with fail
    refine (HN _).out.mono ?_
    rintro e w2 ⟨v, rfl, o2, hx2⟩
    obtain ⟨hc2, hf2⟩ := hx2.cells
    have hz2 := hx2.size
    try simp at hz2
    have hs2_0 := sz2 (a := w.heap.size) (b := w2.heap.size) (by omega)
    obtain ⟨a, cap, rfl, _, _, p3⟩ := own_shape o2
    obtain ⟨g, rfl, _, y1, y2, _⟩ := p3 (by omega)
    have l0 := y2 0 (.int .i64 x.1) rfl
    have l1 := y2 1 (.int .i64 x.2.1) rfl
    have l2 := y2 2 (.int .i64 x.2.2.1) rfl
    have l3 := y2 3 (.int .i64 x.2.2.2) rfl
    clear o2 p3 y2
    go_wp2
    refine bodyPost_ret (v := .tuple #[.agg #[.int .i64 x.1, .int .i64 x.2.1, .int .i64 x.2.2.1, .int .i64 x.2.2.2], .bool true]) (by simp [results, Try.results38, go_sem, *]) rfl ⟨rfl, ?_⟩
    exact (by repeat (first | (with_reducible refine Ext.setCell ?_ (by first | (simp; done) | (simp; omega)) _) | with_reducible refine Ext.alloc ?_ _ | with_reducible refine Ext.drew ?_ | with_reducible refine Ext.drewN ?_ _ | with_reducible assumption | with_reducible exact Ext.refl _ | with_reducible refine Ext.trans ?_ (by with_reducible assumption)))

set_option maxHeartbeats 1000000 in
theorem law_SolveNorm (p q : Int) (w : World) :
    Calls Try.prog 10 #[.agg #[.int .i64 p, .int .i64 q]] w fun e w' => e = .returned (.bool true) ∧ Ext w w' := by
  have HI := fun w => Lib.hid (solveNorm_any p q w)
  have HS := fun w => Lib.hid (s_solveNorm_any p q w)
  generalize (solV p q).1 = x1 at *
  generalize (solV p q).2.1 = x2 at *
  generalize (solV p q).2.2.1 = x3 at *
  generalize (solV p q).2.2.2 = x4 at *
  generalize (fstN p q).isSome = ok at *
  go_enter Try.func10, Try.ntmps10
  go_wp2_with fail
  refine (toRoot2_any _ _ _).mono ?_
  rintro e w1 ⟨rfl, hx1⟩
  obtain ⟨hc1, hf1⟩ := hx1.cells
  have hz1 := hx1.size
  try simp at hz1
  have hs1_0 := sz1 (a := w.heap.size) (b := w1.heap.size) (by omega)
  go_wp2_with fail
  refine ((HS _).out).mono ?_
  rintro e w2 ⟨rfl, hx2⟩
  obtain ⟨hc2, hf2⟩ := hx2.cells
  have hz2 := hx2.size
  try simp at hz2
  have hs2_0 := sz1 (a := w.heap.size) (b := w2.heap.size) (by omega)
  go_wp2_with fail
  refine (toRoot2_any _ _ _).mono ?_
  rintro e w3 ⟨rfl, hx3⟩
  obtain ⟨hc3, hf3⟩ := hx3.cells
  have hz3 := hx3.size
  try simp at hz3
  have hs3_0 := sz1 (a := w.heap.size) (b := w3.heap.size) (by omega)
  have hs3_1 := sz1 (a := w2.heap.size) (b := w3.heap.size) (by omega)
  go_wp2_with fail
  refine ((HI _).out).mono ?_
  rintro e w4 ⟨rfl, hx4⟩
  obtain ⟨hc4, hf4⟩ := hx4.cells
  have hz4 := hx4.size
  try simp at hz4
  have hs4_0 := sz1 (a := w.heap.size) (b := w4.heap.size) (by omega)
  have hs4_1 := sz1 (a := w2.heap.size) (b := w4.heap.size) (by omega)
  go_wp2_with fail
  refine (eqRing_same _ _ _ _ _).mono ?_
  rintro e w5 ⟨rfl, hx5⟩
  obtain ⟨hc5, hf5⟩ := hx5.cells
  have hz5 := hx5.size
  try simp at hz5
  have hs5_0 := sz1 (a := w.heap.size) (b := w5.heap.size) (by omega)
  have hs5_1 := sz1 (a := w2.heap.size) (b := w5.heap.size) (by omega)
  have hs5_2 := sz1 (a := w4.heap.size) (b := w5.heap.size) (by omega)
  go_wp2
  go_ret
  exact ⟨rfl, (by repeat (first | exact Ext.refl _ | assumption | refine Ext.alloc ?_ _ | refine Ext.drew ?_ | refine Ext.drewN ?_ _ | refine Ext.setCell ?_ (by first | omega | (dsimp only; omega) | (simp; done) | (simp; omega)) _ | refine Ext.trans ?_ (by assumption)))⟩

end Go.Proofs.Ytkjamaacapaokaa
