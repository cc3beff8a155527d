/- SolveNorm: the reference's side, and the law. -/
import Derived.Test.YtbffcpnpdpgfeaaNormE
import Derived.Test.YtbffcpnpdpgfeaaNormsF
import Derived.Test.YtbffcpnpdpgfeaaSlRing
namespace Go.Proofs.Ytbffcpnpdpgfeaa
open Go.RowKit
set_option linter.unusedVariables false
set_option linter.unusedSimpArgs false

set_option maxRecDepth 20000 in
set_option maxHeartbeats 1000000 in
theorem s_solveNorm_any (P Q : Int) (w : World) :
    Calls Try.prog 56 #[.agg #[.int .i64 P, .int .i64 Q]] w fun e w' => e = .returned (.tuple #[.agg #[.int .i64 (solV P Q).1, .int .i64 (solV P Q).2.1, .int .i64 (solV P Q).2.2.1, .int .i64 (solV P Q).2.2.2], .bool (fstN P Q).isSome]) ∧ Ext w w' := by
  have HS := fun w => Lib.hid (l26Small_any P Q w)
  cases h : smallN P Q
  · rw [h] at HS
    obtain ⟨e1, e2⟩ := sol_no h
    rw [e1, e2]
    go_enter Try.func56, Try.ntmps56
    go_wp2_with fail
    refine (HS _).out.mono ?_
    rintro e w1 ⟨rfl, hx1⟩
    obtain ⟨hc1, hf1⟩ := hx1.cells
    have hz1 := hx1.size
    try simp at hz1
    have hs1_0 := sz2 (a := w.heap.size) (b := w1.heap.size) (by omega)
    go_wp2
    refine bodyPost_ret (v := .tuple #[.agg #[.int .i64 0, .int .i64 0, .int .i64 0, .int .i64 0], .bool false]) (by simp [results, Try.results56, go_sem, *]) rfl ⟨rfl, ?_⟩
    exact (by repeat (first | (with_reducible refine Ext.setCell ?_ (by first | (simp; done) | (simp; omega)) _) | with_reducible refine Ext.alloc ?_ _ | with_reducible refine Ext.drew ?_ | with_reducible refine Ext.drewN ?_ _ | with_reducible assumption | with_reducible exact Ext.refl _ | with_reducible refine Ext.trans ?_ (by with_reducible assumption)))
  rw [h] at HS
  have h' := h
  unfold smallN at h'
  rw [Bool.and_eq_true] at h'
  have hQ := (R2_bd h'.1).2
  have hP := Wn_iff.1 h'.2
  have HN := fun w => Lib.hid (l26All_first P Q hP hQ w)
  cases hn : nL P Q with
  | nil =>
    obtain ⟨e1, e2⟩ := sol_nil h hn
    rw [e1, e2]
    rw [hn] at HN
    simp only [List.take_nil, List.length_nil] at HN
    clear h h'
    go_enter Try.func56, Try.ntmps56
    go_wp2_with fail
    refine (HS _).out.mono ?_
    rintro e w1 ⟨rfl, hx1⟩
    obtain ⟨hc1, hf1⟩ := hx1.cells
    have hz1 := hx1.size
    try simp at hz1
    have hs1_0 := sz2 (a := w.heap.size) (b := w1.heap.size) (by omega)
    go_wp2_with fail
    refine (HN _).out.mono ?_
    rintro e w2 ⟨v, rfl, o2, hx2⟩
    obtain ⟨hc2, hf2⟩ := hx2.cells
    have hz2 := hx2.size
    try simp at hz2
    have hs2_0 := sz2 (a := w.heap.size) (b := w2.heap.size) (by omega)
    obtain ⟨a, cap, rfl, _, _, _⟩ := own_shape o2
    clear o2
    go_wp2
    refine bodyPost_ret (v := .tuple #[.agg #[.int .i64 0, .int .i64 0, .int .i64 0, .int .i64 0], .bool false]) (by simp [results, Try.results56, go_sem, *]) rfl ⟨rfl, ?_⟩
    exact (by repeat (first | (with_reducible refine Ext.setCell ?_ (by first | (simp; done) | (simp; omega)) _) | with_reducible refine Ext.alloc ?_ _ | with_reducible refine Ext.drew ?_ | with_reducible refine Ext.drewN ?_ _ | with_reducible assumption | with_reducible exact Ext.refl _ | with_reducible refine Ext.trans ?_ (by with_reducible assumption)))
  | cons x l =>
    obtain ⟨e1, e2⟩ := sol_cons h hn
    rw [e1, e2]
    rw [hn] at HN
    simp only [List.take_succ_cons, List.take_zero, List.length_cons, List.length_nil, Nat.zero_add] at HN
    clear h h'
    go_enter Try.func56, Try.ntmps56
    go_wp2_with fail
    refine (HS _).out.mono ?_
    rintro e w1 ⟨rfl, hx1⟩
    obtain ⟨hc1, hf1⟩ := hx1.cells
    have hz1 := hx1.size
    try simp at hz1
    have hs1_0 := sz2 (a := w.heap.size) (b := w1.heap.size) (by omega)
    go_wp2_with fail
    refine (HN _).out.mono ?_
    rintro e w2 ⟨v, rfl, o2, hx2⟩
    obtain ⟨hc2, hf2⟩ := hx2.cells
    have hz2 := hx2.size
    try simp at hz2
    have hs2_0 := sz2 (a := w.heap.size) (b := w2.heap.size) (by omega)
    obtain ⟨a, cap, rfl, _, _, p3⟩ := own_shape o2
    obtain ⟨g, rfl, _, y1, y2, _⟩ := p3 (by omega)
    have l0 := y2 0 (.int .i64 x.1) rfl
    have l1 := y2 1 (.int .i64 x.2.1) rfl
    have l2 := y2 2 (.int .i64 x.2.2.1) rfl
    have l3 := y2 3 (.int .i64 x.2.2.2) rfl
    clear o2 p3 y2
    go_wp2
    refine bodyPost_ret (v := .tuple #[.agg #[.int .i64 x.1, .int .i64 x.2.1, .int .i64 x.2.2.1, .int .i64 x.2.2.2], .bool true]) (by simp [results, Try.results56, go_sem, *]) rfl ⟨rfl, ?_⟩
    exact (by repeat (first | (with_reducible refine Ext.setCell ?_ (by first | (simp; done) | (simp; omega)) _) | with_reducible refine Ext.alloc ?_ _ | with_reducible refine Ext.drew ?_ | with_reducible refine Ext.drewN ?_ _ | with_reducible assumption | with_reducible exact Ext.refl _ | with_reducible refine Ext.trans ?_ (by with_reducible assumption)))

end Go.Proofs.Ytbffcpnpdpgfeaa
