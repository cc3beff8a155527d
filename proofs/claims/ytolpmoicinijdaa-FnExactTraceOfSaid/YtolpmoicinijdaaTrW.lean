/- The law on TraceOf. -/
import Derived.Test.YtolpmoicinijdaaTrS
import Derived.Test.YtolpmoicinijdaaMatB
import Derived.Test.YtolpmoicinijdaaCopM
import Derived.Deep.RegionHeld3
namespace Go.Proofs.Ytolpmoicinijdaa
open Go.RowKit Go.Lib
set_option linter.unusedVariables false
set_option linter.unusedSimpArgs false

set_option maxRecDepth 20000 in
set_option maxHeartbeats 8000000 in
theorem law_TraceOf (r c : Int) {v1 : Value} {n : Nat} {xs : List Int} (w : World) (h1 : RV w 5 v1 n xs) :
    Calls Try.prog 4 #[.agg #[.int .i64 r, .int .i64 c, v1]] w fun e w' => e = .returned (.bool true) ∧ Ext w w' := by
  have HZ1 := fun w' (hx : Ext w w') => Lib.hid (szMatrix_any r c 1048576 (by omega) w' (h1.ext hx))
  have HTA := fun hm w' (hx : Ext w w') => Lib.hid (toMatrix_any r c hm w' (h1.ext hx))
  have HL1 := Lib.hid h1.1
  have HS := fun hn u1 w' (k1 : RV w' 5 u1 n xs) => Lib.hid (s_traceOf_any r c (v := u1) hn w' k1)
  have HI := fun hn u1 w' (k1 : RV w' 5 u1 n xs) => Lib.hid (traceOf_any r c (v := u1) hn w' k1)
  obtain ⟨-, a1, c1, rfl, -, -, hh1⟩ := h1
  clear hh1
  generalize (trV r c n xs).1.a = x1 at *
  generalize (trV r c n xs).1.b = x2 at *
  generalize (trV r c n xs).1.c = x3 at *
  generalize (trV r c n xs).1.d = x4 at *
  generalize (trV r c n xs).2 = x5 at *
  generalize trG r c n xs = ok at *
  by_cases hm1 : (n : Int) ≤ 1048576
  case neg =>
    simp only [if_neg hm1] at HZ1
    go_enter Try.func4, Try.ntmps4
    go_wp2_with fail
    refine ((HZ1 _ (by repeat (first | exact Ext.refl _ | assumption | refine Ext.alloc ?_ _ | refine Ext.drew ?_ | refine Ext.drewN ?_ _ | refine Ext.setCell ?_ (by first | omega | (dsimp only; omega) | (simp; done) | (simp; omega)) _ | refine Ext.trans ?_ (by assumption)))).out).mono ?_
    rintro e w1 ⟨rfl, hx1⟩
    obtain ⟨hc1, hf1⟩ := hx1.cells
    have hz1 := hx1.size
    try simp at hz1
    have hs1_0 := sz1 (a := w.heap.size) (b := w1.heap.size) (by omega)
    go_wp2
    go_ret
    exact ⟨rfl, (by repeat (first | exact Ext.refl _ | assumption | refine Ext.alloc ?_ _ | refine Ext.drew ?_ | refine Ext.drewN ?_ _ | refine Ext.setCell ?_ (by first | omega | (dsimp only; omega) | (simp; done) | (simp; omega)) _ | refine Ext.trans ?_ (by assumption)))⟩
  simp only [if_pos hm1] at HZ1
  have hr0 : ¬ ((1048576 : Int) - n < 0) := by omega
  have HTA := HTA (by omega)
  have HS := HS (by omega)
  have HI := HI (by omega)
  go_enter Try.func4, Try.ntmps4
  go_wp2_with fail
  refine ((HZ1 _ (by repeat (first | exact Ext.refl _ | assumption | refine Ext.alloc ?_ _ | refine Ext.drew ?_ | refine Ext.drewN ?_ _ | refine Ext.setCell ?_ (by first | omega | (dsimp only; omega) | (simp; done) | (simp; omega)) _ | refine Ext.trans ?_ (by assumption)))).out).mono ?_
  rintro e w1 ⟨rfl, hx1⟩
  obtain ⟨hc1, hf1⟩ := hx1.cells
  have hz1 := hx1.size
  try simp at hz1
  have hs1_0 := sz1 (a := w.heap.size) (b := w1.heap.size) (by omega)
  have hE1 : Ext w w1 := (by repeat (first | (with_reducible refine Ext.setCell ?_ (by first | (simp; done) | (simp; omega)) _) | with_reducible refine Ext.alloc ?_ _ | with_reducible refine Ext.drew ?_ | with_reducible refine Ext.drewN ?_ _ | with_reducible assumption | with_reducible exact Ext.refl _ | with_reducible refine Ext.trans ?_ (by with_reducible assumption)))
  have hA1 : Hid (w1.heap[w.heap.size]? = some (.cells #[.int .i64 r, .int .i64 c, .slice a1 n c1] 29 (0, 0))) := (hx1.heap (by simp <;> omega)).trans (heap_alloc_new _ _)
  go_wp2_with fail
  refine (HTA _ hE1).out.mono ?_
  rintro e w2 ⟨u, rfl, o2, hx2⟩
  clear hc1 hf1 hx1
  have O2 := Lib.hid o2
  obtain ⟨aW, cW, rfl, p1, p2, p3⟩ := own_shape o2
  clear o2 p1 p2 p3
  have hE2 := hE1.trans hx2
  have hA2 := Lib.hid (heap_keep hx2 hA1.out)
  clear hA1 hx2 hE1
  go_wp2_with fail
  refine (HS _ _ (RV.own O2.out HL1.out)).out.mono ?_
  rintro e w3 ⟨rfl, hx3⟩
  have hE3 := hE2.trans hx3
  have hA3 := Lib.hid (heap_keep hx3 hA2.out)
  have zA3 := fun k => cell_of_row _ _ k _ _ _ hA3.out
  have lA3 := (Array.getElem?_eq_some_iff.1 hA3.out).1
  clear hA2 hx3 hE2 O2
  go_wp2_with fail
  refine (HTA _ (hE3.alloc _)).out.mono ?_
  rintro e w4 ⟨u, rfl, o4, hx4⟩
  have O4 := Lib.hid o4
  obtain ⟨aX, cX, rfl, p1, p2, p3⟩ := own_shape o4
  clear o4 p1 p2 p3 zA3 lA3
  have hE4 := (hE3.alloc _).trans hx4
  have hA4 := Lib.hid (heap_keep hx4 (heap_alloc_lt hA3.out))
  have hD4 := Lib.hid (heap_keep hx4 (heap_alloc_new _ _))
  clear hA3 hx4 hE3
  go_wp2_with fail
  refine (HI _ _ (RV.own (own_ext O4.out ((Ext.refl _).alloc _)) HL1.out)).out.mono ?_
  rintro e w5 ⟨rfl, hx5⟩
  have hE5 := (hE4.alloc _).trans hx5
  have O5 := Lib.hid (own_ext (own_ext O4.out ((Ext.refl _).alloc _)) hx5)
  have hA5 := Lib.hid (heap_keep hx5 (heap_alloc_lt hA4.out))
  have hD5 := Lib.hid (heap_keep hx5 (heap_alloc_lt hD4.out))
  have hX5 := Lib.hid (heap_keep hx5 (heap_alloc_new _ _))
  have zD5 := fun k => cell_of_row _ _ k _ _ _ hD5.out
  have lD5 := (Array.getElem?_eq_some_iff.1 hD5.out).1
  clear hA4 hD4 hx5 hE4 O4
  go_wp2_with fail
  refine (eqDyadic_same _ _ _ _ _ _).mono ?_
  rintro e w6 ⟨rfl, hx6⟩
  have hE6 := (hE5.alloc _).trans hx6
  have O6 := Lib.hid (own_ext (own_ext O5.out ((Ext.refl _).alloc _)) hx6)
  have hA6 := Lib.hid (heap_keep hx6 (heap_alloc_lt hA5.out))
  have hX6 := Lib.hid (heap_keep hx6 (heap_alloc_lt hX5.out))
  have zA6 : ∀ k, w6.cell? ⟨w.heap.size, k, none⟩ = (#[.int .i64 r, .int .i64 c, .slice a1 n c1] : Array Value)[k]? := fun k => cell_of_row _ _ _ _ _ _ hA6.out
  have zX6 : ∀ k, w6.cell? ⟨w4.heap.size, k, none⟩ = (#[.int .i64 r, .int .i64 c, .slice aX n cX] : Array Value)[k]? := fun k => cell_of_row _ _ _ _ _ _ hX6.out
  have lA6 := (Array.getElem?_eq_some_iff.1 hA6.out).1
  have lX6 := (Array.getElem?_eq_some_iff.1 hX6.out).1
  clear hA5 hD5 hX5 zD5 lD5 hx6 hE5 O5
  have HK : Hid (∀ w', Ext w6 w' → (w'.cell? ⟨w4.heap.size, 0, none⟩ = some (.int .i64 r) ∧ w'.cell? ⟨w4.heap.size, 1, none⟩ = some (.int .i64 c) ∧ w'.cell? ⟨w4.heap.size, 2, none⟩ = some (.slice aX n cX) ∧ w'.cell? ⟨w.heap.size, 0, none⟩ = some (.int .i64 r) ∧ w'.cell? ⟨w.heap.size, 1, none⟩ = some (.int .i64 c) ∧ w'.cell? ⟨w.heap.size, 2, none⟩ = some (.slice a1 n c1))) := fun w' hx =>
    ⟨(hx.cells.1 _ 0 lX6).trans (zX6 0), (hx.cells.1 _ 1 lX6).trans (zX6 1), (hx.cells.1 _ 2 lX6).trans (zX6 2), (hx.cells.1 _ 0 lA6).trans (zA6 0), (hx.cells.1 _ 1 lA6).trans (zA6 1), (hx.cells.1 _ 2 lA6).trans (zA6 2)⟩
  go_wp2_with fail
  go_region_held3 (fun w' => w'.cell? ⟨w4.heap.size, 0, none⟩ = some (.int .i64 r) ∧ w'.cell? ⟨w4.heap.size, 1, none⟩ = some (.int .i64 c) ∧ w'.cell? ⟨w4.heap.size, 2, none⟩ = some (.slice aX n cX) ∧ w'.cell? ⟨w.heap.size, 0, none⟩ = some (.int .i64 r) ∧ w'.cell? ⟨w.heap.size, 1, none⟩ = some (.int .i64 c) ∧ w'.cell? ⟨w.heap.size, 2, none⟩ = some (.slice a1 n c1)) (exact HK.out _ (by repeat (first | (with_reducible refine Ext.setCell ?_ (by first | (simp; done) | (simp; omega)) _) | with_reducible refine Ext.alloc ?_ _ | with_reducible refine Ext.drew ?_ | with_reducible refine Ext.drewN ?_ _ | with_reducible assumption | with_reducible exact Ext.refl _ | with_reducible refine Ext.trans ?_ (by with_reducible assumption))))
    (first
    | (go_at_call 12; (with_reducible refine (HTA _ (by repeat (first | (with_reducible refine Ext.setCell ?_ (by first | (simp; done) | (simp; omega)) _) | with_reducible refine Ext.alloc ?_ _ | with_reducible refine Ext.drew ?_ | with_reducible refine Ext.drewN ?_ _ | with_reducible assumption | with_reducible exact Ext.refl _ | with_reducible refine Ext.trans ?_ (by with_reducible assumption)))).out.mono ?_); rintro e w7 ⟨u, rfl, o7, hx7⟩; have O7 := Lib.hid o7; obtain ⟨aE, cE, rfl, q1E, q2E, q3E⟩ := own_shape o7; clear q1E q2E q3E o7)
    | (go_at_call 15; (with_reducible refine (eqMatrix_big r c HL1.out (by omega) _ (own_ext O6.out (by repeat (first | (with_reducible refine Ext.setCell ?_ (by first | (simp; done) | (simp; omega)) _) | with_reducible refine Ext.alloc ?_ _ | with_reducible refine Ext.drew ?_ | with_reducible refine Ext.drewN ?_ _ | with_reducible assumption | with_reducible exact Ext.refl _ | with_reducible refine Ext.trans ?_ (by with_reducible assumption)))) O7.out).mono ?_); rintro e w8 ⟨rfl, hx8⟩))
  all_goals
    have hx68 : Ext w6 w8 := (by repeat (first | (with_reducible refine Ext.setCell ?_ (by first | (simp; done) | (simp; omega)) _) | with_reducible refine Ext.alloc ?_ _ | with_reducible refine Ext.drew ?_ | with_reducible refine Ext.drewN ?_ _ | with_reducible assumption | with_reducible exact Ext.refl _ | with_reducible refine Ext.trans ?_ (by with_reducible assumption)))
    have hE8 := hE6.trans hx68
    go_wp2
    go_ret
    exact ⟨rfl, hE8⟩

theorem law_TraceOf_c (cs : Array Value) {n : Nat} {w0 : World} (hs : Shape Try.prog w0 n 29 (Value.agg cs).cells.toList) (w : World) (hw : w0 = w := by rfl) :
    Calls Try.prog 4 #[.agg cs] w fun e w' => e = .returned (.bool true) ∧ Ext w w' := by
  subst hw
  obtain ⟨r, c, v1, n1, xs, rfl, h1, -, -⟩ := mat_arg hs
  exact law_TraceOf r c w0 h1

end Go.Proofs.Ytolpmoicinijdaa
