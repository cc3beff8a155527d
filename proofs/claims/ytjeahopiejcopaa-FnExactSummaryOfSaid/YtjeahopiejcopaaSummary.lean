/- The summary of a certificate. -/
import Derived.Test.YtjeahopiejcopaaGateK
import Derived.Test.YtjeahopiejcopaaCertE
namespace Go.Proofs.Ytjeahopiejcopaa
open Go.RowKit

def sOk (q1 : Int) (xs : List Int) (m1 : Nat) (q2 : Int) (ys : List Int) (m2 n : Nat) : Bool := cOk q1 xs m1 && (cOk q2 ys m2 && decide (n ≤ 400))
def ifS (b : Bool) (x : Int) : Int := if b then x else 0

set_option maxRecDepth 20000 in
set_option maxHeartbeats 2000000 in
theorem s_summaryOf_any (q1 q2 : Int) {v1 v2 : Value} {a : Option Addr} {n cap m1 m2 : Nat} {xs ys : List Int} (hn : n ≤ 2000000) (hm1 : m1 ≤ 2000000) (hm2 : m2 ≤ 2000000) (w : World) (h1 : RV w 3 v1 m1 xs) (h3 : RV w 3 v2 m2 ys) :
    Calls Try.prog 34 #[.agg #[.int .i64 q1, v1, .slice a n cap, .int .i64 q2, v2]] w fun e w' => e = .returned (.tuple #[.agg #[.int .i64 (ifS (sOk q1 xs m1 q2 ys m2 n) n), .int .i64 (ifS (sOk q1 xs m1 q2 ys m2 n) m1), .int .i64 (ifS (sOk q1 xs m1 q2 ys m2 n) m2),
      .int .i64 (ifS (sOk q1 xs m1 q2 ys m2 n) (cntTo (kAny 7 8 xs) m1)), .int .i64 (ifS (sOk q1 xs m1 q2 ys m2 n) (cntTo (kAny 7 8 ys) m2))], .bool (sOk q1 xs m1 q2 ys m2 n)]) ∧ Ext w w' := by
  have H1 := fun w' (hx : Ext w w') => Lib.hid (l4Good_any q1 hm1 w' (h1.ext hx))
  have H2 := fun w' (hx : Ext w w') => Lib.hid (l4Good_any q2 hm2 w' (h3.ext hx))
  have H3 := fun w' (hx : Ext w w') => Lib.hid (l4Count_any q1 7 8 hm1 w' (h1.ext hx))
  have H4 := fun w' (hx : Ext w w') => Lib.hid (l4Count_any q2 7 8 hm2 w' (h3.ext hx))
  have HO : Hid (sOk q1 xs m1 q2 ys m2 n = (cOk q1 xs m1 && (cOk q2 ys m2 && decide (n ≤ 400)))) := rfl
  generalize sOk q1 xs m1 q2 ys m2 n = ok at *
  generalize cOk q1 xs m1 = o1 at *
  generalize cOk q2 ys m2 = o2 at *
  generalize cntTo (kAny 7 8 xs) m1 = t1 at *
  generalize cntTo (kAny 7 8 ys) m2 = t2 at *
  obtain ⟨_, a1, c1, rfl, _, _, _⟩ := h1
  obtain ⟨_, a3, c3, rfl, _, _, _⟩ := h3
  cases o1
  · obtain rfl : ok = false := by rw [HO.out]; rfl
    go_enter Try.func34, Try.ntmps34
    go_wp2_with fail
    refine (H1 _ (by repeat (first | exact Ext.refl _ | assumption | refine Ext.alloc ?_ _ | refine Ext.drew ?_ | refine Ext.drewN ?_ _ | refine Ext.setCell ?_ (by first | omega | (dsimp only; omega) | (simp; done) | (simp; omega)) _ | refine Ext.trans ?_ (by assumption)))).out.mono ?_
    rintro e w1 ⟨rfl, hx1⟩
    obtain ⟨hc1, hf1⟩ := hx1.cells
    have hz1 := hx1.size
    try simp at hz1
    have hs1_0 := sz2 (a := w.heap.size) (b := w1.heap.size) (by omega)
    go_wp2
    refine bodyPost_ret (v := .tuple #[.agg #[.int .i64 0, .int .i64 0, .int .i64 0, .int .i64 0, .int .i64 0], .bool false]) (by simp [results, Try.results34, go_sem, *]) rfl ⟨rfl, ?_⟩
    exact (by repeat (first | (with_reducible refine Ext.setCell ?_ (by first | (simp; done) | (simp; omega)) _) | with_reducible refine Ext.alloc ?_ _ | with_reducible refine Ext.drew ?_ | with_reducible refine Ext.drewN ?_ _ | with_reducible assumption | with_reducible exact Ext.refl _ | with_reducible refine Ext.trans ?_ (by with_reducible assumption)))
  cases o2
  · obtain rfl : ok = false := by rw [HO.out]; rfl
    go_enter Try.func34, Try.ntmps34
    go_wp2_with fail
    refine (H1 _ (by repeat (first | exact Ext.refl _ | assumption | refine Ext.alloc ?_ _ | refine Ext.drew ?_ | refine Ext.drewN ?_ _ | refine Ext.setCell ?_ (by first | omega | (dsimp only; omega) | (simp; done) | (simp; omega)) _ | refine Ext.trans ?_ (by assumption)))).out.mono ?_
    rintro e w1 ⟨rfl, hx1⟩
    obtain ⟨hc1, hf1⟩ := hx1.cells
    have hz1 := hx1.size
    try simp at hz1
    have hs1_0 := sz2 (a := w.heap.size) (b := w1.heap.size) (by omega)
    go_wp2_with fail
    refine (H2 _ (by repeat (first | exact Ext.refl _ | assumption | refine Ext.alloc ?_ _ | refine Ext.drew ?_ | refine Ext.drewN ?_ _ | refine Ext.setCell ?_ (by first | omega | (dsimp only; omega) | (simp; done) | (simp; omega)) _ | refine Ext.trans ?_ (by assumption)))).out.mono ?_
    rintro e w2 ⟨rfl, hx2⟩
    obtain ⟨hc2, hf2⟩ := hx2.cells
    have hz2 := hx2.size
    try simp at hz2
    have hs2_0 := sz2 (a := w.heap.size) (b := w2.heap.size) (by omega)
    go_wp2
    refine bodyPost_ret (v := .tuple #[.agg #[.int .i64 0, .int .i64 0, .int .i64 0, .int .i64 0, .int .i64 0], .bool false]) (by simp [results, Try.results34, go_sem, *]) rfl ⟨rfl, ?_⟩
    exact (by repeat (first | (with_reducible refine Ext.setCell ?_ (by first | (simp; done) | (simp; omega)) _) | with_reducible refine Ext.alloc ?_ _ | with_reducible refine Ext.drew ?_ | with_reducible refine Ext.drewN ?_ _ | with_reducible assumption | with_reducible exact Ext.refl _ | with_reducible refine Ext.trans ?_ (by with_reducible assumption)))
  by_cases hn4 : n ≤ 400
  case neg =>
    obtain rfl : ok = false := by rw [HO.out]; simp [hn4]
    have hn4' : ¬ (n : Int) ≤ 400 := by omega
    have hn4'' : (n : Int) > 400 := by omega
    go_enter Try.func34, Try.ntmps34
    go_wp2_with fail
    refine (H1 _ (by repeat (first | exact Ext.refl _ | assumption | refine Ext.alloc ?_ _ | refine Ext.drew ?_ | refine Ext.drewN ?_ _ | refine Ext.setCell ?_ (by first | omega | (dsimp only; omega) | (simp; done) | (simp; omega)) _ | refine Ext.trans ?_ (by assumption)))).out.mono ?_
    rintro e w1 ⟨rfl, hx1⟩
    obtain ⟨hc1, hf1⟩ := hx1.cells
    have hz1 := hx1.size
    try simp at hz1
    have hs1_0 := sz2 (a := w.heap.size) (b := w1.heap.size) (by omega)
    go_wp2_with fail
    refine (H2 _ (by repeat (first | exact Ext.refl _ | assumption | refine Ext.alloc ?_ _ | refine Ext.drew ?_ | refine Ext.drewN ?_ _ | refine Ext.setCell ?_ (by first | omega | (dsimp only; omega) | (simp; done) | (simp; omega)) _ | refine Ext.trans ?_ (by assumption)))).out.mono ?_
    rintro e w2 ⟨rfl, hx2⟩
    obtain ⟨hc2, hf2⟩ := hx2.cells
    have hz2 := hx2.size
    try simp at hz2
    have hs2_0 := sz2 (a := w.heap.size) (b := w2.heap.size) (by omega)
    go_wp2
    refine bodyPost_ret (v := .tuple #[.agg #[.int .i64 0, .int .i64 0, .int .i64 0, .int .i64 0, .int .i64 0], .bool false]) (by simp [results, Try.results34, go_sem, *]) rfl ⟨rfl, ?_⟩
    exact (by repeat (first | (with_reducible refine Ext.setCell ?_ (by first | (simp; done) | (simp; omega)) _) | with_reducible refine Ext.alloc ?_ _ | with_reducible refine Ext.drew ?_ | with_reducible refine Ext.drewN ?_ _ | with_reducible assumption | with_reducible exact Ext.refl _ | with_reducible refine Ext.trans ?_ (by with_reducible assumption)))
  · obtain rfl : ok = true := by rw [HO.out]; simp [hn4]
    have hn4' : (n : Int) ≤ 400 := by omega
    have hn4'' : ¬ (n : Int) > 400 := by omega
    go_enter Try.func34, Try.ntmps34
    go_wp2_with fail
    refine (H1 _ (by repeat (first | exact Ext.refl _ | assumption | refine Ext.alloc ?_ _ | refine Ext.drew ?_ | refine Ext.drewN ?_ _ | refine Ext.setCell ?_ (by first | omega | (dsimp only; omega) | (simp; done) | (simp; omega)) _ | refine Ext.trans ?_ (by assumption)))).out.mono ?_
    rintro e w1 ⟨rfl, hx1⟩
    obtain ⟨hc1, hf1⟩ := hx1.cells
    have hz1 := hx1.size
    try simp at hz1
    have hs1_0 := sz2 (a := w.heap.size) (b := w1.heap.size) (by omega)
    go_wp2_with fail
    refine (H2 _ (by repeat (first | exact Ext.refl _ | assumption | refine Ext.alloc ?_ _ | refine Ext.drew ?_ | refine Ext.drewN ?_ _ | refine Ext.setCell ?_ (by first | omega | (dsimp only; omega) | (simp; done) | (simp; omega)) _ | refine Ext.trans ?_ (by assumption)))).out.mono ?_
    rintro e w2 ⟨rfl, hx2⟩
    obtain ⟨hc2, hf2⟩ := hx2.cells
    have hz2 := hx2.size
    try simp at hz2
    have hs2_0 := sz2 (a := w.heap.size) (b := w2.heap.size) (by omega)
    go_wp2
    refine wp_region_madePC (m := 39) (w.alloc (.cells #[.int .i64 q1, .slice a1 m1 c1, .slice a n cap, .int .i64 q2, .slice a3 m2 c3] 64)) (by kernel_rfl) (by kernel_rfl) (by rfl) (by exact (((Ext.refl _).alloc _).trans hx1).trans hx2) (fun hxc => ?_)
    repeat (refine mw_quiet ?_; apply Exists.intro; refine ⟨fun σ => ?_, ?_⟩; (first | (go_simp; rfl) | (go_simp; intro x; first | (go_at_call 80; with_reducible exact (H3 _ (((Ext.refl w).alloc _).trans x.ext)).out) | (go_at_call 80; with_reducible exact (H4 _ (((Ext.refl w).alloc _).trans x.ext)).out) | (go_at_call 80; exact (H3 _ (((Ext.refl w).alloc _).trans x.ext)).out) | (go_at_call 80; exact (H4 _ (((Ext.refl w).alloc _).trans x.ext)).out))); simp only [Act.put, List.setIfInBounds_toArray, List.set_cons_succ, List.set_cons_zero, List.nil_append, List.cons_append])
    refine mw_put (w.heap.size + 1) 59 #[.int .i64 0, .int .i64 0, .int .i64 0, .int .i64 0, .int .i64 0] #[.int .i64 n, .int .i64 m1, .int .i64 m2, .int .i64 t1, .int .i64 t2] rfl (by first | (simp; done) | (simp; omega)) ((hx2.heap (by omega)).trans ((hx1.heap (by simp)).trans (heap_alloc_at _ _ _ (by simp)))) (fun σ x hc => ?_) ?_
    · have hcell : ∀ k, x.w.cell? ⟨w.heap.size + 1, k, none⟩ = (#[.int .i64 0, .int .i64 0, .int .i64 0, .int .i64 0, .int .i64 0] : Array Value)[k]? := fun k => cell_of_row _ _ _ _ _ _ hc
      have hfr : ∀ k, x.w.frozen? ⟨w.heap.size + 1, k, none⟩ = false := fun k => frozen_of_row _ _ _ _ _ hc
      apply Exists.intro
      refine ⟨?_, ?_⟩
      · go_simp
        rfl
      · exact (((((Fill.start hc).set 0 _).set 1 _).set 2 _).set 3 _).set 4 _
    simp only [Act.put, List.nil_append, List.cons_append]
    repeat (refine mw_quiet ?_; apply Exists.intro; refine ⟨fun σ => ?_, ?_⟩; (first | (go_simp; rfl) | (go_simp; intro x; first | (go_at_call 80; with_reducible exact (H3 _ (((Ext.refl w).alloc _).trans x.ext)).out) | (go_at_call 80; with_reducible exact (H4 _ (((Ext.refl w).alloc _).trans x.ext)).out) | (go_at_call 80; exact (H3 _ (((Ext.refl w).alloc _).trans x.ext)).out) | (go_at_call 80; exact (H4 _ (((Ext.refl w).alloc _).trans x.ext)).out))); simp only [Act.put, List.setIfInBounds_toArray, List.set_cons_succ, List.set_cons_zero, List.nil_append, List.cons_append])
    refine ⟨by kernel_rfl, fun σ w3 hF3 => ?_⟩
    have hx3 := hF3.ext
    have hP3 := hF3.put 18 (w.heap.size + 1) 59 #[.int .i64 0, .int .i64 0, .int .i64 0, .int .i64 0, .int .i64 0] #[.int .i64 n, .int .i64 m1, .int .i64 m2, .int .i64 t1, .int .i64 t2] (by decide) rfl
    clear hF3 hxc
    have hPc3 : ∀ j, w3.cell? ⟨w.heap.size + 1, j, none⟩ = (#[.int .i64 n, .int .i64 m1, .int .i64 m2, .int .i64 t1, .int .i64 t2] : Array Value)[j]? := fun j => cell_of_row _ _ _ _ _ _ hP3
    have hPf3 : ∀ j, w3.frozen? ⟨w.heap.size + 1, j, none⟩ = false := fun j => frozen_of_row _ _ _ _ _ hP3
    clear hP3
    obtain ⟨hc3, hf3⟩ := hx3.cells
    have hz3 := hx3.size
    try simp at hz3
    go_wp2
    refine bodyPost_ret (v := .tuple #[.agg #[.int .i64 n, .int .i64 m1, .int .i64 m2, .int .i64 t1, .int .i64 t2], .bool true]) (by simp [results, Try.results34, go_sem, *]) rfl ⟨rfl, ?_⟩
    exact (by repeat (first | (with_reducible refine Ext.setCell ?_ (by first | (simp; done) | (simp; omega)) _) | with_reducible refine Ext.alloc ?_ _ | with_reducible refine Ext.drew ?_ | with_reducible refine Ext.drewN ?_ _ | with_reducible assumption | with_reducible exact Ext.refl _ | with_reducible refine Ext.trans ?_ (by with_reducible assumption)))

set_option maxRecDepth 20000 in
set_option maxHeartbeats 2000000 in
theorem summaryOf_any (q1 q2 : Int) {v1 v2 : Value} {a : Option Addr} {n cap m1 m2 : Nat} {xs ys : List Int} (hn : n ≤ 2000000) (hm1 : m1 ≤ 2000000) (hm2 : m2 ≤ 2000000) (w : World) (h1 : RV w 3 v1 m1 xs) (h3 : RV w 3 v2 m2 ys) :
    Calls Try.prog 36 #[.agg #[.int .i64 q1, v1, .slice a n cap, .int .i64 q2, v2]] w fun e w' => e = .returned (.tuple #[.agg #[.int .i64 (ifS (sOk q1 xs m1 q2 ys m2 n) n), .int .i64 (ifS (sOk q1 xs m1 q2 ys m2 n) m1), .int .i64 (ifS (sOk q1 xs m1 q2 ys m2 n) m2),
      .int .i64 (ifS (sOk q1 xs m1 q2 ys m2 n) (cntTo (kAny 7 8 xs) m1)), .int .i64 (ifS (sOk q1 xs m1 q2 ys m2 n) (cntTo (kAny 7 8 ys) m2))], .bool (sOk q1 xs m1 q2 ys m2 n)]) ∧ Ext w w' := by
  have H1 := fun w' (hx : Ext w w') => Lib.hid (isValidCircuit_any q1 hm1 w' (h1.ext hx))
  have H2 := fun w' (hx : Ext w w') => Lib.hid (isValidCircuit_any q2 hm2 w' (h3.ext hx))
  have H3 := fun w' (hx : Ext w w') => Lib.hid (tCount_any hm1 w' (h1.ext hx))
  have H4 := fun w' (hx : Ext w w') => Lib.hid (tCount_any hm2 w' (h3.ext hx))
  have HO : Hid (sOk q1 xs m1 q2 ys m2 n = (cOk q1 xs m1 && (cOk q2 ys m2 && decide (n ≤ 400)))) := rfl
  generalize sOk q1 xs m1 q2 ys m2 n = ok at *
  generalize cOk q1 xs m1 = o1 at *
  generalize cOk q2 ys m2 = o2 at *
  generalize cntTo (kAny 7 8 xs) m1 = t1 at *
  generalize cntTo (kAny 7 8 ys) m2 = t2 at *
  obtain ⟨_, a1, c1, rfl, _, _, _⟩ := h1
  obtain ⟨_, a3, c3, rfl, _, _, _⟩ := h3
  cases o1
  · obtain rfl : ok = false := by rw [HO.out]; rfl
    go_enter Try.func36, Try.ntmps36
    go_wp2_with fail
    refine (H1 _ (by repeat (first | exact Ext.refl _ | assumption | refine Ext.alloc ?_ _ | refine Ext.drew ?_ | refine Ext.drewN ?_ _ | refine Ext.setCell ?_ (by first | omega | (dsimp only; omega) | (simp; done) | (simp; omega)) _ | refine Ext.trans ?_ (by assumption)))).out.mono ?_
    rintro e w1 ⟨rfl, hx1⟩
    obtain ⟨hc1, hf1⟩ := hx1.cells
    have hz1 := hx1.size
    try simp at hz1
    have hs1_0 := sz2 (a := w.heap.size) (b := w1.heap.size) (by omega)
    go_wp2
    refine bodyPost_ret (v := .tuple #[.agg #[.int .i64 0, .int .i64 0, .int .i64 0, .int .i64 0, .int .i64 0], .bool false]) (by simp [results, Try.results36, go_sem, *]) rfl ⟨rfl, ?_⟩
    exact (by repeat (first | (with_reducible refine Ext.setCell ?_ (by first | (simp; done) | (simp; omega)) _) | with_reducible refine Ext.alloc ?_ _ | with_reducible refine Ext.drew ?_ | with_reducible refine Ext.drewN ?_ _ | with_reducible assumption | with_reducible exact Ext.refl _ | with_reducible refine Ext.trans ?_ (by with_reducible assumption)))
  cases o2
  · obtain rfl : ok = false := by rw [HO.out]; rfl
    go_enter Try.func36, Try.ntmps36
    go_wp2_with fail
    refine (H1 _ (by repeat (first | exact Ext.refl _ | assumption | refine Ext.alloc ?_ _ | refine Ext.drew ?_ | refine Ext.drewN ?_ _ | refine Ext.setCell ?_ (by first | omega | (dsimp only; omega) | (simp; done) | (simp; omega)) _ | refine Ext.trans ?_ (by assumption)))).out.mono ?_
    rintro e w1 ⟨rfl, hx1⟩
    obtain ⟨hc1, hf1⟩ := hx1.cells
    have hz1 := hx1.size
    try simp at hz1
    have hs1_0 := sz2 (a := w.heap.size) (b := w1.heap.size) (by omega)
    go_wp2_with fail
    refine (H2 _ (by repeat (first | exact Ext.refl _ | assumption | refine Ext.alloc ?_ _ | refine Ext.drew ?_ | refine Ext.drewN ?_ _ | refine Ext.setCell ?_ (by first | omega | (dsimp only; omega) | (simp; done) | (simp; omega)) _ | refine Ext.trans ?_ (by assumption)))).out.mono ?_
    rintro e w2 ⟨rfl, hx2⟩
    obtain ⟨hc2, hf2⟩ := hx2.cells
    have hz2 := hx2.size
    try simp at hz2
    have hs2_0 := sz2 (a := w.heap.size) (b := w2.heap.size) (by omega)
    go_wp2
    refine bodyPost_ret (v := .tuple #[.agg #[.int .i64 0, .int .i64 0, .int .i64 0, .int .i64 0, .int .i64 0], .bool false]) (by simp [results, Try.results36, go_sem, *]) rfl ⟨rfl, ?_⟩
    exact (by repeat (first | (with_reducible refine Ext.setCell ?_ (by first | (simp; done) | (simp; omega)) _) | with_reducible refine Ext.alloc ?_ _ | with_reducible refine Ext.drew ?_ | with_reducible refine Ext.drewN ?_ _ | with_reducible assumption | with_reducible exact Ext.refl _ | with_reducible refine Ext.trans ?_ (by with_reducible assumption)))
  by_cases hn4 : n ≤ 400
  case neg =>
    obtain rfl : ok = false := by rw [HO.out]; simp [hn4]
    have hn4' : ¬ (n : Int) ≤ 400 := by omega
    have hn4'' : (n : Int) > 400 := by omega
    go_enter Try.func36, Try.ntmps36
    go_wp2_with fail
    refine (H1 _ (by repeat (first | exact Ext.refl _ | assumption | refine Ext.alloc ?_ _ | refine Ext.drew ?_ | refine Ext.drewN ?_ _ | refine Ext.setCell ?_ (by first | omega | (dsimp only; omega) | (simp; done) | (simp; omega)) _ | refine Ext.trans ?_ (by assumption)))).out.mono ?_
    rintro e w1 ⟨rfl, hx1⟩
    obtain ⟨hc1, hf1⟩ := hx1.cells
    have hz1 := hx1.size
    try simp at hz1
    have hs1_0 := sz2 (a := w.heap.size) (b := w1.heap.size) (by omega)
    go_wp2_with fail
    refine (H2 _ (by repeat (first | exact Ext.refl _ | assumption | refine Ext.alloc ?_ _ | refine Ext.drew ?_ | refine Ext.drewN ?_ _ | refine Ext.setCell ?_ (by first | omega | (dsimp only; omega) | (simp; done) | (simp; omega)) _ | refine Ext.trans ?_ (by assumption)))).out.mono ?_
    rintro e w2 ⟨rfl, hx2⟩
    obtain ⟨hc2, hf2⟩ := hx2.cells
    have hz2 := hx2.size
    try simp at hz2
    have hs2_0 := sz2 (a := w.heap.size) (b := w2.heap.size) (by omega)
    go_wp2
    refine bodyPost_ret (v := .tuple #[.agg #[.int .i64 0, .int .i64 0, .int .i64 0, .int .i64 0, .int .i64 0], .bool false]) (by simp [results, Try.results36, go_sem, *]) rfl ⟨rfl, ?_⟩
    exact (by repeat (first | (with_reducible refine Ext.setCell ?_ (by first | (simp; done) | (simp; omega)) _) | with_reducible refine Ext.alloc ?_ _ | with_reducible refine Ext.drew ?_ | with_reducible refine Ext.drewN ?_ _ | with_reducible assumption | with_reducible exact Ext.refl _ | with_reducible refine Ext.trans ?_ (by with_reducible assumption)))
  · obtain rfl : ok = true := by rw [HO.out]; simp [hn4]
    have hn4' : (n : Int) ≤ 400 := by omega
    have hn4'' : ¬ (n : Int) > 400 := by omega
    go_enter Try.func36, Try.ntmps36
    go_wp2_with fail
    refine (H1 _ (by repeat (first | exact Ext.refl _ | assumption | refine Ext.alloc ?_ _ | refine Ext.drew ?_ | refine Ext.drewN ?_ _ | refine Ext.setCell ?_ (by first | omega | (dsimp only; omega) | (simp; done) | (simp; omega)) _ | refine Ext.trans ?_ (by assumption)))).out.mono ?_
    rintro e w1 ⟨rfl, hx1⟩
    obtain ⟨hc1, hf1⟩ := hx1.cells
    have hz1 := hx1.size
    try simp at hz1
    have hs1_0 := sz2 (a := w.heap.size) (b := w1.heap.size) (by omega)
    go_wp2_with fail
    refine (H2 _ (by repeat (first | exact Ext.refl _ | assumption | refine Ext.alloc ?_ _ | refine Ext.drew ?_ | refine Ext.drewN ?_ _ | refine Ext.setCell ?_ (by first | omega | (dsimp only; omega) | (simp; done) | (simp; omega)) _ | refine Ext.trans ?_ (by assumption)))).out.mono ?_
    rintro e w2 ⟨rfl, hx2⟩
    obtain ⟨hc2, hf2⟩ := hx2.cells
    have hz2 := hx2.size
    try simp at hz2
    have hs2_0 := sz2 (a := w.heap.size) (b := w2.heap.size) (by omega)
    go_wp2
    refine wp_region_madePC (m := 41) (w.alloc (.cells #[.int .i64 q1, .slice a1 m1 c1, .slice a n cap, .int .i64 q2, .slice a3 m2 c3] 64)) (by kernel_rfl) (by kernel_rfl) (by rfl) (by exact (((Ext.refl _).alloc _).trans hx1).trans hx2) (fun hxc => ?_)
    repeat (refine mw_quiet ?_; apply Exists.intro; refine ⟨fun σ => ?_, ?_⟩; (first | (go_simp; rfl) | (go_simp; intro x; first | (go_at_call 78; with_reducible exact (H3 _ (((Ext.refl w).alloc _).trans x.ext)).out) | (go_at_call 78; with_reducible exact (H4 _ (((Ext.refl w).alloc _).trans x.ext)).out) | (go_at_call 78; exact (H3 _ (((Ext.refl w).alloc _).trans x.ext)).out) | (go_at_call 78; exact (H4 _ (((Ext.refl w).alloc _).trans x.ext)).out))); simp only [Act.put, List.setIfInBounds_toArray, List.set_cons_succ, List.set_cons_zero, List.nil_append, List.cons_append])
    refine mw_put (w.heap.size + 1) 59 #[.int .i64 0, .int .i64 0, .int .i64 0, .int .i64 0, .int .i64 0] #[.int .i64 n, .int .i64 m1, .int .i64 m2, .int .i64 t1, .int .i64 t2] rfl (by first | (simp; done) | (simp; omega)) ((hx2.heap (by omega)).trans ((hx1.heap (by simp)).trans (heap_alloc_at _ _ _ (by simp)))) (fun σ x hc => ?_) ?_
    · have hcell : ∀ k, x.w.cell? ⟨w.heap.size + 1, k, none⟩ = (#[.int .i64 0, .int .i64 0, .int .i64 0, .int .i64 0, .int .i64 0] : Array Value)[k]? := fun k => cell_of_row _ _ _ _ _ _ hc
      have hfr : ∀ k, x.w.frozen? ⟨w.heap.size + 1, k, none⟩ = false := fun k => frozen_of_row _ _ _ _ _ hc
      apply Exists.intro
      refine ⟨?_, ?_⟩
      · go_simp
        rfl
      · exact (((((Fill.start hc).set 0 _).set 1 _).set 2 _).set 3 _).set 4 _
    simp only [Act.put, List.nil_append, List.cons_append]
    repeat (refine mw_quiet ?_; apply Exists.intro; refine ⟨fun σ => ?_, ?_⟩; (first | (go_simp; rfl) | (go_simp; intro x; first | (go_at_call 78; with_reducible exact (H3 _ (((Ext.refl w).alloc _).trans x.ext)).out) | (go_at_call 78; with_reducible exact (H4 _ (((Ext.refl w).alloc _).trans x.ext)).out) | (go_at_call 78; exact (H3 _ (((Ext.refl w).alloc _).trans x.ext)).out) | (go_at_call 78; exact (H4 _ (((Ext.refl w).alloc _).trans x.ext)).out))); simp only [Act.put, List.setIfInBounds_toArray, List.set_cons_succ, List.set_cons_zero, List.nil_append, List.cons_append])
    refine ⟨by kernel_rfl, fun σ w3 hF3 => ?_⟩
    have hx3 := hF3.ext
    have hP3 := hF3.put 20 (w.heap.size + 1) 59 #[.int .i64 0, .int .i64 0, .int .i64 0, .int .i64 0, .int .i64 0] #[.int .i64 n, .int .i64 m1, .int .i64 m2, .int .i64 t1, .int .i64 t2] (by decide) rfl
    clear hF3 hxc
    have hPc3 : ∀ j, w3.cell? ⟨w.heap.size + 1, j, none⟩ = (#[.int .i64 n, .int .i64 m1, .int .i64 m2, .int .i64 t1, .int .i64 t2] : Array Value)[j]? := fun j => cell_of_row _ _ _ _ _ _ hP3
    have hPf3 : ∀ j, w3.frozen? ⟨w.heap.size + 1, j, none⟩ = false := fun j => frozen_of_row _ _ _ _ _ hP3
    clear hP3
    obtain ⟨hc3, hf3⟩ := hx3.cells
    have hz3 := hx3.size
    try simp at hz3
    go_wp2
    refine bodyPost_ret (v := .tuple #[.agg #[.int .i64 n, .int .i64 m1, .int .i64 m2, .int .i64 t1, .int .i64 t2], .bool true]) (by simp [results, Try.results36, go_sem, *]) rfl ⟨rfl, ?_⟩
    exact (by repeat (first | (with_reducible refine Ext.setCell ?_ (by first | (simp; done) | (simp; omega)) _) | with_reducible refine Ext.alloc ?_ _ | with_reducible refine Ext.drew ?_ | with_reducible refine Ext.drewN ?_ _ | with_reducible assumption | with_reducible exact Ext.refl _ | with_reducible refine Ext.trans ?_ (by with_reducible assumption)))

theorem eqSummary_same (a b c d e : Int) (w : World) :
    Calls Try.prog 37 #[.agg #[.int .i64 a, .int .i64 b, .int .i64 c, .int .i64 d, .int .i64 e], .agg #[.int .i64 a, .int .i64 b, .int .i64 c, .int .i64 d, .int .i64 e]] w fun en w' => en = .returned (.bool true) ∧ Ext w w' := by
  go_enter Try.func37, Try.ntmps37
  go_wp2
  go_ret
  exact ⟨rfl, (by repeat (first | exact Ext.refl _ | assumption | refine Ext.alloc ?_ _ | refine Ext.drew ?_ | refine Ext.drewN ?_ _ | refine Ext.setCell ?_ (by first | omega | (dsimp only; omega) | (simp; done) | (simp; omega)) _ | refine Ext.trans ?_ (by assumption)))⟩

end Go.Proofs.Ytjeahopiejcopaa
