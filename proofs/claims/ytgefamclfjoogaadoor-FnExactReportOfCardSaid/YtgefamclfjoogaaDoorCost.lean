/- The costs of a circuit, valid replacements. -/
import Derived.Test.YtgefamclfjoogaaDoorMade
import Derived.Test.YtgefamclfjoogaaDoorGateK
import Derived.Test.YtgefamclfjoogaaDoorCopy
namespace Go.Proofs.YtgefamclfjoogaaDoor
open Go.RowKit

def costT (q : Int) (xs : List Int) (m : Nat) : Int := if cOk q xs m then cntTo (kAny 7 8 xs) m else 0
def costW (q : Int) (xs : List Int) (m : Nat) : Int := if cOk q xs m then cntTo (kAny 9 11 xs) m else 0
def costG (q : Int) (xs : List Int) (m : Nat) : Int := if cOk q xs m then (m : Int) else 0

set_option maxRecDepth 20000 in
set_option maxHeartbeats 1000000 in
theorem l31Cost_any (q : Int) {v : Value} {m : Nat} {xs : List Int} (hm : m ≤ 2000000) (w : World) (h : RV w 3 v m xs) :
    Calls Tryd.prog 13 #[.agg #[.int .i64 q, v]] w fun e w' => e = .returned (.agg #[.int .i64 (cntTo (kAny 7 8 xs) m), .int .i64 (cntTo (kAny 9 11 xs) m), .int .i64 m]) ∧ Ext w w' := by
  have H1 := fun w' (hx : Ext w w') => Lib.hid (l4Count_any q 7 8 hm w' (h.ext hx))
  have H2 := fun w' (hx : Ext w w') => Lib.hid (l4Count_any q 9 11 hm w' (h.ext hx))
  generalize cntTo (kAny 7 8 xs) m = t1 at *
  generalize cntTo (kAny 9 11 xs) m = t2 at *
  obtain ⟨_, a, cap, rfl, c1, c2, _⟩ := h
  go_enter Tryd.func13, Tryd.ntmps13
  go_wp2
  refine wp_region_madePC (m := 11) (w.alloc (.cells #[.int .i64 q, .slice a m cap] 39)) (by kernel_rfl) (by kernel_rfl) (by rfl) (by exact (Ext.refl _).alloc _) (fun hxc => ?_)
  repeat (refine mw_quiet ?_; apply Exists.intro; refine ⟨fun σ => ?_, ?_⟩; (first | (go_simp; rfl) | (go_simp; intro x; first | (go_at_call 33; with_reducible exact (H1 _ (((Ext.refl w).alloc _).trans x.ext)).out) | (go_at_call 33; with_reducible exact (H2 _ (((Ext.refl w).alloc _).trans x.ext)).out) | (go_at_call 33; exact (H1 _ (((Ext.refl w).alloc _).trans x.ext)).out) | (go_at_call 33; exact (H2 _ (((Ext.refl w).alloc _).trans x.ext)).out))); simp only [Act.put, List.setIfInBounds_toArray, List.set_cons_succ, List.set_cons_zero, List.nil_append, List.cons_append])
  refine mw_put (w.heap.size + 1) 56 #[.int .i64 0, .int .i64 0, .int .i64 0] #[.int .i64 t1, .int .i64 t2, .int .i64 m] rfl (by first | (simp; done) | (simp; omega)) (heap_alloc_at _ _ _ (by simp)) (fun σ x hc => ?_) ?_
  · have hcell : ∀ k, x.w.cell? ⟨w.heap.size + 1, k, none⟩ = (#[.int .i64 0, .int .i64 0, .int .i64 0] : Array Value)[k]? := fun k => cell_of_row _ _ _ _ _ _ hc
    have hfr : ∀ k, x.w.frozen? ⟨w.heap.size + 1, k, none⟩ = false := fun k => frozen_of_row _ _ _ _ _ hc
    apply Exists.intro
    refine ⟨?_, ?_⟩
    · go_simp
      rfl
    · exact (((Fill.start hc).set 0 _).set 1 _).set 2 _
  simp only [Act.put, List.nil_append, List.cons_append]
  repeat (refine mw_quiet ?_; apply Exists.intro; refine ⟨fun σ => ?_, ?_⟩; (first | (go_simp; rfl) | (go_simp; intro x; first | (go_at_call 33; with_reducible exact (H1 _ (((Ext.refl w).alloc _).trans x.ext)).out) | (go_at_call 33; with_reducible exact (H2 _ (((Ext.refl w).alloc _).trans x.ext)).out) | (go_at_call 33; exact (H1 _ (((Ext.refl w).alloc _).trans x.ext)).out) | (go_at_call 33; exact (H2 _ (((Ext.refl w).alloc _).trans x.ext)).out))); simp only [Act.put, List.setIfInBounds_toArray, List.set_cons_succ, List.set_cons_zero, List.nil_append, List.cons_append])
  refine ⟨by kernel_rfl, fun σ w1 hF1 => ?_⟩
  have hx1 := hF1.ext
  have hP1 := hF1.put 8 (undef) (w.heap.size + 1) 56 #[.int .i64 0, .int .i64 0, .int .i64 0] #[.int .i64 t1, .int .i64 t2, .int .i64 m] (by decide) rfl
  clear hF1 hxc
  have hPc1 : ∀ j, w1.cell? ⟨w.heap.size + 1, j, none⟩ = (#[.int .i64 t1, .int .i64 t2, .int .i64 m] : Array Value)[j]? := fun j => cell_of_row _ _ _ _ _ _ hP1
  have hPf1 : ∀ j, w1.frozen? ⟨w.heap.size + 1, j, none⟩ = false := fun j => frozen_of_row _ _ _ _ _ hP1
  clear hP1
  obtain ⟨hc1, hf1⟩ := hx1.cells
  have hz1 := hx1.size
  try simp at hz1
  go_wp2
  refine bodyPost_ret (v := .agg #[.int .i64 t1, .int .i64 t2, .int .i64 m]) (by simp [results, Tryd.results13, go_sem, *]) rfl ⟨rfl, ?_⟩
  exact (by repeat (first | exact Ext.refl _ | assumption | refine Ext.alloc ?_ _ | refine Ext.drew ?_ | refine Ext.drewN ?_ _ | refine Ext.setCell ?_ (by first | omega | (dsimp only; omega) | (simp; done) | (simp; omega)) _ | refine Ext.trans ?_ (by assumption)))

set_option maxRecDepth 20000 in
set_option maxHeartbeats 1000000 in
theorem costOf_any (q : Int) {v : Value} {m : Nat} {xs : List Int} (hm : m ≤ 2000000) (w : World) (h : RV w 3 v m xs) :
    Calls Tryd.prog 18 #[.agg #[.int .i64 q, v]] w fun e w' => e = .returned (.tuple #[.agg #[.int .i64 (costT q xs m), .int .i64 (costW q xs m), .int .i64 (costG q xs m)], .bool (cOk q xs m)]) ∧ Ext w w' := by
  have H1 := fun w' (hx : Ext w w') => Lib.hid (countTwo_any q hm w' (h.ext hx))
  have H2 := fun w' (hx : Ext w w') => Lib.hid (tCount_any hm w' (h.ext hx))
  unfold costT costW costG
  generalize cntTo (kAny 7 8 xs) m = t1 at *
  generalize cntTo (kAny 9 11 xs) m = t2 at *
  obtain ⟨_, a, cap, rfl, c1, c2, _⟩ := h
  cases hok : cOk q xs m
  · rw [hok] at H1
    go_enter Tryd.func18, Tryd.ntmps18
    go_wp2_with fail
    refine (H1 _ (by repeat (first | exact Ext.refl _ | assumption | refine Ext.alloc ?_ _ | refine Ext.drew ?_ | refine Ext.drewN ?_ _ | refine Ext.setCell ?_ (by first | omega | (dsimp only; omega) | (simp; done) | (simp; omega)) _ | refine Ext.trans ?_ (by assumption)))).out.mono ?_
    rintro e w1 ⟨rfl, hx1⟩
    obtain ⟨hc1, hf1⟩ := hx1.cells
    have hz1 := hx1.size
    try simp at hz1
    have hs1_0 := sz2 (a := w.heap.size) (b := w1.heap.size) (by omega)
    go_wp2
    refine bodyPost_ret (v := .tuple #[.agg #[.int .i64 0, .int .i64 0, .int .i64 0], .bool false]) (by simp [results, Tryd.results18, go_sem, *]) rfl ⟨rfl, ?_⟩
    exact (by repeat (first | exact Ext.refl _ | assumption | refine Ext.alloc ?_ _ | refine Ext.drew ?_ | refine Ext.drewN ?_ _ | refine Ext.setCell ?_ (by first | omega | (dsimp only; omega) | (simp; done) | (simp; omega)) _ | refine Ext.trans ?_ (by assumption)))
  · rw [hok] at H1
    go_enter Tryd.func18, Tryd.ntmps18
    go_wp2_with fail
    refine (H1 _ (by repeat (first | exact Ext.refl _ | assumption | refine Ext.alloc ?_ _ | refine Ext.drew ?_ | refine Ext.drewN ?_ _ | refine Ext.setCell ?_ (by first | omega | (dsimp only; omega) | (simp; done) | (simp; omega)) _ | refine Ext.trans ?_ (by assumption)))).out.mono ?_
    rintro e w1 ⟨rfl, hx1⟩
    obtain ⟨hc1, hf1⟩ := hx1.cells
    have hz1 := hx1.size
    try simp at hz1
    have hs1_0 := sz2 (a := w.heap.size) (b := w1.heap.size) (by omega)
    go_wp2
    refine wp_region_madePC (m := 22) (w.alloc (.cells #[.int .i64 q, .slice a m cap] 39)) (by kernel_rfl) (by kernel_rfl) (by rfl) (by exact ((Ext.refl _).alloc _).trans hx1) (fun hxc => ?_)
    repeat (refine mw_quiet ?_; apply Exists.intro; refine ⟨fun σ => ?_, ?_⟩; (first | (go_simp; rfl) | (go_simp; intro x; first | (go_at_call 40; exact (H2 _ (((Ext.refl w).alloc _).trans x.ext)).out))); simp only [Act.put, List.setIfInBounds_toArray, List.set_cons_succ, List.set_cons_zero, List.nil_append, List.cons_append])
    refine mw_put (w.heap.size + 1) 56 #[.int .i64 0, .int .i64 0, .int .i64 0] #[.int .i64 t1, .int .i64 t2, .int .i64 m] rfl (by first | (simp; done) | (simp; omega)) ((hx1.heap (by simp)).trans (heap_alloc_at _ _ _ (by simp))) (fun σ x hc => ?_) ?_
    · have hcell : ∀ k, x.w.cell? ⟨w.heap.size + 1, k, none⟩ = (#[.int .i64 0, .int .i64 0, .int .i64 0] : Array Value)[k]? := fun k => cell_of_row _ _ _ _ _ _ hc
      have hfr : ∀ k, x.w.frozen? ⟨w.heap.size + 1, k, none⟩ = false := fun k => frozen_of_row _ _ _ _ _ hc
      apply Exists.intro
      refine ⟨?_, ?_⟩
      · go_simp
        rfl
      · exact (((Fill.start hc).set 0 _).set 1 _).set 2 _
    simp only [Act.put, List.nil_append, List.cons_append]
    repeat (refine mw_quiet ?_; apply Exists.intro; refine ⟨fun σ => ?_, ?_⟩; (first | (go_simp; rfl) | (go_simp; intro x; first | (go_at_call 40; exact (H2 _ (((Ext.refl w).alloc _).trans x.ext)).out))); simp only [Act.put, List.setIfInBounds_toArray, List.set_cons_succ, List.set_cons_zero, List.nil_append, List.cons_append])
    refine ⟨by kernel_rfl, fun σ w2 hF2 => ?_⟩
    have hx2 := hF2.ext
    have hP2 := hF2.put 8 (undef) (w.heap.size + 1) 56 #[.int .i64 0, .int .i64 0, .int .i64 0] #[.int .i64 t1, .int .i64 t2, .int .i64 m] (by decide) rfl
    clear hF2 hxc
    have hPc2 : ∀ j, w2.cell? ⟨w.heap.size + 1, j, none⟩ = (#[.int .i64 t1, .int .i64 t2, .int .i64 m] : Array Value)[j]? := fun j => cell_of_row _ _ _ _ _ _ hP2
    have hPf2 : ∀ j, w2.frozen? ⟨w.heap.size + 1, j, none⟩ = false := fun j => frozen_of_row _ _ _ _ _ hP2
    clear hP2
    obtain ⟨hc2, hf2⟩ := hx2.cells
    have hz2 := hx2.size
    try simp at hz2
    go_wp2
    refine bodyPost_ret (v := .tuple #[.agg #[.int .i64 t1, .int .i64 t2, .int .i64 m], .bool true]) (by simp [results, Tryd.results18, go_sem, *]) rfl ⟨rfl, ?_⟩
    exact (by repeat (first | exact Ext.refl _ | assumption | refine Ext.alloc ?_ _ | refine Ext.drew ?_ | refine Ext.drewN ?_ _ | refine Ext.setCell ?_ (by first | omega | (dsimp only; omega) | (simp; done) | (simp; omega)) _ | refine Ext.trans ?_ (by assumption)))

end Go.Proofs.YtgefamclfjoogaaDoor
