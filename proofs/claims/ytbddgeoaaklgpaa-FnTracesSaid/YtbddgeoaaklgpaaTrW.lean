/- The reference's copy of a circuit. -/
import Derived.Test.YtbddgeoaaklgpaaExA
import Derived.Test.YtbddgeoaaklgpaaGate
import Derived.Deep.RegionHeld3
import Derived.Deep.Cut
namespace Go.Proofs.Ytbddgeoaaklgpaa
open Go.RowKit Go.Lib
set_option linter.unusedVariables false
set_option linter.unusedSimpArgs false

theorem row_farC {w W : World} {k : Nat} {o : Obj} (h : w.heap[k]? = some o) (hx : Ext w W) : W.heap[k]? = some o := (hx.heap (Array.getElem?_eq_some_iff.1 h).1).trans h

set_option maxRecDepth 20000 in
set_option maxHeartbeats 2000000 in
theorem l4Own_any (q : Int) {v : Value} {m : Nat} {xs : List Int} (hm : m ≤ 2000000) (w : World) (h : RV w 3 v m xs) :
    Calls Try.prog 38 #[.agg #[.int .i64 q, v]] w fun e w' => ∃ v', e = .returned (.agg #[.int .i64 q, v']) ∧ w'.ownsRow w.heap.size 47 3 v' m (IL xs) ∧ Ext w w' := by
  have HA := Lib.hid h
  obtain ⟨_, a, cap, rfl, _, _, _⟩ := h
  obtain ⟨w1, hw1⟩ : ∃ w1, w1 = (w.alloc (.cells #[.int .i64 q, .slice a m cap] 25 (0, 0))).alloc (.cells #[.int .i64 0, .slice none 0 0] 25 (0, 0)) := ⟨_, rfl⟩
  have hA1 : w1.heap[w.heap.size]? = some (.cells #[.int .i64 q, .slice a m cap] 25 (0, 0)) := by rw [hw1]; exact heap_alloc_lt (heap_alloc_new _ _)
  have HR1 : Hid (w1.heap[w.heap.size + 1]? = some (.cells #[.int .i64 0, .slice none 0 0] 25 (0, 0))) := by rw [hw1]; exact heap_alloc_at _ _ _ (by simp)
  have hE1 : Ext w w1 := by rw [hw1]; exact ((Ext.refl w).alloc _).alloc _
  have hs1 : w.heap.size + 2 ≤ w1.heap.size := by rw [hw1]; simp
  have HE1 := Lib.hid hE1
  have zB := fun k => cell_of_row _ _ k _ _ _ hA1
  have lB := (Array.getElem?_eq_some_iff.1 hA1).1
  have HV1 : Hid (∀ W, Ext w1 W → RV W 3 (.slice a m cap) m xs) := fun W hW => HA.out.ext (hE1.trans hW)
  clear hE1 hA1
  go_enter Try.func38, Try.ntmps38
  go_upto_region 1 with fail
  rw [← hw1]
  clear hw1
  go_wp2
  refine Ex.wp_region_ex (m := 10) [.fn [] (fun _ => .pointer (some ⟨w.heap.size, 0, none⟩)), .fn [] (fun _ => .int .i64 q), .ex (Ex.PhN (w1) (fun n => .slice (some ⟨n, 0, none⟩) 0 0) 47 #[]) 1 [], .fn [] (fun _ => .pointer (some ⟨w.heap.size, 1, none⟩)), .fn [] (fun _ => .slice a m cap), .ex (Ex.PhS (w1) 47 3 (m) (xs)) 1 [2]] (by kernel_rfl) (by kernel_rfl) rfl (by kernel_rfl) (by kernel_rfl) (Ex.mono_fn (Ex.mono_fn (Ex.mono_ex (Ex.phN_mono _ _ _ _) (Ex.mono_fn (Ex.mono_fn (Ex.mono_ex (Ex.phS_mono _ _ _ _ _) Ex.mono_nil)))))) (fun sig3 => ?_)
  have hxc := fun (x : Xt (w1)) (b o : Nat) (h : b < (w1).heap.size) => x.ext.cells.1 b o h
  refine Ex.we_det ?_ ?_
  · first | (go_simp; done) | (go_simp; rfl) | (go_simp; (try intro x); (try go_bits); first | done | rfl | (simp; done) | (simp; omega))
  simp only [Act.put, List.setIfInBounds_toArray, List.set_cons_succ, List.set_cons_zero, List.nil_append, List.cons_append, Nat.zero_add, Nat.reduceAdd]
  refine Ex.we_det ?_ ?_
  · first | (go_simp; done) | (go_simp; rfl) | (go_simp; (try intro x); (try go_bits); first | done | rfl | (simp; done) | (simp; omega))
  simp only [Act.put, List.setIfInBounds_toArray, List.set_cons_succ, List.set_cons_zero, List.nil_append, List.cons_append, Nat.zero_add, Nat.reduceAdd]
  refine Ex.we_new rfl (fun _ => rfl) (fun x => ?_) ?_
  · first | (go_simp; done) | (go_simp; rfl)
  simp only [Act.put, List.setIfInBounds_toArray, List.set_cons_succ, List.set_cons_zero, List.nil_append, List.cons_append, Nat.zero_add, Nat.reduceAdd]
  refine Ex.we_det ?_ ?_
  · first | (go_simp; done) | (go_simp; rfl) | (go_simp; (try intro x); (try go_bits); first | done | rfl | (simp; done) | (simp; omega))
  simp only [Act.put, List.setIfInBounds_toArray, List.set_cons_succ, List.set_cons_zero, List.nil_append, List.cons_append, Nat.zero_add, Nat.reduceAdd]
  refine Ex.we_det ?_ ?_
  · first | (go_simp; done) | (go_simp; rfl) | (go_simp; (try intro x); (try go_bits); first | done | rfl | (simp; done) | (simp; omega))
  simp only [Act.put, List.setIfInBounds_toArray, List.set_cons_succ, List.set_cons_zero, List.nil_append, List.cons_append, Nat.zero_add, Nat.reduceAdd]
  refine Ex.we_append (j := 2) elt_CG rfl rfl rfl (.slice a m cap) (m) (xs) rfl (HV1.out) (by omega) rfl ?_
  simp only [Act.put, List.setIfInBounds_toArray, List.set_cons_succ, List.set_cons_zero, List.nil_append, List.cons_append, Nat.zero_add, Nat.reduceAdd]
  refine Ex.we_stop (fun w3 hx3 hF3 => ?_)
  clear hxc
  have h5 : Ex.PhS w1 47 3 m xs (sig3 5) w3 := hF3.phi 5 (by simp)
  unfold Ex.PhS at h5
  obtain ⟨aO, cO, e5, _, _, _⟩ := own_shape h5
  simp only [List.map_cons, List.map_nil, List.getD_cons_zero, List.getD_cons_succ, e5]
  rw [e5] at h5
  have hR3 := row_farC HR1.out hx3
  have zR := fun k => cell_of_row _ _ k _ _ _ hR3
  have fR := fun k => frozen_of_row _ _ k _ _ hR3
  have lR := (Array.getElem?_eq_some_iff.1 hR3).1
  have O5 := Lib.hid h5
  have HX3 := Lib.hid (HE1.out.trans hx3)
  clear h5 hx3 hF3 e5 zB lB hR3
  go_wp2
  refine bodyPost_ret (v := .agg #[.int .i64 q, .slice aO m cO]) (by simp [results, Try.results38, go_sem, *]) rfl ?_
  have hx := HX3.out
  refine ⟨_, rfl, ?_, (by repeat (first | (with_reducible refine Ext.setCell ?_ (by first | (simp; done) | (simp; omega)) _) | with_reducible refine Ext.alloc ?_ _ | with_reducible refine Ext.drew ?_ | with_reducible refine Ext.drewN ?_ _ | with_reducible assumption | with_reducible exact Ext.refl _ | with_reducible refine Ext.trans ?_ (by with_reducible assumption)))⟩
  exact own_base (own_set (own_set O5.out (by simp; omega) _) (by simp; omega) _) (by omega)

end Go.Proofs.Ytbddgeoaaklgpaa
