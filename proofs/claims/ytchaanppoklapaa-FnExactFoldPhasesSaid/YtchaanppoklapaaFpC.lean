/- Folding: circuitIf. -/
import Derived.Test.YtchaanppoklapaaFpR
import Derived.Test.YtchaanppoklapaaGateC
import Derived.Deep.RegionHeld3
import Derived.Deep.Cut
namespace Go.Proofs.Ytchaanppoklapaa
open Go.RowKit Go.Lib
set_option linter.unusedVariables false
set_option linter.unusedSimpArgs false

set_option maxRecDepth 20000 in
set_option maxHeartbeats 2000000 in
theorem circuitIfF_any (q : Int) {v : Value} {n : Nat} {xs : List Int} (hn : n ≤ 2000000) (w : World) (h : RV w 3 v n xs) :
    Calls Try.prog 36 #[.int .i64 q, v] w fun e w' => ∃ v', e = .returned (.tuple #[.agg #[.int .i64 (if cOk q xs n then q else 0), v'], .bool (cOk q xs n)]) ∧
      w'.ownsRow w.heap.size 72 3 v' (if cOk q xs n then n else 0) (IL (if cOk q xs n then xs else [])) ∧ Ext w w' := by
  have HV := fun (w' : World) v (h : RV w' 3 v n xs) => Lib.hid (isValidCircuit_any q hn w' h)
  have HR := Lib.hid (h.ext (((Ext.refl w).alloc (.cells #[.int .i64 0, .slice none 0 0] 31 (0, 0))).alloc (.cells #[] 72 (0, 0))))
  generalize cOk q xs n = o at *
  obtain ⟨hl, a, cap, rfl, c1, c2, H⟩ := h
  clear H
  have HO : Hid (((w.alloc (.cells #[.int .i64 0, .slice none 0 0] 31)).alloc (.cells #[] 72)).ownsRow (w.heap.size + 1) 72 3 (.slice (some ⟨w.heap.size + 1, 0, none⟩) 0 0) 0 (IL [])) := by
    have := World.ownsRow_lit (base := w.heap.size + 1) (e := 72) (size := 3) (w.alloc (.cells #[.int .i64 0, .slice none 0 0] 31)) #[] 0 (by simp) (by decide) rfl
    unfold Hid
    show World.ownsRow _ _ _ _ _ _ []
    simpa using this
  have hRb : Hid (((w.alloc (.cells #[.int .i64 0, .slice none 0 0] 31)).alloc (.cells #[] 72)).heap[w.heap.size]? = some (.cells #[.int .i64 0, .slice none 0 0] 31 (0, 0))) := heap_alloc_lt (heap_alloc_new _ _)
  go_enter Try.func36, Try.ntmps36
  go_wp2_with (at_builtin; go_loud (refine wpList_append_rv rfl elt_FG rfl _ 0 [] rfl HO.out _ n xs rfl HR.out (by omega) (by simp) ?_); intro v4 w4 hown4 hgrow4 hiff4; obtain ⟨a4, c4, rfl, _, _, _⟩ := own_shape hown4)
  have hR4 := Lib.hid (heap_grownB hgrow4 HO.out (by omega) hRb.out)
  have HE4 := Lib.hid (ext_grownB (w0 := w) (((Ext.refl w).alloc _).alloc _) hgrow4 HO.out (by omega))
  have O4 := Lib.hid (show w4.ownsRow (w.heap.size + 1) 72 3 (.slice a4 (0 + n) c4) n (IL xs) by simpa using hown4)
  simp only [Nat.zero_add] at O4
  have lR4 := (Array.getElem?_eq_some_iff.1 hR4.out).1
  have zR4 : ∀ k, w4.cell? ⟨w.heap.size, k, none⟩ = (#[.int .i64 0, .slice none 0 0] : Array Value)[k]? := fun k => cell_of_row _ _ _ _ _ _ hR4.out
  have fR4 : ∀ k, w4.frozen? ⟨w.heap.size, k, none⟩ = false := fun k => frozen_of_row _ _ _ _ _ hR4.out
  clear hown4
  go_wp2_with fail
  refine (HV _ _ (RV.own (own_ext O4.out ((Ext.refl _).alloc _)) hl)).out.mono ?_
  rintro e w5 ⟨rfl, hx5⟩
  obtain ⟨hc5, hf5⟩ := hx5.cells
  have hz5 := hx5.size
  try simp at hz5
  have hs5_0 := sz1 (a := w4.heap.size) (b := w5.heap.size) (by omega)
  have hR5 := Lib.hid ((hx5.heap (by simp; omega)).trans (heap_alloc_lt hR4.out))
  have lR5 := (Array.getElem?_eq_some_iff.1 hR5.out).1
  have zR5 : ∀ k, w5.cell? ⟨w.heap.size, k, none⟩ = (#[.int .i64 0, .slice none 0 0] : Array Value)[k]? := fun k => cell_of_row _ _ _ _ _ _ hR5.out
  have fR5 : ∀ k, w5.frozen? ⟨w.heap.size, k, none⟩ = false := fun k => frozen_of_row _ _ _ _ _ hR5.out
  have hB5 := (hx5.heap (k := w4.heap.size) (by simp)).trans (heap_alloc_new _ _)
  have zB5 : ∀ k, w5.cell? ⟨w4.heap.size, k, none⟩ = (#[.int .i64 q, .slice a4 n c4] : Array Value)[k]? := fun k => cell_of_row _ _ _ _ _ _ hB5
  clear hc5 hf5 hB5 zR4 fR4
  have HE5 : Ext w w5 := (HE4.out.alloc _).trans hx5
  have O5 := Lib.hid (own_ext (own_ext O4.out ((Ext.refl _).alloc (.cells #[.int .i64 q, .slice a4 n c4] 31 (0, 0)))) hx5)
  have hs4 := HE4.out.size
  cases o
  · go_wp2
    refine bodyPost_ret (v := .tuple #[.agg #[.int .i64 0, .slice none 0 0], .bool false]) (by simp [results, Try.results36, go_sem, *]) rfl ?_
    exact ⟨_, rfl, own_nil _ _ _ _, (by repeat (first | (with_reducible refine Ext.setCell ?_ (by first | (simp; done) | (simp; omega)) _) | with_reducible refine Ext.alloc ?_ _ | with_reducible refine Ext.drew ?_ | with_reducible refine Ext.drewN ?_ _ | with_reducible assumption | with_reducible exact Ext.refl _ | with_reducible refine Ext.trans ?_ (by with_reducible assumption)))⟩
  · go_wp2
    refine bodyPost_ret (v := .tuple #[.agg #[.int .i64 q, .slice a4 n c4], .bool true]) (by simp [results, Try.results36, go_sem, *]) rfl ?_
    exact ⟨_, rfl, (by refine own_base (base := w.heap.size + 1) ?_ (by first | omega | (simp; omega)); repeat (first | (with_reducible exact O5.out) | (with_reducible refine own_set ?_ (by first | omega | (simp; done) | (simp; omega)) _) | (with_reducible refine own_ext ?_ ((Ext.refl _).alloc _)) | (with_reducible refine own_ext ?_ (Ext.refl _).drew) | (with_reducible refine own_ext ?_ ((Ext.refl _).drewN _)) | (exact O5.out))), (by repeat (first | (with_reducible refine Ext.setCell ?_ (by first | (simp; done) | (simp; omega)) _) | with_reducible refine Ext.alloc ?_ _ | with_reducible refine Ext.drew ?_ | with_reducible refine Ext.drewN ?_ _ | with_reducible assumption | with_reducible exact Ext.refl _ | with_reducible refine Ext.trans ?_ (by with_reducible assumption)))⟩

end Go.Proofs.Ytchaanppoklapaa
