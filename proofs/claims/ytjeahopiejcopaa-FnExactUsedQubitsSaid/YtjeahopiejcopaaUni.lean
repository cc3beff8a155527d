/- Used qubits: union; the program's UsedQubits. -/
import Derived.Test.YtjeahopiejcopaaUnl
import Derived.Test.YtjeahopiejcopaaUso
import Derived.Test.YtjeahopiejcopaaUsf
namespace Go.Proofs.Ytjeahopiejcopaa
open Go.RowKit Go.Lib
set_option linter.unusedVariables false
set_option linter.unusedSimpArgs false

set_option maxRecDepth 20000 in
set_option maxHeartbeats 2000000 in
theorem union_any (v : Value) (n : Nat) (ys : List Int) (w : World) (hn : n ≤ 800) (h : RV w 1 v n ys) :
    Calls Try.prog 132 #[v, .slice none 0 0] w fun e w' => ∃ v', e = .returned v' ∧ w'.ownsRow w.heap.size 3 1 v' (unF ys).length (IL (unF ys)) ∧ Ext w w' := by
  have HR := Lib.hid h
  have hy : ys.length = n := by have := h.1; omega
  obtain ⟨a, cap, rfl, hc1, hc2⟩ : ∃ a cap, v = .slice a n cap ∧ n ≤ cap ∧ cap ≤ maxLen := by
    obtain ⟨_, a, cap, e, c1, c2, _⟩ := h
    exact ⟨a, cap, e, c1, c2⟩
  clear h
  subst hy
  have e1 : sumN (fun j => if j = 0 then ys.length else 0) 2 = ys.length := by simp [sumN]
  have e2 : catX (fun j => if j = 0 then ys else []) 2 = ys := by simp [catX]
  have HCC : ∀ W t, Ext w W → Hid (Calls Try.prog 142 #[.slice (some ⟨W.heap.size, 0, none⟩) 2 2] (W.alloc (.cells #[.slice a ys.length cap, .slice none 0 0] t)) fun e w' => ∃ v, e = .returned v ∧ w'.ownsRow (W.heap.size + 1) 3 1 v ys.length (IL ys) ∧ Ext (W.alloc (.cells #[.slice a ys.length cap, .slice none 0 0] t)) w') := fun W t hW => by
    have := concatCI_any 2 (by omega) (fun j => if j = 0 then a else none) (fun j => if j = 0 then ys.length else 0) (fun j => if j = 0 then cap else 0) (fun j => if j = 0 then ys else []) (fun j hj => by show (if j = 0 then ys.length else 0) ≤ 2000000; split <;> omega) W.heap.size (W.alloc (.cells #[.slice a ys.length cap, .slice none 0 0] t)) (by simp)
      (fun j hj => (cell_of_row _ _ j _ _ _ (heap_alloc_new _ _)).trans (by
        rcases (by omega : j = 0 ∨ j = 1) with rfl | rfl <;> rfl))
      (fun j hj => by
        rcases (by omega : j = 0 ∨ j = 1) with rfl | rfl
        · exact HR.out.ext (hW.alloc _)
        · exact ⟨rfl, none, 0, rfl, Nat.le_refl _, Nat.zero_le _, fun h => absurd h (by simp)⟩)
    rw [e1, e2, show (W.alloc (.cells #[.slice a ys.length cap, .slice none 0 0] t)).heap.size = W.heap.size + 1 by simp] at this
    exact this
  have el : (ys.mergeSort fun x y => decide (x ≤ y)).length = ys.length := by simp
  have HEL := Lib.hid el
  have HF : Hid (unF ys = Lib.compact (ys.mergeSort fun x y => decide (x ≤ y))) := rfl
  clear e1 e2 el
  go_enter Try.func132, Try.ntmps132
  go_wp2_with fail
  refine (HCC _ _ (Ext.refl _)).out.mono ?_
  rintro e w1 ⟨v1, rfl, o1, hx1⟩
  have O1 : Hid (w1.ownsRow w.heap.size 3 1 v1 ys.length (IL ys)) := own_base o1 (by omega)
  obtain ⟨a1, cc1, rfl, _, _, _⟩ := own_shape o1
  have HX1 : Hid (Ext w w1) := ((Ext.refl w).alloc _).trans hx1
  clear o1 hx1
  go_wp2_with fail
  refine (sortI_any w1 (by omega) O1.out).mono ?_
  rintro e w2 ⟨rfl, o2, g2⟩
  have HX2 : Hid (Ext w w2) := Ext.grown HX1.out g2 (fun k hk => (O1.out.lt k hk).1)
  have O2 : Hid (w2.ownsRow w.heap.size 3 1 (.slice a1 ys.length cc1) (ys.mergeSort fun x y => decide (x ≤ y)).length (IL (ys.mergeSort fun x y => decide (x ≤ y)))) := by rw [Hid, HEL.out]; exact o2
  clear o2 g2
  go_wp2_with fail
  refine (compactI_any w2 (by rw [HEL.out]; omega) O2.out).mono ?_
  rintro e w3 ⟨v3, rfl, o3, g3⟩
  have HX3 : Hid (Ext w w3) := Ext.grown HX2.out g3 (fun k hk => (O2.out.lt k hk).1)
  rw [← HF.out] at o3
  have O3 := Lib.hid o3
  clear o3 g3
  go_wp2
  go_ret
  exact ⟨_, rfl, O3.out, HX3.out⟩

theorem usedBy_any {v : Value} {m : Nat} {xs : List Int} (hm : m ≤ 400) (w : World) (h : RV w 3 v m xs) :
    Calls Try.prog 109 #[v] w fun e w' => ∃ v', e = .returned v' ∧ w'.ownsRow w.heap.size 3 1 v' (useJ xs m).length (IL (useJ xs m)) ∧ Ext w w' := by
  have := usedBy_of unF (fun v n ys w hn h => union_any v n ys w hn h) hm w h
  rw [unF_use] at this
  exact this

set_option maxRecDepth 20000 in
set_option maxHeartbeats 2000000 in
theorem usedQubits_any {v : Value} {m : Nat} {xs : List Int} (hm : m ≤ 2000000) (w : World) (h : RV w 3 v m xs) :
    Calls Try.prog 57 #[v] w fun e w' => ∃ v', e = .returned (.tuple #[v', .bool (uqO xs m)]) ∧ w'.ownsRow w.heap.size 3 1 v' (uqV xs m).length (IL (uqV xs m)) ∧ Ext w w' := by
  have HG := fun w' (hx : Ext w w') => Lib.hid (areGates_any 5 (by decide) hm w' (h.ext hx))
  have HU := fun (hm : m ≤ 400) w' (hx : Ext w w') => Lib.hid (usedBy_any hm w' (h.ext hx))
  have HV : Hid (uqV xs m = if uqO xs m then useJ xs m else []) := rfl
  have HO : Hid (uqO xs m = (gAll 5 xs m && decide ((m : Int) ≤ 400))) := rfl
  obtain ⟨hl, a, cap, rfl, c1, c2, H⟩ := h
  clear H hl
  generalize uqV xs m = V at *
  generalize uqO xs m = o at *
  generalize gAll 5 xs m = g at *
  go_enter Try.func57, Try.ntmps57
  go_wp2_with fail
  refine (HG w (Ext.refl _)).out.mono ?_
  rintro e w1 ⟨rfl, hx1⟩
  cases g
  · have HO2 : Hid (o = false) := HO.out.trans (by simp)
    have HV2 : Hid (V = []) := HV.out.trans (by rw [HO2.out]; rfl)
    go_wp2
    go_ret2
    rw [HV2.out, HO2.out]
    exact ⟨_, rfl, own_nil _ _ _ _, hx1⟩
  by_cases h4 : (m : Int) ≤ 400
  · have HO2 : Hid (o = true) := HO.out.trans (by simp; omega)
    have HV2 : Hid (V = useJ xs m) := HV.out.trans (by rw [HO2.out]; rfl)
    have h4' : ¬ (400 : Int) < m := by omega
    go_wp2_with fail
    refine (HU (by omega) w1 hx1).out.mono ?_
    rintro e w2 ⟨v2, rfl, o2, hx2⟩
    have O2 := Lib.hid o2
    clear o2
    go_wp2
    go_ret2
    rw [HV2.out, HO2.out]
    exact ⟨_, rfl, own_base O2.out hx1.size, hx1.trans hx2⟩
  · have HO2 : Hid (o = false) := HO.out.trans (by simp; omega)
    have HV2 : Hid (V = []) := HV.out.trans (by rw [HO2.out]; rfl)
    have h4' : (400 : Int) < m := by omega
    go_wp2
    go_ret2
    rw [HV2.out, HO2.out]
    exact ⟨_, rfl, own_nil _ _ _ _, hx1⟩

theorem uqV_len (xs : List Int) (m : Nat) : (uqV xs m).length ≤ 2 * m := by
  unfold uqV
  split
  · exact useJ_len xs m
  · exact Nat.zero_le _

end Go.Proofs.Ytjeahopiejcopaa
