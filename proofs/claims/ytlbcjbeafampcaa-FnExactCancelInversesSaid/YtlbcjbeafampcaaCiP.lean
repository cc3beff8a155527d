/- Inverses that cancel: the program's side, one step. -/
import Derived.Test.YtlbcjbeafampcaaCiL
import Derived.Test.YtlbcjbeafampcaaCgP
import Derived.Deep.CutRange
import Derived.Deep.CutBlock
import Derived.Deep.RegionHeld3
namespace Go.Proofs.Ytlbcjbeafampcaa
open Go.RowKit Go.Lib
set_option linter.unusedVariables false
set_option linter.unusedSimpArgs false

theorem mtC_any (x k a b : Int) (B : Nat) (w : World) (hB : w.heap[B]? = some (.cells #[.int .i64 k, .int .i64 a, .int .i64 b] 73 (0, 0))) :
    Calls Try.prog 92 #[.int .i64 x, .pointer (some ⟨B, 0, none⟩)] w fun e w' => e = .returned (.bool (hasTo (qL k a b) x (qL k a b).length)) ∧ Ext w w' := by
  have HQ := fun w' => Lib.hid (qubitsOf_any k a b w')
  have HRV := fun (w' : World) base v (h : w'.ownsRow base 3 1 v (qL k a b).length (IL (qL k a b))) => rv_ql h
  have HC := fun v w' (h : RV w' 1 v (qL k a b).length (qL k a b)) => Lib.hid (contains_any x (by have := qL_len k a b; omega) w' h)
  generalize hql : (qL k a b).length = l at *
  generalize qL k a b = L at *
  clear hql
  have z := fun q => cell_of_row _ _ q _ _ _ hB
  have lz := (Array.getElem?_eq_some_iff.1 hB).1
  clear hB
  go_enter Try.func92, Try.ntmps92
  go_wp2_with fail
  refine (HQ _).out.mono ?_
  rintro e w1 ⟨v, rfl, o1, hx1⟩
  have hR1 := Lib.hid (HRV _ _ _ o1)
  obtain ⟨a2, c2, rfl, _, _, _⟩ := own_shape o1
  clear o1
  go_wp2_with fail
  refine (HC _ _ hR1.out).out.mono ?_
  rintro e w2 ⟨rfl, rfl⟩
  go_wp2
  go_ret
  exact ⟨rfl, (by repeat (first | (with_reducible refine Ext.setCell ?_ (by first | (simp; done) | (simp; omega)) _) | with_reducible refine Ext.alloc ?_ _ | with_reducible refine Ext.drew ?_ | with_reducible refine Ext.drewN ?_ _ | with_reducible assumption | with_reducible exact Ext.refl _ | with_reducible refine Ext.trans ?_ (by with_reducible assumption)))⟩

set_option maxHeartbeats 2000000 in
theorem mtI_any (k a b : Int) (B : Nat) {v : Value} {n : Nat} {xs : List Int} (hn : n ≤ 2000000) (w : World) (h : RV w 1 v n xs) (hB : w.heap[B]? = some (.cells #[.int .i64 k, .int .i64 a, .int .i64 b] 73 (0, 0))) :
    Calls Try.prog 86 #[v, .func (.func 92) #[] #[.pointer (some ⟨B, 0, none⟩)]] w fun e w' => (∃ r : Int, e = .returned (.int .i64 r) ∧ decide (0 ≤ r) = inTo xs (qL k a b) (qL k a b).length n) ∧ Ext w w' := by
  have HCl := fun x w' (hx : Ext w w') => Lib.hid (mtC_any x k a b B w' ((hx.heap (Array.getElem?_eq_some_iff.1 hB).1).trans hB))
  generalize hqs : qL k a b = qs at *
  generalize hm : qs.length = m at *
  clear hm hqs
  obtain ⟨hl, a, cap, rfl, c1, c2, H⟩ := h
  have HH := Lib.hid H
  have HL := Lib.hid hl
  clear H hl hB
  go_enter Try.func86, Try.ntmps86
  go_wp2
  go_loopw [5, 8] (fun _ i wr => ∃ j : Nat, j ≤ n ∧ i = .int .i64 j ∧ Hid (inTo xs qs m j = false) ∧ Ext w wr) (fun _ i _ => n - (intOf i).toNat)
  case atStart => exact ⟨0, by omega, rfl, rfl, (by repeat (first | exact Ext.refl _ | assumption | refine Ext.alloc ?_ _ | refine Ext.drew ?_ | refine Ext.drewN ?_ _ | refine Ext.setCell ?_ (by first | omega | (dsimp only; omega) | (simp; done) | (simp; omega)) _ | refine Ext.trans ?_ (by assumption)))⟩
  case round =>
    obtain ⟨j, hj, rfl, HO, hE⟩ := hrel
    by_cases hlt : j < n
    · have hlt' : (j : Int) < n := by omega
      have HS : Hid (inTo xs qs m (j + 1) = (inTo xs qs m j || hasTo qs (at3 xs j) m)) := by unfold Hid inTo; rw [allTo_succ]; simp
      have HF : Hid ((hasTo qs (at3 xs j) m) = true → inTo xs qs m n = true) := fun h => by unfold inTo; rw [allTo_false (k := j) (by rw [h]; rfl) hlt]; rfl
      obtain ⟨b, off, rfl, hbk, hcell⟩ := HH.out (by omega)
      have hbr : b < wr.heap.size := by have := hE.size; omega
      have z0 : wr.cell? ⟨b, off + j, none⟩ = some (.int .i64 (at3 xs (j))) := (hE.cells.1 b (off + (j)) hbk).trans (hcell _ _ (at3_get (by have := HL.out; omega)))
      clear hcell
      have HC := HCl (at3 xs j) _ hE
      generalize at3 xs j = k0 at *
      generalize hg : (hasTo qs k0 m) = g at *
      clear hg
      cases g
      · go_wp2_with fail
        refine HC.out.mono ?_
        rintro e w2 ⟨rfl, hx2⟩
        obtain ⟨hc2, hf2⟩ := hx2.cells
        have hz2 := hx2.size
        try simp at hz2
        go_wp2
        go_roundw
        case rel => exact ⟨j + 1, by omega, by go_num, by unfold Hid; rw [HS.out, HO.out]; rfl, (by repeat (first | exact Ext.refl _ | assumption | refine Ext.alloc ?_ _ | refine Ext.drew ?_ | refine Ext.drewN ?_ _ | refine Ext.setCell ?_ (by first | omega | (dsimp only; omega) | (simp; done) | (simp; omega)) _ | refine Ext.trans ?_ (by assumption)))⟩
        case measure => simp [intOf]; omega
      · go_wp2_with fail
        refine HC.out.mono ?_
        rintro e w2 ⟨rfl, hx2⟩
        obtain ⟨hc2, hf2⟩ := hx2.cells
        have hz2 := hx2.size
        try simp at hz2
        go_wp2
        go_ret
        exact ⟨⟨_, rfl, by rw [HF.out (by first | rfl | trivial)]; simp⟩, (by repeat (first | exact Ext.refl _ | assumption | refine Ext.alloc ?_ _ | refine Ext.drew ?_ | refine Ext.drewN ?_ _ | refine Ext.setCell ?_ (by first | omega | (dsimp only; omega) | (simp; done) | (simp; omega)) _ | refine Ext.trans ?_ (by assumption)))⟩
    · obtain rfl : j = n := by omega
      go_wp2
      go_ret
      exact ⟨⟨_, rfl, by rw [HO.out]; rfl⟩, (by repeat (first | exact Ext.refl _ | assumption | refine Ext.alloc ?_ _ | refine Ext.drew ?_ | refine Ext.drewN ?_ _ | refine Ext.setCell ?_ (by first | omega | (dsimp only; omega) | (simp; done) | (simp; omega)) _ | refine Ext.trans ?_ (by assumption)))⟩

theorem mtF_any (k a b : Int) (B : Nat) {v : Value} {n : Nat} {xs : List Int} (hn : n ≤ 2000000) (w : World) (h : RV w 1 v n xs) (hB : w.heap[B]? = some (.cells #[.int .i64 k, .int .i64 a, .int .i64 b] 73 (0, 0))) :
    Calls Try.prog 69 #[v, .func (.func 92) #[] #[.pointer (some ⟨B, 0, none⟩)]] w fun e w' => e = .returned (.bool (inTo xs (qL k a b) (qL k a b).length n)) ∧ Ext w w' := by
  have HI := Lib.hid (mtI_any k a b B hn w h hB)
  obtain ⟨_, a, cap, rfl, _⟩ := h
  clear hB
  go_enter Try.func69, Try.ntmps69
  go_wp2_with fail
  refine HI.out.mono ?_
  rintro e w1 ⟨⟨r, rfl, hr⟩, hx1⟩
  have HR := Lib.hid hr
  clear hr
  go_wp2
  go_ret
  exact ⟨ret_bool HR.out, hx1⟩

set_option maxHeartbeats 2000000 in
theorem meet_any (k a b k' a' b' : Int) (w : World) :
    Calls Try.prog 82 #[.agg #[.int .i64 k, .int .i64 a, .int .i64 b], .agg #[.int .i64 k', .int .i64 a', .int .i64 b']] w fun e w' => e = .returned (.bool (mtB k a b k' a' b')) ∧ Ext w w' := by
  have HQ := fun w' => Lib.hid (qubitsOf_any k a b w')
  have HRV := fun (w' : World) base v (h : w'.ownsRow base 3 1 v (qL k a b).length (IL (qL k a b))) => rv_ql h
  have HF := fun B v w' (h : RV w' 1 v (qL k a b).length (qL k a b)) hB => Lib.hid (mtF_any k' a' b' B (by have := qL_len k a b; omega) w' h hB)
  have HV : Hid (inTo (qL k a b) (qL k' a' b') (qL k' a' b').length (qL k a b).length = mtB k a b k' a' b') := mt_in k a b k' a' b'
  generalize mtB k a b k' a' b' = V at *
  generalize inTo (qL k a b) (qL k' a' b') (qL k' a' b').length (qL k a b).length = V' at *
  obtain rfl : V' = V := HV.out
  clear HV
  generalize hql : (qL k a b).length = l at *
  generalize qL k a b = L at *
  clear hql
  go_enter Try.func82, Try.ntmps82
  go_wp2_with fail
  refine (HQ _).out.mono ?_
  rintro e w1 ⟨v, rfl, o1, hx1⟩
  have hB1 : Hid (w1.heap[w.heap.size + 1]? = some (.cells #[.int .i64 k', .int .i64 a', .int .i64 b'] 73 (0, 0))) := (hx1.heap (by simp)).trans (heap_alloc_at _ _ _ (by simp))
  have hR1 := Lib.hid (HRV _ _ _ o1)
  obtain ⟨a2, c2, rfl, _, _, _⟩ := own_shape o1
  clear o1
  go_wp2_with fail
  refine (HF _ _ _ hR1.out hB1.out).out.mono ?_
  rintro e w2 ⟨rfl, hx2⟩
  go_wp2
  go_ret
  exact ⟨rfl, (by repeat (first | (with_reducible refine Ext.setCell ?_ (by first | (simp; done) | (simp; omega)) _) | with_reducible refine Ext.alloc ?_ _ | with_reducible refine Ext.drew ?_ | with_reducible refine Ext.drewN ?_ _ | with_reducible assumption | with_reducible exact Ext.refl _ | with_reducible refine Ext.trans ?_ (by with_reducible assumption)))⟩

set_option maxHeartbeats 2000000 in
theorem inverseGate_any (k a b : Int) (hk : gOk 5 k a b = true) (w : World) :
    Calls Try.prog 83 #[.agg #[.int .i64 k, .int .i64 a, .int .i64 b]] w fun e w' => (∃ r : Int, e = .returned (.tuple #[.agg #[.int .i64 (bkK k), .int .i64 a, .int .i64 b], .int .i64 r, .bool true])) ∧ Ext w w' := by
  have HV := fun w' => Lib.hid (isValidGate_any 5 k a b w')
  have hw5 : (Wn 5 1 5 && gOk 5 k a b) = true := by rw [hk]; rfl
  simp only [hw5] at HV
  clear hk hw5
  by_cases h5 : k = 5
  · subst h5
    go_enter Try.func83, Try.ntmps83
    go_wp2_with fail
    refine (HV _).out.mono ?_
    rintro e w1 ⟨rfl, hx1⟩
    have hA1 : w1.heap[w.heap.size]? = some (.cells #[.int .i64 5, .int .i64 a, .int .i64 b] 73 (0, 0)) := (hx1.heap (by simp; omega)).trans (heap_alloc_lt (heap_alloc_new _ _))
    have hR1 : w1.heap[w.heap.size + 1]? = some (.cells #[.int .i64 0, .int .i64 0, .int .i64 0] 73 (0, 0)) := (hx1.heap (by simp)).trans (heap_alloc_at _ _ _ (by simp))
    have hE1 : Ext w w1 := (by repeat (first | (with_reducible refine Ext.setCell ?_ (by first | (simp; done) | (simp; omega)) _) | with_reducible refine Ext.alloc ?_ _ | with_reducible refine Ext.drew ?_ | with_reducible refine Ext.drewN ?_ _ | with_reducible assumption | with_reducible exact Ext.refl _ | with_reducible refine Ext.trans ?_ (by with_reducible assumption)))
    have zA := fun q => cell_of_row _ _ q _ _ _ hA1
    have fA := fun q => frozen_of_row _ _ q _ _ hA1
    have lA := (Array.getElem?_eq_some_iff.1 hA1).1
    have zR := fun q => cell_of_row _ _ q _ _ _ hR1
    have fR := fun q => frozen_of_row _ _ q _ _ hR1
    have lR := (Array.getElem?_eq_some_iff.1 hR1).1
    clear hA1 hR1 hx1
    go_wp2
    refine bodyPost_ret (v := .tuple #[.agg #[.int .i64 6, .int .i64 a, .int .i64 b], .int .i64 1, .bool true]) (by simp [results, Try.results83, go_sem, *]) rfl ?_
    exact ⟨⟨_, rfl⟩, (by repeat (first | (with_reducible refine Ext.setCell ?_ (by first | (simp; done) | (simp; omega)) _) | with_reducible refine Ext.alloc ?_ _ | with_reducible refine Ext.drew ?_ | with_reducible refine Ext.drewN ?_ _ | with_reducible assumption | with_reducible exact Ext.refl _ | with_reducible refine Ext.trans ?_ (by with_reducible assumption)))⟩
  by_cases h6 : k = 6
  · subst h6
    go_enter Try.func83, Try.ntmps83
    go_wp2_with fail
    refine (HV _).out.mono ?_
    rintro e w1 ⟨rfl, hx1⟩
    have hA1 : w1.heap[w.heap.size]? = some (.cells #[.int .i64 6, .int .i64 a, .int .i64 b] 73 (0, 0)) := (hx1.heap (by simp; omega)).trans (heap_alloc_lt (heap_alloc_new _ _))
    have hR1 : w1.heap[w.heap.size + 1]? = some (.cells #[.int .i64 0, .int .i64 0, .int .i64 0] 73 (0, 0)) := (hx1.heap (by simp)).trans (heap_alloc_at _ _ _ (by simp))
    have hE1 : Ext w w1 := (by repeat (first | (with_reducible refine Ext.setCell ?_ (by first | (simp; done) | (simp; omega)) _) | with_reducible refine Ext.alloc ?_ _ | with_reducible refine Ext.drew ?_ | with_reducible refine Ext.drewN ?_ _ | with_reducible assumption | with_reducible exact Ext.refl _ | with_reducible refine Ext.trans ?_ (by with_reducible assumption)))
    have zA := fun q => cell_of_row _ _ q _ _ _ hA1
    have fA := fun q => frozen_of_row _ _ q _ _ hA1
    have lA := (Array.getElem?_eq_some_iff.1 hA1).1
    have zR := fun q => cell_of_row _ _ q _ _ _ hR1
    have fR := fun q => frozen_of_row _ _ q _ _ hR1
    have lR := (Array.getElem?_eq_some_iff.1 hR1).1
    clear hA1 hR1 hx1
    go_wp2
    refine bodyPost_ret (v := .tuple #[.agg #[.int .i64 5, .int .i64 a, .int .i64 b], .int .i64 1, .bool true]) (by simp [results, Try.results83, go_sem, *]) rfl ?_
    exact ⟨⟨_, rfl⟩, (by repeat (first | (with_reducible refine Ext.setCell ?_ (by first | (simp; done) | (simp; omega)) _) | with_reducible refine Ext.alloc ?_ _ | with_reducible refine Ext.drew ?_ | with_reducible refine Ext.drewN ?_ _ | with_reducible assumption | with_reducible exact Ext.refl _ | with_reducible refine Ext.trans ?_ (by with_reducible assumption)))⟩
  by_cases h7 : k = 7
  · subst h7
    go_enter Try.func83, Try.ntmps83
    go_wp2_with fail
    refine (HV _).out.mono ?_
    rintro e w1 ⟨rfl, hx1⟩
    have hA1 : w1.heap[w.heap.size]? = some (.cells #[.int .i64 7, .int .i64 a, .int .i64 b] 73 (0, 0)) := (hx1.heap (by simp; omega)).trans (heap_alloc_lt (heap_alloc_new _ _))
    have hR1 : w1.heap[w.heap.size + 1]? = some (.cells #[.int .i64 0, .int .i64 0, .int .i64 0] 73 (0, 0)) := (hx1.heap (by simp)).trans (heap_alloc_at _ _ _ (by simp))
    have hE1 : Ext w w1 := (by repeat (first | (with_reducible refine Ext.setCell ?_ (by first | (simp; done) | (simp; omega)) _) | with_reducible refine Ext.alloc ?_ _ | with_reducible refine Ext.drew ?_ | with_reducible refine Ext.drewN ?_ _ | with_reducible assumption | with_reducible exact Ext.refl _ | with_reducible refine Ext.trans ?_ (by with_reducible assumption)))
    have zA := fun q => cell_of_row _ _ q _ _ _ hA1
    have fA := fun q => frozen_of_row _ _ q _ _ hA1
    have lA := (Array.getElem?_eq_some_iff.1 hA1).1
    have zR := fun q => cell_of_row _ _ q _ _ _ hR1
    have fR := fun q => frozen_of_row _ _ q _ _ hR1
    have lR := (Array.getElem?_eq_some_iff.1 hR1).1
    clear hA1 hR1 hx1
    go_wp2
    refine bodyPost_ret (v := .tuple #[.agg #[.int .i64 8, .int .i64 a, .int .i64 b], .int .i64 1, .bool true]) (by simp [results, Try.results83, go_sem, *]) rfl ?_
    exact ⟨⟨_, rfl⟩, (by repeat (first | (with_reducible refine Ext.setCell ?_ (by first | (simp; done) | (simp; omega)) _) | with_reducible refine Ext.alloc ?_ _ | with_reducible refine Ext.drew ?_ | with_reducible refine Ext.drewN ?_ _ | with_reducible assumption | with_reducible exact Ext.refl _ | with_reducible refine Ext.trans ?_ (by with_reducible assumption)))⟩
  by_cases h8 : k = 8
  · subst h8
    go_enter Try.func83, Try.ntmps83
    go_wp2_with fail
    refine (HV _).out.mono ?_
    rintro e w1 ⟨rfl, hx1⟩
    have hA1 : w1.heap[w.heap.size]? = some (.cells #[.int .i64 8, .int .i64 a, .int .i64 b] 73 (0, 0)) := (hx1.heap (by simp; omega)).trans (heap_alloc_lt (heap_alloc_new _ _))
    have hR1 : w1.heap[w.heap.size + 1]? = some (.cells #[.int .i64 0, .int .i64 0, .int .i64 0] 73 (0, 0)) := (hx1.heap (by simp)).trans (heap_alloc_at _ _ _ (by simp))
    have hE1 : Ext w w1 := (by repeat (first | (with_reducible refine Ext.setCell ?_ (by first | (simp; done) | (simp; omega)) _) | with_reducible refine Ext.alloc ?_ _ | with_reducible refine Ext.drew ?_ | with_reducible refine Ext.drewN ?_ _ | with_reducible assumption | with_reducible exact Ext.refl _ | with_reducible refine Ext.trans ?_ (by with_reducible assumption)))
    have zA := fun q => cell_of_row _ _ q _ _ _ hA1
    have fA := fun q => frozen_of_row _ _ q _ _ hA1
    have lA := (Array.getElem?_eq_some_iff.1 hA1).1
    have zR := fun q => cell_of_row _ _ q _ _ _ hR1
    have fR := fun q => frozen_of_row _ _ q _ _ hR1
    have lR := (Array.getElem?_eq_some_iff.1 hR1).1
    clear hA1 hR1 hx1
    go_wp2
    refine bodyPost_ret (v := .tuple #[.agg #[.int .i64 7, .int .i64 a, .int .i64 b], .int .i64 1, .bool true]) (by simp [results, Try.results83, go_sem, *]) rfl ?_
    exact ⟨⟨_, rfl⟩, (by repeat (first | (with_reducible refine Ext.setCell ?_ (by first | (simp; done) | (simp; omega)) _) | with_reducible refine Ext.alloc ?_ _ | with_reducible refine Ext.drew ?_ | with_reducible refine Ext.drewN ?_ _ | with_reducible assumption | with_reducible exact Ext.refl _ | with_reducible refine Ext.trans ?_ (by with_reducible assumption)))⟩
  have hb : bkK k = k := by unfold bkK; rw [if_neg h5, if_neg h6, if_neg h7, if_neg h8]
  rw [hb]
  clear hb
  by_cases h12 : k = 12
  · subst h12
    go_enter Try.func83, Try.ntmps83
    go_wp2_with fail
    refine (HV _).out.mono ?_
    rintro e w1 ⟨rfl, hx1⟩
    have hA1 : w1.heap[w.heap.size]? = some (.cells #[.int .i64 12, .int .i64 a, .int .i64 b] 73 (0, 0)) := (hx1.heap (by simp; omega)).trans (heap_alloc_lt (heap_alloc_new _ _))
    have hR1 : w1.heap[w.heap.size + 1]? = some (.cells #[.int .i64 0, .int .i64 0, .int .i64 0] 73 (0, 0)) := (hx1.heap (by simp)).trans (heap_alloc_at _ _ _ (by simp))
    have hE1 : Ext w w1 := (by repeat (first | (with_reducible refine Ext.setCell ?_ (by first | (simp; done) | (simp; omega)) _) | with_reducible refine Ext.alloc ?_ _ | with_reducible refine Ext.drew ?_ | with_reducible refine Ext.drewN ?_ _ | with_reducible assumption | with_reducible exact Ext.refl _ | with_reducible refine Ext.trans ?_ (by with_reducible assumption)))
    have zA := fun q => cell_of_row _ _ q _ _ _ hA1
    have fA := fun q => frozen_of_row _ _ q _ _ hA1
    have lA := (Array.getElem?_eq_some_iff.1 hA1).1
    have zR := fun q => cell_of_row _ _ q _ _ _ hR1
    have fR := fun q => frozen_of_row _ _ q _ _ hR1
    have lR := (Array.getElem?_eq_some_iff.1 hR1).1
    clear hA1 hR1 hx1
    go_wp2
    refine bodyPost_ret (v := .tuple #[.agg #[.int .i64 12, .int .i64 a, .int .i64 b], .int .i64 7, .bool true]) (by simp [results, Try.results83, go_sem, *]) rfl ?_
    exact ⟨⟨_, rfl⟩, (by repeat (first | (with_reducible refine Ext.setCell ?_ (by first | (simp; done) | (simp; omega)) _) | with_reducible refine Ext.alloc ?_ _ | with_reducible refine Ext.drew ?_ | with_reducible refine Ext.drewN ?_ _ | with_reducible assumption | with_reducible exact Ext.refl _ | with_reducible refine Ext.trans ?_ (by with_reducible assumption)))⟩
  go_enter Try.func83, Try.ntmps83
  go_wp2_with fail
  refine (HV _).out.mono ?_
  rintro e w1 ⟨rfl, hx1⟩
  have hA1 : w1.heap[w.heap.size]? = some (.cells #[.int .i64 k, .int .i64 a, .int .i64 b] 73 (0, 0)) := (hx1.heap (by simp; omega)).trans (heap_alloc_lt (heap_alloc_new _ _))
  have hR1 : w1.heap[w.heap.size + 1]? = some (.cells #[.int .i64 0, .int .i64 0, .int .i64 0] 73 (0, 0)) := (hx1.heap (by simp)).trans (heap_alloc_at _ _ _ (by simp))
  have hE1 : Ext w w1 := (by repeat (first | (with_reducible refine Ext.setCell ?_ (by first | (simp; done) | (simp; omega)) _) | with_reducible refine Ext.alloc ?_ _ | with_reducible refine Ext.drew ?_ | with_reducible refine Ext.drewN ?_ _ | with_reducible assumption | with_reducible exact Ext.refl _ | with_reducible refine Ext.trans ?_ (by with_reducible assumption)))
  have zA := fun q => cell_of_row _ _ q _ _ _ hA1
  have fA := fun q => frozen_of_row _ _ q _ _ hA1
  have lA := (Array.getElem?_eq_some_iff.1 hA1).1
  have zR := fun q => cell_of_row _ _ q _ _ _ hR1
  have fR := fun q => frozen_of_row _ _ q _ _ hR1
  have lR := (Array.getElem?_eq_some_iff.1 hR1).1
  clear hA1 hR1 hx1
  go_wp2
  refine bodyPost_ret (v := .tuple #[.agg #[.int .i64 k, .int .i64 a, .int .i64 b], .int .i64 1, .bool true]) (by simp [results, Try.results83, go_sem, *]) rfl ?_
  exact ⟨⟨_, rfl⟩, (by repeat (first | (with_reducible refine Ext.setCell ?_ (by first | (simp; done) | (simp; omega)) _) | with_reducible refine Ext.alloc ?_ _ | with_reducible refine Ext.drew ?_ | with_reducible refine Ext.drewN ?_ _ | with_reducible assumption | with_reducible exact Ext.refl _ | with_reducible refine Ext.trans ?_ (by with_reducible assumption)))⟩

set_option maxRecDepth 20000 in
set_option maxHeartbeats 1000000 in
theorem cloneCi_any {n : Nat} {v : Value} {xs : List Int} (hn : n ≤ 2000000) (w : World) (h : RV w 3 v n xs) :
    Calls Try.prog 50 #[v] w fun e w' => ∃ v', e = .returned v' ∧ w'.ownsRow w.heap.size 73 3 v' n (IL xs) ∧ Ext w w' := by
  have HR := Lib.hid (h.ext ((Ext.refl w).alloc (.cells #[] 73 (0, 0))))
  obtain ⟨hl, a, cap, rfl, c1, c2, H⟩ := h
  cases a with
  | none =>
    have hn0 : n = 0 := by
      rcases Nat.eq_zero_or_pos n with h | h
      · exact h
      · obtain ⟨_, _, h3, _⟩ := H h; cases h3
    subst hn0
    have hx : xs = [] := List.eq_nil_of_length_eq_zero (by omega)
    subst hx
    have heq : ∀ w, (binOp .eql 29 (.slice none 0 cap) (.slice none 0 0)).run Try.prog w = .ok (.bool true) w := fun w => by simpa using run_eql_slice_nil w 29 73 none 0 cap 0 0 Try.underlying29
    clear H HR
    go_enter Try.func50, Try.ntmps50
    go_wp2
    go_ret
    exact ⟨_, rfl, own_nil _ _ _ _, (by repeat (first | exact Ext.refl _ | assumption | refine Ext.alloc ?_ _ | refine Ext.drew ?_ | refine Ext.drewN ?_ _ | refine Ext.setCell ?_ (by first | omega | (dsimp only; omega) | (simp; done) | (simp; omega)) _ | refine Ext.trans ?_ (by assumption)))⟩
  | some ad =>
    have heq : ∀ w, (binOp .eql 29 (.slice (some ad) n cap) (.slice none 0 0)).run Try.prog w = .ok (.bool false) w := fun w => by simpa using run_eql_slice_nil w 29 73 (some ad) n cap 0 0 Try.underlying29
    clear H
    have HO : Hid ((w.alloc (.cells #[] 73)).ownsRow w.heap.size 73 3 (.slice (some ⟨w.heap.size, 0, none⟩) 0 0) 0 (IL [])) := World.ownsRow_lit _ _ 0 (Nat.le_refl _) (by decide) rfl
    go_enter Try.func50, Try.ntmps50
    go_wp2_with (at_builtin; go_loud (refine wpList_append_rv rfl elt_CG rfl _ 0 [] rfl HO.out _ n xs rfl HR.out (by omega) (by simp) ?_); intro v4 w4 hown4 hgrow4 hiff4)
    go_ret
    exact ⟨_, rfl, by simpa using hown4, ext_grownB ((Ext.refl w).alloc _) hgrow4 HO.out (Nat.le_refl _)⟩

set_option maxRecDepth 20000 in
set_option maxHeartbeats 8000000 in
theorem cancelling_any (q : Int) {v : Value} {n : Nat} {xs : List Int} (hc : cOk q xs n = true) (w : World) (h : RV w 3 v n xs) :
    Calls Try.prog 58 #[.agg #[.int .i64 q, v]] w fun e w' => ∃ u0 u1, e = .returned (.tuple #[.agg #[.int .i64 (cR xs n).t, u0, u1], .bool (cOkB xs n)]) ∧
      w'.ownsRow w.heap.size 73 3 u0 (cR xs n).m1 (IL (cR xs n).xs) ∧ w'.ownsRow w.heap.size 73 3 u1 (cR xs n).m2 (IL (cR xs n).ys) ∧ (∀ k, u0.ownBlock = some k → u1.ownBlock = some k → False) ∧ Ext w w' := by
  have hc0 := hc
  unfold cOk at hc0
  simp only [Bool.and_eq_true, decide_eq_true_eq] at hc0
  obtain ⟨k1, k2, k3⟩ := hc0
  have k4 := Wn_iff.1 k1
  have HGO : Hid (∀ j, j < n → gOk 5 (at3 xs (j * 3)) (at3 xs (j * 3 + 1)) (at3 xs (j * 3 + 2)) = true) := fun j hj => gOk_mono k4.2 ((gAll_iff.1 k3) j hj)
  have HM := fun k a b k' a' b' w' => Lib.hid (meet_any k a b k' a' b' w')
  have hn : n ≤ 400 := k2
  clear hc k1 k2 k3 k4
  have HV0 := Lib.hid h
  obtain ⟨hl, a1, cap, rfl, p1, p2, hh⟩ := h
  have HH := Lib.hid hh
  have HL := Lib.hid hl
  clear hh hl
  have HYES : Hid (∀ i, cI xs n = i → i < n → cR xs n = cRat xs i (nxJ xs n i) ∧ cOkB xs n = true) := fun i h1 h2 => cR_yes h1 h2
  have HNO : Hid (cI xs n = n → cR xs n = noP ∧ cOkB xs n = false) := fun h => cR_no h
  have HCI : Hid (cI xs n = fst (ccB xs n) (n - 0) 0) := rfl
  generalize cI xs n = I0 at *
  generalize cR xs n = RR at *
  generalize cOkB xs n = ok at *
  obtain ⟨w1, hw1⟩ : ∃ w1, w1 = (w.alloc (.cells #[.int .i64 q, .slice a1 n cap] 31 (0, 0))).alloc (.cells #[.int .i64 0, .slice none 0 0, .slice none 0 0] 45 (0, 0)) := ⟨_, rfl⟩
  have HA1 : Hid (w1.heap[w.heap.size]? = some (.cells #[.int .i64 q, .slice a1 n cap] 31 (0, 0))) := by rw [hw1]; exact heap_alloc_lt (heap_alloc_new _ _)
  have HR1 : Hid (w1.heap[w.heap.size + 1]? = some (.cells #[.int .i64 0, .slice none 0 0, .slice none 0 0] 45 (0, 0))) := by rw [hw1]; exact heap_alloc_at _ _ _ (by simp)
  have HE1 : Hid (Ext w w1) := by rw [hw1]; exact ((Ext.refl w).alloc _).alloc _
  have hs1 : w.heap.size + 2 ≤ w1.heap.size := by rw [hw1]; simp
  have zA1 := fun k => cell_of_row _ _ k _ _ _ HA1.out
  have lA1 := (Array.getElem?_eq_some_iff.1 HA1.out).1
  go_enter Try.func58, Try.ntmps58
  go_upto_region 1 with fail
  rw [← hw1]
  clear hw1
  go_wp2
  clear zA1
  go_loopw [13] (fun i wr => ∃ j : Nat, j ≤ n ∧ i = .int .i64 j ∧ Hid (I0 = fst (ccB xs n) (n - j) j) ∧ Ext w1 wr) (fun i _ => n - (intOf i).toNat)
  case atStart => exact ⟨0, by omega, rfl, HCI.out, Ext.refl _⟩
  case round =>
    obtain ⟨i, hi, rfl, HO, hE⟩ := hrel
    have hsr := hE.size
    have HEr := Lib.hid hE
    have HEw := Lib.hid (HE1.out.trans hE)
    clear hE
    by_cases hlt : i < n
    case neg =>
      obtain rfl : i = n := by omega
      have HN : Hid (I0 = i) := by
        have := HO.out
        unfold Hid
        rw [this, Nat.sub_self]
        rfl
      have HN2 := Lib.hid (HNO.out HN.out)
      have hR := row_farC HR1.out HEr.out
      have zR := fun k => cell_of_row _ _ k _ _ _ hR
      have fR := fun k => frozen_of_row _ _ k _ _ hR
      have lR := (Array.getElem?_eq_some_iff.1 hR).1
      have hee := HEw.out
      clear hR
      go_wp2
      refine bodyPost_ret (v := .tuple #[.agg #[.int .i64 0, .slice none 0 0, .slice none 0 0], .bool false]) (by simp [results, Try.results58, go_sem, *]) rfl ?_
      obtain ⟨e1, e2⟩ := HN2.out
      rw [e1, e2]
      exact ⟨_, _, rfl, own_nil _ _ _ _, own_nil _ _ _ _, (fun k hk => by simp [Value.ownBlock] at hk), (by repeat (first | (with_reducible refine Ext.setCell ?_ (by first | (simp; done) | (simp; omega)) _) | with_reducible refine Ext.alloc ?_ _ | with_reducible refine Ext.drew ?_ | with_reducible refine Ext.drewN ?_ _ | with_reducible assumption | with_reducible exact Ext.refl _ | with_reducible refine Ext.trans ?_ (by with_reducible assumption)))⟩
    have hlt' : (i : Int) < n := by omega
    have hin := hlt
    have HGI := Lib.hid (HGO.out i hlt)
    obtain ⟨J, hJ0⟩ : ∃ J, nxJ xs n i = J := ⟨_, rfl⟩
    have HJ : Hid (J = fst (mtAt xs i) (n - (i + 1)) (i + 1)) := hJ0.symm
    have hJ1 : i + 1 ≤ J := by rw [HJ.out]; exact fst_ge _ _ _
    have hJ2 : J ≤ n := by have := fst_le (mtAt xs i) (n - (i + 1)) (i + 1); have := HJ.out; omega
    have HMT : Hid (∀ j, mtAt xs i j = mtB (at3 xs (i * 3)) (at3 xs (i * 3 + 1)) (at3 xs (i * 3 + 2)) (at3 xs (j * 3)) (at3 xs (j * 3 + 1)) (at3 xs (j * 3 + 2))) := fun j => rfl
    have HCC : Hid (ccB xs n i = (!(at3 xs (i * 3) == 12) && (decide (J < n) && (decide (J - i < 40) && ((at3 xs (J * 3) == bkK (at3 xs (i * 3))) && ((at3 xs (J * 3 + 1) == at3 xs (i * 3 + 1)) && (at3 xs (J * 3 + 2) == at3 xs (i * 3 + 2)))))))) := by unfold Hid; rw [← hJ0]; rfl
    have HY := Lib.hid (fun h => HYES.out i h hlt)
    rw [hJ0] at HY
    clear hJ0
    have HFY : Hid (ccB xs n i = true → I0 = i) := fun h => HO.out.trans (fst_yes h)
    have HFN : Hid (ccB xs n i = false → I0 = fst (ccB xs n) (n - (i + 1)) (i + 1)) := fun h => by rw [HO.out, fst_no (by omega) h]; rfl
    generalize ccB xs n i = cc at *
    have hE := HEw.out
    obtain ⟨bx, offx, rfl, hbkx, hcellx⟩ := HH.out (by omega)
    have hbrx : bx < wr.heap.size := by have := hE.size; omega
    have zx0 : wr.cell? ⟨bx, offx + i * 3, none⟩ = some (.int .i64 (at3 xs (i * 3))) := (hE.cells.1 bx (offx + (i * 3)) hbkx).trans (hcellx _ _ (at3_get (by have := HL.out; omega)))
    have zx1 : wr.cell? ⟨bx, offx + i * 3 + 1, none⟩ = some (.int .i64 (at3 xs (i * 3 + 1))) := (hE.cells.1 bx (offx + (i * 3 + 1)) hbkx).trans (hcellx _ _ (at3_get (by have := HL.out; omega)))
    have zx2 : wr.cell? ⟨bx, offx + i * 3 + 2, none⟩ = some (.int .i64 (at3 xs (i * 3 + 2))) := (hE.cells.1 bx (offx + (i * 3 + 2)) hbkx).trans (hcellx _ _ (at3_get (by have := HL.out; omega)))
    clear hcellx
    have HCEL : Hid (bx < w.heap.size ∧ ∀ i u, (IL xs)[i]? = some u → w.cell? ⟨bx, offx + i, none⟩ = some u) := by
      obtain ⟨b', o', e1, e2, e3⟩ := HH.out (by omega)
      obtain ⟨rfl, rfl⟩ : bx = b' ∧ offx = o' := by simpa using e1
      exact ⟨e2, e3⟩
    generalize at3 xs (i * 3) = k at *
    generalize at3 xs (i * 3 + 1) = a at *
    generalize at3 xs (i * 3 + 2) = b at *
    obtain ⟨wg, hwg⟩ : ∃ wg, wg = wr.alloc (.cells #[.int .i64 k, .int .i64 a, .int .i64 b] 73 (0, 0)) := ⟨_, rfl⟩
    have HGB : Hid (wg.heap[wr.heap.size]? = some (.cells #[.int .i64 k, .int .i64 a, .int .i64 b] 73 (0, 0))) := by rw [hwg]; exact heap_alloc_new _ _
    have HEg : Hid (Ext wr wg) := by rw [hwg]; exact (Ext.refl _).alloc _
    clear hE
    go_upto_region 4 with fail
    rw [← hwg]
    clear hwg
    have hA := row_farC HA1.out (HEr.out.trans HEg.out)
    have zA := fun k => cell_of_row _ _ k _ _ _ hA
    have lA := (Array.getElem?_eq_some_iff.1 hA).1
    clear hA
    have zG := fun k => cell_of_row _ _ k _ _ _ HGB.out
    have lG := (Array.getElem?_eq_some_iff.1 HGB.out).1
    have hsg := HEg.out.size
    have HEB : Hid (Ext w1 wg) := HEr.out.trans HEg.out
    have HGB2 : Hid (wg.heap[wr.heap.size]? = some (.cells #[.int .i64 k, .int .i64 a, .int .i64 b] 73 (0, 0))) := HGB.out
    have INV := Lib.hid (fun w' => Lib.hid (inverseGate_any k a b HGI.out w'))
    go_upto_block 2 with fail
    clear zA zG lA lG
    go_cut [6, 13] from 14 to 84 (fun uj ui wx => uj = .int .i64 J ∧ ui = .int .i64 i ∧ Ext wg wx)
    case first =>
      go_wp2_with fail
      go_loopw [6] (fun uj wx => ∃ j : Nat, i + 1 ≤ j ∧ j ≤ n ∧ uj = .int .i64 j ∧ Hid (J = fst (mtAt xs i) (n - j) j) ∧ Ext wg wx) (fun uj _ => n - (intOf uj).toNat)
      case atStart => exact ⟨i + 1, by omega, by omega, by go_num, HJ.out, Ext.refl _⟩
      case round =>
        obtain ⟨j, hj1, hj2, rfl, HO2, hE2⟩ := hrel
        have HE2 := Lib.hid hE2
        have hA := row_farC HA1.out (HEB.out.trans hE2)
        have hG := row_farC HGB2.out hE2
        have zA := fun k => cell_of_row _ _ k _ _ _ hA
        have lA := (Array.getElem?_eq_some_iff.1 hA).1
        have zG := fun k => cell_of_row _ _ k _ _ _ hG
        have lG := (Array.getElem?_eq_some_iff.1 hG).1
        have hE := HE1.out.trans (HEB.out.trans hE2)
        clear hA hG hE2
        by_cases hjn : j < n
        case neg =>
          obtain rfl : j = n := by omega
          obtain rfl : J = j := by rw [HO2.out, Nat.sub_self]; rfl
          have hnlt : ¬ ((J : Int) < J) := by omega
          clear hE
          go_wp2
          refine wp_region_madeC (m := 86) (by kernel_rfl) (by kernel_rfl) rfl (fun hxc => ?_)
          repeat (refine mw_quiet ?_; apply Exists.intro; refine ⟨fun σ => ?_, ?_⟩; (first | (go_simp; rfl) | (go_simp; intro x; first | (go_at_call 82; exact (HM _ _ _ _ _ _ x.w).out))); simp only [Act.put, List.setIfInBounds_toArray, List.set_cons_succ, List.set_cons_zero, List.nil_append, List.cons_append])
          refine ⟨by kernel_rfl, fun σ w4 hF4 => ?_⟩
          have hx4 := hF4.ext
          clear hF4 hxc
          obtain ⟨hc4, hf4⟩ := hx4.cells
          have hz4 := hx4.size
          try simp at hz4
          go_wp2
          go_meet
          exact ⟨rfl, rfl, HE2.out.trans hx4⟩
        have hjn' : (j : Int) < n := by omega
        have HMJ := Lib.hid (HMT.out j)
        have HFY2 : Hid (mtAt xs i j = true → J = j) := fun h => HO2.out.trans (fst_yes h)
        have HFN2 : Hid (mtAt xs i j = false → J = fst (mtAt xs i) (n - (j + 1)) (j + 1)) := fun h => by rw [HO2.out, fst_no (by omega) h]; rfl
        have HMM := fun k' a' b' w' => HM k a b k' a' b' w'
        have hbr2 : bx < wr.heap.size := by have := hE.size; have := HCEL.out.1; omega
        have zy0 : wr.cell? ⟨bx, offx + j * 3, none⟩ = some (.int .i64 (at3 xs (j * 3))) := (hE.cells.1 bx (offx + (j * 3)) HCEL.out.1).trans (HCEL.out.2 _ _ (at3_get (by have := HL.out; omega)))
        have zy1 : wr.cell? ⟨bx, offx + j * 3 + 1, none⟩ = some (.int .i64 (at3 xs (j * 3 + 1))) := (hE.cells.1 bx (offx + (j * 3 + 1)) HCEL.out.1).trans (HCEL.out.2 _ _ (at3_get (by have := HL.out; omega)))
        have zy2 : wr.cell? ⟨bx, offx + j * 3 + 2, none⟩ = some (.int .i64 (at3 xs (j * 3 + 2))) := (hE.cells.1 bx (offx + (j * 3 + 2)) HCEL.out.1).trans (HCEL.out.2 _ _ (at3_get (by have := HL.out; omega)))
        generalize at3 xs (j * 3) = k' at *
        generalize at3 xs (j * 3 + 1) = a' at *
        generalize at3 xs (j * 3 + 2) = b' at *
        have HMK := fun w' => HMM k' a' b' w'
        generalize mtAt xs i j = g at *
        have hgm : mtB k a b k' a' b' = g := HMJ.out.symm
        simp only [hgm] at HMK
        clear hE HMM hgm HMJ
        go_wp2
        refine wp_region_madeC (m := 86) (by kernel_rfl) (by kernel_rfl) rfl (fun hxc => ?_)
        repeat (refine mw_quiet ?_; apply Exists.intro; refine ⟨fun σ => ?_, ?_⟩; (first | (go_simp; rfl) | (go_simp; intro x; first | (go_at_call 82; exact (HMK x.w).out))); simp only [Act.put, List.setIfInBounds_toArray, List.set_cons_succ, List.set_cons_zero, List.nil_append, List.cons_append])
        refine ⟨by kernel_rfl, fun σ w4 hF4 => ?_⟩
        have hx4 := hF4.ext
        clear hF4 hxc
        obtain ⟨hc4, hf4⟩ := hx4.cells
        have hz4 := hx4.size
        try simp at hz4
        cases g
        · go_wp2
          go_roundw
          case rel => exact ⟨j + 1, by omega, by omega, by go_num, HFN2.out rfl, HE2.out.trans hx4⟩
          case measure => simp [intOf]; omega
        · obtain rfl : J = j := HFY2.out rfl
          go_wp2
          go_meet
          exact ⟨rfl, rfl, HE2.out.trans hx4⟩
    case rest =>
      obtain ⟨rfl, rfl, hE2⟩ := hcut
      have HE2 := Lib.hid hE2
      have hA := row_farC HA1.out (HEB.out.trans HE2.out)
      have hG := row_farC HGB2.out HE2.out
      have zA := fun k => cell_of_row _ _ k _ _ _ hA
      have lA := (Array.getElem?_eq_some_iff.1 hA).1
      have zG := fun k => cell_of_row _ _ k _ _ _ hG
      have lG := (Array.getElem?_eq_some_iff.1 hG).1
      clear hA hG
      go_wp2_with fail
      refine (INV.out _).out.mono ?_
      rintro e w4 ⟨⟨r, rfl⟩, hx4⟩
      obtain ⟨wb, hwb⟩ : ∃ wb, wb = w4.alloc (.cells #[.int .i64 (bkK k), .int .i64 a, .int .i64 b] 73 (0, 0)) := ⟨_, rfl⟩
      have HBB : Hid (wb.heap[w4.heap.size]? = some (.cells #[.int .i64 (bkK k), .int .i64 a, .int .i64 b] 73 (0, 0))) := by rw [hwb]; exact heap_alloc_new _ _
      have HEb : Hid (Ext wg wb) := by rw [hwb]; exact (HE2.out.trans hx4).alloc _
      have hBK : ∃ B, B = w4.heap.size := ⟨_, rfl⟩
      clear zA zG lA lG
      go_upto_region 8 with fail
      rw [← hwb]
      obtain ⟨B, hB⟩ := hBK
      rw [← hB] at HBB ⊢
      clear hwb hx4 hB INV
      have hA := row_farC HA1.out (HEB.out.trans HEb.out)
      have hG := row_farC HGB2.out HEb.out
      have zA := fun k => cell_of_row _ _ k _ _ _ hA
      have lA := (Array.getElem?_eq_some_iff.1 hA).1
      have zG := fun k => cell_of_row _ _ k _ _ _ hG
      have lG := (Array.getElem?_eq_some_iff.1 hG).1
      have zB := fun k => cell_of_row _ _ k _ _ _ HBB.out
      have lB := (Array.getElem?_eq_some_iff.1 HBB.out).1
      clear hA hG
      have HTR : Hid (cc = true → J < n ∧ J - i < 40) := fun h => by
        have h2 := HCC.out
        rw [h] at h2
        have h3 := h2.symm
        simp only [Bool.and_eq_true, decide_eq_true_eq] at h3
        exact ⟨h3.2.1, h3.2.2.1⟩
      have hwJ : IntKind.i64.wrap ((J : Int) - i) = (J : Int) - i := IntWalk.i64_in _ (by omega)
      have hwJ2 : wrap64 ((J : Int) - i) = (J : Int) - i := by rw [← IntWalk.i64_left]; exact hwJ
      generalize bkK k = kb at *
      go_cut [67] from 84 to 84 (fun uc wx => uc = .bool cc ∧ Ext wb wx)
      case first =>
        have hE := HE1.out.trans (HEB.out.trans HEb.out)
        by_cases h12 : k = 12
        · have e : cc = false := by rw [HCC.out, h12]; rfl
          subst h12
          subst e
          clear HCC HFY HFN hE
          go_wp2
          refine wp_region_madeC (m := 86) (by kernel_rfl) (by kernel_rfl) rfl (fun hxc => ?_)
          repeat (refine mw_quiet ?_; apply Exists.intro; refine ⟨fun σ => ?_, ?_⟩; (first | (go_simp; rfl) | fail); simp only [Act.put, List.setIfInBounds_toArray, List.set_cons_succ, List.set_cons_zero, List.nil_append, List.cons_append])
          refine ⟨by kernel_rfl, fun σ w5 hF5 => ?_⟩
          have hx5 := hF5.ext
          clear hF5 hxc
          obtain ⟨hc5, hf5⟩ := hx5.cells
          have hz5 := hx5.size
          try simp at hz5
          go_wp2
          go_meet
          exact ⟨rfl, hx5⟩
        have e12 : (k == 12) = false := by simpa using h12
        have n12 : (k != 12) = true := by simp [h12]
        rw [e12] at HCC
        by_cases hJn : J < n
        case neg =>
          have hJn' : ¬ ((J : Int) < n) := by omega
          have e : cc = false := by rw [HCC.out, decide_eq_false hJn]; rfl
          subst e
          clear HCC HFY HFN hE e12
          go_wp2
          refine wp_region_madeC (m := 86) (by kernel_rfl) (by kernel_rfl) rfl (fun hxc => ?_)
          repeat (refine mw_quiet ?_; apply Exists.intro; refine ⟨fun σ => ?_, ?_⟩; (first | (go_simp; rfl) | fail); simp only [Act.put, List.setIfInBounds_toArray, List.set_cons_succ, List.set_cons_zero, List.nil_append, List.cons_append])
          refine ⟨by kernel_rfl, fun σ w5 hF5 => ?_⟩
          have hx5 := hF5.ext
          clear hF5 hxc
          obtain ⟨hc5, hf5⟩ := hx5.cells
          have hz5 := hx5.size
          try simp at hz5
          go_wp2
          go_meet
          exact ⟨rfl, hx5⟩
        have hJn' : (J : Int) < n := by omega
        by_cases hJi : J - i < 40
        case neg =>
          have hJi' : ¬ ((J : Int) - i < 40) := by omega
          have d40 : decide ((J : Int) - i < 40) = false := decide_eq_false hJi'
          have e : cc = false := by rw [HCC.out, decide_eq_false hJi]; simp
          subst e
          clear HCC HFY HFN hE e12
          go_wp2
          refine wp_region_madeC (m := 86) (by kernel_rfl) (by kernel_rfl) rfl (fun hxc => ?_)
          repeat (refine mw_quiet ?_; apply Exists.intro; refine ⟨fun σ => ?_, ?_⟩; (first | (go_simp; rfl) | fail); simp only [Act.put, List.setIfInBounds_toArray, List.set_cons_succ, List.set_cons_zero, List.nil_append, List.cons_append])
          refine ⟨by kernel_rfl, fun σ w5 hF5 => ?_⟩
          have hx5 := hF5.ext
          clear hF5 hxc
          obtain ⟨hc5, hf5⟩ := hx5.cells
          have hz5 := hx5.size
          try simp at hz5
          go_wp2
          go_meet
          exact ⟨rfl, hx5⟩
        have hJi' : (J : Int) - i < 40 := by omega
        have d40 : decide ((J : Int) - i < 40) = true := decide_eq_true hJi'
        have hbr2 : bx < wb.heap.size := by have := hE.size; have := HCEL.out.1; omega
        have zy0 : wb.cell? ⟨bx, offx + J * 3, none⟩ = some (.int .i64 (at3 xs (J * 3))) := (hE.cells.1 bx (offx + (J * 3)) HCEL.out.1).trans (HCEL.out.2 _ _ (at3_get (by have := HL.out; omega)))
        have zy1 : wb.cell? ⟨bx, offx + J * 3 + 1, none⟩ = some (.int .i64 (at3 xs (J * 3 + 1))) := (hE.cells.1 bx (offx + (J * 3 + 1)) HCEL.out.1).trans (HCEL.out.2 _ _ (at3_get (by have := HL.out; omega)))
        have zy2 : wb.cell? ⟨bx, offx + J * 3 + 2, none⟩ = some (.int .i64 (at3 xs (J * 3 + 2))) := (hE.cells.1 bx (offx + (J * 3 + 2)) HCEL.out.1).trans (HCEL.out.2 _ _ (at3_get (by have := HL.out; omega)))
        have HCC2 : Hid (cc = ((at3 xs (J * 3) == kb) && ((at3 xs (J * 3 + 1) == a) && (at3 xs (J * 3 + 2) == b)))) := by unfold Hid; rw [HCC.out, decide_eq_true hJn, decide_eq_true hJi]; rfl
        clear HCC
        generalize at3 xs (J * 3) = y0 at *
        generalize at3 xs (J * 3 + 1) = y1 at *
        generalize at3 xs (J * 3 + 2) = y2 at *
        have heql := fun w => eql_gate y0 y1 y2 kb a b w
        generalize hg : ((y0 == kb) && ((y1 == a) && (y2 == b))) = g at *
        obtain rfl : cc = g := HCC2.out
        clear hg HCC2 hE e12
        go_wp2
        refine wp_region_madeC (m := 86) (by kernel_rfl) (by kernel_rfl) rfl (fun hxc => ?_)
        repeat (refine mw_quiet ?_; apply Exists.intro; refine ⟨fun σ => ?_, ?_⟩; (first | (go_simp; rfl) | fail); simp only [Act.put, List.setIfInBounds_toArray, List.set_cons_succ, List.set_cons_zero, List.nil_append, List.cons_append])
        refine ⟨by kernel_rfl, fun σ w5 hF5 => ?_⟩
        have hx5 := hF5.ext
        clear hF5 hxc
        obtain ⟨hc5, hf5⟩ := hx5.cells
        have hz5 := hx5.size
        try simp at hz5
        go_wp2
        go_meet
        exact ⟨by first | rfl | simp [h12], hx5⟩
      case rest =>
        obtain ⟨rfl, hE5⟩ := hcut
        clear hwJ hwJ2 zA lA zG lG zB lB
        have HE5 := Lib.hid (HEB.out.trans (HEb.out.trans hE5))
        clear hE5
        cases cc
        · go_wp2
          go_roundw
          case rel => exact ⟨i + 1, by omega, by go_num, HFN.out rfl, HE5.out⟩
          case measure => simp [intOf]; omega
        obtain ⟨t1, t2⟩ := HTR.out rfl
        obtain ⟨e1, e2⟩ := HY.out (HFY.out rfl)
        have HE12 := Lib.hid (And.intro e1 e2)
        obtain ⟨w5, rfl⟩ : ∃ w5, w5 = wc := ⟨_, rfl⟩
        have hA := row_farC HA1.out HE5.out
        have hR := row_farC HR1.out HE5.out
        have HR5 := Lib.hid hR
        have zA := fun k => cell_of_row _ _ k _ _ _ hA
        have lA := (Array.getElem?_eq_some_iff.1 hA).1
        clear hA hR e1 e2 HFY HFN HCC HTR HY
        have HEw5 := Lib.hid (HE1.out.trans HE5.out)
        have hs5 := HE5.out.size
        have hRV := fun W (hW : Ext w5 W) => HV0.out.ext (HEw5.out.trans hW)
        obtain ⟨K, hK⟩ : ∃ K, K = J - i + 1 := ⟨_, rfl⟩
        obtain ⟨L, hL⟩ : ∃ L, L = J - i - 1 := ⟨_, rfl⟩
        have q5 : J + 1 - i = K := by omega
        have r5 : J - (i + 1) = L := by omega
        have HR1v : Hid (∀ W, Ext w5 W → RV W 3 (.slice (some ⟨bx, offx + i * 3, none⟩) K (cap - i)) K ((xs.drop (i * 3)).take (K * 3))) := fun W hW => (hRV W hW).part i K (cap - i) (by omega) (by omega) (by omega)
        have HR2v : Hid (∀ W, Ext w5 W → RV W 3 (.slice (some ⟨bx, offx + (i + 1) * 3, none⟩) L (cap - (i + 1))) L ((xs.drop ((i + 1) * 3)).take (L * 3))) := fun W hW => (hRV W hW).part (i + 1) L (cap - (i + 1)) (by omega) (by omega) (by omega)
        have HKL := Lib.hid (And.intro hK hL)
        have hK400 : K ≤ 400 := by omega
        have hL400 : L ≤ 400 := by omega
        have q1 : (i : Int) ≤ J + 1 := by omega
        have q2 : (J : Int) + 1 ≤ cap := by omega
        have q3 : (i : Int) ≤ cap := by omega
        have q4 : ((J : Int) + 1).toNat = J + 1 := by omega
        have pE : (cap = i) = False := eq_false (by omega)
        have r0 : (0 : Int) ≤ i + 1 := by omega
        have r1 : (i : Int) + 1 ≤ J := by omega
        have r2 : (J : Int) ≤ cap := by omega
        have r3 : (i : Int) + 1 ≤ cap := by omega
        have r4 : ((i : Int) + 1).toNat = i + 1 := by omega
        have pE2 : (cap = i + 1) = False := eq_false (by omega)
        clear hK hL hRV
        have HCL1 : Hid (∀ W, Ext w5 W → Calls Try.prog 50 #[.slice (some ⟨bx, offx + i * 3, none⟩) K (cap - i)] W fun en w' => ∃ v, en = .returned v ∧ w'.ownsRow W.heap.size 73 3 v K (IL ((xs.drop (i * 3)).take (K * 3))) ∧ Ext W w') := fun W hW => cloneCi_any (by omega) W (HR1v.out W hW)
        have HCL2 : Hid (∀ W, Ext w5 W → Calls Try.prog 50 #[.slice (some ⟨bx, offx + (i + 1) * 3, none⟩) L (cap - (i + 1))] W fun en w' => ∃ v, en = .returned v ∧ w'.ownsRow W.heap.size 73 3 v L (IL ((xs.drop ((i + 1) * 3)).take (L * 3))) ∧ Ext W w') := fun W hW => cloneCi_any (by omega) W (HR2v.out W hW)
        go_upto_region 9 with fail
        go_wp2
        refine Ex.wp_region_ex (m := 86) [.fn [] (fun _ => .int .i64 i), .fn [] (fun _ => .pointer (some ⟨w.heap.size, 1, none⟩)), .fn [] (fun _ => .slice (some ⟨bx, offx, none⟩) n cap), .fn [] (fun _ => .int .i64 i), .fn [] (fun _ => .int .i64 J), .fn [] (fun _ => .int .i64 (J + 1)), .fn [] (fun _ => .slice (some ⟨bx, offx + i * 3, none⟩) K (cap - i)), .ex (Ex.PhS (w5) 73 3 (K) ((xs.drop (i * 3)).take (K * 3))) 1 [], .fn [] (fun _ => .pointer (some ⟨w.heap.size, 1, none⟩)), .fn [] (fun _ => .slice (some ⟨bx, offx, none⟩) n cap), .fn [] (fun _ => .int .i64 i), .fn [] (fun _ => .int .i64 (i + 1)), .fn [] (fun _ => .int .i64 J), .fn [] (fun _ => .slice (some ⟨bx, offx + (i + 1) * 3, none⟩) L (cap - (i + 1))), .ex (Ex.PhS (w5) 73 3 (L) ((xs.drop ((i + 1) * 3)).take (L * 3))) 2 []] (by kernel_rfl) (by kernel_rfl) rfl (by kernel_rfl) (by kernel_rfl) (Ex.mono_fn (Ex.mono_fn (Ex.mono_fn (Ex.mono_fn (Ex.mono_fn (Ex.mono_fn (Ex.mono_fn (Ex.mono_ex (Ex.phS_mono _ _ _ _ _) (Ex.mono_fn (Ex.mono_fn (Ex.mono_fn (Ex.mono_fn (Ex.mono_fn (Ex.mono_fn (Ex.mono_ex (Ex.phS_mono _ _ _ _ _) Ex.mono_nil))))))))))))))) (fun sig3 => ?_)
        have hxc := fun (x : Xt (w5)) (b o : Nat) (h : b < (w5).heap.size) => x.ext.cells.1 b o h
        refine Ex.we_det ?_ ?_
        · first | (go_simp; done) | (go_simp; rfl) | (go_simp; (try intro x); (try go_bits); first | done | rfl | (simp; done) | (simp; omega))
        simp only [Act.put, List.setIfInBounds_toArray, List.set_cons_succ, List.set_cons_zero, List.nil_append, List.cons_append, Nat.zero_add, Nat.reduceAdd]
        refine Ex.we_det ?_ ?_
        · first | (go_simp; done) | (go_simp; rfl) | (go_simp; (try intro x); (try go_bits); first | done | rfl | (simp; done) | (simp; omega))
        simp only [Act.put, List.setIfInBounds_toArray, List.set_cons_succ, List.set_cons_zero, List.nil_append, List.cons_append, Nat.zero_add, Nat.reduceAdd]
        refine Ex.we_det ?_ ?_
        · first | (go_simp; done) | (go_simp; rfl) | (go_simp; (try intro x); (try go_bits); first | done | rfl | (simp; done) | (simp; omega))
        simp only [Act.put, List.setIfInBounds_toArray, List.set_cons_succ, List.set_cons_zero, List.nil_append, List.cons_append, Nat.zero_add, Nat.reduceAdd]
        refine Ex.we_det ?_ ?_
        · first | (go_simp; done) | (go_simp; rfl) | (go_simp; (try intro x); (try go_bits); first | done | rfl | (simp; done) | (simp; omega))
        simp only [Act.put, List.setIfInBounds_toArray, List.set_cons_succ, List.set_cons_zero, List.nil_append, List.cons_append, Nat.zero_add, Nat.reduceAdd]
        refine Ex.we_det ?_ ?_
        · first | (go_simp; done) | (go_simp; rfl) | (go_simp; (try intro x); (try go_bits); first | done | rfl | (simp; done) | (simp; omega))
        simp only [Act.put, List.setIfInBounds_toArray, List.set_cons_succ, List.set_cons_zero, List.nil_append, List.cons_append, Nat.zero_add, Nat.reduceAdd]
        refine Ex.we_det ?_ ?_
        · first | (go_simp; done) | (go_simp; rfl) | (go_simp; (try intro x); (try go_bits); first | done | rfl | (simp; done) | (simp; omega))
        simp only [Act.put, List.setIfInBounds_toArray, List.set_cons_succ, List.set_cons_zero, List.nil_append, List.cons_append, Nat.zero_add, Nat.reduceAdd]
        refine Ex.we_det ?_ ?_
        · first | (go_simp; done) | (go_simp; rfl) | (go_simp; (try intro x); (try go_bits); first | done | rfl | (simp; done) | (simp; omega))
        simp only [Act.put, List.setIfInBounds_toArray, List.set_cons_succ, List.set_cons_zero, List.nil_append, List.cons_append, Nat.zero_add, Nat.reduceAdd]
        refine Ex.we_callS rfl (fun x => ?_) (HCL1.out) ?_
        · first | (go_simp; done) | (go_simp; rfl)
        simp only [Act.put, List.setIfInBounds_toArray, List.set_cons_succ, List.set_cons_zero, List.nil_append, List.cons_append, Nat.zero_add, Nat.reduceAdd]
        refine Ex.we_det ?_ ?_
        · first | (go_simp; done) | (go_simp; rfl) | (go_simp; (try intro x); (try go_bits); first | done | rfl | (simp; done) | (simp; omega))
        simp only [Act.put, List.setIfInBounds_toArray, List.set_cons_succ, List.set_cons_zero, List.nil_append, List.cons_append, Nat.zero_add, Nat.reduceAdd]
        refine Ex.we_det ?_ ?_
        · first | (go_simp; done) | (go_simp; rfl) | (go_simp; (try intro x); (try go_bits); first | done | rfl | (simp; done) | (simp; omega))
        simp only [Act.put, List.setIfInBounds_toArray, List.set_cons_succ, List.set_cons_zero, List.nil_append, List.cons_append, Nat.zero_add, Nat.reduceAdd]
        refine Ex.we_det ?_ ?_
        · first | (go_simp; done) | (go_simp; rfl) | (go_simp; (try intro x); (try go_bits); first | done | rfl | (simp; done) | (simp; omega))
        simp only [Act.put, List.setIfInBounds_toArray, List.set_cons_succ, List.set_cons_zero, List.nil_append, List.cons_append, Nat.zero_add, Nat.reduceAdd]
        refine Ex.we_det ?_ ?_
        · first | (go_simp; done) | (go_simp; rfl) | (go_simp; (try intro x); (try go_bits); first | done | rfl | (simp; done) | (simp; omega))
        simp only [Act.put, List.setIfInBounds_toArray, List.set_cons_succ, List.set_cons_zero, List.nil_append, List.cons_append, Nat.zero_add, Nat.reduceAdd]
        refine Ex.we_det ?_ ?_
        · first | (go_simp; done) | (go_simp; rfl) | (go_simp; (try intro x); (try go_bits); first | done | rfl | (simp; done) | (simp; omega))
        simp only [Act.put, List.setIfInBounds_toArray, List.set_cons_succ, List.set_cons_zero, List.nil_append, List.cons_append, Nat.zero_add, Nat.reduceAdd]
        refine Ex.we_det ?_ ?_
        · first | (go_simp; done) | (go_simp; rfl) | (go_simp; (try intro x); (try go_bits); first | done | rfl | (simp; done) | (simp; omega))
        simp only [Act.put, List.setIfInBounds_toArray, List.set_cons_succ, List.set_cons_zero, List.nil_append, List.cons_append, Nat.zero_add, Nat.reduceAdd]
        refine Ex.we_callS rfl (fun x => ?_) (HCL2.out) ?_
        · first | (go_simp; done) | (go_simp; rfl)
        simp only [Act.put, List.setIfInBounds_toArray, List.set_cons_succ, List.set_cons_zero, List.nil_append, List.cons_append, Nat.zero_add, Nat.reduceAdd]
        refine Ex.we_stop (fun w3 hx3 hF3 => ?_)
        clear hxc
        have h12 : Ex.PhS w5 73 3 K ((xs.drop (i * 3)).take (K * 3)) (sig3 7) w3 := hF3.phi 7 (by simp)
        have h15 : Ex.PhS w5 73 3 L ((xs.drop ((i + 1) * 3)).take (L * 3)) (sig3 14) w3 := hF3.phi 14 (by simp)
        have d1 : ∀ b, Ex.blk (sig3 7) = some b → Ex.blk (sig3 14) = some b → False := hF3.dif 7 (by simp) 14 (by simp) (show (1 : Nat) ≠ 2 by decide) (show (1 : Nat) ≠ 0 by decide) (show (2 : Nat) ≠ 0 by decide)
        unfold Ex.PhS at h12 h15
        obtain ⟨aO, cO, e12, _, _, _⟩ := own_shape h12
        obtain ⟨aN, cN, e15, _, _, _⟩ := own_shape h15
        simp only [List.map_cons, List.map_nil, List.getD_cons_zero, List.getD_cons_succ, e12, e15]
        rw [e12] at h12 d1
        rw [e15] at h15 d1
        have HDJ : Hid (∀ k, (Value.slice aO K cO).ownBlock = some k → (Value.slice aN L cN).ownBlock = some k → False) := fun k h1 h2 => d1 k (own_blk h12 k h1) (own_blk h15 k h2)
        have hR3 := row_farC HR5.out hx3
        have zR := fun k => cell_of_row _ _ k _ _ _ hR3
        have fR := fun k => frozen_of_row _ _ k _ _ hR3
        have lR := (Array.getElem?_eq_some_iff.1 hR3).1
        have O1 := Lib.hid h12
        have O2 := Lib.hid h15
        have hX3 := HEw5.out.trans hx3
        clear h12 h15 d1 hF3 e12 e15 zA lA hR3 q1 q2 q3 q4 q5 pE r0 r1 r2 r3 r4 r5 pE2 hx3
        go_wp2
        refine bodyPost_ret (v := .tuple #[.agg #[.int .i64 i, .slice aO K cO, .slice aN L cN], .bool true]) (by simp [results, Try.results58, go_sem, *]) rfl ?_
        obtain ⟨e1, e2⟩ := HE12.out
        obtain ⟨e3, e4⟩ := HKL.out
        rw [e1, e2]
        subst e3
        subst e4
        refine ⟨_, _, rfl, ?_, ?_, HDJ.out, (by repeat (first | (with_reducible refine Ext.setCell ?_ (by first | (simp; done) | (simp; omega)) _) | with_reducible refine Ext.alloc ?_ _ | with_reducible refine Ext.drew ?_ | with_reducible refine Ext.drewN ?_ _ | with_reducible assumption | with_reducible exact Ext.refl _ | with_reducible refine Ext.trans ?_ (by with_reducible assumption)))⟩
        · refine own_base (base := w5.heap.size) ?_ (by omega)
          exact own_set (own_set (own_set O1.out (by first | omega | (simp; done) | (simp; omega)) _) (by first | omega | (simp; done) | (simp; omega)) _) (by first | omega | (simp; done) | (simp; omega)) _
        · refine own_base (base := w5.heap.size) ?_ (by omega)
          exact own_set (own_set (own_set O2.out (by first | omega | (simp; done) | (simp; omega)) _) (by first | omega | (simp; done) | (simp; omega)) _) (by first | omega | (simp; done) | (simp; omega)) _


end Go.Proofs.Ytlbcjbeafampcaa
