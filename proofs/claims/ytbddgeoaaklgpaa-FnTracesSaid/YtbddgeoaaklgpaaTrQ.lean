/- The qubits of a gate on both sides; common qubits (l24Common). -/
import Derived.Test.YtbddgeoaaklgpaaGate
import Derived.Test.YtbddgeoaaklgpaaLs
namespace Go.Proofs.Ytbddgeoaaklgpaa
open Go.RowKit Go.Lib
set_option linter.unusedVariables false
set_option linter.unusedSimpArgs false

/-- the qubits of a gate -/
def qL (k a b : Int) : List Int := if k = 12 then [] else if Wn k 9 11 then [a, b] else [a]
theorem qL_w {k a b : Int} (h : k = 12) : qL k a b = [] := by unfold qL; rw [if_pos h]
theorem qL_two {k a b : Int} (h : Wn k 9 11 = true) : qL k a b = [a, b] := by
  unfold qL
  rw [if_neg (by have := Wn_iff.1 h; omega), if_pos h]
theorem qL_one {k a b : Int} (h : k ≠ 12) (h2 : Wn k 9 11 = false) : qL k a b = [a] := by
  unfold qL
  rw [if_neg h, if_neg (by rw [h2]; simp)]
theorem qL_len (k a b : Int) : (qL k a b).length ≤ 2 := by
  unfold qL
  split
  · simp
  · split <;> simp

theorem own_litT1 (w : World) (t : TypeId) (a : Int) : (w.alloc (.cells #[.int .i64 a] t)).ownsRow w.heap.size t 1 (.slice (some ⟨w.heap.size, 0, none⟩) 1 1) 1 (IL [a]) := World.ownsRow_lit w #[.int .i64 a] 1 (Nat.le_refl _) (by decide) rfl
theorem own_litT2 (w : World) (t : TypeId) (a b : Int) : (w.alloc (.cells #[.int .i64 a, .int .i64 b] t)).ownsRow w.heap.size t 1 (.slice (some ⟨w.heap.size, 0, none⟩) 2 2) 2 (IL [a, b]) := World.ownsRow_lit w #[.int .i64 a, .int .i64 b] 2 (Nat.le_refl _) (by decide) rfl

theorem isTwo_ext (k : Int) (w : World) : Calls Try.prog 87 #[.int .i64 k] w fun e w' => e = .returned (.bool (Wn k 9 11)) ∧ Ext w w' := (isTwo_any k w).mono fun e w' ⟨h1, h2⟩ => ⟨h1, h2 ▸ Ext.refl _⟩

theorem l22Two_any (k a b : Int) (w : World) : Calls Try.prog 84 #[.agg #[.int .i64 k, .int .i64 a, .int .i64 b]] w fun e w' => e = .returned (.bool (Wn k 9 11)) ∧ Ext w w' := by
  go_enter Try.func84, Try.ntmps84
  go_wp2
  all_goals
    go_ret
    refine ⟨ret_bool ?_, (by repeat (first | exact Ext.refl _ | assumption | refine Ext.alloc ?_ _ | refine Ext.drew ?_ | refine Ext.drewN ?_ _ | refine Ext.setCell ?_ (by first | omega | (dsimp only; omega) | (simp; done) | (simp; omega)) _ | refine Ext.trans ?_ (by assumption)))⟩
    first | (subst_vars; rfl) | (rw [Bool.eq_iff_iff]; simp [Wn]; omega)

theorem qubitsOf_any (k a b : Int) (w : World) :
    Calls Try.prog 72 #[.agg #[.int .i64 k, .int .i64 a, .int .i64 b]] w fun e w' => ∃ v, e = .returned v ∧ w'.ownsRow w.heap.size 3 1 v (qL k a b).length (IL (qL k a b)) ∧ Ext w w' := by
  by_cases h1 : k = 12
  · rw [qL_w h1]
    subst h1
    go_enter Try.func72, Try.ntmps72
    go_wp2
    go_ret
    exact ⟨_, rfl, own_nil _ _ _ _, (by repeat (first | exact Ext.refl _ | assumption | refine Ext.alloc ?_ _ | refine Ext.drew ?_ | refine Ext.drewN ?_ _ | refine Ext.setCell ?_ (by first | omega | (dsimp only; omega) | (simp; done) | (simp; omega)) _ | refine Ext.trans ?_ (by assumption)))⟩
  have h1b : (k == 12) = false := by simpa using h1
  have HT := fun w' => Lib.hid (isTwo_ext k w')
  cases h2 : Wn k 9 11
  · rw [qL_one h1 h2]
    rw [h2] at HT
    clear h2
    go_enter Try.func72, Try.ntmps72
    go_wp2_with fail
    refine (HT _).out.mono ?_
    rintro e w1 ⟨rfl, hx1⟩
    obtain ⟨hc1, hf1⟩ := hx1.cells
    have hz1 := hx1.size
    try simp at hz1
    have hs1_0 := sz1 (a := w.heap.size) (b := w1.heap.size) (by omega)
    go_wp2
    go_ret
    exact ⟨_, rfl, own_base (own_litT1 _ _ _) (by omega), (by repeat (first | exact Ext.refl _ | assumption | refine Ext.alloc ?_ _ | refine Ext.drew ?_ | refine Ext.drewN ?_ _ | refine Ext.setCell ?_ (by first | omega | (dsimp only; omega) | (simp; done) | (simp; omega)) _ | refine Ext.trans ?_ (by assumption)))⟩
  · rw [qL_two h2]
    rw [h2] at HT
    clear h2
    go_enter Try.func72, Try.ntmps72
    go_wp2_with fail
    refine (HT _).out.mono ?_
    rintro e w1 ⟨rfl, hx1⟩
    obtain ⟨hc1, hf1⟩ := hx1.cells
    have hz1 := hx1.size
    try simp at hz1
    have hs1_0 := sz1 (a := w.heap.size) (b := w1.heap.size) (by omega)
    go_wp2
    go_ret
    exact ⟨_, rfl, own_base (own_litT2 _ _ _ _) (by omega), (by repeat (first | exact Ext.refl _ | assumption | refine Ext.alloc ?_ _ | refine Ext.drew ?_ | refine Ext.drewN ?_ _ | refine Ext.setCell ?_ (by first | omega | (dsimp only; omega) | (simp; done) | (simp; omega)) _ | refine Ext.trans ?_ (by assumption)))⟩

theorem l23Qubits_any (k a b : Int) (w : World) :
    Calls Try.prog 64 #[.agg #[.int .i64 k, .int .i64 a, .int .i64 b]] w fun e w' => ∃ v, e = .returned v ∧ w'.ownsRow w.heap.size 3 1 v (qL k a b).length (IL (qL k a b)) ∧ Ext w w' := by
  by_cases h1 : k = 12
  · rw [qL_w h1]
    subst h1
    go_enter Try.func64, Try.ntmps64
    go_wp2
    go_ret
    exact ⟨_, rfl, own_nil _ _ _ _, (by repeat (first | exact Ext.refl _ | assumption | refine Ext.alloc ?_ _ | refine Ext.drew ?_ | refine Ext.drewN ?_ _ | refine Ext.setCell ?_ (by first | omega | (dsimp only; omega) | (simp; done) | (simp; omega)) _ | refine Ext.trans ?_ (by assumption)))⟩
  have h1b : (k == 12) = false := by simpa using h1
  have HT := fun w' => Lib.hid (l22Two_any k a b w')
  cases h2 : Wn k 9 11
  · rw [qL_one h1 h2]
    rw [h2] at HT
    clear h2
    go_enter Try.func64, Try.ntmps64
    go_wp2_with fail
    refine (HT _).out.mono ?_
    rintro e w1 ⟨rfl, hx1⟩
    obtain ⟨hc1, hf1⟩ := hx1.cells
    have hz1 := hx1.size
    try simp at hz1
    have hs1_0 := sz1 (a := w.heap.size) (b := w1.heap.size) (by omega)
    go_wp2
    go_ret
    exact ⟨_, rfl, own_base (own_litT1 _ _ _) (by omega), (by repeat (first | exact Ext.refl _ | assumption | refine Ext.alloc ?_ _ | refine Ext.drew ?_ | refine Ext.drewN ?_ _ | refine Ext.setCell ?_ (by first | omega | (dsimp only; omega) | (simp; done) | (simp; omega)) _ | refine Ext.trans ?_ (by assumption)))⟩
  · rw [qL_two h2]
    rw [h2] at HT
    clear h2
    go_enter Try.func64, Try.ntmps64
    go_wp2_with fail
    refine (HT _).out.mono ?_
    rintro e w1 ⟨rfl, hx1⟩
    obtain ⟨hc1, hf1⟩ := hx1.cells
    have hz1 := hx1.size
    try simp at hz1
    have hs1_0 := sz1 (a := w.heap.size) (b := w1.heap.size) (by omega)
    go_wp2
    go_ret
    exact ⟨_, rfl, own_base (own_litT2 _ _ _ _) (by omega), (by repeat (first | exact Ext.refl _ | assumption | refine Ext.alloc ?_ _ | refine Ext.drew ?_ | refine Ext.drewN ?_ _ | refine Ext.setCell ?_ (by first | omega | (dsimp only; omega) | (simp; done) | (simp; omega)) _ | refine Ext.trans ?_ (by assumption)))⟩

theorem rv_qT {k a b : Int} {w : World} {base : Nat} {v : Value} (h : w.ownsRow base 3 1 v (qL k a b).length (IL (qL k a b))) : RV w 1 v (qL k a b).length (qL k a b) := RV.own h (by omega)
/-- two gates have a common qubit -/
def cmQ (L M : List Int) : Bool := !(allTo (fun j => !(hasTo M (at3 L j) M.length)) L.length)

theorem l1Most_any (x y : Int) (w : World) : Calls Try.prog 85 #[.int .i64 x, .int .i64 y] w fun e w' => e = .returned (.int .i64 (max x y)) ∧ w = w' := by
  go_enter Try.func85, Try.ntmps85
  by_cases h : y < x
  · go_wp2
    go_ret
    exact ⟨by rw [show max x y = x by omega]; rfl, rfl⟩
  · go_wp2
    go_ret
    exact ⟨by rw [show max x y = y by omega]; rfl, rfl⟩

set_option maxHeartbeats 2000000 in
theorem l24Common_any (k a b k' a' b' : Int) (w : World) :
    Calls Try.prog 40 #[.agg #[.int .i64 k, .int .i64 a, .int .i64 b], .agg #[.int .i64 k', .int .i64 a', .int .i64 b']] w fun e w' => e = .returned (.bool (cmQ (qL k a b) (qL k' a' b'))) ∧ Ext w w' := by
  have HQ := fun w' => Lib.hid (l23Qubits_any k a b w')
  have HR := fun w' => Lib.hid (l23Qubits_any k' a' b' w')
  have hl2 := qL_len k a b
  have hm2 := qL_len k' a' b'
  have HRV := fun (w' : World) base v (h : w'.ownsRow base 3 1 v (qL k a b).length (IL (qL k a b))) => rv_qT h
  have HRW := fun (w' : World) base v (h : w'.ownsRow base 3 1 v (qL k' a' b').length (IL (qL k' a' b'))) => rv_qT h
  have HH := fun (x : Int) (v : Value) w' (h : RV w' 1 v (qL k' a' b').length (qL k' a' b')) => Lib.hid (l1Has_any x (by omega) w' h)
  have HV : Hid (cmQ (qL k a b) (qL k' a' b') = !(allTo (fun j => !(hasTo (qL k' a' b') (at3 (qL k a b) j) (qL k' a' b').length)) (qL k a b).length)) := rfl
  generalize cmQ (qL k a b) (qL k' a' b') = V at *
  generalize hql : (qL k a b).length = l at *
  generalize qL k a b = L at *
  generalize hqm : (qL k' a' b').length = m at *
  generalize qL k' a' b' = M at *
  have HLEN := Lib.hid hql
  clear hql hqm
  go_enter Try.func40, Try.ntmps40
  go_wp2_with fail
  refine (HQ _).out.mono ?_
  rintro e w1 ⟨v, rfl, o1, hx1⟩
  have HB : Hid (w1.heap[w.heap.size + 1]? = some (.cells #[.int .i64 k', .int .i64 a', .int .i64 b'] 47 (0, 0))) := Lib.hid ((hx1.heap (by simp)).trans (heap_alloc_at _ _ _ (by simp)))
  have HE1 : Hid (Ext w w1) := ((((Ext.refl w).alloc _).alloc _).trans hx1)
  obtain ⟨hl, a2, c2, rfl, c3, c4, H⟩ := HRV _ _ _ o1
  have HX := Lib.hid H
  have HL := Lib.hid hl
  clear H hl o1 hx1
  go_wp2
  go_loopw [6, 10] (fun _ i wr => ∃ j : Nat, j ≤ l ∧ i = .int .i64 j ∧ Hid (allTo (fun j => !(hasTo M (at3 L j) m)) j = true) ∧ Ext w1 wr) (fun _ i _ => l - (intOf i).toNat)
  case atStart => exact ⟨0, by omega, rfl, rfl, Ext.refl _⟩
  case round =>
    obtain ⟨j, hj, rfl, HA, hE⟩ := hrel
    by_cases hlt : j < l
    · have hlt' : (j : Int) < l := by omega
      have HS : Hid (allTo (fun j => !(hasTo M (at3 L j) m)) (j + 1) = (allTo (fun j => !(hasTo M (at3 L j) m)) j && !(hasTo M (at3 L j) m))) := allTo_succ _ _
      have HF : Hid (hasTo M (at3 L j) m = true → allTo (fun j => !(hasTo M (at3 L j) m)) l = false) := fun h => allTo_false (k := j) (by rw [h]; rfl) hlt
      have hbx := (hE.heap (Array.getElem?_eq_some_iff.1 HB.out).1).trans HB.out
      have zx := fun k => cell_of_row _ _ k _ _ _ hbx
      have lx := (Array.getElem?_eq_some_iff.1 hbx).1
      clear hbx
      obtain ⟨b, off, rfl, hbk, hcell⟩ := HX.out (by omega)
      have hbr : b < wr.heap.size := by have := hE.size; omega
      have z0 : wr.cell? ⟨b, off + j, none⟩ = some (.int .i64 (at3 L (j))) := (hE.cells.1 b (off + (j)) hbk).trans (hcell _ _ (at3_get (by have := HL.out; omega)))
      clear hcell
      have HE := Lib.hid hE
      clear hE
      generalize at3 L j = k0 at *
      go_wp2_with fail
      refine (HR _).out.mono ?_
      rintro e w2 ⟨v2, rfl, o2, hx2⟩
      have R2 := HRW _ _ _ o2
      have HX2 : Hid (Ext w1 w2) := HE.out.trans hx2
      obtain ⟨_, a5, c5, rfl, _⟩ := R2
      have HC := HH k0 _ w2 (HRW _ _ _ o2)
      clear o2 hx2 zx lx
      generalize hasTo M k0 m = g at *
      cases g
      · go_wp2_with fail
        refine HC.out.mono ?_
        rintro e w3 ⟨rfl, rfl⟩
        go_wp2
        go_roundw
        case rel => exact ⟨j + 1, by omega, by go_num, by unfold Hid; rw [HS.out, HA.out]; rfl, HX2.out⟩
        case measure => simp [intOf]; omega
      · go_wp2_with fail
        refine HC.out.mono ?_
        rintro e w3 ⟨rfl, rfl⟩
        go_wp2
        go_ret
        exact ⟨ret_bool (by rw [HV.out, HF.out (by first | rfl | trivial)]; rfl), HE1.out.trans HX2.out⟩
    · obtain rfl : j = l := by omega
      go_wp2
      go_ret
      exact ⟨ret_bool (by rw [HV.out, HA.out]; rfl), HE1.out.trans hE⟩

end Go.Proofs.Ytbddgeoaaklgpaa
