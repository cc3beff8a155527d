/- The exchange of two nodes in a list: plain lists, and the reference's walk. -/
import Derived.Test.YtjeahopiejcopaaClone
namespace Go.Proofs.Ytjeahopiejcopaa
open Go.RowKit Go.Lib
set_option linter.unusedVariables false
set_option linter.unusedSimpArgs false

def swp (k t : Int) (x : Int) : Int := if x = k then t else if x = t then k else x
def swpL (at' : List Int) (k t : Int) : List Int := at'.map (swp k t)
theorem swpL_length (l : List Int) (k t : Int) : (swpL l k t).length = l.length := by simp [swpL]
theorem swpL_at {l : List Int} {k t : Int} {j : Nat} (h : j < l.length) : at3 (swpL l k t) j = swp k t (at3 l j) := by
  simp [at3, swpL, h]

set_option maxRecDepth 20000 in
set_option maxHeartbeats 1000000 in
theorem l23Swap_any (k t : Int) {b n : Nat} {v : Value} {xs : List Int} (hl : xs.length = n * 1) (hn : n ≤ 2000000) (w : World) (h : w.ownsRow b 3 1 v n (IL xs)) :
    Calls Try.prog 70 #[v, .int .i64 k, .int .i64 t] w fun e w' => ∃ v', e = .returned v' ∧ w'.ownsRow w.heap.size 3 1 v' n (IL (swpL xs k t)) ∧ Ext w w' := by
  have HC := Lib.hid (l1Own_any hl hn w h)
  obtain ⟨a, cap, rfl, c1, c2, H⟩ := own_shape h
  have HH := Lib.hid H
  have HL := Lib.hid hl
  clear H hl h
  go_enter Try.func70, Try.ntmps70
  go_wp2_with fail
  refine HC.out.mono ?_
  rintro e w1 ⟨v1, rfl, o1, hx1⟩
  obtain ⟨a1, cp1, rfl, d1, d2, D⟩ := own_shape o1
  have HD := Lib.hid D
  have O1 := Lib.hid o1
  clear D o1
  go_wp2
  go_loopw [8, 9, 14] (fun _ _ i wr => ∃ (j : Nat) (zs : List Int), j ≤ n ∧ i = .int .i64 j ∧ wr.ownsRow w.heap.size 3 1 (.slice a1 n cp1) n (IL zs) ∧ zs.length = n * 1 ∧ (∀ i, i < n → at3 zs i = if i < j then swp k t (at3 xs i) else at3 xs i) ∧ Ext w wr ∧ w1.heap.size ≤ wr.heap.size) (fun _ _ i _ => n - (intOf i).toNat)
  case atStart => exact ⟨0, xs, by omega, rfl, O1.out, HL.out, fun i hi => by simp, hx1, Nat.le_refl _⟩
  case round =>
    obtain ⟨j, zs, hj, rfl, hown, hzl, hat, hE, hsz⟩ := hrel
    have HW := Lib.hid hown
    have HZ := Lib.hid hzl
    have HT := Lib.hid hat
    clear hown hzl hat
    by_cases hlt : j < n
    · have hlt' : (j : Int) < n := by omega
      obtain ⟨g, rfl, _, p1, p2, _⟩ := HH.out (by omega)
      obtain ⟨g1, rfl, g1b, q1, q2, _⟩ := HD.out (by omega)
      have r1 : g < wr.heap.size := by have := hE.size; omega
      have y0 := at3_get (xs := xs) (j := j) (by have := HL.out; omega)
      have z0 := (hE.cellA (p := ⟨g, j, none⟩) p1).trans (p2 _ _ y0)
      clear p2 q2 y0
      obtain ⟨u0, t0⟩ := own_at (N := n * 1) HW.out (by rw [il_length]; exact HZ.out) (k := j) (by omega)
      have hfr := HW.out.frozenAt
      have hg1 : g1 < wr.heap.size := by omega
      have HK : Hid (∀ y, at3 (zs.set j y) j = y) := fun y => by simp [at3, show j < zs.length by have := HZ.out; omega]
      have HN : Hid (∀ y i, i ≠ j → at3 (zs.set j y) i = at3 zs i) := fun y i hi => by
        simp only [at3, List.getD_eq_getElem?_getD]
        rw [List.getElem?_set_ne (fun e => hi e.symm)]
      have HSW : Hid (swp k t (at3 xs j) = if at3 xs j = k then t else if at3 xs j = t then k else at3 xs j) := rfl
      have HO : Hid (at3 zs j = at3 xs j) := by unfold Hid; rw [HT.out j hlt, if_neg (by omega)]
      generalize hx : at3 xs j = x at *
      have HX := Lib.hid hx
      clear hx
      have HST : Hid (∀ (y : Int), y = swp k t x → ∀ i, i < n → at3 (zs.set j y) i = if i < j + 1 then swp k t (at3 xs i) else at3 xs i) := by
        intro y hy i hi
        by_cases e : i = j
        · subst e
          rw [HK.out, if_pos (by omega), HX.out, hy]
        · rw [HN.out y i e, HT.out i hi]
          by_cases h2 : i < j
          · rw [if_pos h2, if_pos (by omega)]
          · rw [if_neg h2, if_neg (by omega)]
      have HSM : Hid (x = swp k t x → ∀ i, i < n → at3 zs i = if i < j + 1 then swp k t (at3 xs i) else at3 xs i) := by
        intro hy i hi
        rw [HT.out i hi]
        by_cases e : i = j
        · subst e
          rw [if_neg (by omega), if_pos (by omega), HX.out]
          exact hy
        · by_cases h2 : i < j
          · rw [if_pos h2, if_pos (by omega)]
          · rw [if_neg h2, if_neg (by omega)]
      have HIL : Hid (∀ y : Int, (IL zs).set j (.int .i64 y) = IL (zs.set j y)) := fun y => by simp [IL, List.map_set]
      by_cases h1 : x = k
      · have h1b : (x == k) = true := by simpa using h1
        have HY : Hid (t = swp k t x) := by unfold Hid swp; rw [if_pos h1]
        clear h1
        go_wp2
        go_roundw
        case rel =>
          have s0 := World.ownsRow.stored (HW.out) j (.int .i64 t)
          exact ⟨j + 1, zs.set j t, by omega, by go_num, by rw [← HIL.out]; exact s0.1, by simpa using HZ.out, HST.out t HY.out, Ext.grown hE s0.2 (fun k hk => by cases hk; exact g1b), by simpa using hsz⟩
        case measure => simp [intOf]; omega
      · have h1b : (x == k) = false := by simpa using h1
        by_cases h2 : x = t
        · have h2b : (x == t) = true := by simpa using h2
          have HY : Hid (k = swp k t x) := by unfold Hid swp; rw [if_neg h1, if_pos h2]
          clear h1 h2
          go_wp2
          go_roundw
          case rel =>
            have s0 := World.ownsRow.stored (HW.out) j (.int .i64 k)
            exact ⟨j + 1, zs.set j k, by omega, by go_num, by rw [← HIL.out]; exact s0.1, by simpa using HZ.out, HST.out k HY.out, Ext.grown hE s0.2 (fun k hk => by cases hk; exact g1b), by simpa using hsz⟩
          case measure => simp [intOf]; omega
        · have h2b : (x == t) = false := by simpa using h2
          have HY : Hid (x = swp k t x) := by unfold Hid swp; rw [if_neg h1, if_neg h2]
          clear h1 h2
          go_wp2
          go_roundw
          case rel => exact ⟨j + 1, zs, by omega, by go_num, HW.out, HZ.out, HSM.out HY.out, hE, hsz⟩
          case measure => simp [intOf]; omega
    · obtain rfl : j = n := by omega
      go_wp2
      go_ret
      refine ⟨_, rfl, ?_, hE⟩
      have : zs = swpL xs k t := by
        apply List.ext_getElem?
        intro i
        by_cases hi : i < j
        · have h1 := HT.out i hi
          rw [if_pos hi, ← swpL_at (by have := HL.out; omega)] at h1
          simp only [at3, List.getD_eq_getElem?_getD] at h1
          have e1 : i < zs.length := by have := HZ.out; omega
          have e2 : i < (swpL xs k t).length := by rw [swpL_length]; have := HL.out; omega
          rw [List.getElem?_eq_getElem e1, List.getElem?_eq_getElem e2] at h1 ⊢
          simpa using h1
        · rw [List.getElem?_eq_none (by have := HZ.out; omega), List.getElem?_eq_none (by rw [swpL_length]; have := HL.out; omega)]
      rw [← this]
      exact HW.out

end Go.Proofs.Ytjeahopiejcopaa
