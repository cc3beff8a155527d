/- Slices of gates, circuits and replacements: sizes, copies, equality. -/
import Derived.Test.YtgefamclfjoogaaDoorGateC
namespace Go.Proofs.YtgefamclfjoogaaDoor
open Go.RowKit

theorem szGateS_any (l : Int) {v : Value} {m : Nat} {xs : List Int} (hl : 0 ≤ l ∧ l ≤ 1048576) (w : World) (h : RV w 3 v m xs) :
    Calls Tryd.prog 30 #[v, .int .i64 l] w fun e w' => e = .returned (.int .i64 (if (m : Int) ≤ l then l - m else -1)) ∧ w = w' := by
  obtain ⟨_, a, cap, rfl, c1, c2, _⟩ := h
  have c3 : (m : Int) ≤ 9223372036854775807 := by simp only [maxLen] at c2; omega
  by_cases hm : (m : Int) ≤ l
  · have hm2 : ¬ (l - m < 0) := by omega
    have hw : l - m ≤ 9223372036854775807 := by omega
    rw [if_pos hm]
    go_enter Tryd.func30, Tryd.ntmps30
    go_wp2
    go_ret
    exact ⟨rfl, rfl⟩
  · have hm2 : l - m < 0 := by omega
    have hw : -9223372036854775808 ≤ l - m := by omega
    rw [if_neg hm]
    go_enter Tryd.func30, Tryd.ntmps30
    go_wp2
    go_ret
    exact ⟨rfl, rfl⟩

theorem toGate_any (a b c : Int) (w : World) :
    Calls Tryd.prog 55 #[.agg #[.int .i64 a, .int .i64 b, .int .i64 c]] w fun e w' => e = .returned (.agg #[.int .i64 a, .int .i64 b, .int .i64 c]) ∧ Ext w w' := by
  go_enter Tryd.func55, Tryd.ntmps55
  go_wp2
  refine bodyPost_ret (v := .agg #[.int .i64 a, .int .i64 b, .int .i64 c]) (by simp [results, Tryd.results55, go_sem]) rfl ⟨rfl, ?_⟩
  exact (by repeat (first | exact Ext.refl _ | assumption | refine Ext.alloc ?_ _ | refine Ext.drew ?_ | refine Ext.drewN ?_ _ | refine Ext.setCell ?_ (by first | omega | (dsimp only; omega) | (simp; done) | (simp; omega)) _ | refine Ext.trans ?_ (by assumption)))

/-- the first k cells are copied -/
def CP (zs ys : List Value) (k : Nat) : Prop := ∀ j, j < k → zs[j]? = ys[j]?
theorem CP.snoc {zs ys : List Value} {k k' i : Nat} {u : Value} (h : CP zs ys k) (hk : k < zs.length) (hi : i = k) (hu : ys[k]? = some u) (hk' : k' = k + 1) : CP (zs.set i u) ys k' := by
  subst hi; subst hk'
  intro j hj
  rw [List.getElem?_set]
  split
  · rename_i e; subst e; first | rw [if_pos hk, hu] | rw [hu]
  · exact h j (by omega)
theorem CP.full {zs ys : List Value} {k : Nat} (h : CP zs ys k) (h1 : zs.length = k) (h2 : ys.length = k) : zs = ys := by
  apply List.ext_getElem?
  intro j
  by_cases hj : j < k
  · exact h j hj
  · rw [List.getElem?_eq_none (by omega), List.getElem?_eq_none (by omega)]

theorem info_gate : (Tryd.prog.info? 79).map (fun i => (i.zero, i.size, i.bytes)) = some (some (.agg #[.int .i64 0, .int .i64 0, .int .i64 0]), 3, 24) := by kernel_rfl

set_option maxRecDepth 20000 in
set_option maxHeartbeats 1000000 in
theorem toGateS_any {v : Value} {m : Nat} {xs : List Int} (hm : m ≤ 2000000) (w : World) (h : RV w 3 v m xs) :
    Calls Tryd.prog 38 #[v] w fun e w' => ∃ v', e = .returned v' ∧ w'.ownsRow w.heap.size 79 3 v' m (IL xs) ∧ Ext w w' := by
  obtain ⟨i0, hi, hz0, hz1, hz2⟩ := info_parts info_gate
  obtain ⟨hl, a, cap, rfl, c1, c2, H⟩ := h
  have HH := Lib.hid H
  have HL := Lib.hid hl
  clear H hl
  go_enter Tryd.func38, Tryd.ntmps38
  have hl0 : (madeCells (Value.agg #[.int .i64 0, .int .i64 0, .int .i64 0]).cells (m * 3)).toList.length = m * 3 := by simp [madeCells]
  go_wp2_with (at_make; refine wpList_make_full _ rfl _ _ _ rfl w.heap.size 79 i0 (.agg #[.int .i64 0, .int .i64 0, .int .i64 0]) 3 Tryd.underlying37 hi hz0 hz1 .i64 .i64 _ _ m rfl rfl rfl rfl (by rw [hz2]; omega) (by simp only [maxLen]; omega) (Nat.le_refl _) ?_; intro w0 own0 hg0; generalize (madeCells (Value.agg #[.int .i64 0, .int .i64 0, .int .i64 0]).cells (m * 3)).toList = zs0 at own0 hl0; have HO := Lib.hid own0; clear own0)
  have hx0 : Ext w w0 := Ext.grown (Ext.refl w) hg0 (fun k hk => by cases hk)
  go_loopw [4] (fun i wr => ∃ (j : Nat) (zs : List Value), j ≤ m ∧ i = .int .i64 j ∧ wr.ownsRow w.heap.size 79 3 (.slice (some ⟨w.heap.size, 0, none⟩) m m) m zs ∧ zs.length = m * 3 ∧ CP zs (IL xs) (j * 3) ∧ Ext w wr) (fun i _ => m - (intOf i).toNat)
  case atStart => exact ⟨0, zs0, by omega, rfl, HO.out, hl0, fun j hj => absurd hj (by omega), hx0⟩
  case round =>
    obtain ⟨j, zs, hj, rfl, hown, hzl, hcp, hE⟩ := hrel
    have HW := Lib.hid hown
    have HC := Lib.hid hcp
    have HZ := Lib.hid hzl
    clear hown hcp hzl
    by_cases hlt : j < m
    · have hlt' : (j : Int) < m := by omega
      have y0 := at3_get (xs := xs) (j := j * 3) (by have := HL.out; omega)
      have y1 := at3_get (xs := xs) (j := j * 3 + 1) (by have := HL.out; omega)
      have y2 := at3_get (xs := xs) (j := j * 3 + 2) (by have := HL.out; omega)
      have Y := Lib.hid (And.intro y0 (And.intro y1 y2))
      clear y0 y1 y2
      obtain ⟨b, off, rfl, hbk, hcell⟩ := HH.out (by omega)
      have hbr : b < wr.heap.size := by have := hE.size; omega
      have z0 : wr.cell? ⟨b, off + j * 3, none⟩ = some (.int .i64 (at3 xs (j * 3))) := (hE.cells.1 b (off + (j * 3)) hbk).trans (hcell _ _ (at3_get (by have := HL.out; omega)))
      have z1 : wr.cell? ⟨b, off + j * 3 + 1, none⟩ = some (.int .i64 (at3 xs (j * 3 + 1))) := (hE.cells.1 b (off + (j * 3 + 1)) hbk).trans (hcell _ _ (at3_get (by have := HL.out; omega)))
      have z2 : wr.cell? ⟨b, off + j * 3 + 2, none⟩ = some (.int .i64 (at3 xs (j * 3 + 2))) := (hE.cells.1 b (off + (j * 3 + 2)) hbk).trans (hcell _ _ (at3_get (by have := HL.out; omega)))
      clear hcell
      generalize at3 xs (j * 3) = k0 at *
      generalize at3 xs (j * 3 + 1) = a0 at *
      generalize at3 xs (j * 3 + 2) = b0 at *
      go_wp2_with fail
      refine (toGate_any _ _ _ _).mono ?_
      rintro e w1 ⟨rfl, hx1⟩
      obtain ⟨hc1, hf1⟩ := hx1.cells
      have hz1 := hx1.size
      try simp at hz1
      have HW1 := Lib.hid (own_ext HW.out hx1)
      obtain ⟨u0, q0⟩ := own_at HW1.out HZ.out (k := j * 3) (by omega)
      obtain ⟨u1, q1⟩ := own_at HW1.out HZ.out (k := j * 3 + 1) (by omega)
      obtain ⟨u2, q2⟩ := own_at HW1.out HZ.out (k := j * 3 + 2) (by omega)
      have hfr := HW1.out.frozenAt
      go_wp2
      go_roundw
      case rel =>
        have s0 := World.ownsRow.stored (HW1.out) (j * 3) (.int .i64 k0)
        have s1 := World.ownsRow.stored (s0.1) (j * 3 + 1) (.int .i64 a0)
        have s2 := World.ownsRow.stored (s1.1) (j * 3 + 2) (.int .i64 b0)
        have k0' := CP.snoc HC.out (by have := HZ.out; omega) rfl Y.out.1 (k' := j * 3 + 1) rfl
        have k1' := CP.snoc k0' (by simp only [List.length_set]; have := HZ.out; omega) rfl Y.out.2.1 (k' := j * 3 + 2) rfl
        have k2' := CP.snoc k1' (by simp only [List.length_set]; have := HZ.out; omega) rfl Y.out.2.2 (k' := j * 3 + 3) rfl
        refine ⟨j + 1, _, by omega, by go_num, s2.1, ?_, ?_, ?_⟩
        · simpa using HZ.out
        · rw [show (j + 1) * 3 = j * 3 + 3 by omega]
          exact k2'
        · exact Ext.grown (hE.trans hx1) ((s0.2.trans s1.2).trans s2.2) (fun k hk => by cases hk; exact Nat.le_refl _)
      case measure => simp [intOf]; omega
    · obtain rfl : j = m := by omega
      go_wp2
      go_ret
      refine ⟨_, rfl, ?_, hE⟩
      rw [← CP.full HC.out HZ.out (by rw [il_length]; exact HL.out)]
      exact HW.out

theorem toCircuit_any (q : Int) {v : Value} {m : Nat} {xs : List Int} (hm : m ≤ 2000000) (w : World) (h : RV w 3 v m xs) :
    Calls Tryd.prog 17 #[.agg #[.int .i64 q, v]] w fun e w' => ∃ v', e = .returned (.agg #[.int .i64 q, v']) ∧ w'.ownsRow w.heap.size 79 3 v' m (IL xs) ∧ Ext w w' := by
  have HT := fun w' (hx : Ext w w') => Lib.hid (toGateS_any hm w' (h.ext hx))
  obtain ⟨hl, a, cap, rfl, c1, c2, H⟩ := h
  clear H
  go_enter Tryd.func17, Tryd.ntmps17
  go_wp2_with fail
  refine (HT _ (by repeat (first | exact Ext.refl _ | assumption | refine Ext.alloc ?_ _ | refine Ext.drew ?_ | refine Ext.drewN ?_ _ | refine Ext.setCell ?_ (by first | omega | (dsimp only; omega) | (simp; done) | (simp; omega)) _ | refine Ext.trans ?_ (by assumption)))).out.mono ?_
  rintro e w1 ⟨v', rfl, o1, hx1⟩
  obtain ⟨hc1, hf1⟩ := hx1.cells
  have hz1 := hx1.size
  try simp at hz1
  have hs1_0 := sz3 (a := w.heap.size) (b := w1.heap.size) (by omega)
  obtain ⟨a', cap', rfl, q1, q2, q3⟩ := own_shape o1
  have O1 := Lib.hid (own_base (base' := w.heap.size + 1 + 1 + 1) o1 (by simp))
  clear q3 o1
  go_wp2
  refine bodyPost_ret (v := .agg #[.int .i64 q, .slice a' m cap']) (by simp [results, Tryd.results17, go_sem, *]) rfl ⟨_, rfl, ?_⟩
  exact ⟨own_base (own_set (own_set (own_set O1.out (by simp) _) (by simp) _) (by simp) _) (by omega), (by repeat (first | (with_reducible refine Ext.setCell ?_ (by first | (simp; done) | (simp; omega)) _) | with_reducible refine Ext.alloc ?_ _ | with_reducible refine Ext.drew ?_ | with_reducible refine Ext.drewN ?_ _ | with_reducible assumption | with_reducible exact Ext.refl _ | with_reducible refine Ext.trans ?_ (by with_reducible assumption)))⟩

set_option maxHeartbeats 1000000 in
theorem toReplacement_any (t : Int) {v1 v2 : Value} {m1 m2 : Nat} {xs ys : List Int} (hm1 : m1 ≤ 2000000) (hm2 : m2 ≤ 2000000) (w : World) (h1 : RV w 3 v1 m1 xs) (h2 : RV w 3 v2 m2 ys) :
    Calls Tryd.prog 53 #[.agg #[.int .i64 t, v1, v2]] w fun e w' => ∃ u1 u2, e = .returned (.agg #[.int .i64 t, u1, u2]) ∧ w'.ownsRow w.heap.size 79 3 u1 m1 (IL xs) ∧
      w'.ownsRow w.heap.size 79 3 u2 m2 (IL ys) ∧ (∃ s, w'.ownsRow s 79 3 u2 m2 (IL ys) ∧ ∀ k, u1.ownBlock = some k → k < s) ∧ Ext w w' := by
  have HT1 := fun w' (hx : Ext w w') => Lib.hid (toGateS_any hm1 w' (h1.ext hx))
  have HT2 := fun w' (hx : Ext w w') => Lib.hid (toGateS_any hm2 w' (h2.ext hx))
  obtain ⟨_, a, cap, rfl, c1, c2, H⟩ := h1
  clear H
  obtain ⟨_, b, cap2, rfl, c3, c4, H⟩ := h2
  clear H
  go_enter Tryd.func53, Tryd.ntmps53
  go_wp2_with fail
  refine (HT1 _ (by repeat (first | exact Ext.refl _ | assumption | refine Ext.alloc ?_ _ | refine Ext.drew ?_ | refine Ext.drewN ?_ _ | refine Ext.setCell ?_ (by first | omega | (dsimp only; omega) | (simp; done) | (simp; omega)) _ | refine Ext.trans ?_ (by assumption)))).out.mono ?_
  rintro e w1 ⟨v', rfl, o1, hx1⟩
  obtain ⟨hc1, hf1⟩ := hx1.cells
  have hz1 := hx1.size
  try simp at hz1
  have hs1_0 := sz3 (a := w.heap.size) (b := w1.heap.size) (by omega)
  obtain ⟨a1, cp1, rfl, q1, q2, q3⟩ := own_shape o1
  have O1 := Lib.hid (own_base (base' := w.heap.size + 1 + 1 + 1) o1 (by simp))
  clear q3 o1
  go_wp2_with fail
  refine (HT2 _ (by repeat (first | (with_reducible refine Ext.setCell ?_ (by first | (simp; done) | (simp; omega)) _) | with_reducible refine Ext.alloc ?_ _ | with_reducible refine Ext.drew ?_ | with_reducible refine Ext.drewN ?_ _ | with_reducible assumption | with_reducible exact Ext.refl _ | with_reducible refine Ext.trans ?_ (by with_reducible assumption)))).out.mono ?_
  rintro e w2 ⟨v', rfl, o2, hx2⟩
  obtain ⟨hc2, hf2⟩ := hx2.cells
  have hz2 := hx2.size
  try simp at hz2
  have hs2_0 := sz3 (a := w.heap.size) (b := w2.heap.size) (by omega)
  obtain ⟨a2, cp2, rfl, q4, q5, q6⟩ := own_shape o2
  have O2 := Lib.hid (own_base (base' := w1.heap.size) o2 (by simp))
  have O3 := Lib.hid (own_ext (own_set O1.out (p := ⟨w.heap.size + 1 + 1, 1, none⟩) (by simp) _) hx2)
  have HB := Lib.hid (fun k hk => (O1.out.lt k hk).2)
  clear q6 o2
  go_wp2
  refine bodyPost_ret (v := .agg #[.int .i64 t, .slice a1 m1 cp1, .slice a2 m2 cp2]) (by simp [results, Tryd.results53, go_sem, *]) rfl ?_
  have O4 := own_set (own_set (own_set (own_set O2.out (p := ⟨w.heap.size + 1 + 1, 2, none⟩) (by simp; omega) (.slice a2 m2 cp2)) (p := ⟨w.heap.size + 1, 0, none⟩) (by simp; omega) (.int .i64 t)) (p := ⟨w.heap.size + 1, 1, none⟩) (by simp; omega) (.slice a1 m1 cp1)) (p := ⟨w.heap.size + 1, 2, none⟩) (by simp; omega) (.slice a2 m2 cp2)
  refine ⟨_, _, rfl, ?_, own_base O4 (by omega), ⟨w1.heap.size, O4, HB.out⟩, (by repeat (first | (with_reducible refine Ext.setCell ?_ (by first | (simp; done) | (simp; omega)) _) | with_reducible refine Ext.alloc ?_ _ | with_reducible refine Ext.drew ?_ | with_reducible refine Ext.drewN ?_ _ | with_reducible assumption | with_reducible exact Ext.refl _ | with_reducible refine Ext.trans ?_ (by with_reducible assumption)))⟩
  exact own_base (own_set (own_set (own_set (own_set O3.out (by simp) _) (by simp) _) (by simp) _) (by simp) _) (by omega)

theorem eqCircuit_same (q : Int) {n b1 b2 : Nat} {v1 v2 : Value} {xs : List Int} (hl : xs.length = n * 3) (hn : n ≤ 2000000) (w : World) (h1 : w.ownsRow b1 79 3 v1 n (IL xs)) (h2 : w.ownsRow b2 79 3 v2 n (IL xs)) :
    Calls Tryd.prog 26 #[.agg #[.int .i64 q, v1], .agg #[.int .i64 q, v2]] w fun e w' => e = .returned (.bool true) ∧ Ext w w' := by
  have HE := fun w' (hx : Ext w w') => Lib.hid (eqGateS_same hl (by omega) w' (own_ext h1 hx) (own_ext h2 hx))
  obtain ⟨a1, cp1, rfl, q1, q2, q3⟩ := own_shape h1
  obtain ⟨a2, cp2, rfl, q4, q5, q6⟩ := own_shape h2
  clear q3 q6 h1 h2
  go_enter Tryd.func26, Tryd.ntmps26
  go_wp2_with fail
  refine (HE _ (by repeat (first | exact Ext.refl _ | assumption | refine Ext.alloc ?_ _ | refine Ext.drew ?_ | refine Ext.drewN ?_ _ | refine Ext.setCell ?_ (by first | omega | (dsimp only; omega) | (simp; done) | (simp; omega)) _ | refine Ext.trans ?_ (by assumption)))).out.mono ?_
  rintro e w1 ⟨rfl, hx1⟩
  obtain ⟨hc1, hf1⟩ := hx1.cells
  have hz1 := hx1.size
  try simp at hz1
  have hs1_0 := sz2 (a := w.heap.size) (b := w1.heap.size) (by omega)
  go_wp2
  go_ret
  exact ⟨rfl, (by repeat (first | exact Ext.refl _ | assumption | refine Ext.alloc ?_ _ | refine Ext.drew ?_ | refine Ext.drewN ?_ _ | refine Ext.setCell ?_ (by first | omega | (dsimp only; omega) | (simp; done) | (simp; omega)) _ | refine Ext.trans ?_ (by assumption)))⟩

set_option maxHeartbeats 1000000 in
theorem eqReplacement_same (t : Int) {n m b1 b2 b3 b4 : Nat} {v1 v2 v3 v4 : Value} {xs ys : List Int} (hl : xs.length = n * 3) (hn : n ≤ 2000000) (hl' : ys.length = m * 3) (hm : m ≤ 2000000) (w : World)
    (h1 : w.ownsRow b1 79 3 v1 n (IL xs)) (h2 : w.ownsRow b2 79 3 v2 m (IL ys)) (h3 : w.ownsRow b3 79 3 v3 n (IL xs)) (h4 : w.ownsRow b4 79 3 v4 m (IL ys)) :
    Calls Tryd.prog 64 #[.agg #[.int .i64 t, v1, v2], .agg #[.int .i64 t, v3, v4]] w fun e w' => e = .returned (.bool true) ∧ Ext w w' := by
  have HE1 := fun w' (hx : Ext w w') => Lib.hid (eqGateS_same hl (by omega) w' (own_ext h1 hx) (own_ext h3 hx))
  have HE2 := fun w' (hx : Ext w w') => Lib.hid (eqGateS_same hl' (by omega) w' (own_ext h2 hx) (own_ext h4 hx))
  obtain ⟨a1, cp1, rfl, q1, q2, q3⟩ := own_shape h1
  obtain ⟨a2, cp2, rfl, q4, q5, q6⟩ := own_shape h2
  obtain ⟨a3, cp3, rfl, r1, r2, r3⟩ := own_shape h3
  obtain ⟨a4, cp4, rfl, r4, r5, r6⟩ := own_shape h4
  clear q3 q6 r3 r6 h1 h2 h3 h4
  go_enter Tryd.func64, Tryd.ntmps64
  go_wp2_with fail
  refine (HE1 _ (by repeat (first | exact Ext.refl _ | assumption | refine Ext.alloc ?_ _ | refine Ext.drew ?_ | refine Ext.drewN ?_ _ | refine Ext.setCell ?_ (by first | omega | (dsimp only; omega) | (simp; done) | (simp; omega)) _ | refine Ext.trans ?_ (by assumption)))).out.mono ?_
  rintro e w1 ⟨rfl, hx1⟩
  obtain ⟨hc1, hf1⟩ := hx1.cells
  have hz1 := hx1.size
  try simp at hz1
  have hs1_0 := sz2 (a := w.heap.size) (b := w1.heap.size) (by omega)
  go_wp2_with fail
  refine (HE2 _ (by repeat (first | exact Ext.refl _ | assumption | refine Ext.alloc ?_ _ | refine Ext.drew ?_ | refine Ext.drewN ?_ _ | refine Ext.setCell ?_ (by first | omega | (dsimp only; omega) | (simp; done) | (simp; omega)) _ | refine Ext.trans ?_ (by assumption)))).out.mono ?_
  rintro e w2 ⟨rfl, hx2⟩
  obtain ⟨hc2, hf2⟩ := hx2.cells
  have hz2 := hx2.size
  try simp at hz2
  have hs2_0 := sz2 (a := w.heap.size) (b := w2.heap.size) (by omega)
  go_wp2
  go_ret
  exact ⟨rfl, (by repeat (first | exact Ext.refl _ | assumption | refine Ext.alloc ?_ _ | refine Ext.drew ?_ | refine Ext.drewN ?_ _ | refine Ext.setCell ?_ (by first | omega | (dsimp only; omega) | (simp; done) | (simp; omega)) _ | refine Ext.trans ?_ (by assumption)))⟩

theorem szCircuit_any (q l : Int) {v : Value} {m : Nat} {xs : List Int} (hl : 0 ≤ l ∧ l ≤ 1048576) (w : World) (h : RV w 3 v m xs) :
    Calls Tryd.prog 11 #[.agg #[.int .i64 q, v], .int .i64 l] w fun e w' => e = .returned (.int .i64 (if (m : Int) ≤ l then l - m else -1)) ∧ Ext w w' := by
  have HS := fun w' (hx : Ext w w') => Lib.hid (szGateS_any l hl w' (h.ext hx))
  obtain ⟨_, a, cap, rfl, c1, c2, _⟩ := h
  by_cases hm : (m : Int) ≤ l
  all_goals
    first | rw [if_pos hm] at HS ⊢ | rw [if_neg hm] at HS ⊢
    try have hm2 : ¬ (l - m < 0) := by omega
    go_enter Tryd.func11, Tryd.ntmps11
    go_wp2_with fail
    refine (HS _ (by repeat (first | exact Ext.refl _ | assumption | refine Ext.alloc ?_ _ | refine Ext.drew ?_ | refine Ext.drewN ?_ _ | refine Ext.setCell ?_ (by first | omega | (dsimp only; omega) | (simp; done) | (simp; omega)) _ | refine Ext.trans ?_ (by assumption)))).out.mono ?_
    rintro e w1 ⟨rfl, rfl⟩
    go_wp2
    go_ret
    exact ⟨rfl, (by repeat (first | exact Ext.refl _ | assumption | refine Ext.alloc ?_ _ | refine Ext.drew ?_ | refine Ext.drewN ?_ _ | refine Ext.setCell ?_ (by first | omega | (dsimp only; omega) | (simp; done) | (simp; omega)) _ | refine Ext.trans ?_ (by assumption)))⟩

theorem szReplacement_any (t l : Int) {v1 v2 : Value} {m1 m2 : Nat} {xs ys : List Int} (hl : 0 ≤ l ∧ l ≤ 1048576) (w : World) (h1 : RV w 3 v1 m1 xs) (h2 : RV w 3 v2 m2 ys) :
    Calls Tryd.prog 52 #[.agg #[.int .i64 t, v1, v2], .int .i64 l] w fun e w' => e = .returned (.int .i64 (if (m1 : Int) + m2 ≤ l then l - m1 - m2 else -1)) ∧ Ext w w' := by
  have HS1 := fun w' (hx : Ext w w') => Lib.hid (szGateS_any l hl w' (h1.ext hx))
  have HS2 := fun l hl w' (hx : Ext w w') => Lib.hid (szGateS_any l hl w' (h2.ext hx))
  obtain ⟨_, a, cap, rfl, c1, c2, _⟩ := h1
  obtain ⟨_, a2, cap2, rfl, c3, c4, _⟩ := h2
  by_cases hm : (m1 : Int) ≤ l
  case neg =>
    rw [if_neg hm] at HS1
    rw [if_neg (by omega)]
    go_enter Tryd.func52, Tryd.ntmps52
    go_wp2_with fail
    refine (HS1 _ (by repeat (first | exact Ext.refl _ | assumption | refine Ext.alloc ?_ _ | refine Ext.drew ?_ | refine Ext.drewN ?_ _ | refine Ext.setCell ?_ (by first | omega | (dsimp only; omega) | (simp; done) | (simp; omega)) _ | refine Ext.trans ?_ (by assumption)))).out.mono ?_
    rintro e w1 ⟨rfl, rfl⟩
    go_wp2
    go_ret
    exact ⟨rfl, (by repeat (first | exact Ext.refl _ | assumption | refine Ext.alloc ?_ _ | refine Ext.drew ?_ | refine Ext.drewN ?_ _ | refine Ext.setCell ?_ (by first | omega | (dsimp only; omega) | (simp; done) | (simp; omega)) _ | refine Ext.trans ?_ (by assumption)))⟩
  rw [if_pos hm] at HS1
  have hm2 : ¬ (l - m1 < 0) := by omega
  have HS3 := HS2 (l - m1) (by omega)
  clear HS2
  by_cases hk : (m2 : Int) ≤ l - m1
  · rw [if_pos hk] at HS3
    have hk2 : ¬ (l - m1 - m2 < 0) := by omega
    rw [if_pos (by omega)]
    go_enter Tryd.func52, Tryd.ntmps52
    go_wp2_with fail
    refine (HS1 _ (by repeat (first | exact Ext.refl _ | assumption | refine Ext.alloc ?_ _ | refine Ext.drew ?_ | refine Ext.drewN ?_ _ | refine Ext.setCell ?_ (by first | omega | (dsimp only; omega) | (simp; done) | (simp; omega)) _ | refine Ext.trans ?_ (by assumption)))).out.mono ?_
    rintro e w1 ⟨rfl, rfl⟩
    go_wp2_with fail
    refine (HS3 _ (by repeat (first | exact Ext.refl _ | assumption | refine Ext.alloc ?_ _ | refine Ext.drew ?_ | refine Ext.drewN ?_ _ | refine Ext.setCell ?_ (by first | omega | (dsimp only; omega) | (simp; done) | (simp; omega)) _ | refine Ext.trans ?_ (by assumption)))).out.mono ?_
    rintro e w1 ⟨rfl, rfl⟩
    go_wp2
    go_ret
    exact ⟨rfl, (by repeat (first | exact Ext.refl _ | assumption | refine Ext.alloc ?_ _ | refine Ext.drew ?_ | refine Ext.drewN ?_ _ | refine Ext.setCell ?_ (by first | omega | (dsimp only; omega) | (simp; done) | (simp; omega)) _ | refine Ext.trans ?_ (by assumption)))⟩
  · rw [if_neg hk] at HS3
    rw [if_neg (by omega)]
    go_enter Tryd.func52, Tryd.ntmps52
    go_wp2_with fail
    refine (HS1 _ (by repeat (first | exact Ext.refl _ | assumption | refine Ext.alloc ?_ _ | refine Ext.drew ?_ | refine Ext.drewN ?_ _ | refine Ext.setCell ?_ (by first | omega | (dsimp only; omega) | (simp; done) | (simp; omega)) _ | refine Ext.trans ?_ (by assumption)))).out.mono ?_
    rintro e w1 ⟨rfl, rfl⟩
    go_wp2_with fail
    refine (HS3 _ (by repeat (first | exact Ext.refl _ | assumption | refine Ext.alloc ?_ _ | refine Ext.drew ?_ | refine Ext.drewN ?_ _ | refine Ext.setCell ?_ (by first | omega | (dsimp only; omega) | (simp; done) | (simp; omega)) _ | refine Ext.trans ?_ (by assumption)))).out.mono ?_
    rintro e w1 ⟨rfl, rfl⟩
    go_wp2
    go_ret
    exact ⟨rfl, (by repeat (first | exact Ext.refl _ | assumption | refine Ext.alloc ?_ _ | refine Ext.drew ?_ | refine Ext.drewN ?_ _ | refine Ext.setCell ?_ (by first | omega | (dsimp only; omega) | (simp; done) | (simp; omega)) _ | refine Ext.trans ?_ (by assumption)))⟩

end Go.Proofs.YtgefamclfjoogaaDoor
