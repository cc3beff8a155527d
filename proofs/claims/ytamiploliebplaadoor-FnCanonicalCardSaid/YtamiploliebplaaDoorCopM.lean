/- Slices of dyadic numbers and matrices: sizes and copies. -/
import Derived.Test.YtamiploliebplaaDoorArgM
import Derived.Test.YtamiploliebplaaDoorDyS
import Derived.Test.YtamiploliebplaaDoorGateL
namespace Go.Proofs.YtamiploliebplaaDoor
open Go.RowKit
set_option linter.unusedVariables false
set_option linter.unusedSimpArgs false

theorem szDyadicS_any (l : Int) {v : Value} {m : Nat} {xs : List Int} (hl : 0 ≤ l ∧ l ≤ 1048576) (w : World) (h : RV w 5 v m xs) :
    Calls Tryd.prog 17 #[v, .int .i64 l] w fun e w' => e = .returned (.int .i64 (if (m : Int) ≤ l then l - m else -1)) ∧ w = w' := by
  obtain ⟨_, a, cap, rfl, c1, c2, _⟩ := h
  have c3 : (m : Int) ≤ 9223372036854775807 := by simp only [maxLen] at c2; omega
  by_cases hm : (m : Int) ≤ l
  · have hm2 : ¬ (l - m < 0) := by omega
    have hw : l - m ≤ 9223372036854775807 := by omega
    rw [if_pos hm]
    go_enter Tryd.func17, Tryd.ntmps17
    go_wp2
    go_ret
    exact ⟨rfl, rfl⟩
  · have hm2 : l - m < 0 := by omega
    have hw : -9223372036854775808 ≤ l - m := by omega
    rw [if_neg hm]
    go_enter Tryd.func17, Tryd.ntmps17
    go_wp2
    go_ret
    exact ⟨rfl, rfl⟩

/-- the first k cells are copied -/
def CP5 (zs ys : List Value) (k : Nat) : Prop := ∀ j, j < k → zs[j]? = ys[j]?
theorem CP5.snoc {zs ys : List Value} {k k' i : Nat} {u : Value} (h : CP5 zs ys k) (hk : k < zs.length) (hi : i = k) (hu : ys[k]? = some u) (hk' : k' = k + 1) : CP5 (zs.set i u) ys k' := by
  subst hi; subst hk'
  intro j hj
  rw [List.getElem?_set]
  split
  · rename_i e; subst e; first | rw [if_pos hk, hu] | rw [hu]
  · exact h j (by omega)
theorem CP5.full {zs ys : List Value} {k : Nat} (h : CP5 zs ys k) (h1 : zs.length = k) (h2 : ys.length = k) : zs = ys := by
  apply List.ext_getElem?
  intro j
  by_cases hj : j < k
  · exact h j hj
  · rw [List.getElem?_eq_none (by omega), List.getElem?_eq_none (by omega)]

theorem info_dyadic : (Tryd.prog.info? 46).map (fun i => (i.zero, i.size, i.bytes)) = some (some (.agg #[.int .i64 0, .int .i64 0, .int .i64 0, .int .i64 0, .int .i64 0]), 5, 40) := by kernel_rfl

set_option maxRecDepth 20000 in
set_option maxHeartbeats 2000000 in
theorem toDyadicS_any {v : Value} {m : Nat} {xs : List Int} (hm : m ≤ 1200000) (w : World) (h : RV w 5 v m xs) :
    Calls Tryd.prog 19 #[v] w fun e w' => ∃ v', e = .returned v' ∧ w'.ownsRow w.heap.size 46 5 v' m (IL xs) ∧ Ext w w' := by
  obtain ⟨i0, hi, hz0, hz1, hz2⟩ := info_parts info_dyadic
  obtain ⟨hl, a, cap, rfl, c1, c2, H⟩ := h
  have HH := Lib.hid H
  have HL := Lib.hid hl
  clear H hl
  go_enter Tryd.func19, Tryd.ntmps19
  have hl0 : (madeCells (Value.agg #[.int .i64 0, .int .i64 0, .int .i64 0, .int .i64 0, .int .i64 0]).cells (m * 5)).toList.length = m * 5 := by simp [madeCells]
  go_wp2_with (at_make; refine wpList_make_full _ rfl _ _ _ rfl w.heap.size 46 i0 (.agg #[.int .i64 0, .int .i64 0, .int .i64 0, .int .i64 0, .int .i64 0]) 5 Tryd.underlying28 hi hz0 hz1 .i64 .i64 _ _ m rfl rfl rfl rfl (by rw [hz2]; omega) (by simp only [maxLen]; omega) (Nat.le_refl _) ?_; intro w0 own0 hg0; generalize (madeCells (Value.agg #[.int .i64 0, .int .i64 0, .int .i64 0, .int .i64 0, .int .i64 0]).cells (m * 5)).toList = zs0 at own0 hl0; have HO := Lib.hid own0; clear own0)
  have hx0 : Ext w w0 := Ext.grown (Ext.refl w) hg0 (fun k hk => by cases hk)
  go_loopw [4] (fun i wr => ∃ (j : Nat) (zs : List Value), j ≤ m ∧ i = .int .i64 j ∧ wr.ownsRow w.heap.size 46 5 (.slice (some ⟨w.heap.size, 0, none⟩) m m) m zs ∧ zs.length = m * 5 ∧ CP5 zs (IL xs) (j * 5) ∧ Ext w wr) (fun i _ => m - (intOf i).toNat)
  case atStart => exact ⟨0, zs0, by omega, rfl, HO.out, hl0, fun j hj => absurd hj (by omega), hx0⟩
  case round =>
    obtain ⟨j, zs, hj, rfl, hown, hzl, hcp, hE⟩ := hrel
    have HW := Lib.hid hown
    have HC := Lib.hid hcp
    have HZ := Lib.hid hzl
    clear hown hcp hzl
    by_cases hlt : j < m
    · have hlt' : (j : Int) < m := by omega
      have y0 := at3_get (xs := xs) (j := j * 5) (by have := HL.out; omega)
      have y1 := at3_get (xs := xs) (j := j * 5 + 1) (by have := HL.out; omega)
      have y2 := at3_get (xs := xs) (j := j * 5 + 2) (by have := HL.out; omega)
      have y3 := at3_get (xs := xs) (j := j * 5 + 3) (by have := HL.out; omega)
      have y4 := at3_get (xs := xs) (j := j * 5 + 4) (by have := HL.out; omega)
      have Y := Lib.hid (And.intro y0 (And.intro y1 (And.intro y2 (And.intro y3 y4))))
      clear y0 y1 y2 y3 y4
      obtain ⟨b, off, rfl, hbk, hcell⟩ := HH.out (by omega)
      have hbr : b < wr.heap.size := by have := hE.size; omega
      have z0 : wr.cell? ⟨b, off + j * 5, none⟩ = some (.int .i64 (at3 xs (j * 5))) := (hE.cells.1 b (off + (j * 5)) hbk).trans (hcell _ _ (at3_get (by have := HL.out; omega)))
      have z1 : wr.cell? ⟨b, off + j * 5 + 1, none⟩ = some (.int .i64 (at3 xs (j * 5 + 1))) := (hE.cells.1 b (off + (j * 5 + 1)) hbk).trans (hcell _ _ (at3_get (by have := HL.out; omega)))
      have z2 : wr.cell? ⟨b, off + j * 5 + 2, none⟩ = some (.int .i64 (at3 xs (j * 5 + 2))) := (hE.cells.1 b (off + (j * 5 + 2)) hbk).trans (hcell _ _ (at3_get (by have := HL.out; omega)))
      have z3 : wr.cell? ⟨b, off + j * 5 + 3, none⟩ = some (.int .i64 (at3 xs (j * 5 + 3))) := (hE.cells.1 b (off + (j * 5 + 3)) hbk).trans (hcell _ _ (at3_get (by have := HL.out; omega)))
      have z4 : wr.cell? ⟨b, off + j * 5 + 4, none⟩ = some (.int .i64 (at3 xs (j * 5 + 4))) := (hE.cells.1 b (off + (j * 5 + 4)) hbk).trans (hcell _ _ (at3_get (by have := HL.out; omega)))
      clear hcell
      generalize at3 xs (j * 5) = k0 at *
      generalize at3 xs (j * 5 + 1) = k1 at *
      generalize at3 xs (j * 5 + 2) = k2 at *
      generalize at3 xs (j * 5 + 3) = k3 at *
      generalize at3 xs (j * 5 + 4) = k4 at *
      go_wp2_with fail
      refine (toDyadic_any _ _ _ _ _ _).mono ?_
      rintro e w1 ⟨rfl, hx1⟩
      obtain ⟨hc1, hf1⟩ := hx1.cells
      have hz1 := hx1.size
      try simp at hz1
      have HW1 := Lib.hid (own_ext HW.out hx1)
      obtain ⟨u0, q0⟩ := own_at HW1.out HZ.out (k := j * 5) (by omega)
      obtain ⟨u1, q1⟩ := own_at HW1.out HZ.out (k := j * 5 + 1) (by omega)
      obtain ⟨u2, q2⟩ := own_at HW1.out HZ.out (k := j * 5 + 2) (by omega)
      obtain ⟨u3, q3⟩ := own_at HW1.out HZ.out (k := j * 5 + 3) (by omega)
      obtain ⟨u4, q4⟩ := own_at HW1.out HZ.out (k := j * 5 + 4) (by omega)
      have hfr := HW1.out.frozenAt
      go_wp2
      go_roundw
      case rel =>
        have s0 := World.ownsRow.stored (HW1.out) (j * 5) (.int .i64 k0)
        have s1 := World.ownsRow.stored (s0.1) (j * 5 + 1) (.int .i64 k1)
        have s2 := World.ownsRow.stored (s1.1) (j * 5 + 2) (.int .i64 k2)
        have s3 := World.ownsRow.stored (s2.1) (j * 5 + 3) (.int .i64 k3)
        have s4 := World.ownsRow.stored (s3.1) (j * 5 + 4) (.int .i64 k4)
        have c0 := CP5.snoc HC.out (by have := HZ.out; omega) rfl Y.out.1 (k' := j * 5 + 1) rfl
        have c1 := CP5.snoc c0 (by simp only [List.length_set]; have := HZ.out; omega) rfl Y.out.2.1 (k' := j * 5 + 2) rfl
        have c2 := CP5.snoc c1 (by simp only [List.length_set]; have := HZ.out; omega) rfl Y.out.2.2.1 (k' := j * 5 + 3) rfl
        have c3 := CP5.snoc c2 (by simp only [List.length_set]; have := HZ.out; omega) rfl Y.out.2.2.2.1 (k' := j * 5 + 4) rfl
        have c4 := CP5.snoc c3 (by simp only [List.length_set]; have := HZ.out; omega) rfl Y.out.2.2.2.2 (k' := j * 5 + 5) rfl
        refine ⟨j + 1, _, by omega, by go_num, s4.1, ?_, ?_, ?_⟩
        · simpa using HZ.out
        · rw [show (j + 1) * 5 = j * 5 + 5 by omega]
          exact c4
        · exact Ext.grown (hE.trans hx1) ((((s0.2.trans s1.2).trans s2.2).trans s3.2).trans s4.2) (fun k hk => by cases hk; exact Nat.le_refl _)
      case measure => simp [intOf]; omega
    · obtain rfl : j = m := by omega
      go_wp2
      go_ret
      refine ⟨_, rfl, ?_, hE⟩
      rw [← CP5.full HC.out HZ.out (by rw [il_length]; exact HL.out)]
      exact HW.out

theorem toMatrix_any (r c : Int) {v : Value} {m : Nat} {xs : List Int} (hm : m ≤ 1200000) (w : World) (h : RV w 5 v m xs) :
    Calls Tryd.prog 7 #[.agg #[.int .i64 r, .int .i64 c, v]] w fun e w' => ∃ v', e = .returned (.agg #[.int .i64 r, .int .i64 c, v']) ∧ w'.ownsRow w.heap.size 46 5 v' m (IL xs) ∧ Ext w w' := by
  have HT := fun w' (hx : Ext w w') => Lib.hid (toDyadicS_any hm w' (h.ext hx))
  obtain ⟨hl, a, cap, rfl, c1, c2, H⟩ := h
  clear H
  go_enter Tryd.func7, Tryd.ntmps7
  go_wp2_with fail
  refine (HT _ (by repeat (first | exact Ext.refl _ | assumption | refine Ext.alloc ?_ _ | refine Ext.drew ?_ | refine Ext.drewN ?_ _ | refine Ext.setCell ?_ (by first | omega | (dsimp only; omega) | (simp; done) | (simp; omega)) _ | refine Ext.trans ?_ (by assumption)))).out.mono ?_
  rintro e w1 ⟨v', rfl, o1, hx1⟩
  obtain ⟨hc1, hf1⟩ := hx1.cells
  have hz1 := hx1.size
  try simp at hz1
  have hs1_0 := sz3 (a := w.heap.size) (b := w1.heap.size) (by omega)
  obtain ⟨a', cap', rfl, q1, q2, q3⟩ := own_shape o1
  have O1 := Lib.hid (own_base (base' := w.heap.size + 1 + 1 + 1) o1 (by simp))
  clear q3 o1
  go_wp2
  refine bodyPost_ret (v := .agg #[.int .i64 r, .int .i64 c, .slice a' m cap']) (by simp [results, Tryd.results7, go_sem, *]) rfl ⟨_, rfl, ?_⟩
  exact ⟨own_base (own_set (own_set (own_set (own_set O1.out (by simp) _) (by simp) _) (by simp) _) (by simp) _) (by omega), (by repeat (first | (with_reducible refine Ext.setCell ?_ (by first | (simp; done) | (simp; omega)) _) | with_reducible refine Ext.alloc ?_ _ | with_reducible refine Ext.drew ?_ | with_reducible refine Ext.drewN ?_ _ | with_reducible assumption | with_reducible exact Ext.refl _ | with_reducible refine Ext.trans ?_ (by with_reducible assumption)))⟩

theorem szMatrix_any (r c l : Int) {v : Value} {m : Nat} {xs : List Int} (hl : 0 ≤ l ∧ l ≤ 1048576) (w : World) (h : RV w 5 v m xs) :
    Calls Tryd.prog 5 #[.agg #[.int .i64 r, .int .i64 c, v], .int .i64 l] w fun e w' => e = .returned (.int .i64 (if (m : Int) ≤ l then l - m else -1)) ∧ Ext w w' := by
  have HS := fun w' (hx : Ext w w') => Lib.hid (szDyadicS_any l hl w' (h.ext hx))
  obtain ⟨_, a, cap, rfl, c1, c2, _⟩ := h
  by_cases hm : (m : Int) ≤ l
  all_goals
    first | rw [if_pos hm] at HS ⊢ | rw [if_neg hm] at HS ⊢
    try have hm2 : ¬ (l - m < 0) := by omega
    go_enter Tryd.func5, Tryd.ntmps5
    go_wp2_with fail
    refine (HS _ (by repeat (first | exact Ext.refl _ | assumption | refine Ext.alloc ?_ _ | refine Ext.drew ?_ | refine Ext.drewN ?_ _ | refine Ext.setCell ?_ (by first | omega | (dsimp only; omega) | (simp; done) | (simp; omega)) _ | refine Ext.trans ?_ (by assumption)))).out.mono ?_
    rintro e w1 ⟨rfl, rfl⟩
    go_wp2
    go_ret
    exact ⟨rfl, (by repeat (first | exact Ext.refl _ | assumption | refine Ext.alloc ?_ _ | refine Ext.drew ?_ | refine Ext.drewN ?_ _ | refine Ext.setCell ?_ (by first | omega | (dsimp only; omega) | (simp; done) | (simp; omega)) _ | refine Ext.trans ?_ (by assumption)))⟩

end Go.Proofs.YtamiploliebplaaDoor
