/- The law FnTraces. -/
import Derived.Test.YtbddgeoaaklgpaaTrC
import Derived.Test.YtbddgeoaaklgpaaTrP
import Derived.Test.YtbddgeoaaklgpaaQwG
namespace Go.Proofs.Ytbddgeoaaklgpaa
open Go.RowKit Go.Lib
set_option linter.unusedVariables false
set_option linter.unusedSimpArgs false

theorem eqC_reflT (q : Int) (n : Nat) (xs : List Int) : eqC q n xs q n xs = true := by
  unfold eqC eqG
  rw [allTo_mkQ (fun j _ => by unfold eqAt; simp)]
  simp
theorem eqC_eq {p q : Int} {n m : Nat} {xs ys : List Int} (h : eqC p n xs q m ys = true) (hx : xs.length = n * 3) (hy : ys.length = m * 3) : p = q ∧ n = m ∧ xs = ys := by
  unfold eqC at h
  simp only [Bool.and_eq_true, beq_iff_eq, decide_eq_true_eq] at h
  obtain ⟨h1, h2, h3⟩ := h
  subst h2
  refine ⟨h1, rfl, List.ext_getElem (hx.trans hy.symm) fun i a b => ?_⟩
  have e0 : ∀ (zs : List Int) (h : i < zs.length), zs[i] = at3 zs i := fun zs h => by simp [at3, List.getD_eq_getElem?_getD, h]
  rw [e0, e0]
  have h4 := allTo_at (f := eqAt xs ys) h3 (show i / 3 < n by omega)
  unfold eqAt at h4
  simp only [Bool.and_eq_true, beq_iff_eq] at h4
  have hr : i = i / 3 * 3 ∨ i = i / 3 * 3 + 1 ∨ i = i / 3 * 3 + 2 := by omega
  rcases hr with e | e | e <;> rw [e]
  · exact h4.1
  · first | exact h4.2.1 | exact h4.1.2
  · first | exact h4.2.2 | exact h4.2
/-- circuits that are found to be the same have the same depth and operator -/
theorem st_same {p q : Nat} {xs ys : List Int} {n m : Nat} (hn : n ≤ 20) (h : stV p xs n q ys m = true) : q = p ∧ cOk p xs n = true ∧ cOk p ys m = true ∧ tD (clG ys m) = tD (clG xs n) ∧ (p ≤ 3 → opB p xs n = true ∧ opB p ys m = true ∧ opL p xs n = opL p ys m) := by
  unfold stV at h
  rw [Bool.and_eq_true] at h
  obtain ⟨h1, h2⟩ := h
  unfold stK at h1
  simp only [Bool.and_eq_true, beq_iff_eq] at h1
  obtain ⟨c1, c2, c3⟩ := h1
  obtain rfl : p = q := by omega
  have l1 := foL_len p xs n
  have l2 := foL_len p ys m
  have n1 : foN p xs n = n := by unfold foN; rw [if_pos c1]
  have n2 : foN p ys m = m := by unfold foN; rw [if_pos c2]
  rw [n1] at l1
  rw [n2] at l2
  obtain ⟨-, h3, h4⟩ := eqC_eq h2 l1 l2
  obtain ⟨o1, o2⟩ := fo_same c1 c2 h3 h4
  exact ⟨rfl, c1, c2, o1.symm, fun h => o2 h hn⟩
/-- what is asked of a circuit and its sorted one -/
theorem st_fo {r : Nat} {zs : List Int} {k : Nat} (hc : cOk r zs k = true) : stK r zs k r (foL r zs k) k = true ∧ stV r zs k r (foL r zs k) k = true := by
  obtain ⟨f1, f2, f3, f4, f5, f6⟩ := fo_facts hc
  have h1 : stK r zs k r (foL r zs k) k = true := by
    unfold stK
    rw [hc, f4]
    simp
  refine ⟨h1, ?_⟩
  unfold stV
  rw [h1, f5, eqC_reflT]
  rfl

set_option maxRecDepth 20000 in
set_option maxHeartbeats 16000000 in
theorem law_FnTraces (v1 v2 : Value) (n1 n2 : Nat) (w : World) (h1 : BY w.heap.size w v1 n1) (h2 : BY w.heap.size w v2 n2) :
    Calls Try.prog 4 #[v1, v2] w fun e w' => e = .returned (.bool true) ∧ Ext w w' := by
  have HD := fun w' (hx : Ext w w') => Lib.hid (drawSameTrace_any v1 n1 w' (h1.later hx))
  have HD2 := fun w' (hx : Ext w w') => Lib.hid (drawFoataOf_any v2 n2 w' (h2.later hx))
  obtain ⟨q1, r1, rfl, k1, k2, -⟩ := h1
  obtain ⟨q2, r2, rfl, k3, k4, -⟩ := h2
  have m1 : n1 ≤ 9223372036854775807 := Nat.le_trans k1 k2
  have m2 : n2 ≤ 9223372036854775807 := Nat.le_trans k3 k4
  go_enter Try.func4, Try.ntmps4
  by_cases hb : (1048576 : Int) < wrap64 ((n1 : Int) + n2)
  · clear HD HD2
    go_wp2
    go_ret
    exact ⟨rfl, (by repeat (first | exact Ext.refl _ | assumption | refine Ext.alloc ?_ _ | refine Ext.drew ?_ | refine Ext.drewN ?_ _ | refine Ext.setCell ?_ (by first | omega | (dsimp only; omega) | (simp; done) | (simp; omega)) _ | refine Ext.trans ?_ (by assumption)))⟩
  go_wp2_with fail
  refine (HD _ (by repeat (first | exact Ext.refl _ | assumption | refine Ext.alloc ?_ _ | refine Ext.drew ?_ | refine Ext.drewN ?_ _ | refine Ext.setCell ?_ (by first | omega | (dsimp only; omega) | (simp; done) | (simp; omega)) _ | refine Ext.trans ?_ (by assumption)))).out.mono ?_
  rintro e w1 ⟨p, q, va, vb, rfl, hp, hq, ⟨n, xs, hn, hl, ho⟩, ⟨m, ys, hm, hl2, ho2⟩, hx1⟩
  clear HD hb m1 m2 k1 k2 k3 k4
  obtain ⟨P, rfl⟩ : ∃ P : Nat, p = P := ⟨p.toNat, by omega⟩
  obtain ⟨Q, rfl⟩ : ∃ Q : Nat, q = Q := ⟨q.toNat, by omega⟩
  obtain ⟨aa, ca, rfl, _, _, _⟩ := own_shape ho
  obtain ⟨ab, cb, rfl, _, _, _⟩ := own_shape ho2
  have X1 := Lib.hid hx1
  have RA := Lib.hid (RV.own ho hl)
  have RB := Lib.hid (RV.own ho2 hl2)
  have HST := fun (u v : Value) w' (r1 : RV w' 3 u n xs) (r2 : RV w' 3 v m ys) => Lib.hid (sameTrace_any P Q (by omega) (by omega) w' r1 r2)
  have HSS := fun (u v : Value) w' (r1 : RV w' 3 u n xs) (r2 : RV w' 3 v m ys) => Lib.hid (s_sameTrace_any P Q (by omega) (by omega) w' r1 r2)
  have HV : Hid (stV P xs n Q ys m = true → Q = P ∧ cOk P xs n = true ∧ cOk P ys m = true ∧ tD (clG ys m) = tD (clG xs n) ∧ (P ≤ 3 → opB P xs n = true ∧ opB P ys m = true ∧ opL P xs n = opL P ys m)) := Lib.hid (fun h => st_same (by omega) h)
  have HDa := fun (u : Value) w' (hc : cOk P xs n = true) (r : RV w' 3 u n xs) => Lib.hid (depthOf_any P hc w' r)
  have HDb := fun (u : Value) w' (hc : cOk P ys m = true) (r : RV w' 3 u m ys) => Lib.hid (depthOf_any P hc w' r)
  have HQab := fun (u v : Value) w' (hx : cOk P xs n = true) (hy : cOk P ys m = true) (hO : P ≤ 3 → opB P xs n = true ∧ opB P ys m = true ∧ opL P xs n = opL P ys m) (r1 : RV w' 3 u n xs) (r2 : RV w' 3 v m ys) => Lib.hid (qExact_any P hx hy hO w' r1 r2)
  clear ho ho2 hx1 hl hl2
  generalize stV P xs n Q ys m = V at *
  generalize stK P xs n Q ys m = K at *
  have hE1 := Ext.refl w1
  go_wp2_with fail
  refine (HST _ _ _ (RA.out.ext (by repeat (first | (with_reducible refine Ext.setCell ?_ (by first | (simp; done) | (simp; omega)) _) | with_reducible refine Ext.alloc ?_ _ | with_reducible refine Ext.drew ?_ | with_reducible refine Ext.drewN ?_ _ | with_reducible assumption | with_reducible exact Ext.refl _ | with_reducible refine Ext.trans ?_ (by with_reducible assumption)))) (RB.out.ext (by repeat (first | (with_reducible refine Ext.setCell ?_ (by first | (simp; done) | (simp; omega)) _) | with_reducible refine Ext.alloc ?_ _ | with_reducible refine Ext.drew ?_ | with_reducible refine Ext.drewN ?_ _ | with_reducible assumption | with_reducible exact Ext.refl _ | with_reducible refine Ext.trans ?_ (by with_reducible assumption))))).out.mono ?_
  rintro e w2 ⟨rfl, hx2⟩
  obtain ⟨hc2, hf2⟩ := hx2.cells
  have hz2 := hx2.size
  try simp at hz2
  have hs2_0 := sz2 (a := w1.heap.size) (b := w2.heap.size) (by omega)
  have X2 : Hid (Ext w1 w2) := Lib.hid ((((Ext.refl w1).alloc _).alloc _).trans hx2)
  go_wp2_with fail
  refine (HSS _ _ _ (RA.out.ext X2.out) (RB.out.ext X2.out)).out.mono ?_
  rintro e w3 ⟨rfl, hx3⟩
  obtain ⟨hc3, hf3⟩ := hx3.cells
  have hz3 := hx3.size
  try simp at hz3
  have hs3_0 := sz2 (a := w1.heap.size) (b := w3.heap.size) (by omega)
  have X3 : Hid (Ext w1 w3) := X2.out.trans hx3
  go_wp2_with fail
  refine (HD2 _ (X1.out.trans X3.out)).out.mono ?_
  rintro e w4 ⟨r, vc, rfl, hr, ⟨k, zs, hk, hl3, ho3⟩, hx4⟩
  obtain ⟨hc4, hf4⟩ := hx4.cells
  have hz4 := hx4.size
  try simp at hz4
  have hs4_0 := sz2 (a := w1.heap.size) (b := w4.heap.size) (by omega)
  obtain ⟨R, rfl⟩ : ∃ R : Nat, r = R := ⟨r.toNat, by omega⟩
  obtain ⟨ac, cc, rfl, _, _, _⟩ := own_shape ho3
  have RC := Lib.hid (RV.own ho3 hl3)
  have X4 : Hid (Ext w1 w4) := X3.out.trans hx4
  clear ho3 hl3 HD2 HST HSS
  cases hc : cOk R zs k
  · obtain ⟨f1, f2, f3⟩ := foL_no hc
    have HFI := fun (v : Value) w' (r : RV w' 3 v k zs) => Lib.hid (foataOf_any R (show k < 20 by omega) w' r)
    have HFS := fun (v : Value) w' (r : RV w' 3 v k zs) => Lib.hid (s_foataOf_any R (show k ≤ 2000000 by omega) w' r)
    have HFE := fun (u v : Value) w' (r1 : RV w' 3 u 0 []) (r2 : RV w' 3 v 0 []) => Lib.hid (equalCircuits_any 0 0 (by omega) (by omega) w' r1 r2)
    rw [hc, f1, f2, f3] at HFI HFS
    rw [eqC_reflT] at HFE
    clear hc f1 f2 f3
    go_wp2_with fail
    refine (HFI _ _ (RC.out.ext ((Ext.refl _).alloc _))).out.mono ?_
    rintro e w5 ⟨vf, rfl, o5, hx5⟩
    obtain ⟨hc5, hf5⟩ := hx5.cells
    have hz5 := hx5.size
    try simp at hz5
    have hs5_0 := sz1 (a := w4.heap.size) (b := w5.heap.size) (by omega)
    have hs5_1 := sz2 (a := w1.heap.size) (b := w5.heap.size) (by omega)
    obtain ⟨af, cf, rfl, _, _, _⟩ := own_shape o5
    have RF := Lib.hid (RV.own o5 (rfl : ([] : List Int).length = 0 * 3))
    have X45 : Hid (Ext w4 w5) := Lib.hid (((Ext.refl _).alloc _).trans hx5)
    clear o5
    go_wp2_with fail
    refine (HFS _ _ (RC.out.ext (X45.out.alloc _))).out.mono ?_
    rintro e w6 ⟨vg, rfl, o6, hx6⟩
    obtain ⟨hc6, hf6⟩ := hx6.cells
    have hz6 := hx6.size
    try simp at hz6
    have hs6_0 := sz1 (a := w5.heap.size) (b := w6.heap.size) (by omega)
    have hs6_1 := sz1 (a := w4.heap.size) (b := w6.heap.size) (by omega)
    have hs6_2 := sz2 (a := w1.heap.size) (b := w6.heap.size) (by omega)
    obtain ⟨ag, cg, rfl, _, _, _⟩ := own_shape o6
    have RG := Lib.hid (RV.own o6 (rfl : ([] : List Int).length = 0 * 3))
    have X56 : Hid (Ext w5 w6) := Lib.hid (((Ext.refl _).alloc _).trans hx6)
    clear o6
    go_wp2_with fail
    refine (HFE _ _ _ (RF.out.ext (X56.out.alloc _)) (RG.out.ext ((Ext.refl _).alloc _))).out.mono ?_
    rintro e w7 ⟨rfl, hx7⟩
    obtain ⟨hc7, hf7⟩ := hx7.cells
    have hz7 := hx7.size
    try simp at hz7
    have hs7_0 := sz2 (a := w1.heap.size) (b := w7.heap.size) (by omega)
    have XW : Hid (Ext w1 w7) := X4.out.trans (X45.out.trans (X56.out.trans (((Ext.refl _).alloc _).trans hx7)))
    clear RF RG HFI HFS HFE
    have XZ : Hid (Ext w w7) := X1.out.trans XW.out
    cases K
    · clear HV HDa HDb HQab
      go_wp2
      go_ret
      exact ⟨by first | rfl | simp, XZ.out⟩
    cases V
    · clear HV HDa HDb HQab
      go_wp2
      go_ret
      exact ⟨by first | rfl | simp, XZ.out⟩
    obtain ⟨rfl, o1, o2, o3, o4⟩ := HV.out rfl
    clear HV
    rw [o3] at HDb
    have RAZ := Lib.hid (RA.out.ext XW.out)
    have RBZ := Lib.hid (RB.out.ext XW.out)
    have O4 := Lib.hid o4
    clear o3 o4 RA RB
    generalize tD (clG xs n) = D at *
    go_wp2_with fail
    refine (HDa _ _ o1 RAZ.out).out.mono ?_
    rintro e wa ⟨rfl, hxa⟩
    obtain ⟨hca, hfa⟩ := hxa.cells
    have hza := hxa.size
    try simp at hza
    have hsa_0 := sz2 (a := w1.heap.size) (b := wa.heap.size) (by omega)
    have XA := Lib.hid hxa
    go_wp2_with fail
    refine (HDb _ _ o2 (RBZ.out.ext XA.out)).out.mono ?_
    rintro e wb ⟨rfl, hxb⟩
    obtain ⟨hcb, hfb⟩ := hxb.cells
    have hzb := hxb.size
    try simp at hzb
    have hsb_0 := sz2 (a := w1.heap.size) (b := wb.heap.size) (by omega)
    have XB := Lib.hid (XA.out.trans hxb)
    go_wp2_with fail
    refine (HQab _ _ _ o1 o2 O4.out (RAZ.out.ext XB.out) (RBZ.out.ext XB.out)).out.mono ?_
    rintro e wc ⟨rfl, hxc⟩
    go_wp2
    go_ret
    exact ⟨by first | rfl | simp, XZ.out.trans (XB.out.trans hxc)⟩
  · obtain ⟨f1, f2, f3, f4, f5, f6⟩ := fo_facts hc
    obtain ⟨g1, g2⟩ := st_fo hc
    have lF := foL_len R zs k
    rw [f2] at lF
    have f7 : foQ R (foL R zs k) k = R := by unfold foQ; rw [if_pos f4]
    have f8 : foN R (foL R zs k) k = k := by unfold foN; rw [if_pos f4]
    have HFI := fun (v : Value) w' (r : RV w' 3 v k zs) => Lib.hid (foataOf_any R (show k < 20 by omega) w' r)
    have HFS := fun (v : Value) w' (r : RV w' 3 v k zs) => Lib.hid (s_foataOf_any R (show k ≤ 2000000 by omega) w' r)
    have HFA := fun (v : Value) w' (r : RV w' 3 v k (foL R zs k)) => Lib.hid (foataOf_any R (show k < 20 by omega) w' r)
    have HSC := fun (u v : Value) w' (r1 : RV w' 3 u k zs) (r2 : RV w' 3 v k (foL R zs k)) => Lib.hid (sameTrace_any R R (show k < 20 by omega) (show k < 20 by omega) w' r1 r2)
    have HFE := fun (u v : Value) w' (r1 : RV w' 3 u k (foL R zs k)) (r2 : RV w' 3 v k (foL R zs k)) => Lib.hid (equalCircuits_any R R (show k ≤ 2000000 by omega) (show k ≤ 2000000 by omega) w' r1 r2)
    have HQE := fun (u v : Value) w' (r1 : RV w' 3 u k zs) (r2 : RV w' 3 v k (foL R zs k)) => Lib.hid (qExact_any R hc f4 (fun h3 => f6 h3 (by omega)) w' r1 r2)
    rw [hc, f1, f2] at HFI HFS
    rw [f4, f5, f7, f8] at HFA
    rw [g1, g2] at HSC
    rw [eqC_reflT] at HFE
    have LF := Lib.hid lF
    clear hc f1 f2 f3 f4 f5 f6 f7 f8 g1 g2 lF
    generalize foL R zs k = F at *
    go_wp2_with fail
    refine (HFI _ _ (RC.out.ext ((Ext.refl _).alloc _))).out.mono ?_
    rintro e w5 ⟨vf, rfl, o5, hx5⟩
    obtain ⟨hc5, hf5⟩ := hx5.cells
    have hz5 := hx5.size
    try simp at hz5
    have hs5_0 := sz1 (a := w4.heap.size) (b := w5.heap.size) (by omega)
    have hs5_1 := sz2 (a := w1.heap.size) (b := w5.heap.size) (by omega)
    obtain ⟨af, cf, rfl, _, _, _⟩ := own_shape o5
    have RF := Lib.hid (RV.own o5 LF.out)
    have X45 : Hid (Ext w4 w5) := Lib.hid (((Ext.refl _).alloc _).trans hx5)
    clear o5
    go_wp2_with fail
    refine (HFS _ _ (RC.out.ext (X45.out.alloc _))).out.mono ?_
    rintro e w6 ⟨vg, rfl, o6, hx6⟩
    obtain ⟨hc6, hf6⟩ := hx6.cells
    have hz6 := hx6.size
    try simp at hz6
    have hs6_0 := sz1 (a := w5.heap.size) (b := w6.heap.size) (by omega)
    have hs6_1 := sz1 (a := w4.heap.size) (b := w6.heap.size) (by omega)
    have hs6_2 := sz2 (a := w1.heap.size) (b := w6.heap.size) (by omega)
    obtain ⟨ag, cg, rfl, _, _, _⟩ := own_shape o6
    have RG := Lib.hid (RV.own o6 LF.out)
    have X56 : Hid (Ext w5 w6) := Lib.hid (((Ext.refl _).alloc _).trans hx6)
    clear o6
    go_wp2_with fail
    refine (HFE _ _ _ (RF.out.ext (X56.out.alloc _)) (RG.out.ext ((Ext.refl _).alloc _))).out.mono ?_
    rintro e w7 ⟨rfl, hx7⟩
    obtain ⟨hc7, hf7⟩ := hx7.cells
    have hz7 := hx7.size
    try simp at hz7
    have hs7_0 := sz1 (a := w5.heap.size) (b := w7.heap.size) (by omega)
    have hs7_1 := sz1 (a := w4.heap.size) (b := w7.heap.size) (by omega)
    have hs7_2 := sz2 (a := w1.heap.size) (b := w7.heap.size) (by omega)
    have X57 : Hid (Ext w5 w7) := Lib.hid (X56.out.trans (((Ext.refl _).alloc _).trans hx7))
    go_wp2_with fail
    refine (HFA _ _ (RF.out.ext X57.out)).out.mono ?_
    rintro e w8 ⟨vh, rfl, o8, hx8⟩
    obtain ⟨hc8, hf8⟩ := hx8.cells
    have hz8 := hx8.size
    try simp at hz8
    have hs8_0 := sz1 (a := w5.heap.size) (b := w8.heap.size) (by omega)
    have hs8_1 := sz1 (a := w4.heap.size) (b := w8.heap.size) (by omega)
    have hs8_2 := sz2 (a := w1.heap.size) (b := w8.heap.size) (by omega)
    obtain ⟨ah, ch, rfl, _, _, _⟩ := own_shape o8
    have RH := Lib.hid (RV.own o8 LF.out)
    have X58 : Hid (Ext w5 w8) := Lib.hid (X57.out.trans hx8)
    clear o8
    go_wp2_with fail
    refine (HSC _ _ _ (RC.out.ext (X45.out.trans (X58.out.alloc _))) (RF.out.ext (X58.out.alloc _))).out.mono ?_
    rintro e w9 ⟨rfl, hx9⟩
    obtain ⟨hc9, hf9⟩ := hx9.cells
    have hz9 := hx9.size
    try simp at hz9
    have hs9_0 := sz1 (a := w8.heap.size) (b := w9.heap.size) (by omega)
    have hs9_1 := sz1 (a := w5.heap.size) (b := w9.heap.size) (by omega)
    have hs9_2 := sz1 (a := w4.heap.size) (b := w9.heap.size) (by omega)
    have hs9_3 := sz2 (a := w1.heap.size) (b := w9.heap.size) (by omega)
    have X89 : Hid (Ext w8 w9) := Lib.hid (((Ext.refl _).alloc _).trans hx9)
    go_wp2_with fail
    refine (HFE _ _ _ (RH.out.ext X89.out) (RF.out.ext (X58.out.trans X89.out))).out.mono ?_
    rintro e w10 ⟨rfl, hx10⟩
    obtain ⟨hc10, hf10⟩ := hx10.cells
    have hz10 := hx10.size
    try simp at hz10
    have hs10_0 := sz1 (a := w8.heap.size) (b := w10.heap.size) (by omega)
    have hs10_1 := sz1 (a := w5.heap.size) (b := w10.heap.size) (by omega)
    have hs10_2 := sz1 (a := w4.heap.size) (b := w10.heap.size) (by omega)
    have hs10_3 := sz2 (a := w1.heap.size) (b := w10.heap.size) (by omega)
    have X5a : Hid (Ext w5 w10) := Lib.hid (X58.out.trans (X89.out.trans hx10))
    go_wp2_with fail
    refine (HQE _ _ _ (RC.out.ext (X45.out.trans X5a.out)) (RF.out.ext X5a.out)).out.mono ?_
    rintro e w11 ⟨rfl, hx11⟩
    obtain ⟨hc11, hf11⟩ := hx11.cells
    have hz11 := hx11.size
    try simp at hz11
    have hs11_0 := sz2 (a := w1.heap.size) (b := w11.heap.size) (by omega)
    have XW : Hid (Ext w1 w11) := X4.out.trans (X45.out.trans (X5a.out.trans hx11))
    clear RF RG RH HFI HFS HFE HFA HSC HQE RC
    have XZ : Hid (Ext w w11) := X1.out.trans XW.out
    cases K
    · clear HV HDa HDb HQab
      go_wp2
      go_ret
      exact ⟨by first | rfl | simp, XZ.out⟩
    cases V
    · clear HV HDa HDb HQab
      go_wp2
      go_ret
      exact ⟨by first | rfl | simp, XZ.out⟩
    obtain ⟨rfl, o1, o2, o3, o4⟩ := HV.out rfl
    clear HV
    rw [o3] at HDb
    have RAZ := Lib.hid (RA.out.ext XW.out)
    have RBZ := Lib.hid (RB.out.ext XW.out)
    have O4 := Lib.hid o4
    clear o3 o4 RA RB
    generalize tD (clG xs n) = D at *
    go_wp2_with fail
    refine (HDa _ _ o1 RAZ.out).out.mono ?_
    rintro e wa ⟨rfl, hxa⟩
    obtain ⟨hca, hfa⟩ := hxa.cells
    have hza := hxa.size
    try simp at hza
    have hsa_0 := sz2 (a := w1.heap.size) (b := wa.heap.size) (by omega)
    have XA := Lib.hid hxa
    go_wp2_with fail
    refine (HDb _ _ o2 (RBZ.out.ext XA.out)).out.mono ?_
    rintro e wb ⟨rfl, hxb⟩
    obtain ⟨hcb, hfb⟩ := hxb.cells
    have hzb := hxb.size
    try simp at hzb
    have hsb_0 := sz2 (a := w1.heap.size) (b := wb.heap.size) (by omega)
    have XB := Lib.hid (XA.out.trans hxb)
    go_wp2_with fail
    refine (HQab _ _ _ o1 o2 O4.out (RAZ.out.ext XB.out) (RBZ.out.ext XB.out)).out.mono ?_
    rintro e wc ⟨rfl, hxc⟩
    go_wp2
    go_ret
    exact ⟨by first | rfl | simp, XZ.out.trans (XB.out.trans hxc)⟩

theorem law_FnTraces_c (v1 v2 : Value) {k1 k2 : Nat} {w0 : World} (s1 : Shape Try.prog w0 k1 22 v1.cells.toList) (s2 : Shape Try.prog w0 k2 22 v2.cells.toList) (w : World) (hw : w0 = w := by rfl) (c1 : v1.cells = #[v1] := by rfl) (c2 : v2.cells = #[v2] := by rfl) :
    Calls Try.prog 4 #[v1, v2] w fun e w' => e = .returned (.bool true) ∧ Ext w w' := by
  subst hw
  rw [c1] at s1
  rw [c2] at s2
  obtain ⟨n1, h1⟩ := by_of_shape Try.underlying22 Try.underlying5 (by kernel_rfl) s1
  obtain ⟨n2, h2⟩ := by_of_shape Try.underlying22 Try.underlying5 (by kernel_rfl) s2
  exact law_FnTraces v1 v2 n1 n2 w0 h1 h2

end Go.Proofs.Ytbddgeoaaklgpaa
