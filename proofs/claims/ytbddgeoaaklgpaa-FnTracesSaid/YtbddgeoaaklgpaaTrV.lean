/- The reference's SameTrace. -/
import Derived.Test.YtbddgeoaaklgpaaTrU
import Derived.Test.YtbddgeoaaklgpaaQwJ
namespace Go.Proofs.Ytbddgeoaaklgpaa
open Go.RowKit Go.Lib
set_option linter.unusedVariables false
set_option linter.unusedSimpArgs false

/-- whether circuits can be compared; whether they have the same sorted circuit -/
def stK (p : Int) (xs : List Int) (n : Nat) (q : Int) (ys : List Int) (m : Nat) : Bool := cOk p xs n && (cOk q ys m && (p == q))
def stV (p : Int) (xs : List Int) (n : Nat) (q : Int) (ys : List Int) (m : Nat) : Bool := stK p xs n q ys m && eqC p n (foL p xs n) q m (foL q ys m)

set_option maxRecDepth 20000 in
set_option maxHeartbeats 8000000 in
theorem s_sameTrace_any (p q : Nat) {v1 v2 : Value} {n m : Nat} {xs ys : List Int} (hn : n ≤ 2000000) (hm : m ≤ 2000000) (w : World) (h1 : RV w 3 v1 n xs) (h2 : RV w 3 v2 m ys) :
    Calls Try.prog 15 #[.agg #[.int .i64 p, v1], .agg #[.int .i64 q, v2]] w fun e w' => e = .returned (.tuple #[.bool (stV p xs n q ys m), .bool (stK p xs n q ys m)]) ∧ Ext w w' := by
  have HV1 := fun w' (hx : Ext w w') => Lib.hid (l4Good_any (p : Int) hn w' (h1.ext hx))
  have HV2 := fun w' (hx : Ext w w') => Lib.hid (l4Good_any (q : Int) hm w' (h2.ext hx))
  have HF1 := fun (hc : cOk p xs n = true) w' (hx : Ext w w') => Lib.hid (l24Foata_any p hc w' (h1.ext hx))
  have HF2 := fun (hc : cOk q ys m = true) w' (hx : Ext w w') => Lib.hid (l24Foata_any q hc w' (h2.ext hx))
  have HK : Hid (stK p xs n q ys m = (cOk p xs n && (cOk q ys m && ((p : Int) == q)))) := rfl
  have HW : Hid (stV p xs n q ys m = (stK p xs n q ys m && eqC p n (foL p xs n) q m (foL q ys m))) := rfl
  have HY1 : Hid (cOk p xs n = true → foL p xs n = tfl (tF (clG xs n))) := Lib.hid foL_yes
  have HY2 : Hid (cOk q ys m = true → foL q ys m = tfl (tF (clG ys m))) := Lib.hid foL_yes
  have HL1 : Hid ((tfl (tF (clG xs n))).length = n * 3) := Lib.hid (by rw [tfl_len, tF_len, clG_len])
  have HL2 : Hid ((tfl (tF (clG ys m))).length = m * 3) := Lib.hid (by rw [tfl_len, tF_len, clG_len])
  have HE := fun (u1 u2 : Value) w' (r1 : RV w' 3 u1 n (tfl (tF (clG xs n)))) (r2 : RV w' 3 u2 m (tfl (tF (clG ys m)))) => Lib.hid (s_equalCircuits_any (p : Int) (q : Int) hn hm w' r1 r2)
  obtain ⟨_, a1, c1, rfl, _, _, _⟩ := h1
  obtain ⟨_, a2, c2, rfl, _, _, _⟩ := h2
  generalize stV p xs n q ys m = V at *
  generalize stK p xs n q ys m = K at *
  generalize foL p xs n = F1 at *
  generalize foL q ys m = F2 at *
  generalize tfl (tF (clG xs n)) = T1 at *
  generalize tfl (tF (clG ys m)) = T2 at *
  generalize hk1 : cOk p xs n = g1 at *
  generalize hk2 : cOk q ys m = g2 at *
  clear hk1 hk2
  cases g1
  · obtain rfl : K = false := by rw [HK.out]; rfl
    obtain rfl : V = false := by rw [HW.out]; rfl
    clear HF1 HF2 HE HY1 HY2 HV2 HK HW
    go_enter Try.func15, Try.ntmps15
    go_wp2_with fail
    refine (HV1 _ (by repeat (first | (with_reducible refine Ext.setCell ?_ (by first | (simp; done) | (simp; omega)) _) | with_reducible refine Ext.alloc ?_ _ | with_reducible refine Ext.drew ?_ | with_reducible refine Ext.drewN ?_ _ | with_reducible assumption | with_reducible exact Ext.refl _ | with_reducible refine Ext.trans ?_ (by with_reducible assumption)))).out.mono ?_
    rintro e w1 ⟨rfl, hx1⟩
    go_wp2
    go_ret2
    exact ⟨rfl, (by repeat (first | (with_reducible refine Ext.setCell ?_ (by first | (simp; done) | (simp; omega)) _) | with_reducible refine Ext.alloc ?_ _ | with_reducible refine Ext.drew ?_ | with_reducible refine Ext.drewN ?_ _ | with_reducible assumption | with_reducible exact Ext.refl _ | with_reducible refine Ext.trans ?_ (by with_reducible assumption)))⟩
  cases g2
  · obtain rfl : K = false := by rw [HK.out]; rfl
    obtain rfl : V = false := by rw [HW.out]; rfl
    clear HF1 HF2 HE HY1 HY2 HK HW
    go_enter Try.func15, Try.ntmps15
    go_wp2_with fail
    refine (HV1 _ (by repeat (first | (with_reducible refine Ext.setCell ?_ (by first | (simp; done) | (simp; omega)) _) | with_reducible refine Ext.alloc ?_ _ | with_reducible refine Ext.drew ?_ | with_reducible refine Ext.drewN ?_ _ | with_reducible assumption | with_reducible exact Ext.refl _ | with_reducible refine Ext.trans ?_ (by with_reducible assumption)))).out.mono ?_
    rintro e w1 ⟨rfl, hx1⟩
    obtain ⟨hc1, hf1⟩ := hx1.cells
    have hz1 := hx1.size
    try simp at hz1
    have hs1_0 := sz2 (a := w.heap.size) (b := w1.heap.size) (by omega)
    go_wp2_with fail
    refine (HV2 _ (by repeat (first | (with_reducible refine Ext.setCell ?_ (by first | (simp; done) | (simp; omega)) _) | with_reducible refine Ext.alloc ?_ _ | with_reducible refine Ext.drew ?_ | with_reducible refine Ext.drewN ?_ _ | with_reducible assumption | with_reducible exact Ext.refl _ | with_reducible refine Ext.trans ?_ (by with_reducible assumption)))).out.mono ?_
    rintro e w2 ⟨rfl, hx2⟩
    go_wp2
    go_ret2
    exact ⟨rfl, (by repeat (first | (with_reducible refine Ext.setCell ?_ (by first | (simp; done) | (simp; omega)) _) | with_reducible refine Ext.alloc ?_ _ | with_reducible refine Ext.drew ?_ | with_reducible refine Ext.drewN ?_ _ | with_reducible assumption | with_reducible exact Ext.refl _ | with_reducible refine Ext.trans ?_ (by with_reducible assumption)))⟩
  by_cases hpq : p = q
  case neg =>
    have hb : ((p : Int) == q) = false := by simp; omega
    obtain rfl : K = false := by rw [HK.out, hb]; rfl
    obtain rfl : V = false := by rw [HW.out]; rfl
    clear HF1 HF2 HE HY1 HY2 HK HW
    go_enter Try.func15, Try.ntmps15
    go_wp2_with fail
    refine (HV1 _ (by repeat (first | (with_reducible refine Ext.setCell ?_ (by first | (simp; done) | (simp; omega)) _) | with_reducible refine Ext.alloc ?_ _ | with_reducible refine Ext.drew ?_ | with_reducible refine Ext.drewN ?_ _ | with_reducible assumption | with_reducible exact Ext.refl _ | with_reducible refine Ext.trans ?_ (by with_reducible assumption)))).out.mono ?_
    rintro e w1 ⟨rfl, hx1⟩
    obtain ⟨hc1, hf1⟩ := hx1.cells
    have hz1 := hx1.size
    try simp at hz1
    have hs1_0 := sz2 (a := w.heap.size) (b := w1.heap.size) (by omega)
    go_wp2_with fail
    refine (HV2 _ (by repeat (first | (with_reducible refine Ext.setCell ?_ (by first | (simp; done) | (simp; omega)) _) | with_reducible refine Ext.alloc ?_ _ | with_reducible refine Ext.drew ?_ | with_reducible refine Ext.drewN ?_ _ | with_reducible assumption | with_reducible exact Ext.refl _ | with_reducible refine Ext.trans ?_ (by with_reducible assumption)))).out.mono ?_
    rintro e w2 ⟨rfl, hx2⟩
    obtain ⟨hc2, hf2⟩ := hx2.cells
    have hz2 := hx2.size
    try simp at hz2
    have hs2_0 := sz2 (a := w.heap.size) (b := w2.heap.size) (by omega)
    go_wp2
    go_ret2
    exact ⟨rfl, (by repeat (first | (with_reducible refine Ext.setCell ?_ (by first | (simp; done) | (simp; omega)) _) | with_reducible refine Ext.alloc ?_ _ | with_reducible refine Ext.drew ?_ | with_reducible refine Ext.drewN ?_ _ | with_reducible assumption | with_reducible exact Ext.refl _ | with_reducible refine Ext.trans ?_ (by with_reducible assumption)))⟩
  subst hpq
  obtain rfl : K = true := by rw [HK.out]; simp
  obtain rfl := HY1.out (by first | rfl | trivial)
  obtain rfl := HY2.out (by first | rfl | trivial)
  have HW2 : Hid (eqC p n F1 p m F2 = V) := by unfold Hid; rw [HW.out]; simp
  have HF1' := fun w' (hx : Ext w w') => HF1 (by first | rfl | trivial) w' hx
  have HF2' := fun w' (hx : Ext w w') => HF2 (by first | rfl | trivial) w' hx
  clear HK HW HY1 HY2 HF1 HF2
  rw [HW2.out] at HE
  clear HW2
  obtain ⟨W1, hW1⟩ : ∃ W1, W1 = (w.alloc (.cells #[.int .i64 p, .slice a1 n c1] 25 (0, 0))).alloc (.cells #[.int .i64 p, .slice a2 m c2] 25 (0, 0)) := ⟨_, rfl⟩
  have HA : Hid (W1.heap[w.heap.size]? = some (.cells #[.int .i64 p, .slice a1 n c1] 25 (0, 0))) := by rw [hW1]; exact heap_alloc_lt (heap_alloc_new _ _)
  have HB : Hid (W1.heap[w.heap.size + 1]? = some (.cells #[.int .i64 p, .slice a2 m c2] 25 (0, 0))) := by rw [hW1]; exact heap_alloc_at _ _ _ (by simp)
  have HE0 : Hid (Ext w W1) := by rw [hW1]; exact ((Ext.refl w).alloc _).alloc _
  have hs0 : w.heap.size + 1 < W1.heap.size := by rw [hW1]; simp
  have hs1 : w.heap.size < W1.heap.size := by omega
  have z1 := fun k => cell_of_row _ _ k _ _ _ HA.out
  go_enter Try.func15, Try.ntmps15
  go_upto_region 1 with fail
  rw [← hW1]
  clear hW1
  go_wp2_with fail
  refine (HV1 _ HE0.out).out.mono ?_
  rintro e w1 ⟨rfl, hx1⟩
  have X1 := Lib.hid hx1
  have hb1 := (X1.out.heap hs0).trans HB.out
  have z2 := fun k => cell_of_row _ _ k _ _ _ hb1
  have l2 := (Array.getElem?_eq_some_iff.1 hb1).1
  clear hx1 z1
  go_wp2_with fail
  refine (HV2 _ (HE0.out.trans X1.out)).out.mono ?_
  rintro e w2 ⟨rfl, hx2⟩
  have X2 : Hid (Ext W1 w2) := X1.out.trans hx2
  have ha2 := (X2.out.heap hs1).trans HA.out
  have hb2 := (X2.out.heap hs0).trans HB.out
  have y1 := fun k => cell_of_row _ _ k _ _ _ ha2
  have y2 := fun k => cell_of_row _ _ k _ _ _ hb2
  have l1 := (Array.getElem?_eq_some_iff.1 ha2).1
  have l2 := (Array.getElem?_eq_some_iff.1 hb2).1
  clear hx2 ha2 hb1 hb2 z2 X1 HV1 HV2
  go_upto_region 3 with fail
  have tA : 0 = 0 := rfl
  have tB : 1 = 1 := rfl
  have tC : 2 = 2 := rfl
  go_region_law
      (first
       | (have _t := tA
          refine step_callsQ rfl ?_ (HF1' _ (HE0.out.trans (by first | exact X2.out | exact X2.out.drew))).out ?_
          · go_simp
          rintro e w3 ⟨v3, rfl, o3, hx3⟩
          refine ⟨_, rfl, ?_⟩
          obtain ⟨a3, c3, rfl, _, _, _⟩ := own_shape o3
          have X3 : Ext W1 w3 := (by first | exact X2.out.trans hx3 | exact X2.out.drew.trans hx3)
          have X3 := Lib.hid X3
          have R3 : RV w3 3 (.slice a3 n c3) n F1 := RV.own o3 HL1.out
          have R3 := Lib.hid R3
          have hb3 : w3.heap[w.heap.size + 1]? = some (.cells #[.int .i64 p, .slice a2 m c2] 25 (0, 0)) := (X3.out.heap hs0).trans HB.out
          have y23 : ∀ k, w3.cell? ⟨w.heap.size + 1, k, none⟩ = (#[.int .i64 p, .slice a2 m c2] : Array Value)[k]? := fun k => cell_of_row _ _ k _ _ _ hb3
          have l23 : w.heap.size + 1 < w3.heap.size := (Array.getElem?_eq_some_iff.1 hb3).1
          clear hb3
          clear o3 tA)
       | (have _t := tB
          refine step_callsQ rfl ?_ (HF2' _ (HE0.out.trans (by first | exact X3.out | exact X3.out.drew))).out ?_
          · go_simp
          rintro e w4 ⟨v4, rfl, o4, hx4⟩
          refine ⟨_, rfl, ?_⟩
          obtain ⟨a4, c4, rfl, _, _, _⟩ := own_shape o4
          have X4 : Ext W1 w4 := (by first | exact X3.out.trans hx4 | exact X3.out.drew.trans hx4)
          have X4 := Lib.hid X4
          have R4 : RV w4 3 (.slice a4 m c4) m F2 := RV.own o4 HL2.out
          have R4 := Lib.hid R4
          have R34 : RV w4 3 (.slice a3 n c3) n F1 := R3.out.ext (by first | exact hx4 | exact ((Ext.refl _).drew).trans hx4)
          have R34 := Lib.hid R34
          clear o4 tB)
       | (have _t := tC
          refine step_callsQ rfl ?_ (HE _ _ _ (R34.out.ext (by first | exact Ext.refl _ | exact (Ext.refl _).drew)) (R4.out.ext (by first | exact Ext.refl _ | exact (Ext.refl _).drew))).out ?_
          · go_simp
          rintro e w5 ⟨rfl, hx5⟩
          refine ⟨_, rfl, ?_⟩
          have X5 : Ext W1 w5 := (by first | exact X4.out.trans hx5 | exact X4.out.drew.trans hx5)
          clear tC))
  all_goals
    go_wp2
    go_ret2
    exact ⟨rfl, HE0.out.trans (by first | exact X5 | exact X5.drew)⟩

end Go.Proofs.Ytbddgeoaaklgpaa
