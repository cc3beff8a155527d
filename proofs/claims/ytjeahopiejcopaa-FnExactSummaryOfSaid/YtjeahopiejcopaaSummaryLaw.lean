/- The law on SummaryOf. -/
import Derived.Test.YtjeahopiejcopaaSummary
import Derived.Deep.RegionWith
namespace Go.Proofs.Ytjeahopiejcopaa
open Go.RowKit

set_option maxRecDepth 20000 in
set_option maxHeartbeats 4000000 in
theorem law_SummaryOf (q1 q2 : Int) {v1 vs v2 : Value} {m1 m2 : Nat} {xs ys : List Int} {rs : List Rp} (w : World) (h1 : RV w 3 v1 m1 xs) (h2 : RSV w vs rs) (h3 : RV w 3 v2 m2 ys) :
    Calls Try.prog 6 #[.agg #[.int .i64 q1, v1, vs, .int .i64 q2, v2]] w fun e w' => e = .returned (.bool true) ∧ Ext w w' := by
  have HZ := fun w' (hx : Ext w w') => Lib.hid (szCertificate_any q1 q2 1048576 (by omega) w' (h1.ext hx) (h2.ext hx) (h3.ext hx))
  have HT := fun hm1 hm2 hs w' (hx : Ext w w') => Lib.hid (toCertificate_any q1 q2 hm1 hm2 hs w' (h1.ext hx) (h2.ext hx) (h3.ext hx))
  have HL1 := Lib.hid h1.1
  have HL2 := Lib.hid h3.1
  have HS := fun u1 u2 a n cap hn hm1 hm2 w' (k1 : RV w' 3 u1 m1 xs) (k2 : RV w' 3 u2 m2 ys) => Lib.hid (s_summaryOf_any q1 q2 (a := a) (n := n) (cap := cap) hn hm1 hm2 w' k1 k2)
  have HI := fun u1 u2 a n cap hn hm1 hm2 w' (k1 : RV w' 3 u1 m1 xs) (k2 : RV w' 3 u2 m2 ys) => Lib.hid (summaryOf_any q1 q2 (a := a) (n := n) (cap := cap) hn hm1 hm2 w' k1 k2)
  have HQ := fun b1 b2 b3 b4 b5 b6 v1 vs v2 u1 us u2 hm1 hm2 hs w' k1 k2 k3 k4 k5 k6 => Lib.hid (eqCertificate_same (b1 := b1) (b2 := b2) (b3 := b3) (b4 := b4) (b5 := b5) (b6 := b6) (v1 := v1) (vs := vs) (v2 := v2) (u1 := u1) (us := us) (u2 := u2) (rs := rs) q1 q2 hm1 hm2 h1.1 h3.1 hs w' k1 k2 k3 k4 k5 k6)
  obtain ⟨_, a1, c1, rfl, _, _, hh1⟩ := h1
  obtain ⟨a2, c2, rfl, _, _, hh2⟩ := h2
  obtain ⟨_, a3, c3, rfl, _, _, hh3⟩ := h3
  clear hh1 hh2 hh3
  go_enter Try.func6, Try.ntmps6
  go_wp2_with fail
  refine (HZ _ (by repeat (first | exact Ext.refl _ | assumption | refine Ext.alloc ?_ _ | refine Ext.drew ?_ | refine Ext.drewN ?_ _ | refine Ext.setCell ?_ (by first | omega | (dsimp only; omega) | (simp; done) | (simp; omega)) _ | refine Ext.trans ?_ (by assumption)))).out.mono ?_
  rintro e w1 ⟨⟨r, rfl, hr1, hc⟩, hx1⟩
  obtain ⟨hc1, hf1⟩ := hx1.cells
  have hz1 := hx1.size
  try simp at hz1
  have hs1_0 := sz1 (a := w.heap.size) (b := w1.heap.size) (by omega)
  rcases hc with rfl | ⟨hr0, hm1, hm2, hs⟩
  · go_wp2
    go_ret
    exact ⟨rfl, (by repeat (first | exact Ext.refl _ | assumption | refine Ext.alloc ?_ _ | refine Ext.drew ?_ | refine Ext.drewN ?_ _ | refine Ext.setCell ?_ (by first | omega | (dsimp only; omega) | (simp; done) | (simp; omega)) _ | refine Ext.trans ?_ (by assumption)))⟩
  have hr0' : ¬ (r < 0) := by omega
  have HT := HT (by omega) (by omega) hs
  have hsn : rs.length ≤ 2000000 := by have := hs.1; omega
  have HS := fun u1 u2 a cap => HS u1 u2 a rs.length cap hsn (by omega) (by omega)
  have HI := fun u1 u2 a cap => HI u1 u2 a rs.length cap hsn (by omega) (by omega)
  have HQ := fun b1 b2 b3 b4 b5 b6 v1 vs v2 u1 us u2 => HQ b1 b2 b3 b4 b5 b6 v1 vs v2 u1 us u2 (by omega) (by omega) hs
  generalize sOk q1 xs m1 q2 ys m2 rs.length = ok at *
  generalize (ifS ok (rs.length : Int)) = k1 at *
  generalize (ifS ok (m1 : Int)) = k2 at *
  generalize (ifS ok (m2 : Int)) = k3 at *
  generalize (ifS ok (cntTo (kAny 7 8 xs) m1)) = k4 at *
  generalize (ifS ok (cntTo (kAny 7 8 ys) m2)) = k5 at *
  clear hs HZ
  go_wp2_with fail
  refine (HT _ (by repeat (first | exact Ext.refl _ | assumption | refine Ext.alloc ?_ _ | refine Ext.drew ?_ | refine Ext.drewN ?_ _ | refine Ext.setCell ?_ (by first | omega | (dsimp only; omega) | (simp; done) | (simp; omega)) _ | refine Ext.trans ?_ (by assumption)))).out.mono ?_
  rintro e w2 ⟨u1, us, u2, rfl, o1, o2, o3, hx2⟩
  obtain ⟨hc2, hf2⟩ := hx2.cells
  have hz2 := hx2.size
  try simp at hz2
  have hs2_0 := sz1 (a := w.heap.size) (b := w2.heap.size) (by omega)
  obtain ⟨zs, o4, _, _⟩ := o2
  obtain ⟨_, _, rfl, _, _, _⟩ := own_shape o4
  have R1 := Lib.hid (RV.own o1 HL1.out)
  have R2 := Lib.hid (RV.own o3 HL2.out)
  clear o1 o3 o4
  go_wp2_with fail
  refine (HS _ _ _ _ _ R1.out R2.out).out.mono ?_
  rintro e w3 ⟨rfl, hx3⟩
  obtain ⟨hc3, hf3⟩ := hx3.cells
  have hz3 := hx3.size
  try simp at hz3
  have hs3_0 := sz1 (a := w.heap.size) (b := w3.heap.size) (by omega)
  clear R1 R2
  go_wp2_with fail
  refine (HT _ (by repeat (first | exact Ext.refl _ | assumption | refine Ext.alloc ?_ _ | refine Ext.drew ?_ | refine Ext.drewN ?_ _ | refine Ext.setCell ?_ (by first | omega | (dsimp only; omega) | (simp; done) | (simp; omega)) _ | refine Ext.trans ?_ (by assumption)))).out.mono ?_
  rintro e w4 ⟨u1, us, u2, rfl, o1, o2, o3, hx4⟩
  obtain ⟨hc4, hf4⟩ := hx4.cells
  have hz4 := hx4.size
  try simp at hz4
  have hs4_0 := sz1 (a := w.heap.size) (b := w4.heap.size) (by omega)
  have hs4_1 := sz1 (a := w3.heap.size) (b := w4.heap.size) (by omega)
  have O1 := Lib.hid o1
  have O2 := Lib.hid o2
  have O3 := Lib.hid o3
  obtain ⟨zs, o4, _, _⟩ := o2
  obtain ⟨b1, d1, rfl, e1, e2, _⟩ := own_shape o1
  obtain ⟨b2, d2, rfl, e3, e4, _⟩ := own_shape o4
  obtain ⟨b3, d3, rfl, e5, e6, _⟩ := own_shape o3
  clear o1 o3 o4
  go_wp2_with fail
  refine (HI _ _ _ _ _ (RV.own (own_ext O1.out (by repeat (first | exact Ext.refl _ | assumption | refine Ext.alloc ?_ _ | refine Ext.drew ?_ | refine Ext.drewN ?_ _ | refine Ext.setCell ?_ (by first | omega | (dsimp only; omega) | (simp; done) | (simp; omega)) _ | refine Ext.trans ?_ (by assumption)))) HL1.out) (RV.own (own_ext O3.out (by repeat (first | exact Ext.refl _ | assumption | refine Ext.alloc ?_ _ | refine Ext.drew ?_ | refine Ext.drewN ?_ _ | refine Ext.setCell ?_ (by first | omega | (dsimp only; omega) | (simp; done) | (simp; omega)) _ | refine Ext.trans ?_ (by assumption)))) HL2.out)).out.mono ?_
  rintro e w5 ⟨rfl, hx5⟩
  obtain ⟨hc5, hf5⟩ := hx5.cells
  have hz5 := hx5.size
  try simp at hz5
  have hs5_0 := sz1 (a := w.heap.size) (b := w5.heap.size) (by omega)
  have hs5_1 := sz1 (a := w3.heap.size) (b := w5.heap.size) (by omega)
  have hs5_2 := sz1 (a := w4.heap.size) (b := w5.heap.size) (by omega)
  go_wp2_with fail
  refine (eqSummary_same _ _ _ _ _ _).mono ?_
  rintro e w6 ⟨rfl, hx6⟩
  obtain ⟨hc6, hf6⟩ := hx6.cells
  have hz6 := hx6.size
  try simp at hz6
  have hs6_0 := sz1 (a := w.heap.size) (b := w6.heap.size) (by omega)
  have hs6_1 := sz1 (a := w3.heap.size) (b := w6.heap.size) (by omega)
  have hs6_2 := sz1 (a := w4.heap.size) (b := w6.heap.size) (by omega)
  have hs6_3 := sz1 (a := w5.heap.size) (b := w6.heap.size) (by omega)
  have X46 : Ext w4 w6 := ((((Ext.refl w4).alloc _).trans hx5).alloc _).trans hx6
  have P1 := Lib.hid (own_ext O1.out X46)
  have P2 := Lib.hid (RSO.ext O2.out X46)
  have P3 := Lib.hid (own_ext O3.out X46)
  have B6 := (((((Ext.refl (w4.alloc (.cells #[.int .i64 q1, .slice b1 m1 d1, .slice b2 rs.length d2, .int .i64 q2, .slice b3 m2 d3] 64))).trans hx5).alloc _).trans hx6).heap (k := w4.heap.size) (by simp)).trans (heap_alloc_new _ _)
  have A6 := ((((((((Ext.refl (w.alloc (.cells #[.int .i64 q1, .slice a1 m1 c1, .slice a2 rs.length c2, .int .i64 q2, .slice a3 m2 c3] 56))).trans hx1).trans hx2).trans hx3).alloc _).trans hx4).alloc _).trans hx5)
  have A7 := (((A6.alloc _).trans hx6).heap (k := w.heap.size) (by simp)).trans (heap_alloc_new _ _)
  have E6 : Ext w w6 := (by repeat (first | (with_reducible refine Ext.setCell ?_ (by first | (simp; done) | (simp; omega)) _) | with_reducible refine Ext.alloc ?_ _ | with_reducible refine Ext.drew ?_ | with_reducible refine Ext.drewN ?_ _ | with_reducible assumption | with_reducible exact Ext.refl _ | with_reducible refine Ext.trans ?_ (by with_reducible assumption)))
  have E6' := Lib.hid E6
  have lb := (Array.getElem?_eq_some_iff.1 B6).1
  have la := (Array.getElem?_eq_some_iff.1 A7).1
  have zB : ∀ k, w6.cell? ⟨w4.heap.size, k, none⟩ = (#[.int .i64 q1, .slice b1 m1 d1, .slice b2 rs.length d2, .int .i64 q2, .slice b3 m2 d3] : Array Value)[k]? := fun k => cell_of_row _ _ _ _ _ _ B6
  have zA : ∀ k, w6.cell? ⟨w.heap.size, k, none⟩ = (#[.int .i64 q1, .slice a1 m1 c1, .slice a2 rs.length c2, .int .i64 q2, .slice a3 m2 c3] : Array Value)[k]? := fun k => cell_of_row _ _ _ _ _ _ A7
  go_wp2
  clear hx1 hx2 hx3 hx4 hx5 hx6 X46 hc1 hc2 hc3 hc4 hc5 hc6 hf1 hf2 hf3 hf4 hf5 hf6 hz1 hz2 hz3 hz4 hz5 hz6 hs1_0 hs2_0 hs3_0 hs4_0 hs4_1 hs5_0 hs5_1 hs5_2 hs6_0 hs6_1 hs6_2 hs6_3 B6 A6 A7 E6 HS HI O1 O3
  generalize w4.heap.size = b4 at *
  go_region_with (first
    | (go_at_call 35; refine (HT _ (by first | exact E6'.out.drew | exact E6'.out.drew.drewN _ | exact E6'.out.drewN _)).out.mono ?_; rintro e w7 ⟨u7, us7, u8, rfl, o7, o8, o9, hx7⟩; have O7 := Lib.hid o7; have O8 := Lib.hid o8; have O9 := Lib.hid o9; have P4 := Lib.hid (own_ext (own_ext P1.out (by first | exact (Ext.refl w6).drew | exact (Ext.refl w6).drew.drewN _)) hx7); have P5 := Lib.hid (RSO.ext (RSO.ext P2.out (by first | exact (Ext.refl w6).drew | exact (Ext.refl w6).drew.drewN _)) hx7); have P6 := Lib.hid (own_ext (own_ext P3.out (by first | exact (Ext.refl w6).drew | exact (Ext.refl w6).drew.drewN _)) hx7); have X7 := Lib.hid (E6'.out.drew.trans hx7); have hzB := fun k => (hx7.cells.1 b4 k (by first | exact lb | simpa using lb)); clear o7 o8 o9 hx7)
    | (go_at_call 38; refine (HQ _ _ _ _ _ _ _ _ _ _ _ _ _ P4.out P5.out P6.out O7.out O8.out O9.out).out.mono ?_; rintro e w8 ⟨rfl, hx8⟩; have X8 := Lib.hid (X7.out.trans hx8); clear hx8))
  all_goals
    go_wp2
    go_ret
    exact ⟨rfl, X8.out⟩

theorem law_SummaryOf_c (cs : Array Value) {n : Nat} {w0 : World} (hs : Shape Try.prog w0 n 56 (Value.agg cs).cells.toList) (w : World) (hw : w0 = w := by rfl) :
    Calls Try.prog 6 #[.agg cs] w fun e w' => e = .returned (.bool true) ∧ Ext w w' := by
  subst hw
  obtain ⟨q1, q2, v1, vs, v2, l1, l2, xs, ys, rs, rfl, h1, h2, h3⟩ := cert_arg hs
  exact law_SummaryOf q1 q2 w0 h1 h2 h3

end Go.Proofs.Ytjeahopiejcopaa
