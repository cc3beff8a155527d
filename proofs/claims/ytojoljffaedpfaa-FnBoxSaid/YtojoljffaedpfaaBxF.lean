/- The law FnBox. -/
import Derived.Test.YtojoljffaedpfaaBxD
import Derived.Test.YtojoljffaedpfaaBxP
import Derived.Test.YtojoljffaedpfaaBxQ
import Derived.Test.YtojoljffaedpfaaMul2
namespace Go.Proofs.Ytojoljffaedpfaa
open Go.RowKit Go.Lib
set_option linter.unusedVariables false
set_option linter.unusedSimpArgs false

theorem row_farB {w W : World} {k : Nat} {o : Obj} (h : w.heap[k]? = some o) (hx : Ext w W) : W.heap[k]? = some o := (hx.heap (Array.getElem?_eq_some_iff.1 h).1).trans h
theorem neq_ring (x0 x1 x2 x3 : Int) (w : World) : (binOp .neq 51 (.agg #[.int .i64 x0, .int .i64 x1, .int .i64 x2, .int .i64 x3]) (.agg #[.int .i64 x0, .int .i64 x1, .int .i64 x2, .int .i64 x3])).run Try.prog w = .ok (.bool false) w := by
  go_simp
theorem bigB_any (v1 v2 : Value) (n1 n2 : Nat) (w : World) (h1 : ∃ a c, v1 = .slice a n1 c ∧ n1 ≤ maxLen) (h2 : ∃ a c, v2 = .slice a n2 c ∧ n2 ≤ maxLen) :
    Calls Try.prog 23 #[v1, v2] w fun e w' => e = .returned (.bool (decide (1048576 < (n1 : Int)) || decide (1048576 - (n1 : Int) < n2))) ∧ Ext w w' := by
  obtain ⟨a1, c1, rfl, k1⟩ := h1
  obtain ⟨a2, c2, rfl, k2⟩ := h2
  have m1 : n1 ≤ 9223372036854775807 := k1
  have m2 : n2 ≤ 9223372036854775807 := k2
  go_enter Try.func23, Try.ntmps23
  by_cases h : (1048576 : Int) < n1
  · go_wp2
    go_ret
    exact ⟨ret_bool (by simp [h]), (by repeat (first | exact Ext.refl _ | assumption | refine Ext.alloc ?_ _ | refine Ext.drew ?_ | refine Ext.drewN ?_ _ | refine Ext.setCell ?_ (by first | omega | (dsimp only; omega) | (simp; done) | (simp; omega)) _ | refine Ext.trans ?_ (by assumption)))⟩
  · go_wp2
    go_ret
    exact ⟨ret_bool (by simp [h]; omega), (by repeat (first | exact Ext.refl _ | assumption | refine Ext.alloc ?_ _ | refine Ext.drew ?_ | refine Ext.drewN ?_ _ | refine Ext.setCell ?_ (by first | omega | (dsimp only; omega) | (simp; done) | (simp; omega)) _ | refine Ext.trans ?_ (by assumption)))⟩
theorem ringN (p q r s : Int) : (p * p - 2 * (q * q)) * (r * r - 2 * (s * s)) = (p * r + 2 * q * s) * (p * r + 2 * q * s) - 2 * ((p * s + q * r) * (p * s + q * r)) := by grind
theorem norm_mul {p q r s : Int} (h : okM p q r s = true) : R2 p q = true ∧ R2 r s = true ∧ R2 (mulP p q r s) (mulQ p q r s) = true ∧ normN p q * normN r s = normN (mulP p q r s) (mulQ p q r s) := by
  have hP : mulP p q r s = p * r + 2 * q * s := by unfold mulP; rw [if_pos h]
  have hQ : mulQ p q r s = p * s + q * r := by unfold mulQ; rw [if_pos h]
  unfold okM at h
  simp only [Bool.and_eq_true] at h
  obtain ⟨⟨h1, h2⟩, h3⟩ := h
  rw [hP, hQ]
  refine ⟨h1, h2, h3, ?_⟩
  unfold normN
  rw [if_pos h1, if_pos h2, if_pos h3]
  exact ringN p q r s

set_option maxRecDepth 20000 in
set_option maxHeartbeats 8000000 in
theorem law_FnBox (v1 v2 : Value) (n1 n2 : Nat) (w : World) (h1 : BY w.heap.size w v1 n1) (h2 : BY w.heap.size w v2 n2) :
    Calls Try.prog 6 #[v1, v2] w fun e w' => e = .returned (.bool true) ∧ Ext w w' := by
  have hb := bigB_any v1 v2 n1 n2 w (by obtain ⟨a, c, h, h3, h4, _⟩ := h1; exact ⟨a, c, h, Nat.le_trans h3 h4⟩) (by obtain ⟨a, c, h, h3, h4, _⟩ := h2; exact ⟨a, c, h, Nat.le_trans h3 h4⟩)
  generalize (decide (1048576 < (n1 : Int)) || decide (1048576 - (n1 : Int) < n2)) = big at hb
  have HB := Lib.hid hb
  have HD1 := fun w' (hx : Ext w w') => Lib.hid (drawBoxPoints_any v1 n1 w' (h1.later hx))
  have HD2 := fun w' (hx : Ext w w') => Lib.hid (drawMulRoot2_any v2 n2 w' (h2.later hx))
  obtain ⟨q1, r1, rfl⟩ := h1.noarg
  obtain ⟨q2, r2, rfl⟩ := h2.noarg
  clear h1 h2 hb
  go_enter Try.func6, Try.ntmps6
  go_wp2_with fail
  refine HB.out.mono ?_
  rintro e w1 ⟨rfl, hx1⟩
  cases big
  case true =>
    go_wp2
    go_ret
    exact ⟨rfl, hx1⟩
  go_wp2_with fail
  refine (HD1 w1 hx1).out.mono ?_
  rintro e w2 ⟨a1, a2, a3, b1, b2, b3, c1, c2, c3, d1, d2, d3, rfl, hx2⟩
  have X2 : Hid (Ext w w2) := hx1.trans hx2
  clear hx1 hx2 HD1 HB
  have HS := fun w => Lib.hid (s_boxPoints_any a1 a2 a3 b1 b2 b3 c1 c2 c3 d1 d2 d3 w)
  have HI := fun w => Lib.hid (boxPoints_any a1 a2 a3 b1 b2 b3 c1 c2 c3 d1 d2 d3 w)
  have hlen := fl4_len (brV a1 a2 a3 b1 b2 b3 c1 c2 c3 d1 d2 d3)
  have hle := brV_len (a1 := a1) (a2 := a2) (a3 := a3) (b1 := b1) (b2 := b2) (b3 := b3) (c1 := c1) (c2 := c2) (c3 := c3) (d1 := d1) (d2 := d2) (d3 := d3)
  generalize fl4 (brV a1 a2 a3 b1 b2 b3 c1 c2 c3 d1 d2 d3) = xs at *
  generalize (brV a1 a2 a3 b1 b2 b3 c1 c2 c3 d1 d2 d3).length = n at *
  generalize brOk a1 a2 a3 b1 b2 b3 c1 c2 c3 d1 d2 d3 = g at *
  have HLEN := Lib.hid hlen
  clear hlen
  go_wp2_with fail
  refine (HI _).out.mono ?_
  rintro e w3 ⟨vL, rfl, o3, hx3⟩
  have hA : w3.heap[w2.heap.size]? = some (.cells #[.int .i64 a1, .int .i64 a2, .int .i64 a3] 27 (0, 0)) := (hx3.heap (by simp; try omega)).trans (heap_alloc_lt (heap_alloc_lt (heap_alloc_lt (heap_alloc_new _ _))))
  have hB : w3.heap[w2.heap.size + 1]? = some (.cells #[.int .i64 b1, .int .i64 b2, .int .i64 b3] 27 (0, 0)) := (hx3.heap (by simp; try omega)).trans (heap_alloc_lt (heap_alloc_lt (heap_alloc_at _ _ _ (by simp))))
  have hC : w3.heap[w2.heap.size + 2]? = some (.cells #[.int .i64 c1, .int .i64 c2, .int .i64 c3] 27 (0, 0)) := (hx3.heap (by simp; try omega)).trans (heap_alloc_lt (heap_alloc_at _ _ _ (by simp)))
  have hD : w3.heap[w2.heap.size + 3]? = some (.cells #[.int .i64 d1, .int .i64 d2, .int .i64 d3] 27 (0, 0)) := (hx3.heap (by simp; try omega)).trans (heap_alloc_at _ _ _ (by simp))
  have X3 : Hid (Ext w w3) := ((((X2.out.alloc _).alloc _).alloc _).alloc _).trans hx3
  have HRV := RV.own o3 HLEN.out
  obtain ⟨_, a, c, rfl, hc1', hc2', HHo⟩ := HRV
  have HH := Lib.hid HHo
  have s3 := hx3.size
  clear o3 HHo hx3 HI X2
  have zA := fun k => cell_of_row _ _ k _ _ _ hA
  have lA := (Array.getElem?_eq_some_iff.1 hA).1
  have zB := fun k => cell_of_row _ _ k _ _ _ hB
  have lB := (Array.getElem?_eq_some_iff.1 hB).1
  have zC := fun k => cell_of_row _ _ k _ _ _ hC
  have lC := (Array.getElem?_eq_some_iff.1 hC).1
  have zD := fun k => cell_of_row _ _ k _ _ _ hD
  have lD := (Array.getElem?_eq_some_iff.1 hD).1
  go_wp2_with fail
  refine (HS _).out.mono ?_
  rintro e w4 ⟨vS, rfl, o4, hx4⟩
  have HRV := RV.own o4 HLEN.out
  obtain ⟨_, a', c', rfl, hd1', hd2', HHo⟩ := HRV
  have HH2 := Lib.hid HHo
  have X4 : Hid (Ext w w4) := X3.out.trans hx4
  have hx34 := Lib.hid hx4
  clear o4 HHo hx4 HS zA zB zC zD lA lB lC lD hA hB hC hD X3 s3
  have HLEN2 := Lib.hid HLEN.out
  go_wp2
  go_loopw [13, 62] (fun _ i wr => ∃ j : Nat, j ≤ n ∧ i = .int .i64 j ∧ Ext w4 wr) (fun _ i _ => n - (intOf i).toNat)
  case atStart => exact ⟨0, by omega, rfl, Ext.refl _⟩
  case round =>
    obtain ⟨j, hj, rfl, hE⟩ := hrel
    by_cases hlt : j < n
    · have hlt' : (j : Int) < n := by omega
      have HE := Lib.hid hE
      have HE3 := Lib.hid (hx34.out.trans hE)
      clear hE
      obtain ⟨b, off, rfl, hbk, hcell⟩ := HH.out (by omega)
      have hbr : b < wr.heap.size := by have := HE3.out.size; omega
      have z0 : wr.cell? ⟨b, off + j * 4, none⟩ = some (.int .i64 (at3 xs (j * 4))) := (HE3.out.cells.1 b (off + (j * 4)) hbk).trans (hcell _ _ (at3_get (by have := HLEN.out; omega)))
      have z1 : wr.cell? ⟨b, off + j * 4 + 1, none⟩ = some (.int .i64 (at3 xs (j * 4 + 1))) := (HE3.out.cells.1 b (off + (j * 4 + 1)) hbk).trans (hcell _ _ (at3_get (by have := HLEN.out; omega)))
      have z2 : wr.cell? ⟨b, off + j * 4 + 2, none⟩ = some (.int .i64 (at3 xs (j * 4 + 2))) := (HE3.out.cells.1 b (off + (j * 4 + 2)) hbk).trans (hcell _ _ (at3_get (by have := HLEN.out; omega)))
      have z3 : wr.cell? ⟨b, off + j * 4 + 3, none⟩ = some (.int .i64 (at3 xs (j * 4 + 3))) := (HE3.out.cells.1 b (off + (j * 4 + 3)) hbk).trans (hcell _ _ (at3_get (by have := HLEN.out; omega)))
      clear hcell
      obtain ⟨bv, offv, rfl, hbkv, hcellv⟩ := HH2.out (by omega)
      have hbrv : bv < wr.heap.size := by have := HE.out.size; omega
      have zv0 : wr.cell? ⟨bv, offv + j * 4, none⟩ = some (.int .i64 (at3 xs (j * 4))) := (HE.out.cells.1 bv (offv + (j * 4)) hbkv).trans (hcellv _ _ (at3_get (by have := HLEN2.out; omega)))
      have zv1 : wr.cell? ⟨bv, offv + j * 4 + 1, none⟩ = some (.int .i64 (at3 xs (j * 4 + 1))) := (HE.out.cells.1 bv (offv + (j * 4 + 1)) hbkv).trans (hcellv _ _ (at3_get (by have := HLEN2.out; omega)))
      have zv2 : wr.cell? ⟨bv, offv + j * 4 + 2, none⟩ = some (.int .i64 (at3 xs (j * 4 + 2))) := (HE.out.cells.1 bv (offv + (j * 4 + 2)) hbkv).trans (hcellv _ _ (at3_get (by have := HLEN2.out; omega)))
      have zv3 : wr.cell? ⟨bv, offv + j * 4 + 3, none⟩ = some (.int .i64 (at3 xs (j * 4 + 3))) := (HE.out.cells.1 bv (offv + (j * 4 + 3)) hbkv).trans (hcellv _ _ (at3_get (by have := HLEN2.out; omega)))
      clear hcellv
      generalize at3 xs (j * 4) = x0 at *
      generalize at3 xs (j * 4 + 1) = x1 at *
      generalize at3 xs (j * 4 + 2) = x2 at *
      generalize at3 xs (j * 4 + 3) = x3 at *
      have hneq := fun w => neq_ring x0 x1 x2 x3 w
      have hcl : j < c := by omega
      have hcl' : j < c' := by omega
      go_wp2
      refine wp_region_madeC (m := 138) (by kernel_rfl) (by kernel_rfl) rfl (fun hxc => ?_)
      repeat (refine mw_quiet ?_; apply Exists.intro; refine ⟨fun σ => ?_, ?_⟩; (first | (go_simp; rfl) | fail); simp only [Act.put, List.setIfInBounds_toArray, List.set_cons_succ, List.set_cons_zero, List.nil_append, List.cons_append])
      refine ⟨by kernel_rfl, fun σ w11 hF11 => ?_⟩
      have hx11 := hF11.ext
      clear hF11 hxc
      obtain ⟨hc11, hf11⟩ := hx11.cells
      have hz11 := hx11.size
      try simp at hz11
      clear hneq
      go_wp2
      go_roundw
      case rel => exact ⟨j + 1, by omega, by go_num, HE.out.trans hx11⟩
      case measure => simp [intOf]; omega
    · obtain rfl : j = n := by omega
      have XR : Hid (Ext w wr) := X4.out.trans hE
      clear hE X4 hx34 HH HH2 HLEN HLEN2
      go_wp2_with fail
      refine (HD2 _ XR.out).out.mono ?_
      rintro e w5 ⟨p, q, r, s, rfl, hx5⟩
      have X5 : Hid (Ext w w5) := XR.out.trans hx5
      clear hx5 HD2 XR
      have HM := fun w => Lib.hid (mulRoot2_any p q r s w)
      have HN1 := fun w => Lib.hid (normRoot2_any p q w)
      have HN2 := fun w => Lib.hid (normRoot2_any r s w)
      have HN3 := fun w => Lib.hid (normRoot2_any (mulP p q r s) (mulQ p q r s) w)
      have HOK : Hid (okM p q r s = true → R2 p q = true ∧ R2 r s = true ∧ R2 (mulP p q r s) (mulQ p q r s) = true ∧ normN p q * normN r s = normN (mulP p q r s) (mulQ p q r s)) := norm_mul
      generalize mulP p q r s = u at *
      generalize mulQ p q r s = v at *
      generalize okM p q r s = ok at *
      generalize R2 p q = k1 at *
      generalize R2 r s = k2 at *
      generalize R2 u v = k3 at *
      generalize normN p q = N1 at *
      generalize normN r s = N2 at *
      generalize normN u v = N3 at *
      go_wp2_with fail
      refine (HM _).out.mono ?_
      rintro e w6 ⟨rfl, hx6⟩
      have hX : w6.heap[w5.heap.size]? = some (.cells #[.int .i64 p, .int .i64 q] 34 (0, 0)) := (hx6.heap (by simp; omega)).trans (heap_alloc_lt (heap_alloc_new _ _))
      have hY : w6.heap[w5.heap.size + 1]? = some (.cells #[.int .i64 r, .int .i64 s] 34 (0, 0)) := (hx6.heap (by simp)).trans (heap_alloc_at _ _ _ (by simp))
      have X6 : Hid (Ext w w6) := ((X5.out.alloc _).alloc _).trans hx6
      clear hx6 HM X5
      have zX := fun k => cell_of_row _ _ k _ _ _ hX
      have lX := (Array.getElem?_eq_some_iff.1 hX).1
      have HX := Lib.hid hX
      have HY := Lib.hid hY
      clear hX hY
      go_wp2_with fail
      refine (HN1 _).out.mono ?_
      rintro e w7 ⟨rfl, hx7⟩
      have hZ : w7.heap[w6.heap.size]? = some (.cells #[.int .i64 u, .int .i64 v] 34 (0, 0)) := (hx7.heap (by simp)).trans (heap_alloc_new _ _)
      have hY := (hx7.heap (k := w5.heap.size + 1) (by simp; have := (Array.getElem?_eq_some_iff.1 HY.out).1; omega)).trans (heap_alloc_lt HY.out)
      have X7 : Hid (Ext w w7) := (X6.out.alloc _).trans hx7
      clear zX lX hx7 HN1 X6
      have zY := fun k => cell_of_row _ _ k _ _ _ hY
      have lY := (Array.getElem?_eq_some_iff.1 hY).1
      have HZ := Lib.hid hZ
      clear hY hZ
      go_wp2_with fail
      refine (HN2 _).out.mono ?_
      rintro e w8 ⟨rfl, hx8⟩
      have hZ := row_farB HZ.out hx8
      have X8 : Hid (Ext w w8) := X7.out.trans hx8
      clear zY lY hx8 HN2 X7
      have zZ := fun k => cell_of_row _ _ k _ _ _ hZ
      have lZ := (Array.getElem?_eq_some_iff.1 hZ).1
      clear hZ
      go_wp2_with fail
      refine (HN3 _).out.mono ?_
      rintro e w9 ⟨rfl, hx9⟩
      have X9 : Hid (Ext w w9) := X8.out.trans hx9
      clear zZ lZ hx9 HN3 X8
      cases ok
      case false =>
        go_wp2
        go_ret
        exact ⟨by first | rfl | simp, X9.out⟩
      obtain ⟨rfl, rfl, rfl, hN⟩ := HOK.out rfl
      by_cases b1 : 1000000000 < N1
      · go_wp2
        go_ret
        exact ⟨by first | rfl | simp, X9.out⟩
      by_cases b2 : N1 < -1000000000
      · go_wp2
        go_ret
        exact ⟨by first | rfl | simp, X9.out⟩
      by_cases b3 : 1000000000 < N2
      · go_wp2
        go_ret
        exact ⟨by first | rfl | simp, X9.out⟩
      by_cases b4 : N2 < -1000000000
      · go_wp2
        go_ret
        exact ⟨by first | rfl | simp, X9.out⟩
      have hbd := mul_bd (a := N1) (b := N2) (A := 1000000000) (B := 1000000000) (by omega) (by omega) (by omega) (by omega)
      have HN := Lib.hid hN
      clear hN
      go_wp2
      go_ret
      exact ⟨ret_bool (by have := HN.out; simp [this]), X9.out⟩

theorem law_FnBox_c (v1 v2 : Value) {k1 k2 : Nat} {w0 : World} (s1 : Shape Try.prog w0 k1 46 v1.cells.toList) (s2 : Shape Try.prog w0 k2 46 v2.cells.toList) (w : World) (hw : w0 = w := by rfl) (c1 : v1.cells = #[v1] := by rfl) (c2 : v2.cells = #[v2] := by rfl) :
    Calls Try.prog 6 #[v1, v2] w fun e w' => e = .returned (.bool true) ∧ Ext w w' := by
  subst hw
  rw [c1] at s1
  rw [c2] at s2
  obtain ⟨n1, h1⟩ := by_of_shape Try.underlying46 Try.underlying5 (by kernel_rfl) s1
  obtain ⟨n2, h2⟩ := by_of_shape Try.underlying46 Try.underlying5 (by kernel_rfl) s2
  exact law_FnBox v1 v2 n1 n2 w0 h1 h2

end Go.Proofs.Ytojoljffaedpfaa
