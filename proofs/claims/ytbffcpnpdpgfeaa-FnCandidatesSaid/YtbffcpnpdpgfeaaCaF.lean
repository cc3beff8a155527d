/- The law FnCandidates. -/
import Derived.Test.YtbffcpnpdpgfeaaCaD
import Derived.Test.YtbffcpnpdpgfeaaCdW
import Derived.Test.YtbffcpnpdpgfeaaGateL
namespace Go.Proofs.Ytbffcpnpdpgfeaa
open Go.RowKit Go.Lib
set_option linter.unusedVariables false
set_option linter.unusedSimpArgs false

theorem sq_nnC (x : Int) : 0 ≤ x * x := by
  rcases Int.le_total 0 x with h | h
  · exact Int.mul_nonneg h h
  · exact Int.mul_nonneg_of_nonpos_of_nonpos h h
theorem tgRing (m n : Int) : (m * m - n * n) * (m * m - n * n) + 2 * m * n * (2 * m * n) = (m * m + n * n) * (m * m + n * n) := by grind
theorem tg_of_to {m n : Int} (h : okTo m n = true) : Tg (toX m n) (toY m n) (toN m n) = true := by
  unfold toX toY toN
  rw [if_pos h, if_pos h, if_pos h]
  unfold okTo at h
  simp only [Bool.and_eq_true] at h
  obtain ⟨⟨h1, h2⟩, h3⟩ := h
  rw [Wn_iff] at h3
  have a := sq_nnC m
  have b := sq_nnC n
  have c := sq_nnC (m - n)
  have d := sq_nnC (m + n)
  have e1 : (m - n) * (m - n) = m * m + n * n - 2 * m * n := by grind
  have e2 : (m + n) * (m + n) = m * m + n * n + 2 * m * n := by grind
  rw [e1] at c
  rw [e2] at d
  have ht := tgRing m n
  unfold Tg
  simp only [Bool.and_eq_true, Wn_iff, decide_eq_true_eq]
  refine ⟨⟨⟨h3, ?_⟩, ?_⟩, ht⟩ <;> omega
theorem neq_ringC (x0 x1 x2 x3 : Int) (w : World) : (binOp .neq 33 (.agg #[.int .i64 x0, .int .i64 x1, .int .i64 x2, .int .i64 x3]) (.agg #[.int .i64 x0, .int .i64 x1, .int .i64 x2, .int .i64 x3])).run Try.prog w = .ok (.bool false) w := by
  go_simp
theorem bigC_any (v1 v2 : Value) (n1 n2 : Nat) (w : World) (h1 : ∃ a c, v1 = .slice a n1 c ∧ n1 ≤ maxLen) (h2 : ∃ a c, v2 = .slice a n2 c ∧ n2 ≤ maxLen) :
    Calls Try.prog 15 #[v1, v2] w fun e w' => e = .returned (.bool (decide (1048576 < (n1 : Int)) || decide (1048576 - (n1 : Int) < n2))) ∧ Ext w w' := by
  obtain ⟨a1, c1, rfl, k1⟩ := h1
  obtain ⟨a2, c2, rfl, k2⟩ := h2
  have m1 : n1 ≤ 9223372036854775807 := k1
  have m2 : n2 ≤ 9223372036854775807 := k2
  go_enter Try.func15, Try.ntmps15
  by_cases h : (1048576 : Int) < n1
  · go_wp2
    go_ret
    exact ⟨ret_bool (by simp [h]), (by repeat (first | exact Ext.refl _ | assumption | refine Ext.alloc ?_ _ | refine Ext.drew ?_ | refine Ext.drewN ?_ _ | refine Ext.setCell ?_ (by first | omega | (dsimp only; omega) | (simp; done) | (simp; omega)) _ | refine Ext.trans ?_ (by assumption)))⟩
  · go_wp2
    go_ret
    exact ⟨ret_bool (by simp [h]; omega), (by repeat (first | exact Ext.refl _ | assumption | refine Ext.alloc ?_ _ | refine Ext.drew ?_ | refine Ext.drewN ?_ _ | refine Ext.setCell ?_ (by first | omega | (dsimp only; omega) | (simp; done) | (simp; omega)) _ | refine Ext.trans ?_ (by assumption)))⟩

set_option maxRecDepth 20000 in
set_option maxHeartbeats 8000000 in
theorem law_FnCandidates (v1 v2 : Value) (n1 n2 : Nat) (w : World) (h1 : BY w.heap.size w v1 n1) (h2 : BY w.heap.size w v2 n2) :
    Calls Try.prog 5 #[v1, v2] w fun e w' => e = .returned (.bool true) ∧ Ext w w' := by
  have hb := bigC_any v1 v2 n1 n2 w (by obtain ⟨a, c, h, h3, h4, _⟩ := h1; exact ⟨a, c, h, Nat.le_trans h3 h4⟩) (by obtain ⟨a, c, h, h3, h4, _⟩ := h2; exact ⟨a, c, h, Nat.le_trans h3 h4⟩)
  generalize (decide (1048576 < (n1 : Int)) || decide (1048576 - (n1 : Int) < n2)) = big at hb
  have HB := Lib.hid hb
  have HD1 := fun w' (hx : Ext w w') => Lib.hid (drawCandidatesFor_any v1 n1 w' (h1.later hx))
  have HD2 := fun w' (hx : Ext w w') => Lib.hid (drawTargetOf_any v2 n2 w' (h2.later hx))
  obtain ⟨q1, r1, rfl⟩ := h1.noarg
  obtain ⟨q2, r2, rfl⟩ := h2.noarg
  clear h1 h2 hb
  go_enter Try.func5, Try.ntmps5
  go_wp2_with fail
  refine HB.out.mono ?_
  rintro e w1 ⟨rfl, hx1⟩
  cases big
  case true =>
    go_wp2
    go_ret
    exact ⟨rfl, hx1⟩
  go_wp2_with fail
  refine (HD1 w1 hx1).out.mono ?_
  rintro e w2 ⟨x, y, z, k, num, den, rfl, hx2⟩
  have X2 : Hid (Ext w w2) := hx1.trans hx2
  clear hx1 hx2 HD1 HB
  have HS := fun w => Lib.hid (s_candidatesFor_any x y z k num den w)
  have HI := fun w => Lib.hid (candidatesFor_any x y z k num den w)
  have hlen := fl4_len (cdR x y z k num den)
  have hle := cdR_len x y z k num den
  generalize fl4 (cdR x y z k num den) = xs at *
  generalize (cdR x y z k num den).length = n at *
  generalize cdOk x y z k num den = g at *
  have HLEN := Lib.hid hlen
  clear hlen
  go_wp2_with fail
  refine (HI _).out.mono ?_
  rintro e w3 ⟨vL, rfl, o3, hx3⟩
  have hA : w3.heap[w2.heap.size]? = some (.cells #[.int .i64 x, .int .i64 y, .int .i64 z] 27 (0, 0)) := (hx3.heap (by simp)).trans (heap_alloc_new _ _)
  have X3 : Hid (Ext w w3) := (X2.out.alloc _).trans hx3
  have HRV := RV.own o3 HLEN.out
  obtain ⟨_, a, c, rfl, hc1', hc2', HHo⟩ := HRV
  have HH := Lib.hid HHo
  have s3 := hx3.size
  clear o3 HHo hx3 HI X2
  have zA := fun k => cell_of_row _ _ k _ _ _ hA
  have lA := (Array.getElem?_eq_some_iff.1 hA).1
  go_wp2_with fail
  refine (HS _).out.mono ?_
  rintro e w4 ⟨vS, rfl, o4, hx4⟩
  have HRV := RV.own o4 HLEN.out
  obtain ⟨_, a', c', rfl, hd1', hd2', HHo⟩ := HRV
  have HH2 := Lib.hid HHo
  have X4 : Hid (Ext w w4) := X3.out.trans hx4
  have hx34 := Lib.hid hx4
  clear o4 HHo hx4 HS zA lA hA X3 s3
  have HLEN2 := Lib.hid HLEN.out
  go_wp2
  go_loopw [13, 58] (fun _ i wr => ∃ j : Nat, j ≤ n ∧ i = .int .i64 j ∧ Ext w4 wr) (fun _ i _ => n - (intOf i).toNat)
  case atStart => exact ⟨0, by omega, rfl, Ext.refl _⟩
  case round =>
    obtain ⟨j, hj, rfl, hE⟩ := hrel
    by_cases hlt : j < n
    · have hlt' : (j : Int) < n := by omega
      have HE := Lib.hid hE
      have HE3 := Lib.hid (hx34.out.trans hE)
      clear hE
      obtain ⟨b, off, rfl, hbk, hcell⟩ := HH.out (by omega)
      have hbr : b < wr.heap.size := by have := HE3.out.size; omega
      have z0 : wr.cell? ⟨b, off + j * 4, none⟩ = some (.int .i64 (at3 xs (j * 4))) := (HE3.out.cells.1 b (off + (j * 4)) hbk).trans (hcell _ _ (at3_get (by have := HLEN.out; omega)))
      have z1 : wr.cell? ⟨b, off + j * 4 + 1, none⟩ = some (.int .i64 (at3 xs (j * 4 + 1))) := (HE3.out.cells.1 b (off + (j * 4 + 1)) hbk).trans (hcell _ _ (at3_get (by have := HLEN.out; omega)))
      have z2 : wr.cell? ⟨b, off + j * 4 + 2, none⟩ = some (.int .i64 (at3 xs (j * 4 + 2))) := (HE3.out.cells.1 b (off + (j * 4 + 2)) hbk).trans (hcell _ _ (at3_get (by have := HLEN.out; omega)))
      have z3 : wr.cell? ⟨b, off + j * 4 + 3, none⟩ = some (.int .i64 (at3 xs (j * 4 + 3))) := (HE3.out.cells.1 b (off + (j * 4 + 3)) hbk).trans (hcell _ _ (at3_get (by have := HLEN.out; omega)))
      clear hcell
      obtain ⟨bv, offv, rfl, hbkv, hcellv⟩ := HH2.out (by omega)
      have hbrv : bv < wr.heap.size := by have := HE.out.size; omega
      have zv0 : wr.cell? ⟨bv, offv + j * 4, none⟩ = some (.int .i64 (at3 xs (j * 4))) := (HE.out.cells.1 bv (offv + (j * 4)) hbkv).trans (hcellv _ _ (at3_get (by have := HLEN2.out; omega)))
      have zv1 : wr.cell? ⟨bv, offv + j * 4 + 1, none⟩ = some (.int .i64 (at3 xs (j * 4 + 1))) := (HE.out.cells.1 bv (offv + (j * 4 + 1)) hbkv).trans (hcellv _ _ (at3_get (by have := HLEN2.out; omega)))
      have zv2 : wr.cell? ⟨bv, offv + j * 4 + 2, none⟩ = some (.int .i64 (at3 xs (j * 4 + 2))) := (HE.out.cells.1 bv (offv + (j * 4 + 2)) hbkv).trans (hcellv _ _ (at3_get (by have := HLEN2.out; omega)))
      have zv3 : wr.cell? ⟨bv, offv + j * 4 + 3, none⟩ = some (.int .i64 (at3 xs (j * 4 + 3))) := (HE.out.cells.1 bv (offv + (j * 4 + 3)) hbkv).trans (hcellv _ _ (at3_get (by have := HLEN2.out; omega)))
      clear hcellv
      generalize at3 xs (j * 4) = x0 at *
      generalize at3 xs (j * 4 + 1) = x1 at *
      generalize at3 xs (j * 4 + 2) = x2 at *
      generalize at3 xs (j * 4 + 3) = x3 at *
      have hneq := fun w => neq_ringC x0 x1 x2 x3 w
      have hcl : j < c := by omega
      have hcl' : j < c' := by omega
      go_wp2
      refine wp_region_madeC (m := 104) (by kernel_rfl) (by kernel_rfl) rfl (fun hxc => ?_)
      repeat (refine mw_quiet ?_; apply Exists.intro; refine ⟨fun σ => ?_, ?_⟩; (first | (go_simp; rfl) | fail); simp only [Act.put, List.setIfInBounds_toArray, List.set_cons_succ, List.set_cons_zero, List.nil_append, List.cons_append])
      refine ⟨by kernel_rfl, fun σ w11 hF11 => ?_⟩
      have hx11 := hF11.ext
      clear hF11 hxc
      obtain ⟨hc11, hf11⟩ := hx11.cells
      have hz11 := hx11.size
      try simp at hz11
      clear hneq
      go_wp2
      go_roundw
      case rel => exact ⟨j + 1, by omega, by go_num, HE.out.trans hx11⟩
      case measure => simp [intOf]; omega
    · obtain rfl : j = n := by omega
      have XR : Hid (Ext w wr) := X4.out.trans hE
      clear hE X4 hx34 HH HH2 HLEN HLEN2
      go_wp2_with fail
      refine (HD2 _ XR.out).out.mono ?_
      rintro e w5 ⟨p, q, rfl, hx5⟩
      have X5 : Hid (Ext w w5) := XR.out.trans hx5
      clear hx5 HD2 XR
      have HT1 := fun w => Lib.hid (targetOf_any p q w)
      have HT2 := fun w => Lib.hid (s_targetOf_any p q w)
      have HV := fun w => Lib.hid (isValidTarget_any (toX p q) (toY p q) (toN p q) w)
      have HOK := Lib.hid (fun h : okTo p q = true => tg_of_to h)
      generalize Tg (toX p q) (toY p q) (toN p q) = tg at *
      generalize toX p q = X at *
      generalize toY p q = Y at *
      generalize toN p q = Z at *
      generalize okTo p q = ok at *
      go_wp2_with fail
      refine (HT1 _).out.mono ?_
      rintro e w6 ⟨rfl, hx6⟩
      have X6 : Hid (Ext w w6) := X5.out.trans hx6
      clear hx6 X5 HT1
      go_wp2_with fail
      refine (HT2 _).out.mono ?_
      rintro e w7 ⟨rfl, hx7⟩
      have hX := (hx7.heap (k := w6.heap.size) (by simp)).trans (heap_alloc_new w6 (.cells #[.int .i64 X, .int .i64 Y, .int .i64 Z] 27 (0, 0)))
      have X7 : Hid (Ext w w7) := (X6.out.alloc _).trans hx7
      clear hx7 X6 HT2
      have zX := fun k => cell_of_row _ _ k _ _ _ hX
      have lX := (Array.getElem?_eq_some_iff.1 hX).1
      clear hX
      cases ok
      case false =>
        clear HV HOK
        go_wp2
        go_ret
        exact ⟨by first | rfl | simp, X7.out.alloc _⟩
      obtain rfl := HOK.out rfl
      go_wp2_with fail
      refine (HV _).out.mono ?_
      rintro e w8 ⟨rfl, hx8⟩
      have X8 : Hid (Ext w w8) := (X7.out.alloc _).trans hx8
      clear hx8 zX lX
      go_wp2
      go_ret
      exact ⟨by first | rfl | simp, X8.out⟩

theorem law_FnCandidates_c (v1 v2 : Value) {k1 k2 : Nat} {w0 : World} (s1 : Shape Try.prog w0 k1 40 v1.cells.toList) (s2 : Shape Try.prog w0 k2 40 v2.cells.toList) (w : World) (hw : w0 = w := by rfl) (c1 : v1.cells = #[v1] := by rfl) (c2 : v2.cells = #[v2] := by rfl) :
    Calls Try.prog 5 #[v1, v2] w fun e w' => e = .returned (.bool true) ∧ Ext w w' := by
  subst hw
  rw [c1] at s1
  rw [c2] at s2
  obtain ⟨n1, h1⟩ := by_of_shape Try.underlying40 Try.underlying5 (by kernel_rfl) s1
  obtain ⟨n2, h2⟩ := by_of_shape Try.underlying40 Try.underlying5 (by kernel_rfl) s2
  exact law_FnCandidates v1 v2 n1 n2 w0 h1 h2

end Go.Proofs.Ytbffcpnpdpgfeaa
