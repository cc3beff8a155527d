/- The law FnFolding. -/
import Derived.Test.YtbddgeoaaklgpaaQwO
import Derived.Test.YtbddgeoaaklgpaaQwG
import Derived.Test.YtbddgeoaaklgpaaQwT
import Derived.Test.YtbddgeoaaklgpaaFpP
import Derived.Test.YtbddgeoaaklgpaaGate
import Derived.Test.YtbddgeoaaklgpaaCur
namespace Go.Proofs.Ytbddgeoaaklgpaa
open Go.RowKit Go.Lib
set_option linter.unusedVariables false
set_option linter.unusedSimpArgs false

theorem eqC_refl (q : Int) (n : Nat) (xs : List Int) : eqC q n xs q n xs = true := by
  unfold eqC eqG
  rw [allTo_mkQ (fun j _ => by unfold eqAt; simp)]
  simp
/-- the sum of the remainders of the first j groups -/
def oT (G : List Gp) (j : Nat) : Nat := oddG (G.take j)
theorem oT_succ {G : List Gp} {j : Nat} (h : j < G.length) : oT G (j + 1) = oT G j + (gAt G j).c % 2 := by
  unfold oT
  rw [List.take_add_one, List.getElem?_eq_getElem h, gAt_get h, oddG_app]
  simp [oddG]
theorem oT_all (G : List Gp) : oT G G.length = oddG G := by unfold oT; rw [List.take_length]
theorem oT_le {G : List Gp} : ∀ {j : Nat}, j ≤ G.length → oT G j ≤ j
  | 0, _ => Nat.le_refl _
  | j + 1, h => by
    have := oT_le (G := G) (j := j) (by omega)
    rw [oT_succ (by omega)]
    omega
theorem FC_at3 {G : List Gp} {i : Nat} (hi : i < G.length) : at3 (FC G) (i * 2) = (gAt G i).t ∧ at3 (FC G) (i * 2 + 1) = (gAt G i).c := ⟨at3_ofQ (FC_at hi).1, at3_ofQ (FC_at hi).2⟩
theorem neq_foldQ (x0 x1 : Int) (w : World) : (binOp .neq 34 (.agg #[.int .i64 x0, .int .i64 x1]) (.agg #[.int .i64 x0, .int .i64 x1])).run Try.prog w = .ok (.bool false) w := by
  go_simp

set_option maxRecDepth 20000 in
set_option maxHeartbeats 8000000 in
theorem law_FnFolding (v1 v2 : Value) (n1 n2 : Nat) (w : World) (h1 : BY w.heap.size w v1 n1) (h2 : BY w.heap.size w v2 n2) :
    Calls Try.prog 3 #[v1, v2] w fun e w' => e = .returned (.bool true) ∧ Ext w w' := by
  have HD := fun w' (hx : Ext w w') => Lib.hid (drawFoldPhases_any v1 n1 w' (h1.later hx))
  obtain ⟨q1, r1, rfl, k1, k2, -⟩ := h1
  obtain ⟨q2, r2, rfl, k3, k4, -⟩ := h2
  have m1 : n1 ≤ 9223372036854775807 := Nat.le_trans k1 k2
  have m2 : n2 ≤ 9223372036854775807 := Nat.le_trans k3 k4
  go_enter Try.func3, Try.ntmps3
  by_cases hb : (1048576 : Int) < wrap64 ((n1 : Int) + n2)
  · clear HD
    go_wp2
    go_ret
    exact ⟨rfl, (by repeat (first | exact Ext.refl _ | assumption | refine Ext.alloc ?_ _ | refine Ext.drew ?_ | refine Ext.drewN ?_ _ | refine Ext.setCell ?_ (by first | omega | (dsimp only; omega) | (simp; done) | (simp; omega)) _ | refine Ext.trans ?_ (by assumption)))⟩
  go_wp2_with fail
  refine (HD _ (by repeat (first | exact Ext.refl _ | assumption | refine Ext.alloc ?_ _ | refine Ext.drew ?_ | refine Ext.drewN ?_ _ | refine Ext.setCell ?_ (by first | omega | (dsimp only; omega) | (simp; done) | (simp; omega)) _ | refine Ext.trans ?_ (by assumption)))).out.mono ?_
  rintro e w1 ⟨q, vm, rfl, hq, ⟨n, xs, hl, ho, hn⟩, hx1⟩
  clear HD hb m1 m2 k1 k2 k3 k4
  obtain ⟨Q, rfl⟩ : ∃ Q : Nat, q = Q := ⟨q.toNat, by omega⟩
  have hn6 : n ≤ 60 := by omega
  have hn2 : n ≤ 20 ∨ (Q = 2 ∧ xs = hL n n) := by
    rcases hn with h | ⟨a, b, c, d⟩
    · exact .inl h
    · exact .inr ⟨by omega, d⟩
  have X1 : Hid (Ext w w1) := hx1
  have HRV := fun w' (hx : Ext w1 w') => (RV.own ho hl).ext hx
  have HI := fun w' (hx : Ext w1 w') => Lib.hid (foldPhases_any (Q : Int) (by omega) w' (HRV w' hx))
  have HS := fun w' (hx : Ext w1 w') => Lib.hid (s_foldPhases_any (Q : Int) (by omega) w' (HRV w' hx))
  have HR := fun w' (hx : Ext w1 w') => Lib.hid (rotationsOf_l (Q : Int) (by omega) w' (HRV w' hx))
  have HT := fun w' (hx : Ext w1 w') => Lib.hid (s_rotationsOf_l (Q : Int) (by omega) w' (HRV w' hx))
  have HE := fun (v1 v2 : Value) w' (r1 : RV w' 3 v1 (fN Q xs n) (fL Q xs n)) (r2 : RV w' 3 v2 (fN Q xs n) (fL Q xs n)) => Lib.hid (eqC_refl (fQ Q xs n) (fN Q xs n) (fL Q xs n) ▸ equalCircuits_any (fQ Q xs n) (fQ Q xs n) (by have := fN_le Q xs n; omega) (by have := fN_le Q xs n; omega) w' r1 r2)
  have HLL := Lib.hid (fL_len Q xs n)
  -- what holds where the circuit can be folded
  have HOK : Hid (fOk Q xs n = true → fQ Q xs n = Q ∧ cOk Q xs n = true ∧ cOk Q (fL Q xs n) (fN Q xs n) = true ∧ cT (clG (fL Q xs n) (fN Q xs n)) = oddG (rG Q xs n) ∧ oddG (rG Q xs n) ≤ cT (clG xs n) ∧ (Q ≤ 3 → opB Q xs n = true ∧ opB Q (fL Q xs n) (fN Q xs n) = true ∧ opL Q xs n = opL Q (fL Q xs n) (fN Q xs n))) := Lib.hid (fun hf => by
    have hm : mgK Q xs n = true := by
      have hf' := hf
      unfold fOk at hf'
      simp only [Bool.and_eq_true] at hf'
      exact hf'.1
    obtain ⟨Q', hQ', _, _, _, _, _, hc, hk, _⟩ := mgK_facts hm
    obtain rfl : Q = Q' := by omega
    have e1 : fL Q xs n = fpT Q xs n := by unfold fL; rw [if_pos hf]
    have e2 : fN Q xs n = fpM Q xs n := by unfold fN; rw [if_pos hf]
    have e3 : rG Q xs n = (fsS Q xs n).G := by unfold rG; rw [if_pos hm]; rfl
    refine ⟨by unfold fQ; rw [if_pos hf], hc, ?_, ?_, ?_, fun h3 => fold_op2 h3 hf hn2⟩
    · rw [e1, e2]; exact (fpT_ok hm).trans hf
    · rw [e3]; exact cT_fold hf
    · rw [e3]; exact odd_le n)
  have HQT := fun (v : Value) w' (hc : cOk Q xs n = true) (r : RV w' 3 v n xs) => Lib.hid (qT_any Q hc w' r)
  have HQF := fun (v : Value) w' (hc : cOk Q (fL Q xs n) (fN Q xs n) = true) (r : RV w' 3 v (fN Q xs n) (fL Q xs n)) => Lib.hid (qT_any Q hc w' r)
  have HQE := fun (u v : Value) w' (hx : cOk Q xs n = true) (hy : cOk Q (fL Q xs n) (fN Q xs n) = true) (hO : Q ≤ 3 → opB Q xs n = true ∧ opB Q (fL Q xs n) (fN Q xs n) = true ∧ opL Q xs n = opL Q (fL Q xs n) (fN Q xs n)) (r1 : RV w' 3 u n xs) (r2 : RV w' 3 v (fN Q xs n) (fL Q xs n)) => Lib.hid (qExact_any Q hx hy hO w' r1 r2)
  have HGL := Lib.hid (FC_len (rG Q xs n))
  have HGA := Lib.hid (fun i (hi : i < (rG Q xs n).length) => FC_at3 hi)
  have hgl : (rG Q xs n).length ≤ 400 := by
    unfold rG
    split
    · rename_i hm
      obtain ⟨Q', hQ', _, _, _, hI, _, _, _, _⟩ := mgK_facts hm
      obtain rfl : Q = Q' := by omega
      have : (fsS (Q : Int).toNat xs n).G.length ≤ n := hI.gl
      omega
    · exact Nat.zero_le _
  obtain ⟨av, cv, rfl, _, _, _⟩ := own_shape ho
  have HRV' := Lib.hid HRV
  clear ho hl hx1 HRV hn hn2
  generalize fQ Q xs n = fq at *
  generalize fN Q xs n = fn at *
  generalize fL Q xs n = fl at *
  generalize fOk Q xs n = ok at *
  generalize mgK Q xs n = mk at *
  generalize rS Q xs n = rs at *
  generalize rG Q xs n = G at *
  go_wp2_with fail
  refine (HI _ (by repeat (first | exact Ext.refl _ | assumption | refine Ext.alloc ?_ _ | refine Ext.drew ?_ | refine Ext.drewN ?_ _ | refine Ext.setCell ?_ (by first | omega | (dsimp only; omega) | (simp; done) | (simp; omega)) _ | refine Ext.trans ?_ (by assumption)))).out.mono ?_
  rintro e w2 ⟨vx, rfl, o2, hx2⟩
  obtain ⟨hc2, hf2⟩ := hx2.cells
  have hz2 := hx2.size
  try simp at hz2
  have hs2_0 := sz1 (a := w1.heap.size) (b := w2.heap.size) (by omega)
  obtain ⟨ax, cx, rfl, _, _, _⟩ := own_shape o2
  have O2 := Lib.hid (RV.own o2 HLL.out)
  have X2 : Hid (Ext w1 w2) := (by repeat (first | exact Ext.refl _ | assumption | refine Ext.alloc ?_ _ | refine Ext.drew ?_ | refine Ext.drewN ?_ _ | refine Ext.setCell ?_ (by first | omega | (dsimp only; omega) | (simp; done) | (simp; omega)) _ | refine Ext.trans ?_ (by assumption)))
  clear o2 HI
  go_wp2_with fail
  refine (HS _ (by repeat (first | exact Ext.refl _ | assumption | refine Ext.alloc ?_ _ | refine Ext.drew ?_ | refine Ext.drewN ?_ _ | refine Ext.setCell ?_ (by first | omega | (dsimp only; omega) | (simp; done) | (simp; omega)) _ | refine Ext.trans ?_ (by assumption)))).out.mono ?_
  rintro e w3 ⟨vy, rfl, o3, hx3⟩
  obtain ⟨hc3, hf3⟩ := hx3.cells
  have hz3 := hx3.size
  try simp at hz3
  have hs3_0 := sz1 (a := w2.heap.size) (b := w3.heap.size) (by omega)
  have hs3_1 := sz1 (a := w1.heap.size) (b := w3.heap.size) (by omega)
  obtain ⟨ay, cy, rfl, _, _, _⟩ := own_shape o3
  have O3 := Lib.hid (RV.own o3 HLL.out)
  have X3 : Hid (Ext w2 w3) := (by repeat (first | exact Ext.refl _ | assumption | refine Ext.alloc ?_ _ | refine Ext.drew ?_ | refine Ext.drewN ?_ _ | refine Ext.setCell ?_ (by first | omega | (dsimp only; omega) | (simp; done) | (simp; omega)) _ | refine Ext.trans ?_ (by assumption)))
  clear o3 HS
  go_wp2_with fail
  refine (HR _ (by repeat (first | exact Ext.refl _ | assumption | refine Ext.alloc ?_ _ | refine Ext.drew ?_ | refine Ext.drewN ?_ _ | refine Ext.setCell ?_ (by first | omega | (dsimp only; omega) | (simp; done) | (simp; omega)) _ | refine Ext.trans ?_ (by assumption)))).out.mono ?_
  rintro e w4 ⟨vg, rfl, o4, hx4⟩
  obtain ⟨hc4, hf4⟩ := hx4.cells
  have hz4 := hx4.size
  try simp at hz4
  have hs4_0 := sz1 (a := w3.heap.size) (b := w4.heap.size) (by omega)
  have hs4_1 := sz1 (a := w2.heap.size) (b := w4.heap.size) (by omega)
  have hs4_2 := sz1 (a := w1.heap.size) (b := w4.heap.size) (by omega)
  obtain ⟨ag, cg, rfl, _, _, _⟩ := own_shape o4
  have X4 : Hid (Ext w3 w4) := (by repeat (first | exact Ext.refl _ | assumption | refine Ext.alloc ?_ _ | refine Ext.drew ?_ | refine Ext.drewN ?_ _ | refine Ext.setCell ?_ (by first | omega | (dsimp only; omega) | (simp; done) | (simp; omega)) _ | refine Ext.trans ?_ (by assumption)))
  have R4 := RV.own o4 HGL.out
  clear o4 HR
  go_wp2_with fail
  refine (HT _ (by repeat (first | exact Ext.refl _ | assumption | refine Ext.alloc ?_ _ | refine Ext.drew ?_ | refine Ext.drewN ?_ _ | refine Ext.setCell ?_ (by first | omega | (dsimp only; omega) | (simp; done) | (simp; omega)) _ | refine Ext.trans ?_ (by assumption)))).out.mono ?_
  rintro e w5 ⟨vh, rfl, o5, hx5⟩
  obtain ⟨hc5, hf5⟩ := hx5.cells
  have hz5 := hx5.size
  try simp at hz5
  have hs5_0 := sz1 (a := w3.heap.size) (b := w5.heap.size) (by omega)
  have hs5_1 := sz1 (a := w2.heap.size) (b := w5.heap.size) (by omega)
  have hs5_2 := sz1 (a := w1.heap.size) (b := w5.heap.size) (by omega)
  obtain ⟨ah, ch, rfl, _, _, _⟩ := own_shape o5
  have X5 : Hid (Ext w4 w5) := (by repeat (first | exact Ext.refl _ | assumption | refine Ext.alloc ?_ _ | refine Ext.drew ?_ | refine Ext.drewN ?_ _ | refine Ext.setCell ?_ (by first | omega | (dsimp only; omega) | (simp; done) | (simp; omega)) _ | refine Ext.trans ?_ (by assumption)))
  have R5 := RV.own o5 HGL.out
  clear o5 HT
  obtain ⟨_, _, _, ee, cg1, cg2, HHo⟩ := R4
  cases ee
  have HH := Lib.hid HHo
  clear HHo
  obtain ⟨_, _, _, ee, ch1, ch2, HHo⟩ := R5
  cases ee
  have HH2 := Lib.hid HHo
  clear HHo
  go_wp2_with fail
  refine (HE _ _ _ ?_ ?_).out.mono ?_
  · exact O2.out.ext (X3.out.trans (X4.out.trans X5.out))
  · exact O3.out.ext (X4.out.trans X5.out)
  rintro e w6 ⟨rfl, hx6⟩
  obtain ⟨hc6, hf6⟩ := hx6.cells
  have hz6 := hx6.size
  try simp at hz6
  have hs6_0 := sz1 (a := w3.heap.size) (b := w6.heap.size) (by omega)
  have hs6_1 := sz1 (a := w2.heap.size) (b := w6.heap.size) (by omega)
  have hs6_2 := sz1 (a := w1.heap.size) (b := w6.heap.size) (by omega)
  have X6 : Hid (Ext w5 w6) := (by repeat (first | exact Ext.refl _ | assumption | refine Ext.alloc ?_ _ | refine Ext.drew ?_ | refine Ext.drewN ?_ _ | refine Ext.setCell ?_ (by first | omega | (dsimp only; omega) | (simp; done) | (simp; omega)) _ | refine Ext.trans ?_ (by assumption)))
  have X46 : Hid (Ext w4 w6) := X5.out.trans X6.out
  clear HE
  have HB1 : Hid (w6.heap[w1.heap.size]? = some (.cells #[.int .i64 Q, .slice av n cv] 25 (0, 0))) := Lib.hid (((hx2.trans (X3.out.trans (X4.out.trans X46.out))).heap (by simp)).trans (heap_alloc_new _ _))
  have HB2 : Hid (w6.heap[w2.heap.size]? = some (.cells #[.int .i64 fq, .slice ax fn cx] 25 (0, 0))) := Lib.hid (((hx3.trans (X4.out.trans X46.out)).heap (by simp)).trans (heap_alloc_new _ _))
  have O26 : Hid (RV w6 3 (.slice ax fn cx) fn fl) := O2.out.ext (X3.out.trans (X4.out.trans X46.out))
  have XX6 : Hid (Ext w1 w6) := X2.out.trans (X3.out.trans (X4.out.trans X46.out))
  have HGL2 := Lib.hid HGL.out
  clear X2 X3 X4 X5 O2 O3
  go_wp2
  go_loopw [16, 17, 76] (fun s16 _ i wr => ∃ j : Nat, j ≤ G.length ∧ i = .int .i64 j ∧ s16 = .int .i64 (oT G j : Nat) ∧ Ext w6 wr) (fun _ _ i _ => G.length - (intOf i).toNat)
  case atStart => exact ⟨0, by omega, rfl, by rw [show oT G 0 = 0 by unfold oT; rfl]; rfl, Ext.refl _⟩
  case round =>
    obtain ⟨j, hj, rfl, rfl, hE⟩ := hrel
    have hot := oT_le hj
    by_cases hlt : j < G.length
    · clear HQT HQF HQE HOK HB1 HB2 O26
      have hlt' : (j : Int) < (G.length : Int) := by omega
      have HE := Lib.hid hE
      have HE5 := Lib.hid (X6.out.trans hE)
      have HE4 := Lib.hid (X46.out.trans hE)
      have HS := Lib.hid (oT_succ hlt)
      obtain ⟨e1, e2⟩ := HGA.out j hlt
      clear hE
      obtain ⟨b, off, rfl, hbk, hcell⟩ := HH.out (by omega)
      have hbr : b < wr.heap.size := by have := HE4.out.size; omega
      have z0 : wr.cell? ⟨b, off + j * 2, none⟩ = some (.int .i64 (at3 (FC G) (j * 2))) := (HE4.out.cells.1 b (off + (j * 2)) hbk).trans (hcell _ _ (at3_get (by have := HGL.out; omega)))
      have z1 : wr.cell? ⟨b, off + j * 2 + 1, none⟩ = some (.int .i64 (at3 (FC G) (j * 2 + 1))) := (HE4.out.cells.1 b (off + (j * 2 + 1)) hbk).trans (hcell _ _ (at3_get (by have := HGL.out; omega)))
      clear hcell
      obtain ⟨bv, offv, rfl, hbkv, hcellv⟩ := HH2.out (by omega)
      have hbrv : bv < wr.heap.size := by have := HE5.out.size; omega
      have zv0 : wr.cell? ⟨bv, offv + j * 2, none⟩ = some (.int .i64 (at3 (FC G) (j * 2))) := (HE5.out.cells.1 bv (offv + (j * 2)) hbkv).trans (hcellv _ _ (at3_get (by have := HGL2.out; omega)))
      have zv1 : wr.cell? ⟨bv, offv + j * 2 + 1, none⟩ = some (.int .i64 (at3 (FC G) (j * 2 + 1))) := (HE5.out.cells.1 bv (offv + (j * 2 + 1)) hbkv).trans (hcellv _ _ (at3_get (by have := HGL2.out; omega)))
      clear hcellv
      rw [e1] at z0 zv0
      rw [e2] at z1 zv1
      clear e1 e2
      generalize (gAt G j).t = x0 at *
      generalize (gAt G j).c = x1 at *
      generalize oT G j = o0 at *
      have hneq := fun w => neq_foldQ x0 x1 w
      have hcl : j < cg := by omega
      have hcl' : j < ch := by omega
      go_wp2
      refine wp_region_madeC (m := 116) (by kernel_rfl) (by kernel_rfl) rfl (fun hxc => ?_)
      repeat (refine mw_quiet ?_; apply Exists.intro; refine ⟨fun σ => ?_, ?_⟩; (first | (go_simp; rfl) | fail); simp only [Act.put, List.setIfInBounds_toArray, List.set_cons_succ, List.set_cons_zero, List.nil_append, List.cons_append])
      refine ⟨by kernel_rfl, fun σ w14 hF14 => ?_⟩
      have hx14 := hF14.ext
      clear hF14 hxc
      obtain ⟨hc14, hf14⟩ := hx14.cells
      have hz14 := hx14.size
      try simp at hz14
      clear hneq
      go_wp2
      go_roundw
      case rel => exact ⟨j + 1, by omega, by go_num, by rw [HS.out]; go_num, HE.out.trans hx14⟩
      case measure => simp [intOf]; omega
    · obtain rfl : j = G.length := by omega
      have HE := Lib.hid hE
      have hb1 := (hE.heap (Array.getElem?_eq_some_iff.1 HB1.out).1).trans HB1.out
      have hb2 := (hE.heap (Array.getElem?_eq_some_iff.1 HB2.out).1).trans HB2.out
      have z1 := fun k => cell_of_row _ _ k _ _ _ hb1
      have z2 := fun k => cell_of_row _ _ k _ _ _ hb2
      have l1 := (Array.getElem?_eq_some_iff.1 hb1).1
      have l2 := (Array.getElem?_eq_some_iff.1 hb2).1
      rw [oT_all]
      have HXR := Lib.hid (XX6.out.trans hE)
      have HOX := Lib.hid (O26.out.ext hE)
      have HOC := Lib.hid (HRV'.out _ HXR.out)
      clear hot HH HH2 hE HGL HGL2 HGA HRV' hgl hb1 hb2 HB1 HB2 O26 HE XX6 X46 X6 hlt hj
      cases ok
      case false =>
        go_wp2
        go_ret
        exact ⟨by first | rfl | simp, X1.out.trans HXR.out⟩
      obtain ⟨rfl, c1, c2, c3, c4, c5⟩ := HOK.out rfl
      clear HOK
      rw [c3] at HQF
      have C5 := Lib.hid c5
      clear c5 c3
      have c4' : ((oddG G : Nat) : Int) ≤ (cT (clG xs n) : Nat) := by omega
      generalize oddG G = og at *
      generalize cT (clG xs n) = ct at *
      go_wp2_with fail
      refine (HQF _ _ c2 HOX.out).out.mono ?_
      rintro e w7 ⟨rfl, hx7⟩
      have X7 := Lib.hid hx7
      obtain ⟨hc7, hf7⟩ := hx7.cells
      have hz7 := hx7.size
      try simp at hz7
      have hs7_0 := sz1 (a := w2.heap.size) (b := w7.heap.size) (by omega)
      have hs7_1 := sz1 (a := w1.heap.size) (b := w7.heap.size) (by omega)
      go_wp2_with fail
      refine (HQT _ _ c1 (HOC.out.ext X7.out)).out.mono ?_
      rintro e w8 ⟨rfl, hx8⟩
      have X8 := Lib.hid hx8
      obtain ⟨hc8, hf8⟩ := hx8.cells
      have hz8 := hx8.size
      try simp at hz8
      have hs8_0 := sz1 (a := w2.heap.size) (b := w8.heap.size) (by omega)
      have hs8_1 := sz1 (a := w1.heap.size) (b := w8.heap.size) (by omega)
      go_wp2_with fail
      refine (HQE _ _ _ c1 c2 C5.out (HOC.out.ext (X7.out.trans X8.out)) (HOX.out.ext (X7.out.trans X8.out))).out.mono ?_
      rintro e w9 ⟨rfl, hx9⟩
      go_wp2
      go_ret
      exact ⟨by first | rfl | simp, X1.out.trans (HXR.out.trans (X7.out.trans (X8.out.trans hx9)))⟩

theorem law_FnFolding_c (v1 v2 : Value) {k1 k2 : Nat} {w0 : World} (s1 : Shape Try.prog w0 k1 22 v1.cells.toList) (s2 : Shape Try.prog w0 k2 22 v2.cells.toList) (w : World) (hw : w0 = w := by rfl) (c1 : v1.cells = #[v1] := by rfl) (c2 : v2.cells = #[v2] := by rfl) :
    Calls Try.prog 3 #[v1, v2] w fun e w' => e = .returned (.bool true) ∧ Ext w w' := by
  subst hw
  rw [c1] at s1
  rw [c2] at s2
  obtain ⟨n1, h1⟩ := by_of_shape Try.underlying22 Try.underlying5 (by kernel_rfl) s1
  obtain ⟨n2, h2⟩ := by_of_shape Try.underlying22 Try.underlying5 (by kernel_rfl) s2
  exact law_FnFolding v1 v2 n1 n2 w0 h1 h2

end Go.Proofs.Ytbddgeoaaklgpaa
