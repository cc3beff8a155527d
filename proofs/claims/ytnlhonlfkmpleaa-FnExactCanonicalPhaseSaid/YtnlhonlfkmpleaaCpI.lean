/- CanonicalPhase: the program's side. -/
import Derived.Test.YtnlhonlfkmpleaaCpC
import Derived.Test.YtnlhonlfkmpleaaMoScale
import Derived.Test.YtnlhonlfkmpleaaWro
import Derived.Deep.RegionHeld3
import Derived.Deep.Cut
namespace Go.Proofs.Ytnlhonlfkmpleaa
open Go.RowKit Go.Lib
set_option linter.unusedVariables false
set_option linter.unusedSimpArgs false

set_option maxHeartbeats 2000000 in
theorem indexNz_any {v : Value} {n : Nat} {xs : List Int} (hn : n ≤ 2000000) (w : World) (h : RV w 5 v n xs) :
    Calls Try.prog 95 #[v, .func (.func 96) #[] #[]] w fun e w' => e = .returned (.int .i64 (fz xs n)) ∧ Ext w w' := by
  obtain ⟨hl, a, cap, rfl, c1, c2, H⟩ := h
  have HH := Lib.hid H
  have HL := Lib.hid hl
  clear H hl
  go_enter Try.func95, Try.ntmps95
  go_wp2
  go_loopw [5, 8] (fun _ i wr => ∃ j : Nat, j ≤ n ∧ i = .int .i64 j ∧ Hid (fz xs j = -1) ∧ Ext w wr) (fun _ i _ => n - (intOf i).toNat)
  case atStart => exact ⟨0, by omega, rfl, rfl, (by repeat (first | exact Ext.refl _ | assumption | refine Ext.alloc ?_ _ | refine Ext.drew ?_ | refine Ext.drewN ?_ _ | refine Ext.setCell ?_ (by first | omega | (dsimp only; omega) | (simp; done) | (simp; omega)) _ | refine Ext.trans ?_ (by assumption)))⟩
  case round =>
    obtain ⟨j, hj, rfl, HO, hE⟩ := hrel
    by_cases hlt : j < n
    · have hlt' : (j : Int) < n := by omega
      have HA : Hid (nzAt xs j = !((at3 xs (j * 5) == 0) && ((at3 xs (j * 5 + 1) == 0) && ((at3 xs (j * 5 + 2) == 0) && ((at3 xs (j * 5 + 3) == 0) && (at3 xs (j * 5 + 4) == 0)))))) := rfl
      have HB : Hid (nzAt xs j = true → fz xs n = j) := fun h => fz_hit HO.out h hlt
      have HS : Hid (nzAt xs j = false → fz xs (j + 1) = -1) := fun h => fz_miss HO.out h
      obtain ⟨b, off, rfl, hbk, hcell⟩ := HH.out (by omega)
      have hbr : b < wr.heap.size := by have := hE.size; omega
      have z0 : wr.cell? ⟨b, off + j * 5, none⟩ = some (.int .i64 (at3 xs (j * 5))) := (hE.cells.1 b (off + (j * 5)) hbk).trans (hcell _ _ (at3_get (by have := HL.out; omega)))
      have z1 : wr.cell? ⟨b, off + j * 5 + 1, none⟩ = some (.int .i64 (at3 xs (j * 5 + 1))) := (hE.cells.1 b (off + (j * 5 + 1)) hbk).trans (hcell _ _ (at3_get (by have := HL.out; omega)))
      have z2 : wr.cell? ⟨b, off + j * 5 + 2, none⟩ = some (.int .i64 (at3 xs (j * 5 + 2))) := (hE.cells.1 b (off + (j * 5 + 2)) hbk).trans (hcell _ _ (at3_get (by have := HL.out; omega)))
      have z3 : wr.cell? ⟨b, off + j * 5 + 3, none⟩ = some (.int .i64 (at3 xs (j * 5 + 3))) := (hE.cells.1 b (off + (j * 5 + 3)) hbk).trans (hcell _ _ (at3_get (by have := HL.out; omega)))
      have z4 : wr.cell? ⟨b, off + j * 5 + 4, none⟩ = some (.int .i64 (at3 xs (j * 5 + 4))) := (hE.cells.1 b (off + (j * 5 + 4)) hbk).trans (hcell _ _ (at3_get (by have := HL.out; omega)))
      clear hcell
      generalize at3 xs (j * 5) = k0 at *
      generalize at3 xs (j * 5 + 1) = k1 at *
      generalize at3 xs (j * 5 + 2) = k2 at *
      generalize at3 xs (j * 5 + 3) = k3 at *
      generalize at3 xs (j * 5 + 4) = k4 at *
      have HD := fun w' => Lib.hid (nzCell_any k0 k1 k2 k3 k4 w')
      rw [← HA.out] at HD
      generalize hg : nzAt xs j = g at *
      clear hg HA
      cases g
      · go_wp2_with fail
        refine ((HD _).out).mono ?_
        rintro e w3 ⟨rfl, hx3⟩
        obtain ⟨hc3, hf3⟩ := hx3.cells
        have hz3 := hx3.size
        try simp at hz3
        go_wp2
        go_roundw
        case rel => exact ⟨j + 1, by omega, by go_num, HS.out (by first | rfl | trivial), (by repeat (first | exact Ext.refl _ | assumption | refine Ext.alloc ?_ _ | refine Ext.drew ?_ | refine Ext.drewN ?_ _ | refine Ext.setCell ?_ (by first | omega | (dsimp only; omega) | (simp; done) | (simp; omega)) _ | refine Ext.trans ?_ (by assumption)))⟩
        case measure => simp [intOf]; omega
      · go_wp2_with fail
        refine ((HD _).out).mono ?_
        rintro e w3 ⟨rfl, hx3⟩
        obtain ⟨hc3, hf3⟩ := hx3.cells
        have hz3 := hx3.size
        try simp at hz3
        have HF := Lib.hid (HB.out (by first | rfl | trivial))
        go_wp2
        go_ret
        rw [HF.out]
        exact ⟨rfl, (by repeat (first | exact Ext.refl _ | assumption | refine Ext.alloc ?_ _ | refine Ext.drew ?_ | refine Ext.drewN ?_ _ | refine Ext.setCell ?_ (by first | omega | (dsimp only; omega) | (simp; done) | (simp; omega)) _ | refine Ext.trans ?_ (by assumption)))⟩
    · obtain rfl : j = n := by omega
      go_wp2
      go_ret
      rw [HO.out]
      exact ⟨rfl, (by repeat (first | exact Ext.refl _ | assumption | refine Ext.alloc ?_ _ | refine Ext.drew ?_ | refine Ext.drewN ?_ _ | refine Ext.setCell ?_ (by first | omega | (dsimp only; omega) | (simp; done) | (simp; omega)) _ | refine Ext.trans ?_ (by assumption)))⟩

theorem ifZ_yes (x : Int) : ifZ true x = x := rfl
theorem allTo_true : ∀ n, allTo (fun _ => true) n = true
  | 0 => rfl
  | n + 1 => by rw [allTo_succ, allTo_true n]; rfl
theorem nat_of_dim {r : Int} (h : dimB r = true) : ∃ R : Nat, r = R := ⟨r.toNat, by have := dim_bd h; omega⟩
theorem row_lt {i R k K : Nat} (hi : i < R) (hk : k < K) : i * K + k < R * K := by
  have : (i + 1) * K ≤ R * K := Nat.mul_le_mul_right K hi
  rw [Nat.succ_mul] at this
  omega
theorem row_bd {i K : Nat} (hi : i ≤ 32) (hK : K ≤ 32) : -1000000 ≤ (i : Int) * K ∧ (i : Int) * K ≤ 1000000 := by
  have := mul_bd (a := (i : Int)) (b := (K : Int)) (A := 32) (B := 32) (by omega) (by omega) (by omega) (by omega)
  omega

set_option maxHeartbeats 2000000 in
theorem scaleCell_any (R C : Nat) (bR : R ≤ 32) (bC : C ≤ 32) {v1 : Value} {xs : List Int} (mx : mOk xs (R * C) = true) (k : Nat) (hk : k ≤ 7) (i j : Nat) (hi : i < R) (hj : j < C) (b1 b2 : Nat) (w : World) (h1 : RV w 5 v1 (R * C) xs)
    (hc1 : w.heap[b1]? = some (.cells #[.int .i64 R, .int .i64 C, v1] 51 (0, 0))) (hc2 : w.heap[b2]? = some (.cells #[.int .i64 (turns k R4.one).a, .int .i64 (turns k R4.one).b, .int .i64 (turns k R4.one).c, .int .i64 (turns k R4.one).d, .int .i64 0] 34 (0, 0))) :
    Calls Try.prog 136 #[.int .i64 i, .int .i64 j, .pointer (some ⟨b1, 0, none⟩), .pointer (some ⟨b2, 0, none⟩)] w fun en w' =>
      en = .returned (.tuple #[.agg #[.int .i64 (turns k (dyAt xs (i * C + j))).a, .int .i64 (turns k (dyAt xs (i * C + j))).b, .int .i64 (turns k (dyAt xs (i * C + j))).c, .int .i64 (turns k (dyAt xs (i * C + j))).d, .int .i64 (exAt xs (i * C + j))], .bool true]) ∧ Ext w w' := by
  have hn1 : R * C ≤ 2000000 := by have := Nat.mul_le_mul bR bC; omega
  have H1 := fun w' (hx : Ext w w') => Lib.hid (at_any R C hn1 i j (i * C + j) (by push_cast; rfl) (row_lt hi hj) (row_bd (by omega) bC) (by omega) w' (h1.ext hx))
  have HA := fun w' => Lib.hid (mulDyadic_any (dyAt xs (i * C + j)) (exAt xs (i * C + j)) (turns k R4.one) 0 w')
  obtain ⟨m1, m2, m3⟩ := mu_phase (mOk_at mx (row_lt hi hj)) k
  rw [m1, m2, m3] at HA
  obtain ⟨_, a1, cap1, rfl, _⟩ := h1
  have hl1 : b1 < w.heap.size := (Array.getElem?_eq_some_iff.1 hc1).1
  have hl2 : b2 < w.heap.size := (Array.getElem?_eq_some_iff.1 hc2).1
  generalize turns k (dyAt xs (i * C + j)) = Q at *
  generalize dyAt xs (i * C + j) = X at *
  generalize exAt xs (i * C + j) = e at *
  generalize turns k R4.one = P at *
  have z1 : ∀ q, w.cell? ⟨b1, q, none⟩ = (#[.int .i64 R, .int .i64 C, .slice a1 (R * C) cap1] : Array Value)[q]? := fun q => cell_of_row _ _ _ _ _ _ hc1
  have z2 : ∀ q, w.cell? ⟨b2, q, none⟩ = (#[.int .i64 P.a, .int .i64 P.b, .int .i64 P.c, .int .i64 P.d, .int .i64 0] : Array Value)[q]? := fun q => cell_of_row _ _ _ _ _ _ hc2
  clear hc1 hc2 mx hi hj m1 m2 m3
  go_enter Try.func136, Try.ntmps136
  go_wp2
  refine wp_region_madePC (m := 16) (w) (by kernel_rfl) (by kernel_rfl) (by rfl) (by exact (Ext.refl w).alloc _) (fun hxc => ?_)
  repeat (refine mw_quiet ?_; apply Exists.intro; refine ⟨fun σ => ?_, ?_⟩; (first | (go_simp; rfl) | (go_simp; intro x; first | (go_at_call 85; with_reducible exact (H1 _ x.ext).out) | (go_at_call 27; with_reducible exact (HA _).out) | (go_at_call 85; exact (H1 _ x.ext).out) | (go_at_call 27; exact (HA _).out))); simp only [Act.put, List.setIfInBounds_toArray, List.set_cons_succ, List.set_cons_zero, List.nil_append, List.cons_append])
  refine mw_put (w.heap.size) 34 #[.int .i64 0, .int .i64 0, .int .i64 0, .int .i64 0, .int .i64 0] #[.int .i64 Q.a, .int .i64 Q.b, .int .i64 Q.c, .int .i64 Q.d, .int .i64 e] rfl (by first | (simp; done) | (simp; omega)) (heap_alloc_new _ _) (fun σ x hc => ?_) ?_
  · have hcell : ∀ k, x.w.cell? ⟨w.heap.size, k, none⟩ = (#[.int .i64 0, .int .i64 0, .int .i64 0, .int .i64 0, .int .i64 0] : Array Value)[k]? := fun k => cell_of_row _ _ _ _ _ _ hc
    have hfr : ∀ k, x.w.frozen? ⟨w.heap.size, k, none⟩ = false := fun k => frozen_of_row _ _ _ _ _ hc
    apply Exists.intro
    refine ⟨?_, ?_⟩
    · go_simp
      rfl
    · exact (((((Fill.start hc).set 0 _).set 1 _).set 2 _).set 3 _).set 4 _
  simp only [Act.put, List.nil_append, List.cons_append]
  repeat (refine mw_quiet ?_; apply Exists.intro; refine ⟨fun σ => ?_, ?_⟩; (first | (go_simp; rfl) | (go_simp; intro x; first | (go_at_call 85; with_reducible exact (H1 _ x.ext).out) | (go_at_call 27; with_reducible exact (HA _).out) | (go_at_call 85; exact (H1 _ x.ext).out) | (go_at_call 27; exact (HA _).out))); simp only [Act.put, List.setIfInBounds_toArray, List.set_cons_succ, List.set_cons_zero, List.nil_append, List.cons_append])
  refine ⟨by kernel_rfl, fun σ w1 hF1 => ?_⟩
  have hx1 := hF1.ext
  have hP1 := hF1.put 8 (undef) (w.heap.size) 34 #[.int .i64 0, .int .i64 0, .int .i64 0, .int .i64 0, .int .i64 0] #[.int .i64 Q.a, .int .i64 Q.b, .int .i64 Q.c, .int .i64 Q.d, .int .i64 e] (by decide) rfl
  clear hF1 hxc
  have hPc1 : ∀ j, w1.cell? ⟨w.heap.size, j, none⟩ = (#[.int .i64 Q.a, .int .i64 Q.b, .int .i64 Q.c, .int .i64 Q.d, .int .i64 e] : Array Value)[j]? := fun j => cell_of_row _ _ _ _ _ _ hP1
  have hPf1 : ∀ j, w1.frozen? ⟨w.heap.size, j, none⟩ = false := fun j => frozen_of_row _ _ _ _ _ hP1
  clear hP1
  obtain ⟨hc1, hf1⟩ := hx1.cells
  have hz1 := hx1.size
  try simp at hz1
  go_wp2
  refine bodyPost_ret (v := .tuple #[.agg #[.int .i64 Q.a, .int .i64 Q.b, .int .i64 Q.c, .int .i64 Q.d, .int .i64 e], .bool true]) (by simp [results, Try.results136, go_sem, *]) rfl ⟨rfl, ?_⟩
  exact (by repeat (first | (with_reducible refine Ext.setCell ?_ (by first | (simp; done) | (simp; omega)) _) | with_reducible refine Ext.alloc ?_ _ | with_reducible refine Ext.drew ?_ | with_reducible refine Ext.drewN ?_ _ | with_reducible assumption | with_reducible exact Ext.refl _ | with_reducible refine Ext.trans ?_ (by with_reducible assumption)))

set_option maxHeartbeats 4000000 in
theorem scaleMatrix_phase (r c : Int) {v1 : Value} {n : Nat} {xs : List Int} (hn : n ≤ 2000000) (hg : mGood r c n xs = true) (k : Nat) (hk : k ≤ 7) (w : World) (h1 : RV w 5 v1 n xs) :
    Calls Try.prog 99 #[.agg #[.int .i64 r, .int .i64 c, v1], .agg #[.int .i64 (turns k R4.one).a, .int .i64 (turns k R4.one).b, .int .i64 (turns k R4.one).c, .int .i64 (turns k R4.one).d, .int .i64 0]] w fun en w' => ∃ v, en = .returned (.tuple #[.agg #[.int .i64 r, .int .i64 c, v], .bool true]) ∧
      w'.ownsRow w.heap.size 34 5 v n (IL (cpM xs k n)) ∧ Ext w w' := by
  have HV1 := fun w' (hx : Ext w w') => Lib.hid (isValidMatrix_any r c hn w' (h1.ext hx))
  have HV2 := fun w' => Lib.hid (isValidDyadic_any (turns k R4.one).a (turns k R4.one).b (turns k R4.one).c (turns k R4.one).d 0 w')
  rw [hg] at HV1
  rw [show GD ⟨(turns k R4.one).a, (turns k R4.one).b, (turns k R4.one).c, (turns k R4.one).d⟩ 0 = true from phase_gd k] at HV2
  have R1 := fun w' (hx : Ext w w') => Lib.hid (h1.ext hx)
  obtain ⟨_, a1, cap1, rfl, _⟩ := h1
  obtain ⟨d1, d2, e1, mx⟩ := mGood_facts hg
  obtain ⟨R, rfl⟩ := nat_of_dim d1
  obtain ⟨C, rfl⟩ := nat_of_dim d2
  obtain rfl : n = R * C := by exact_mod_cast e1
  have bR := dim_bd d1
  have bC := dim_bd d2
  unfold cpM
  have HMO := fun w2 hcl => Lib.hid (matrixOf_scale R C d1 d2 w.heap.size (w.heap.size + 1) (fun p => turns k (dyAt xs p)) (exAt xs) (fun _ => true) w2 hcl)
  have HCC := fun (i j : Nat) (hi : i < R) (hj : j < C) (w' : World) h g1 g2 => Lib.hid (scaleCell_any R C (v1 := .slice a1 (R * C) cap1) (by omega) (by omega) mx k hk i j hi hj w.heap.size (w.heap.size + 1) w' h g1 g2)
  rw [allTo_true] at HMO
  unfold ifN ifL at HMO
  simp only [ifZ_yes, if_true] at HMO
  clear hg d1 d2 e1 mx
  generalize turns k R4.one = P at *
  generalize moL (fun p => turns k (dyAt xs p)) (exAt xs) (R * C) = L at HMO ⊢
  go_enter Try.func99, Try.ntmps99
  go_wp2_with fail
  refine ((HV1 _ (by repeat (first | exact Ext.refl _ | assumption | refine Ext.alloc ?_ _ | refine Ext.drew ?_ | refine Ext.drewN ?_ _ | refine Ext.setCell ?_ (by first | omega | (dsimp only; omega) | (simp; done) | (simp; omega)) _ | refine Ext.trans ?_ (by assumption)))).out).mono ?_
  rintro e w1 ⟨rfl, hx1⟩
  obtain ⟨hc1, hf1⟩ := hx1.cells
  have hz1 := hx1.size
  try simp at hz1
  have hs1_0 := sz3 (a := w.heap.size) (b := w1.heap.size) (by omega)
  go_wp2_with fail
  refine ((HV2 _).out).mono ?_
  rintro e w2 ⟨rfl, hx2⟩
  obtain ⟨hc2, hf2⟩ := hx2.cells
  have hz2 := hx2.size
  try simp at hz2
  have hs2_0 := sz3 (a := w.heap.size) (b := w2.heap.size) (by omega)
  have hb1 : w2.heap[w.heap.size]? = some (.cells #[.int .i64 R, .int .i64 C, .slice a1 (R * C) cap1] 51 (0, 0)) := (hx2.heap (by omega)).trans ((hx1.heap (by simp <;> omega)).trans (heap_alloc_lt (heap_alloc_lt (heap_alloc_new _ _))))
  have hb2 : w2.heap[w.heap.size + 1]? = some (.cells #[.int .i64 P.a, .int .i64 P.b, .int .i64 P.c, .int .i64 P.d, .int .i64 0] 34 (0, 0)) := (hx2.heap (by omega)).trans ((hx1.heap (by simp <;> omega)).trans (heap_alloc_lt (heap_alloc_at _ _ _ (by simp))))
  have hE2 : Ext w w2 := (by repeat (first | (with_reducible refine Ext.setCell ?_ (by first | (simp; done) | (simp; omega)) _) | with_reducible refine Ext.alloc ?_ _ | with_reducible refine Ext.drew ?_ | with_reducible refine Ext.drewN ?_ _ | with_reducible assumption | with_reducible exact Ext.refl _ | with_reducible refine Ext.trans ?_ (by with_reducible assumption)))
  have HCL := HMO w2 (fun i j w' hi hj hx => HCC i j hi hj w' (R1 w' (hE2.trans hx)).out ((hx.heap (by omega)).trans hb1) ((hx.heap (by omega)).trans hb2))
  clear HMO HCC hb1 hb2 R1 HV1 HV2
  go_wp2_with fail
  refine HCL.out.mono ?_
  rintro e w3 ⟨v, rfl, o3, hx3⟩
  obtain ⟨hc3, hf3⟩ := hx3.cells
  have hz3 := hx3.size
  try simp at hz3
  have hs3_0 := sz3 (a := w.heap.size) (b := w3.heap.size) (by omega)
  have O3 := Lib.hid (own_base (base' := w2.heap.size) o3 (by omega))
  obtain ⟨a', cap', rfl, q1, q2, q3⟩ := own_shape o3
  clear q3 o3 HCL
  go_wp2
  refine bodyPost_ret (v := .tuple #[.agg #[.int .i64 R, .int .i64 C, .slice a' (R * C) cap'], .bool true]) (by simp [results, Try.results99, go_sem, *]) rfl ?_
  exact ⟨_, rfl, own_base (own_set (own_set (own_set O3.out (by simp; omega) _) (by simp; omega) _) (by simp; omega) _) (by omega), (by repeat (first | (with_reducible refine Ext.setCell ?_ (by first | (simp; done) | (simp; omega)) _) | with_reducible refine Ext.alloc ?_ _ | with_reducible refine Ext.drew ?_ | with_reducible refine Ext.drewN ?_ _ | with_reducible assumption | with_reducible exact Ext.refl _ | with_reducible refine Ext.trans ?_ (by with_reducible assumption)))⟩

end Go.Proofs.Ytnlhonlfkmpleaa
