/- CanonicalPhase: the program's side. -/
import Derived.Test.YtamiploliebplaaDoorCpT
import Derived.Test.YtamiploliebplaaDoorMoScale
import Derived.Test.YtamiploliebplaaDoorWro
import Derived.Deep.RegionHeld3
import Derived.Deep.Cut
namespace Go.Proofs.YtamiploliebplaaDoor
open Go.RowKit Go.Lib
set_option linter.unusedVariables false
set_option linter.unusedSimpArgs false

set_option maxHeartbeats 2000000 in
theorem indexNz_any {v : Value} {n : Nat} {xs : List Int} (hn : n ≤ 2000000) (w : World) (h : RV w 5 v n xs) :
    Calls Tryd.prog 26 #[v, .func (.func 27) #[] #[]] w fun e w' => e = .returned (.int .i64 (fz xs n)) ∧ Ext w w' := by
  obtain ⟨hl, a, cap, rfl, c1, c2, H⟩ := h
  have HH := Lib.hid H
  have HL := Lib.hid hl
  clear H hl
  go_enter Tryd.func26, Tryd.ntmps26
  go_wp2
  go_loopw [5, 8] (fun _ i wr => ∃ j : Nat, j ≤ n ∧ i = .int .i64 j ∧ Hid (fz xs j = -1) ∧ Ext w wr) (fun _ i _ => n - (intOf i).toNat)
  case atStart => exact ⟨0, by omega, rfl, rfl, (by repeat (first | exact Ext.refl _ | assumption | refine Ext.alloc ?_ _ | refine Ext.drew ?_ | refine Ext.drewN ?_ _ | refine Ext.setCell ?_ (by first | omega | (dsimp only; omega) | (simp; done) | (simp; omega)) _ | refine Ext.trans ?_ (by assumption)))⟩
  case round =>
    obtain ⟨j, hj, rfl, HO, hE⟩ := hrel
    by_cases hlt : j < n
    · have hlt' : (j : Int) < n := by omega
      have HA : Hid (nzAt xs j = !((at3 xs (j * 5) == 0) && ((at3 xs (j * 5 + 1) == 0) && ((at3 xs (j * 5 + 2) == 0) && ((at3 xs (j * 5 + 3) == 0) && (at3 xs (j * 5 + 4) == 0)))))) := rfl
      have HB : Hid (nzAt xs j = true → fz xs n = j) := fun h => fz_hit HO.out h hlt
      have HS : Hid (nzAt xs j = false → fz xs (j + 1) = -1) := fun h => fz_miss HO.out h
      obtain ⟨b, off, rfl, hbk, hcell⟩ := HH.out (by omega)
      have hbr : b < wr.heap.size := by have := hE.size; omega
      have z0 : wr.cell? ⟨b, off + j * 5, none⟩ = some (.int .i64 (at3 xs (j * 5))) := (hE.cells.1 b (off + (j * 5)) hbk).trans (hcell _ _ (at3_get (by have := HL.out; omega)))
      have z1 : wr.cell? ⟨b, off + j * 5 + 1, none⟩ = some (.int .i64 (at3 xs (j * 5 + 1))) := (hE.cells.1 b (off + (j * 5 + 1)) hbk).trans (hcell _ _ (at3_get (by have := HL.out; omega)))
      have z2 : wr.cell? ⟨b, off + j * 5 + 2, none⟩ = some (.int .i64 (at3 xs (j * 5 + 2))) := (hE.cells.1 b (off + (j * 5 + 2)) hbk).trans (hcell _ _ (at3_get (by have := HL.out; omega)))
      have z3 : wr.cell? ⟨b, off + j * 5 + 3, none⟩ = some (.int .i64 (at3 xs (j * 5 + 3))) := (hE.cells.1 b (off + (j * 5 + 3)) hbk).trans (hcell _ _ (at3_get (by have := HL.out; omega)))
      have z4 : wr.cell? ⟨b, off + j * 5 + 4, none⟩ = some (.int .i64 (at3 xs (j * 5 + 4))) := (hE.cells.1 b (off + (j * 5 + 4)) hbk).trans (hcell _ _ (at3_get (by have := HL.out; omega)))
      clear hcell
      generalize at3 xs (j * 5) = k0 at *
      generalize at3 xs (j * 5 + 1) = k1 at *
      generalize at3 xs (j * 5 + 2) = k2 at *
      generalize at3 xs (j * 5 + 3) = k3 at *
      generalize at3 xs (j * 5 + 4) = k4 at *
      have HD := fun w' => Lib.hid (nzCell_any k0 k1 k2 k3 k4 w')
      rw [← HA.out] at HD
      generalize hg : nzAt xs j = g at *
      clear hg HA
      cases g
      · go_wp2_with fail
        refine ((HD _).out).mono ?_
        rintro e w3 ⟨rfl, hx3⟩
        obtain ⟨hc3, hf3⟩ := hx3.cells
        have hz3 := hx3.size
        try simp at hz3
        go_wp2
        go_roundw
        case rel => exact ⟨j + 1, by omega, by go_num, HS.out (by first | rfl | trivial), (by repeat (first | exact Ext.refl _ | assumption | refine Ext.alloc ?_ _ | refine Ext.drew ?_ | refine Ext.drewN ?_ _ | refine Ext.setCell ?_ (by first | omega | (dsimp only; omega) | (simp; done) | (simp; omega)) _ | refine Ext.trans ?_ (by assumption)))⟩
        case measure => simp [intOf]; omega
      · go_wp2_with fail
        refine ((HD _).out).mono ?_
        rintro e w3 ⟨rfl, hx3⟩
        obtain ⟨hc3, hf3⟩ := hx3.cells
        have hz3 := hx3.size
        try simp at hz3
        have HF := Lib.hid (HB.out (by first | rfl | trivial))
        go_wp2
        go_ret
        rw [HF.out]
        exact ⟨rfl, (by repeat (first | exact Ext.refl _ | assumption | refine Ext.alloc ?_ _ | refine Ext.drew ?_ | refine Ext.drewN ?_ _ | refine Ext.setCell ?_ (by first | omega | (dsimp only; omega) | (simp; done) | (simp; omega)) _ | refine Ext.trans ?_ (by assumption)))⟩
    · obtain rfl : j = n := by omega
      go_wp2
      go_ret
      rw [HO.out]
      exact ⟨rfl, (by repeat (first | exact Ext.refl _ | assumption | refine Ext.alloc ?_ _ | refine Ext.drew ?_ | refine Ext.drewN ?_ _ | refine Ext.setCell ?_ (by first | omega | (dsimp only; omega) | (simp; done) | (simp; omega)) _ | refine Ext.trans ?_ (by assumption)))⟩

theorem ifZ_yes (x : Int) : ifZ true x = x := rfl
theorem allTo_true : ∀ n, allTo (fun _ => true) n = true
  | 0 => rfl
  | n + 1 => by rw [allTo_succ, allTo_true n]; rfl
theorem nat_of_dim {r : Int} (h : dimB r = true) : ∃ R : Nat, r = R := ⟨r.toNat, by have := dim_bd h; omega⟩
theorem row_lt {i R k K : Nat} (hi : i < R) (hk : k < K) : i * K + k < R * K := by
  have : (i + 1) * K ≤ R * K := Nat.mul_le_mul_right K hi
  rw [Nat.succ_mul] at this
  omega
theorem row_bd {i K : Nat} (hi : i ≤ 32) (hK : K ≤ 32) : -1000000 ≤ (i : Int) * K ∧ (i : Int) * K ≤ 1000000 := by
  have := mul_bd (a := (i : Int)) (b := (K : Int)) (A := 32) (B := 32) (by omega) (by omega) (by omega) (by omega)
  omega

set_option maxHeartbeats 2000000 in
theorem scaleCell_any (R C : Nat) (bR : R ≤ 32) (bC : C ≤ 32) {v1 : Value} {xs : List Int} (mx : mOk xs (R * C) = true) (k : Nat) (hk : k ≤ 7) (i j : Nat) (hi : i < R) (hj : j < C) (b1 b2 : Nat) (w : World) (h1 : RV w 5 v1 (R * C) xs)
    (hc1 : w.heap[b1]? = some (.cells #[.int .i64 R, .int .i64 C, v1] 30 (0, 0))) (hc2 : w.heap[b2]? = some (.cells #[.int .i64 (turns k R4.one).a, .int .i64 (turns k R4.one).b, .int .i64 (turns k R4.one).c, .int .i64 (turns k R4.one).d, .int .i64 0] 46 (0, 0))) :
    Calls Tryd.prog 64 #[.int .i64 i, .int .i64 j, .pointer (some ⟨b1, 0, none⟩), .pointer (some ⟨b2, 0, none⟩)] w fun en w' =>
      en = .returned (.tuple #[.agg #[.int .i64 (turns k (dyAt xs (i * C + j))).a, .int .i64 (turns k (dyAt xs (i * C + j))).b, .int .i64 (turns k (dyAt xs (i * C + j))).c, .int .i64 (turns k (dyAt xs (i * C + j))).d, .int .i64 (exAt xs (i * C + j))], .bool true]) ∧ Ext w w' := by
  have hn1 : R * C ≤ 2000000 := by have := Nat.mul_le_mul bR bC; omega
  have H1 := fun w' (hx : Ext w w') => Lib.hid (at_any R C hn1 i j (i * C + j) (by push_cast; rfl) (row_lt hi hj) (row_bd (by omega) bC) (by omega) w' (h1.ext hx))
  have HA := fun w' => Lib.hid (mulDyadic_any (dyAt xs (i * C + j)) (exAt xs (i * C + j)) (turns k R4.one) 0 w')
  obtain ⟨m1, m2, m3⟩ := mu_phase (mOk_at mx (row_lt hi hj)) k
  rw [m1, m2, m3] at HA
  obtain ⟨_, a1, cap1, rfl, _⟩ := h1
  have hl1 : b1 < w.heap.size := (Array.getElem?_eq_some_iff.1 hc1).1
  have hl2 : b2 < w.heap.size := (Array.getElem?_eq_some_iff.1 hc2).1
  generalize turns k (dyAt xs (i * C + j)) = Q at *
  generalize dyAt xs (i * C + j) = X at *
  generalize exAt xs (i * C + j) = e at *
  generalize turns k R4.one = P at *
  have z1 : ∀ q, w.cell? ⟨b1, q, none⟩ = (#[.int .i64 R, .int .i64 C, .slice a1 (R * C) cap1] : Array Value)[q]? := fun q => cell_of_row _ _ _ _ _ _ hc1
  have z2 : ∀ q, w.cell? ⟨b2, q, none⟩ = (#[.int .i64 P.a, .int .i64 P.b, .int .i64 P.c, .int .i64 P.d, .int .i64 0] : Array Value)[q]? := fun q => cell_of_row _ _ _ _ _ _ hc2
  clear hc1 hc2 mx hi hj m1 m2 m3
  go_enter Tryd.func64, Tryd.ntmps64
  go_wp2
  refine wp_region_madePC (m := 16) (w) (by kernel_rfl) (by kernel_rfl) (by rfl) (by exact (Ext.refl w).alloc _) (fun hxc => ?_)
  repeat (refine mw_quiet ?_; apply Exists.intro; refine ⟨fun σ => ?_, ?_⟩; (first | (go_simp; rfl) | (go_simp; intro x; first | (go_at_call 66; with_reducible exact (H1 _ x.ext).out) | (go_at_call 65; with_reducible exact (HA _).out) | (go_at_call 66; exact (H1 _ x.ext).out) | (go_at_call 65; exact (HA _).out))); simp only [Act.put, List.setIfInBounds_toArray, List.set_cons_succ, List.set_cons_zero, List.nil_append, List.cons_append])
  refine mw_put (w.heap.size) 46 #[.int .i64 0, .int .i64 0, .int .i64 0, .int .i64 0, .int .i64 0] #[.int .i64 Q.a, .int .i64 Q.b, .int .i64 Q.c, .int .i64 Q.d, .int .i64 e] rfl (by first | (simp; done) | (simp; omega)) (heap_alloc_new _ _) (fun σ x hc => ?_) ?_
  · have hcell : ∀ k, x.w.cell? ⟨w.heap.size, k, none⟩ = (#[.int .i64 0, .int .i64 0, .int .i64 0, .int .i64 0, .int .i64 0] : Array Value)[k]? := fun k => cell_of_row _ _ _ _ _ _ hc
    have hfr : ∀ k, x.w.frozen? ⟨w.heap.size, k, none⟩ = false := fun k => frozen_of_row _ _ _ _ _ hc
    apply Exists.intro
    refine ⟨?_, ?_⟩
    · go_simp
      rfl
    · exact (((((Fill.start hc).set 0 _).set 1 _).set 2 _).set 3 _).set 4 _
  simp only [Act.put, List.nil_append, List.cons_append]
  repeat (refine mw_quiet ?_; apply Exists.intro; refine ⟨fun σ => ?_, ?_⟩; (first | (go_simp; rfl) | (go_simp; intro x; first | (go_at_call 66; with_reducible exact (H1 _ x.ext).out) | (go_at_call 65; with_reducible exact (HA _).out) | (go_at_call 66; exact (H1 _ x.ext).out) | (go_at_call 65; exact (HA _).out))); simp only [Act.put, List.setIfInBounds_toArray, List.set_cons_succ, List.set_cons_zero, List.nil_append, List.cons_append])
  refine ⟨by kernel_rfl, fun σ w1 hF1 => ?_⟩
  have hx1 := hF1.ext
  have hP1 := hF1.put 8 (undef) (w.heap.size) 46 #[.int .i64 0, .int .i64 0, .int .i64 0, .int .i64 0, .int .i64 0] #[.int .i64 Q.a, .int .i64 Q.b, .int .i64 Q.c, .int .i64 Q.d, .int .i64 e] (by decide) rfl
  clear hF1 hxc
  have hPc1 : ∀ j, w1.cell? ⟨w.heap.size, j, none⟩ = (#[.int .i64 Q.a, .int .i64 Q.b, .int .i64 Q.c, .int .i64 Q.d, .int .i64 e] : Array Value)[j]? := fun j => cell_of_row _ _ _ _ _ _ hP1
  have hPf1 : ∀ j, w1.frozen? ⟨w.heap.size, j, none⟩ = false := fun j => frozen_of_row _ _ _ _ _ hP1
  clear hP1
  obtain ⟨hc1, hf1⟩ := hx1.cells
  have hz1 := hx1.size
  try simp at hz1
  go_wp2
  refine bodyPost_ret (v := .tuple #[.agg #[.int .i64 Q.a, .int .i64 Q.b, .int .i64 Q.c, .int .i64 Q.d, .int .i64 e], .bool true]) (by simp [results, Tryd.results64, go_sem, *]) rfl ⟨rfl, ?_⟩
  exact (by repeat (first | (with_reducible refine Ext.setCell ?_ (by first | (simp; done) | (simp; omega)) _) | with_reducible refine Ext.alloc ?_ _ | with_reducible refine Ext.drew ?_ | with_reducible refine Ext.drewN ?_ _ | with_reducible assumption | with_reducible exact Ext.refl _ | with_reducible refine Ext.trans ?_ (by with_reducible assumption)))

set_option maxHeartbeats 4000000 in
theorem scaleMatrix_phase (r c : Int) {v1 : Value} {n : Nat} {xs : List Int} (hn : n ≤ 2000000) (hg : mGood r c n xs = true) (k : Nat) (hk : k ≤ 7) (w : World) (h1 : RV w 5 v1 n xs) :
    Calls Tryd.prog 31 #[.agg #[.int .i64 r, .int .i64 c, v1], .agg #[.int .i64 (turns k R4.one).a, .int .i64 (turns k R4.one).b, .int .i64 (turns k R4.one).c, .int .i64 (turns k R4.one).d, .int .i64 0]] w fun en w' => ∃ v, en = .returned (.tuple #[.agg #[.int .i64 r, .int .i64 c, v], .bool true]) ∧
      w'.ownsRow w.heap.size 46 5 v n (IL (cpM xs k n)) ∧ Ext w w' := by
  have HV1 := fun w' (hx : Ext w w') => Lib.hid (isValidMatrix_any r c hn w' (h1.ext hx))
  have HV2 := fun w' => Lib.hid (isValidDyadic_any (turns k R4.one).a (turns k R4.one).b (turns k R4.one).c (turns k R4.one).d 0 w')
  rw [hg] at HV1
  rw [show GD ⟨(turns k R4.one).a, (turns k R4.one).b, (turns k R4.one).c, (turns k R4.one).d⟩ 0 = true from phase_gd k] at HV2
  have R1 := fun w' (hx : Ext w w') => Lib.hid (h1.ext hx)
  obtain ⟨_, a1, cap1, rfl, _⟩ := h1
  obtain ⟨d1, d2, e1, mx⟩ := mGood_facts hg
  obtain ⟨R, rfl⟩ := nat_of_dim d1
  obtain ⟨C, rfl⟩ := nat_of_dim d2
  obtain rfl : n = R * C := by exact_mod_cast e1
  have bR := dim_bd d1
  have bC := dim_bd d2
  unfold cpM
  have HMO := fun w2 hcl => Lib.hid (matrixOf_scale R C d1 d2 w.heap.size (w.heap.size + 1) (fun p => turns k (dyAt xs p)) (exAt xs) (fun _ => true) w2 hcl)
  have HCC := fun (i j : Nat) (hi : i < R) (hj : j < C) (w' : World) h g1 g2 => Lib.hid (scaleCell_any R C (v1 := .slice a1 (R * C) cap1) (by omega) (by omega) mx k hk i j hi hj w.heap.size (w.heap.size + 1) w' h g1 g2)
  rw [allTo_true] at HMO
  unfold ifN ifL at HMO
  simp only [ifZ_yes, if_true] at HMO
  clear hg d1 d2 e1 mx
  generalize turns k R4.one = P at *
  generalize moL (fun p => turns k (dyAt xs p)) (exAt xs) (R * C) = L at HMO ⊢
  go_enter Tryd.func31, Tryd.ntmps31
  go_wp2_with fail
  refine ((HV1 _ (by repeat (first | exact Ext.refl _ | assumption | refine Ext.alloc ?_ _ | refine Ext.drew ?_ | refine Ext.drewN ?_ _ | refine Ext.setCell ?_ (by first | omega | (dsimp only; omega) | (simp; done) | (simp; omega)) _ | refine Ext.trans ?_ (by assumption)))).out).mono ?_
  rintro e w1 ⟨rfl, hx1⟩
  obtain ⟨hc1, hf1⟩ := hx1.cells
  have hz1 := hx1.size
  try simp at hz1
  have hs1_0 := sz3 (a := w.heap.size) (b := w1.heap.size) (by omega)
  go_wp2_with fail
  refine ((HV2 _).out).mono ?_
  rintro e w2 ⟨rfl, hx2⟩
  obtain ⟨hc2, hf2⟩ := hx2.cells
  have hz2 := hx2.size
  try simp at hz2
  have hs2_0 := sz3 (a := w.heap.size) (b := w2.heap.size) (by omega)
  have hb1 : w2.heap[w.heap.size]? = some (.cells #[.int .i64 R, .int .i64 C, .slice a1 (R * C) cap1] 30 (0, 0)) := (hx2.heap (by omega)).trans ((hx1.heap (by simp <;> omega)).trans (heap_alloc_lt (heap_alloc_lt (heap_alloc_new _ _))))
  have hb2 : w2.heap[w.heap.size + 1]? = some (.cells #[.int .i64 P.a, .int .i64 P.b, .int .i64 P.c, .int .i64 P.d, .int .i64 0] 46 (0, 0)) := (hx2.heap (by omega)).trans ((hx1.heap (by simp <;> omega)).trans (heap_alloc_lt (heap_alloc_at _ _ _ (by simp))))
  have hE2 : Ext w w2 := (by repeat (first | (with_reducible refine Ext.setCell ?_ (by first | (simp; done) | (simp; omega)) _) | with_reducible refine Ext.alloc ?_ _ | with_reducible refine Ext.drew ?_ | with_reducible refine Ext.drewN ?_ _ | with_reducible assumption | with_reducible exact Ext.refl _ | with_reducible refine Ext.trans ?_ (by with_reducible assumption)))
  have HCL := HMO w2 (fun i j w' hi hj hx => HCC i j hi hj w' (R1 w' (hE2.trans hx)).out ((hx.heap (by omega)).trans hb1) ((hx.heap (by omega)).trans hb2))
  clear HMO HCC hb1 hb2 R1 HV1 HV2
  go_wp2_with fail
  refine HCL.out.mono ?_
  rintro e w3 ⟨v, rfl, o3, hx3⟩
  obtain ⟨hc3, hf3⟩ := hx3.cells
  have hz3 := hx3.size
  try simp at hz3
  have hs3_0 := sz3 (a := w.heap.size) (b := w3.heap.size) (by omega)
  have O3 := Lib.hid (own_base (base' := w2.heap.size) o3 (by omega))
  obtain ⟨a', cap', rfl, q1, q2, q3⟩ := own_shape o3
  clear q3 o3 HCL
  go_wp2
  refine bodyPost_ret (v := .tuple #[.agg #[.int .i64 R, .int .i64 C, .slice a' (R * C) cap'], .bool true]) (by simp [results, Tryd.results31, go_sem, *]) rfl ?_
  exact ⟨_, rfl, own_base (own_set (own_set (own_set O3.out (by simp; omega) _) (by simp; omega) _) (by simp; omega) _) (by omega), (by repeat (first | (with_reducible refine Ext.setCell ?_ (by first | (simp; done) | (simp; omega)) _) | with_reducible refine Ext.alloc ?_ _ | with_reducible refine Ext.drew ?_ | with_reducible refine Ext.drewN ?_ _ | with_reducible assumption | with_reducible exact Ext.refl _ | with_reducible refine Ext.trans ?_ (by with_reducible assumption)))⟩


open Go.RowKit Go.Lib
set_option linter.unusedVariables false
set_option linter.unusedSimpArgs false

theorem heap_keepE {W W' : World} {k : Nat} {x : Obj} (hx : Ext W W') (h : W.heap[k]? = some x) : W'.heap[k]? = some x := (hx.heap (Array.getElem?_eq_some_iff.1 h).1).trans h

theorem mfin_heap {ops : Array Oper} {kl : List Kd} {w0 W : World} {σ : Nat → Nat} (h : MFin ops kl w0 W σ) (i s : Nat) {mk : Nat → Value} {t : TypeId} {c c1 : Array Value} (hk : Kd.at kl i = .maker mk t c s c1) (hi : i < ops.size) (cs : Array Value) (he : (if s < ops.size then c1 else c) = cs) :
    W.heap[σ i]? = some (.cells cs t (0, 0)) := by
  have h2 := (h.blk i mk t c s c1 hi hk).2
  rwa [he] at h2

set_option maxRecDepth 20000 in
set_option maxHeartbeats 8000000 in
theorem canonicalPhase_any (r c : Int) {v : Value} {n : Nat} {xs : List Int} (hn : n ≤ 2000000) (w : World) (h : RV w 5 v n xs) :
    Calls Tryd.prog 12 #[.agg #[.int .i64 r, .int .i64 c, v]] w fun en w' => ∃ v', en = .returned (.tuple #[.agg #[.int .i64 (ifZ (cpOk r c n xs) r), .int .i64 (ifZ (cpOk r c n xs) c), v'], .int .i64 (ifZ (cpOk r c n xs) (cpK n xs : Nat)), .bool (cpOk r c n xs)]) ∧
      w'.ownsRow w.heap.size 46 5 v' (ifN (cpOk r c n xs) n) (IL (ifL (cpOk r c n xs) (cpM xs (cpK n xs) n))) ∧ Ext w w' := by
  have HI := fun w' (hx : Ext w w') => Lib.hid (indexNz_any hn w' (h.ext hx))
  have HV := fun w' (hx : Ext w w') => Lib.hid (isValidMatrix_any r c hn w' (h.ext hx))
  have HO : Hid (cpOk r c n xs = (mGood r c n xs && decide (0 ≤ fz xs n))) := rfl
  have HSC := fun hg k hk w' (hx : Ext w w') => Lib.hid (scaleMatrix_phase r c hn hg k hk w' (h.ext hx))
  obtain ⟨hl, a1, cap1, rfl, c1, c2, H⟩ := h
  have HX := Lib.hid H
  have HLX := Lib.hid hl
  clear H hl c1 c2
  have hfz := fz_bd xs n
  cases g1 : mGood r c n xs
  · rw [g1] at HV HO
    have HF : Hid (cpOk r c n xs = false) := HO.out.trans (by simp)
    generalize fz xs n = f at *
    clear hfz HSC
    go_enter Tryd.func12, Tryd.ntmps12
    go_wp2_with fail
    refine (HI _ (by repeat (first | exact Ext.refl _ | assumption | refine Ext.alloc ?_ _ | refine Ext.drew ?_ | refine Ext.drewN ?_ _ | refine Ext.setCell ?_ (by first | omega | (dsimp only; omega) | (simp; done) | (simp; omega)) _ | refine Ext.trans ?_ (by assumption)))).out.mono ?_
    rintro e w1 ⟨rfl, hx1⟩
    obtain ⟨hc1, hf1⟩ := hx1.cells
    have hz1 := hx1.size
    try simp at hz1
    have hs1_0 := sz2 (a := w.heap.size) (b := w1.heap.size) (by omega)
    go_wp2_with fail
    refine (HV _ (by repeat (first | exact Ext.refl _ | assumption | refine Ext.alloc ?_ _ | refine Ext.drew ?_ | refine Ext.drewN ?_ _ | refine Ext.setCell ?_ (by first | omega | (dsimp only; omega) | (simp; done) | (simp; omega)) _ | refine Ext.trans ?_ (by assumption)))).out.mono ?_
    rintro e w2 ⟨rfl, hx2⟩
    obtain ⟨hc2, hf2⟩ := hx2.cells
    have hz2 := hx2.size
    try simp at hz2
    have hs2_0 := sz2 (a := w.heap.size) (b := w2.heap.size) (by omega)
    go_wp2
    refine bodyPost_ret (v := .tuple #[.agg #[.int .i64 0, .int .i64 0, .slice none 0 0], .int .i64 0, .bool false]) (by simp [results, Tryd.results12, go_sem, *]) rfl ?_
    rw [HF.out]
    exact ⟨_, rfl, own_nil _ _ _ _, (by repeat (first | (with_reducible refine Ext.setCell ?_ (by first | (simp; done) | (simp; omega)) _) | with_reducible refine Ext.alloc ?_ _ | with_reducible refine Ext.drew ?_ | with_reducible refine Ext.drewN ?_ _ | with_reducible assumption | with_reducible exact Ext.refl _ | with_reducible refine Ext.trans ?_ (by with_reducible assumption)))⟩
  by_cases g2 : 0 ≤ fz xs n
  case neg =>
    rw [g1] at HV HO
    have HF : Hid (cpOk r c n xs = false) := HO.out.trans (by simp [g2])
    have hf : fz xs n = -1 := by omega
    rw [hf] at HI
    clear hfz HSC g2 hf
    go_enter Tryd.func12, Tryd.ntmps12
    go_wp2_with fail
    refine (HI _ (by repeat (first | exact Ext.refl _ | assumption | refine Ext.alloc ?_ _ | refine Ext.drew ?_ | refine Ext.drewN ?_ _ | refine Ext.setCell ?_ (by first | omega | (dsimp only; omega) | (simp; done) | (simp; omega)) _ | refine Ext.trans ?_ (by assumption)))).out.mono ?_
    rintro e w1 ⟨rfl, hx1⟩
    obtain ⟨hc1, hf1⟩ := hx1.cells
    have hz1 := hx1.size
    try simp at hz1
    have hs1_0 := sz2 (a := w.heap.size) (b := w1.heap.size) (by omega)
    go_wp2_with fail
    refine (HV _ (by repeat (first | exact Ext.refl _ | assumption | refine Ext.alloc ?_ _ | refine Ext.drew ?_ | refine Ext.drewN ?_ _ | refine Ext.setCell ?_ (by first | omega | (dsimp only; omega) | (simp; done) | (simp; omega)) _ | refine Ext.trans ?_ (by assumption)))).out.mono ?_
    rintro e w2 ⟨rfl, hx2⟩
    obtain ⟨hc2, hf2⟩ := hx2.cells
    have hz2 := hx2.size
    try simp at hz2
    have hs2_0 := sz2 (a := w.heap.size) (b := w2.heap.size) (by omega)
    go_wp2
    refine bodyPost_ret (v := .tuple #[.agg #[.int .i64 0, .int .i64 0, .slice none 0 0], .int .i64 0, .bool false]) (by simp [results, Tryd.results12, go_sem, *]) rfl ?_
    rw [HF.out]
    exact ⟨_, rfl, own_nil _ _ _ _, (by repeat (first | (with_reducible refine Ext.setCell ?_ (by first | (simp; done) | (simp; omega)) _) | with_reducible refine Ext.alloc ?_ _ | with_reducible refine Ext.drew ?_ | with_reducible refine Ext.drewN ?_ _ | with_reducible assumption | with_reducible exact Ext.refl _ | with_reducible refine Ext.trans ?_ (by with_reducible assumption)))⟩
  obtain ⟨j, hj⟩ : ∃ j : Nat, fz xs n = j := ⟨(fz xs n).toNat, by omega⟩
  have hjn : j < n := by omega
  have hjn' : (j : Int) < n := by omega
  have hXr : (dyAt xs j).rg = true := (GD_rg (mOk_at (mGood_facts g1).2.2.2 hjn)).1
  have HKK : Hid (cpK n xs = cpB (dyAt xs j) 7) := by unfold Hid cpK; rw [hj]; rfl
  have HSC := HSC g1 (cpK n xs) (by rw [HKK.out]; exact cpB_le _ _)
  rw [g1] at HV HO
  rw [hj] at HI HO
  have HT : Hid (cpOk r c n xs = true) := HO.out.trans (by simp)
  have HPH := fun w' => Lib.hid (phase_any (cpK n xs) (by rw [HKK.out]; exact cpB_le _ _) w')
  have HMO := fun k hk w' => Lib.hid (mulOmega_any (dyAt xs j) hXr k hk w')
  have HCR := fun k w' => Lib.hid (compareRings_any (turns (k + 1) (dyAt xs j)) (turns (cpB (dyAt xs j) k) (dyAt xs j)) w')
  have HLT : Hid (∀ k, decide (0 < cmpTo [(turns (k + 1) (dyAt xs j)).a, (turns (k + 1) (dyAt xs j)).b, (turns (k + 1) (dyAt xs j)).c, (turns (k + 1) (dyAt xs j)).d] [(turns (cpB (dyAt xs j) k) (dyAt xs j)).a, (turns (cpB (dyAt xs j) k) (dyAt xs j)).b, (turns (cpB (dyAt xs j) k) (dyAt xs j)).c, (turns (cpB (dyAt xs j) k) (dyAt xs j)).d] 4) = rLt (turns (cpB (dyAt xs j) k) (dyAt xs j)) (turns (k + 1) (dyAt xs j))) := fun k => cmp_lt _ _
  have HBS : Hid (∀ k, cpB (dyAt xs j) (k + 1) = if rLt (turns (cpB (dyAt xs j) k) (dyAt xs j)) (turns (k + 1) (dyAt xs j)) then k + 1 else cpB (dyAt xs j) k) := fun _ => rfl
  clear hfz g1 g2 hj hXr HO
  have HDX : Hid (dyAt xs j = ⟨at3 xs (j * 5), at3 xs (j * 5 + 1), at3 xs (j * 5 + 2), at3 xs (j * 5 + 3)⟩) := rfl
  generalize cpK n xs = KK at *
  obtain ⟨X, hX⟩ : ∃ X, dyAt xs j = X := ⟨_, rfl⟩
  simp only [hX] at HKK HMO HCR HLT HBS HDX
  clear hX
  generalize turns KK R4.one = P at *
  go_enter Tryd.func12, Tryd.ntmps12
  go_wp2_with fail
  refine (HI _ (by repeat (first | exact Ext.refl _ | assumption | refine Ext.alloc ?_ _ | refine Ext.drew ?_ | refine Ext.drewN ?_ _ | refine Ext.setCell ?_ (by first | omega | (dsimp only; omega) | (simp; done) | (simp; omega)) _ | refine Ext.trans ?_ (by assumption)))).out.mono ?_
  rintro e w1 ⟨rfl, hx1⟩
  obtain ⟨hc1, hf1⟩ := hx1.cells
  have hz1 := hx1.size
  try simp at hz1
  have hs1_0 := sz2 (a := w.heap.size) (b := w1.heap.size) (by omega)
  go_wp2_with fail
  refine (HV _ (by repeat (first | exact Ext.refl _ | assumption | refine Ext.alloc ?_ _ | refine Ext.drew ?_ | refine Ext.drewN ?_ _ | refine Ext.setCell ?_ (by first | omega | (dsimp only; omega) | (simp; done) | (simp; omega)) _ | refine Ext.trans ?_ (by assumption)))).out.mono ?_
  rintro e w2 ⟨rfl, hx2⟩
  have hA2 : w2.heap[w.heap.size]? = some (.cells #[.int .i64 r, .int .i64 c, .slice a1 n cap1] 30 (0, 0)) := (hx2.heap (by omega)).trans ((hx1.heap (by simp <;> omega)).trans (heap_alloc_lt (heap_alloc_new _ _)))
  have hR2 : w2.heap[w.heap.size + 1]? = some (.cells #[.int .i64 0, .int .i64 0, .slice none 0 0] 30 (0, 0)) := (hx2.heap (by omega)).trans ((hx1.heap (by simp <;> omega)).trans (heap_alloc_at _ _ _ (by simp)))
  have hE2 : Ext w w2 := (by repeat (first | (with_reducible refine Ext.setCell ?_ (by first | (simp; done) | (simp; omega)) _) | with_reducible refine Ext.alloc ?_ _ | with_reducible refine Ext.drew ?_ | with_reducible refine Ext.drewN ?_ _ | with_reducible assumption | with_reducible exact Ext.refl _ | with_reducible refine Ext.trans ?_ (by with_reducible assumption)))
  have HA2 := Lib.hid hA2
  have HR2 := Lib.hid hR2
  have lA2 := (Array.getElem?_eq_some_iff.1 hA2).1
  have lR2 := (Array.getElem?_eq_some_iff.1 hR2).1
  have zA2 : ∀ q, w2.cell? ⟨w.heap.size, q, none⟩ = (#[.int .i64 r, .int .i64 c, .slice a1 n cap1] : Array Value)[q]? := fun q => cell_of_row _ _ _ _ _ _ hA2
  clear hA2 hR2 HI HV hc1 hf1 hx1 hx2
  obtain ⟨bx, offx, rfl, hbx, hcx⟩ := HX.out (by omega)
  have HCX : Hid (∀ W, Ext w W → W.cell? ⟨bx, offx + j * 5, none⟩ = some (.int .i64 X.a) ∧ W.cell? ⟨bx, offx + j * 5 + 1, none⟩ = some (.int .i64 X.b) ∧ W.cell? ⟨bx, offx + j * 5 + 2, none⟩ = some (.int .i64 X.c) ∧ W.cell? ⟨bx, offx + j * 5 + 3, none⟩ = some (.int .i64 X.d)) := by
    intro W hW
    have e := HDX.out
    have l0 := HLX.out
    refine ⟨?_, ?_, ?_, ?_⟩
    · rw [hW.cells.1 _ _ hbx, hcx _ _ (at3_get (by omega)), e]
    · rw [Nat.add_assoc, hW.cells.1 _ _ hbx, hcx _ _ (at3_get (by omega)), e]
    · rw [Nat.add_assoc, hW.cells.1 _ _ hbx, hcx _ _ (at3_get (by omega)), e]
    · rw [Nat.add_assoc, hW.cells.1 _ _ hbx, hcx _ _ (at3_get (by omega)), e]
  clear hcx HDX
  obtain ⟨zx0, zx1, zx2, zx3⟩ := HCX.out w2 hE2
  have hbx2 : bx < w2.heap.size := by have := hE2.size; omega
  go_wp2
  refine wp_region_madeC (m := 61) (by kernel_rfl) (by kernel_rfl) rfl (fun hxc => ?_)
  repeat (refine mw_quiet ?_; apply Exists.intro; refine ⟨fun σ => ?_, ?_⟩; (first | (go_simp; rfl) | fail); simp only [Act.put, List.setIfInBounds_toArray, List.set_cons_succ, List.set_cons_zero, List.nil_append, List.cons_append])
  refine mw_maker (fun n => .pointer (some ⟨n, 0, none⟩)) 40 #[.int .i64 0, .int .i64 0, .int .i64 0, .int .i64 0] 8 #[.int .i64 X.a, .int .i64 X.b, .int .i64 X.c, .int .i64 X.d] rfl (fun σ x => ?_) ?_
  · go_simp
  simp only [Act.put, List.setIfInBounds_toArray, List.set_cons_succ, List.set_cons_zero, List.nil_append, List.cons_append, List.length_cons, List.length_nil, Nat.reduceAdd]
  repeat (refine mw_quiet ?_; apply Exists.intro; refine ⟨fun σ => ?_, ?_⟩; (first | (go_simp; rfl) | fail); simp only [Act.put, List.setIfInBounds_toArray, List.set_cons_succ, List.set_cons_zero, List.nil_append, List.cons_append])
  refine mw_store 6 rfl rfl (fun σ x hb hc => ?_) ?_
  · have hcell : ∀ k, x.w.cell? ⟨σ 6, k, none⟩ = (#[.int .i64 0, .int .i64 0, .int .i64 0, .int .i64 0] : Array Value)[k]? := fun k => cell_of_row _ _ _ _ _ _ hc
    have hfr : ∀ k, x.w.frozen? ⟨σ 6, k, none⟩ = false := fun k => frozen_of_row _ _ _ _ _ hc
    apply Exists.intro
    refine ⟨?_, ?_⟩
    · go_simp
      rfl
    · exact ((((Fill.start hc).set 0 _).set 1 _).set 2 _).set 3 _
  simp only [Act.put, List.nil_append, List.cons_append]
  repeat (refine mw_quiet ?_; apply Exists.intro; refine ⟨fun σ => ?_, ?_⟩; (first | (go_simp; rfl) | fail); simp only [Act.put, List.setIfInBounds_toArray, List.set_cons_succ, List.set_cons_zero, List.nil_append, List.cons_append])
  refine ⟨by kernel_rfl, fun σ w3 hF3 => ?_⟩
  have hx3 := hF3.ext
  obtain ⟨hm3_6, hl3_6, hq3_6, hr3_6⟩ := mfin_blk hF3 6 8 rfl (by decide) #[.int .i64 X.a, .int .i64 X.b, .int .i64 X.c, .int .i64 X.d] rfl
  have hh3_6 := Lib.hid (mfin_heap hF3 6 8 rfl (by decide) #[.int .i64 X.a, .int .i64 X.b, .int .i64 X.c, .int .i64 X.d] rfl)
  dsimp only
  generalize σ 6 = B3_6 at *
  clear hF3 hxc
  obtain ⟨hc3, hf3⟩ := hx3.cells
  have hz3 := hx3.size
  try simp at hz3
  clear hc3 hf3 hq3_6 hr3_6
  have HA3 : Hid (w3.heap[w.heap.size]? = _) := (hx3.heap lA2).trans HA2.out
  have HR3 : Hid (w3.heap[w.heap.size + 1]? = _) := (hx3.heap lR2).trans HR2.out
  have HE3 := Lib.hid (hE2.trans hx3)
  have gB : w.heap.size + 1 < B3_6 := by omega
  clear hx3 zx0 zx1 zx2 zx3 zA2 hbx2 HA2 HR2 hE2 hz3 lA2 lR2 hm3_6 hl3_6
  go_wp2
  go_loopw [6, 8, 9, 10] (fun s6 s8 _ _ wr => ∃ k : Nat, k ≤ 7 ∧ s8 = .int .i64 ((k : Int) + 1) ∧ s6 = .int .i64 (cpB X k : Nat) ∧
    Hid (wr.heap[B3_6]? = some (.cells #[.int .i64 (turns (cpB X k) X).a, .int .i64 (turns (cpB X k) X).b, .int .i64 (turns (cpB X k) X).c, .int .i64 (turns (cpB X k) X).d] 40 (0, 0))) ∧
    Hid (wr.heap[w.heap.size]? = some (.cells #[.int .i64 r, .int .i64 c, .slice (some ⟨bx, offx, none⟩) n cap1] 30 (0, 0))) ∧
    Hid (wr.heap[w.heap.size + 1]? = some (.cells #[.int .i64 0, .int .i64 0, .slice none 0 0] 30 (0, 0))) ∧ Ext w wr) (fun _ s8 _ _ _ => 8 - (intOf s8).toNat)
  case atStart => exact ⟨0, by omega, rfl, rfl, hh3_6, HA3, HR3, HE3.out⟩
  case round =>
    clear hh3_6 HA3 HR3 HE3
    obtain ⟨k, hk, rfl, rfl, HB, HA, HR, hE⟩ := hrel
    obtain ⟨zx0, zx1, zx2, zx3⟩ := HCX.out wr hE
    have lA := (Array.getElem?_eq_some_iff.1 HA.out).1
    have lR := (Array.getElem?_eq_some_iff.1 HR.out).1
    have lB := (Array.getElem?_eq_some_iff.1 HB.out).1
    have lx : bx < wr.heap.size := by have := hE.size; omega
    have zA : ∀ q, wr.cell? ⟨w.heap.size, q, none⟩ = (#[.int .i64 r, .int .i64 c, .slice (some ⟨bx, offx, none⟩) n cap1] : Array Value)[q]? := fun q => cell_of_row _ _ _ _ _ _ HA.out
    by_cases hlt : k < 7
    · have hlt' : (k : Int) + 1 < 8 := by omega
      have HM := fun w' => HMO (k + 1) (by omega) w'
      rw [show ((k + 1 : Nat) : Int) = (k : Int) + 1 by push_cast; rfl] at HM
      have HC := fun w' => HCR k w'
      have HL := Lib.hid (HLT.out k)
      have HS := Lib.hid (HBS.out k)
      clear HMO HCR HLT HBS HPH HSC
      generalize cmpTo [(turns (k + 1) X).a, (turns (k + 1) X).b, (turns (k + 1) X).c, (turns (k + 1) X).d] [(turns (cpB X k) X).a, (turns (cpB X k) X).b, (turns (cpB X k) X).c, (turns (cpB X k) X).d] 4 = v at *
      generalize rLt (turns (cpB X k) X) (turns (k + 1) X) = o at *
      generalize hY : turns (cpB X k) X = Y at *
      have HY := Lib.hid hY
      clear hY
      obtain ⟨Z, hZ⟩ : ∃ Z, turns (k + 1) X = Z := ⟨_, rfl⟩
      simp only [hZ] at HM HC
      have HZ := Lib.hid hZ
      clear hZ
      generalize hb : cpB X k = b at *
      have HBK := Lib.hid hb
      clear hb
      have zB : ∀ q, wr.cell? ⟨B3_6, q, none⟩ = (#[.int .i64 Y.a, .int .i64 Y.b, .int .i64 Y.c, .int .i64 Y.d] : Array Value)[q]? := fun q => cell_of_row _ _ _ _ _ _ HB.out
      have fB : ∀ q, wr.frozen? ⟨B3_6, q, none⟩ = false := fun q => frozen_of_row _ _ _ _ _ HB.out
      go_wp2_with fail
      refine ((HM _).out).mono ?_
      rintro e w4 ⟨rfl, hx4⟩
      obtain ⟨hc4, hf4⟩ := hx4.cells
      have hz4 := hx4.size
      try simp at hz4
      have lB4 : B3_6 < w4.heap.size := by have := hx4.size; omega
      have lA4 : w.heap.size < w4.heap.size := by omega
      go_wp2_with fail
      refine ((HC _).out).mono ?_
      rintro e w5 ⟨rfl, hx5⟩
      obtain ⟨hc5, hf5⟩ := hx5.cells
      have hz5 := hx5.size
      try simp at hz5
      have hs5_0 := sz1 (a := w4.heap.size) (b := w5.heap.size) (by omega)
      have hE5 : Ext w w5 := (by repeat (first | (with_reducible refine Ext.setCell ?_ (by first | (simp; done) | (simp; omega)) _) | with_reducible refine Ext.alloc ?_ _ | with_reducible refine Ext.drew ?_ | with_reducible refine Ext.drewN ?_ _ | with_reducible assumption | with_reducible exact Ext.refl _ | with_reducible refine Ext.trans ?_ (by with_reducible assumption)))
      have hB5 := Lib.hid ((hx5.heap (by simp; omega)).trans (heap_alloc_lt (o := .cells #[.int .i64 Z.a, .int .i64 Z.b, .int .i64 Z.c, .int .i64 Z.d] 40 (0, 0)) ((hx4.heap lB).trans HB.out)))
      have hA5 := Lib.hid ((hx5.heap (by simp; omega)).trans (heap_alloc_lt (o := .cells #[.int .i64 Z.a, .int .i64 Z.b, .int .i64 Z.c, .int .i64 Z.d] 40 (0, 0)) ((hx4.heap lA).trans HA.out)))
      have hR5 := Lib.hid ((hx5.heap (by simp; omega)).trans (heap_alloc_lt (o := .cells #[.int .i64 Z.a, .int .i64 Z.b, .int .i64 Z.c, .int .i64 Z.d] 40 (0, 0)) ((hx4.heap lR).trans HR.out)))
      cases o
      · have hv : ¬ 0 < v := by simpa using HL.out
        go_wp2
        go_roundw
        case rel => 
          have e : cpB X (k + 1) = b := HS.out.trans (if_neg (by simp))
          refine ⟨k + 1, by omega, by go_num, by rw [e], ?_, hA5, hR5, hE5⟩
          rw [e, HY.out]
          exact hB5
        case measure => simp [intOf]; omega
      · have hv : 0 < v := by simpa using HL.out
        go_wp2
        go_region
        all_goals
          go_wp2
          go_roundw
          case rel =>
            have e : cpB X (k + 1) = k + 1 := HS.out.trans (by simp)
            refine ⟨k + 1, by omega, by go_num, by rw [e]; go_num, ?_, heap_sets4 (by omega) hA5.out, heap_sets4 (by omega) hR5.out, (by repeat (first | (with_reducible refine Ext.setCell ?_ (by first | (simp; done) | (simp; omega)) _) | with_reducible refine Ext.alloc ?_ _ | with_reducible refine Ext.drew ?_ | with_reducible refine Ext.drewN ?_ _ | with_reducible assumption | with_reducible exact Ext.refl _ | with_reducible refine Ext.trans ?_ (by with_reducible assumption)))⟩
            rw [e, HZ.out]
            exact heap_set4 hB5.out
          case measure => simp [intOf]; omega
    · obtain rfl : k = 7 := by omega
      clear HMO HCR HLT HBS
      unfold Hid at HKK
      rw [← HKK]
      clear HKK
      clear zx0 zx1 zx2 zx3 HCX
      have HSC2 : Hid (∀ W, Ext w W → Calls Tryd.prog 31 #[.agg #[.int .i64 r, .int .i64 c, .slice (some ⟨bx, offx, none⟩) n cap1], .agg #[.int .i64 P.a, .int .i64 P.b, .int .i64 P.c, .int .i64 P.d, .int .i64 0]] W fun en w' => ∃ v bs, en = .returned (.tuple #[.agg #[.int .i64 r, .int .i64 c, v], .bool true]) ∧ bs = W.heap.size ∧
          w'.ownsRow bs 46 5 v n (IL (cpM xs KK n)) ∧ Ext W w') := fun W hW => (HSC W hW).out.mono fun e w' ⟨v, h1, h2, h3⟩ => ⟨v, _, h1, rfl, h2, h3⟩
      clear HSC
      have zR : ∀ q, wr.cell? ⟨w.heap.size + 1, q, none⟩ = (#[.int .i64 0, .int .i64 0, .slice none 0 0] : Array Value)[q]? := fun q => cell_of_row _ _ _ _ _ _ HR.out
      have fR : ∀ q, wr.frozen? ⟨w.heap.size + 1, q, none⟩ = false := fun q => frozen_of_row _ _ _ _ _ HR.out
      have HK : Hid (∀ W, Ext wr W → W.cell? ⟨w.heap.size, 0, none⟩ = some (.int .i64 r) ∧ W.cell? ⟨w.heap.size, 1, none⟩ = some (.int .i64 c) ∧ W.cell? ⟨w.heap.size, 2, none⟩ = some (.slice (some ⟨bx, offx, none⟩) n cap1) ∧ W.cell? ⟨w.heap.size + 1, 0, none⟩ = some (.int .i64 0) ∧ W.frozen? ⟨w.heap.size + 1, 0, none⟩ = false ∧ W.cell? ⟨w.heap.size + 1, 1, none⟩ = some (.int .i64 0) ∧ W.frozen? ⟨w.heap.size + 1, 1, none⟩ = false ∧ W.cell? ⟨w.heap.size + 1, 2, none⟩ = some (.slice none 0 0) ∧ W.frozen? ⟨w.heap.size + 1, 2, none⟩ = false) := fun W hW => by
        have z := fun q => cell_of_row W w.heap.size q _ _ _ ((hW.heap lA).trans HA.out)
        have y := fun q => cell_of_row W (w.heap.size + 1) q _ _ _ ((hW.heap lR).trans HR.out)
        have f := fun q => frozen_of_row W (w.heap.size + 1) q _ _ ((hW.heap lR).trans HR.out)
        exact ⟨z 0, z 1, z 2, y 0, f 0, y 1, f 1, y 2, f 2⟩
      clear HB
      go_wp2
      go_region_held3 (fun w' => w'.cell? ⟨w.heap.size, 0, none⟩ = some (.int .i64 r) ∧ w'.cell? ⟨w.heap.size, 1, none⟩ = some (.int .i64 c) ∧ w'.cell? ⟨w.heap.size, 2, none⟩ = some (.slice (some ⟨bx, offx, none⟩) n cap1) ∧ w'.cell? ⟨w.heap.size + 1, 0, none⟩ = some (.int .i64 0) ∧ w'.frozen? ⟨w.heap.size + 1, 0, none⟩ = false ∧ w'.cell? ⟨w.heap.size + 1, 1, none⟩ = some (.int .i64 0) ∧ w'.frozen? ⟨w.heap.size + 1, 1, none⟩ = false ∧ w'.cell? ⟨w.heap.size + 1, 2, none⟩ = some (.slice none 0 0) ∧ w'.frozen? ⟨w.heap.size + 1, 2, none⟩ = false) (exact HK.out _ (by repeat (first | (with_reducible refine Ext.setCell ?_ (by first | (simp; done) | (simp; omega)) _) | with_reducible refine Ext.alloc ?_ _ | with_reducible refine Ext.drew ?_ | with_reducible refine Ext.drewN ?_ _ | with_reducible assumption | with_reducible exact Ext.refl _ | with_reducible refine Ext.trans ?_ (by with_reducible assumption)))) (first
        | (go_at_call 32; refine (HPH _).out.mono ?_; rintro e w4 ⟨rfl, hx4⟩; obtain ⟨hc4, hf4⟩ := hx4.cells; have hz4 := hx4.size; try simp at hz4)
        | (go_at_call 31; refine (HSC2.out _ (by repeat (first | (with_reducible refine Ext.setCell ?_ (by first | (simp; done) | (simp; omega)) _) | with_reducible refine Ext.alloc ?_ _ | with_reducible refine Ext.drew ?_ | with_reducible refine Ext.drewN ?_ _ | with_reducible assumption | with_reducible exact Ext.refl _ | with_reducible refine Ext.trans ?_ (by with_reducible assumption)))).mono ?_; rintro e w5 ⟨v5, bs, rfl, hbs, o5, hx5⟩; (try simp at hbs); obtain ⟨a5, cap5, rfl, q5, q6, q7⟩ := own_shape o5; have O5 := Lib.hid o5; obtain ⟨hc5, hf5⟩ := hx5.cells; have hz5 := hx5.size; (try simp at hz5); (try have hs4 : wr.heap.size < w4.heap.size := by omega); (try have hs5 : wr.heap.size < w5.heap.size := by omega); (try have hs6 : w4.heap.size < w5.heap.size := by omega); clear o5 q7))
      all_goals
        go_wp2
        refine bodyPost_ret (v := .tuple #[.agg #[.int .i64 r, .int .i64 c, .slice a5 n cap5], .int .i64 KK, .bool true]) (by simp [results, Tryd.results12, go_sem, *]) rfl ?_
        rw [HT.out]
        refine ⟨_, rfl, (by refine own_base (base := bs) ?_ (by first | omega | (simp; omega)); repeat (first | (with_reducible exact O5.out) | (with_reducible refine own_set ?_ (by first | omega | (simp; done) | (simp; omega)) _) | (with_reducible refine own_ext ?_ ((Ext.refl _).alloc _)) | (with_reducible refine own_ext ?_ (Ext.refl _).drew) | (with_reducible refine own_ext ?_ ((Ext.refl _).drewN _)) | (exact O5.out))), (by repeat (first | (with_reducible refine Ext.setCell ?_ (by first | (simp; done) | (simp; omega)) _) | with_reducible refine Ext.alloc ?_ _ | with_reducible refine Ext.drew ?_ | with_reducible refine Ext.drewN ?_ _ | with_reducible assumption | with_reducible exact Ext.refl _ | with_reducible refine Ext.trans ?_ (by with_reducible assumption)))⟩

end Go.Proofs.YtamiploliebplaaDoor
