/- TraceOf: the reference's side. -/
import Derived.Test.YtolpmoicinijdaaTrI
namespace Go.Proofs.Ytolpmoicinijdaa
open Go.RowKit Go.Lib
set_option linter.unusedVariables false
set_option linter.unusedSimpArgs false

theorem tr_step {xs : List Int} {R k : Nat} {Z : R4} {l : Nat} (hO : trO xs R k = true) (hA : trA xs R k = (Z, (l : Int))) (hG : GD (dyAt xs (k * R + k)) (exAt xs (k * R + k)) = true) :
    adOk (trA xs R k).1 (trA xs R k).2 (dyAt xs (k * R + k)) (exAt xs (k * R + k)) = !(dyBad Z l (dyAt xs (k * R + k)) (exAt xs (k * R + k)).toNat) ∧
    (dyBad Z l (dyAt xs (k * R + k)) (exAt xs (k * R + k)).toNat = false → trA xs R (k + 1) = (dyX Z l (dyAt xs (k * R + k)) (exAt xs (k * R + k)).toNat, (dyE Z l (dyAt xs (k * R + k)) (exAt xs (k * R + k)).toNat : Int))) := by
  have hg := trA_good xs R k hO
  rw [hA] at hg ⊢
  have e : adOk Z (l : Int) (dyAt xs (k * R + k)) (exAt xs (k * R + k)) = !(dyBad Z l (dyAt xs (k * R + k)) (exAt xs (k * R + k)).toNat) := by
    unfold adOk
    simp only at hg
    rw [hg, hG]
    simp
  refine ⟨e, fun h => ?_⟩
  have e2 : adOk Z (l : Int) (dyAt xs (k * R + k)) (exAt xs (k * R + k)) = true := by rw [e, h]; rfl
  show (adX (trA xs R k).1 (trA xs R k).2 (dyAt xs (k * R + k)) (exAt xs (k * R + k)), adE (trA xs R k).1 (trA xs R k).2 (dyAt xs (k * R + k)) (exAt xs (k * R + k))) = _
  rw [hA]
  unfold adX adE
  simp only
  rw [if_pos e2, if_pos e2]
  simp

set_option maxRecDepth 20000 in
set_option maxHeartbeats 4000000 in
theorem s_traceOf_any (r c : Int) {v : Value} {n : Nat} {xs : List Int} (hn : n ≤ 2000000) (w : World) (h : RV w 5 v n xs) :
    Calls Try.prog 11 #[.agg #[.int .i64 r, .int .i64 c, v]] w fun en w' =>
      en = .returned (.tuple #[.agg #[.int .i64 (trV r c n xs).1.a, .int .i64 (trV r c n xs).1.b, .int .i64 (trV r c n xs).1.c, .int .i64 (trV r c n xs).1.d, .int .i64 (trV r c n xs).2], .bool (trG r c n xs)]) ∧ Ext w w' := by
  have HV := fun w' (hx : Ext w w') => Lib.hid (l3Good_any r c w' (h.ext hx))
  have HO : Hid (trG r c n xs = (mGood r c n xs && ((r == c) && trO xs r.toNat r.toNat))) := rfl
  have HNo : Hid (trG r c n xs = false → trV r c n xs = (R4.zero, 0)) := trV_no
  have HYes : Hid (trG r c n xs = true → trV r c n xs = trA xs r.toNat r.toNat) := trV_yes
  obtain ⟨hlx, a1, cap1, rfl, -, -, hhx⟩ := h
  have HX := Lib.hid hhx
  have HLX := Lib.hid hlx
  clear hhx hlx
  cases g1 : mGood r c n xs
  · rw [g1] at HV HO
    have HF : Hid (trG r c n xs = false) := HO.out.trans (by simp)
    have HZ := Lib.hid (HNo.out HF.out)
    go_enter Try.func11, Try.ntmps11
    go_wp2_with fail
    refine ((HV _ (by repeat (first | exact Ext.refl _ | assumption | refine Ext.alloc ?_ _ | refine Ext.drew ?_ | refine Ext.drewN ?_ _ | refine Ext.setCell ?_ (by first | omega | (dsimp only; omega) | (simp; done) | (simp; omega)) _ | refine Ext.trans ?_ (by assumption)))).out).mono ?_
    rintro e w1 ⟨rfl, hx1⟩
    obtain ⟨hc1, hf1⟩ := hx1.cells
    have hz1 := hx1.size
    try simp at hz1
    have hs1_0 := sz2 (a := w.heap.size) (b := w1.heap.size) (by omega)
    go_wp2
    refine bodyPost_ret (v := .tuple #[.agg #[.int .i64 0, .int .i64 0, .int .i64 0, .int .i64 0, .int .i64 0], .bool false]) (by simp [results, Try.results11, go_sem, *]) rfl ?_
    rw [HF.out, HZ.out]
    exact ⟨rfl, (by repeat (first | (with_reducible refine Ext.setCell ?_ (by first | (simp; done) | (simp; omega)) _) | with_reducible refine Ext.alloc ?_ _ | with_reducible refine Ext.drew ?_ | with_reducible refine Ext.drewN ?_ _ | with_reducible assumption | with_reducible exact Ext.refl _ | with_reducible refine Ext.trans ?_ (by with_reducible assumption)))⟩
  by_cases g2 : r = c
  case neg =>
    rw [g1] at HV HO
    have HF : Hid (trG r c n xs = false) := HO.out.trans (by simp [g2])
    have HZ := Lib.hid (HNo.out HF.out)
    go_enter Try.func11, Try.ntmps11
    go_wp2_with fail
    refine ((HV _ (by repeat (first | exact Ext.refl _ | assumption | refine Ext.alloc ?_ _ | refine Ext.drew ?_ | refine Ext.drewN ?_ _ | refine Ext.setCell ?_ (by first | omega | (dsimp only; omega) | (simp; done) | (simp; omega)) _ | refine Ext.trans ?_ (by assumption)))).out).mono ?_
    rintro e w1 ⟨rfl, hx1⟩
    obtain ⟨hc1, hf1⟩ := hx1.cells
    have hz1 := hx1.size
    try simp at hz1
    have hs1_0 := sz2 (a := w.heap.size) (b := w1.heap.size) (by omega)
    go_wp2
    refine bodyPost_ret (v := .tuple #[.agg #[.int .i64 0, .int .i64 0, .int .i64 0, .int .i64 0, .int .i64 0], .bool false]) (by simp [results, Try.results11, go_sem, *]) rfl ?_
    rw [HF.out, HZ.out]
    exact ⟨rfl, (by repeat (first | (with_reducible refine Ext.setCell ?_ (by first | (simp; done) | (simp; omega)) _) | with_reducible refine Ext.alloc ?_ _ | with_reducible refine Ext.drew ?_ | with_reducible refine Ext.drewN ?_ _ | with_reducible assumption | with_reducible exact Ext.refl _ | with_reducible refine Ext.trans ?_ (by with_reducible assumption)))⟩
  subst g2
  rw [g1] at HV HO
  simp only [beq_self_eq_true, Bool.true_and] at HO
  obtain ⟨d1, _, e1, mx⟩ := mGood_facts g1
  obtain ⟨R, rfl, bR1, bR2⟩ := nat_dim d1
  obtain rfl : n = R * R := by exact_mod_cast e1
  simp only [Int.toNat_natCast] at HO HYes
  have MX := Lib.hid mx
  have hR : (1 : Int) ≤ R ∧ (R : Int) ≤ 32 := by omega
  have hnn : R * R ≤ 1024 := Nat.mul_le_mul bR2 bR2
  clear g1 d1 e1 mx
  go_enter Try.func11, Try.ntmps11
  go_wp2_with fail
  refine ((HV _ (by repeat (first | exact Ext.refl _ | assumption | refine Ext.alloc ?_ _ | refine Ext.drew ?_ | refine Ext.drewN ?_ _ | refine Ext.setCell ?_ (by first | omega | (dsimp only; omega) | (simp; done) | (simp; omega)) _ | refine Ext.trans ?_ (by assumption)))).out).mono ?_
  rintro e w1 ⟨rfl, hx1⟩
  obtain ⟨hc1, hf1⟩ := hx1.cells
  have hz1 := hx1.size
  try simp at hz1
  have hs1_0 := sz2 (a := w.heap.size) (b := w1.heap.size) (by omega)
  have hA1 : w1.heap[w.heap.size]? = some (.cells #[.int .i64 R, .int .i64 R, .slice a1 (R * R) cap1] 39 (0, 0)) := (hx1.heap (by simp <;> omega)).trans (heap_alloc_lt (heap_alloc_new _ _))
  have hR1 : w1.heap[w.heap.size + 1]? = some (.cells #[.int .i64 0, .int .i64 0, .int .i64 0, .int .i64 0, .int .i64 0] 34 (0, 0)) := (hx1.heap (by simp <;> omega)).trans (heap_alloc_at _ _ _ (by simp))
  have hE1 : Ext w w1 := (by repeat (first | exact Ext.refl _ | assumption | refine Ext.alloc ?_ _ | refine Ext.drew ?_ | refine Ext.drewN ?_ _ | refine Ext.setCell ?_ (by first | omega | (dsimp only; omega) | (simp; done) | (simp; omega)) _ | refine Ext.trans ?_ (by assumption)))
  have lA1 := (Array.getElem?_eq_some_iff.1 hA1).1
  have lR1 := (Array.getElem?_eq_some_iff.1 hR1).1
  clear hc1 hf1 HV
  have zA1 : ∀ k, w1.cell? ⟨w.heap.size, k, none⟩ = (#[.int .i64 R, .int .i64 R, .slice a1 (R * R) cap1] : Array Value)[k]? := fun k => cell_of_row _ _ _ _ _ _ hA1
  go_wp2
  go_loopw [6] (fun i wr => ∃ (k : Nat) (Z : R4) (l : Nat) (β : Bool), k ≤ R ∧ i = .int .i64 k ∧ Z.rg = true ∧ l ≤ 60 ∧ Hid (β = false → trO xs R k = true ∧ trA xs R k = (Z, (l : Int))) ∧ Hid (β = true → trO xs R R = false) ∧
    Hid (wr.heap[w1.heap.size]? = some (.cells #[.bool β] 49 (0, 0))) ∧ Hid (wr.heap[w1.heap.size + 1]? = some (.cells #[.int .i64 Z.a, .int .i64 Z.b, .int .i64 Z.c, .int .i64 Z.d, .int .i64 l] 34 (0, 0))) ∧ Ext w1 wr) (fun i _ => R - (intOf i).toNat)
  case atStart => exact ⟨0, R4.zero, 0, false, by omega, rfl, rg_zero, by omega, fun _ => ⟨rfl, rfl⟩, (fun h => by cases h), heap_alloc_lt (heap_alloc_new _ _), heap_alloc_at _ _ _ (by simp), (by repeat (first | exact Ext.refl _ | assumption | refine Ext.alloc ?_ _ | refine Ext.drew ?_ | refine Ext.drewN ?_ _ | refine Ext.setCell ?_ (by first | omega | (dsimp only; omega) | (simp; done) | (simp; omega)) _ | refine Ext.trans ?_ (by assumption)))⟩
  case round =>
    clear zA1
    obtain ⟨k, Z, l, β, hk, rfl, hZr, hl, HT, HF, HC, HS, hE⟩ := hrel
    have hA : wr.heap[w.heap.size]? = some (.cells #[.int .i64 R, .int .i64 R, .slice a1 (R * R) cap1] 39 (0, 0)) := (hE.heap lA1).trans hA1
    have hRR : wr.heap[w.heap.size + 1]? = some (.cells #[.int .i64 0, .int .i64 0, .int .i64 0, .int .i64 0, .int .i64 0] 34 (0, 0)) := (hE.heap lR1).trans hR1
    have lA := (Array.getElem?_eq_some_iff.1 hA).1
    have lR := (Array.getElem?_eq_some_iff.1 hRR).1
    have hEw : Ext w wr := hE1.trans hE
    by_cases hlt : k < R
    · have hlt' : (k : Int) < R := by omega
      obtain ⟨j, hj⟩ : ∃ j, k * R + k = j := ⟨_, rfl⟩
      have hjn : j < R * R := by
        have : (k + 1) * R ≤ R * R := Nat.mul_le_mul_right R hlt
        rw [Nat.succ_mul] at this
        omega
      have hji : (k : Int) * R + k = (j : Int) := by rw [← hj]; push_cast; rfl
      have hkR := mul_bd (a := (k : Int)) (b := (R : Int)) (A := 32) (B := 32) (by omega) (by omega) (by omega) (by omega)
      have hG := mOk_at MX.out hjn
      obtain ⟨r1, u1, u2, _⟩ := GD_rg hG
      have HST : Hid (β = false → adOk (trA xs R k).1 (trA xs R k).2 (dyAt xs j) (exAt xs j) = !(dyBad Z l (dyAt xs j) (exAt xs j).toNat) ∧ (dyBad Z l (dyAt xs j) (exAt xs j).toNat = false → trA xs R (k + 1) = (dyX Z l (dyAt xs j) (exAt xs j).toNat, (dyE Z l (dyAt xs j) (exAt xs j).toNat : Int)))) := fun h => by
        have := tr_step (k := k) (HT.out h).1 (HT.out h).2 (by rw [hj]; exact hG)
        rw [hj] at this
        exact this
      have HSU : Hid (trO xs R (k + 1) = (trO xs R k && adOk (trA xs R k).1 (trA xs R k).2 (dyAt xs j) (exAt xs j))) := by
        have := trO_succ xs R k
        rw [hj] at this
        exact this
      have HBA : Hid (adOk (trA xs R k).1 (trA xs R k).2 (dyAt xs j) (exAt xs j) = false → trO xs R R = false) := fun h => trO_bad (k := k) (by rw [hj]; exact h) hlt
      have HRG : Hid ((dyX Z l (dyAt xs j) (exAt xs j).toNat).rg = true ∧ dyE Z l (dyAt xs j) (exAt xs j).toNat ≤ 60) := by
        refine ⟨rg_low _ _ (rg_clip _), ?_⟩
        have := lowE_le (max l (exAt xs j).toNat) (dyS Z l (dyAt xs j) (exAt xs j).toNat).clip
        unfold dyE
        omega
      have hADD := fun (w' : World) (h : w'.heap[w1.heap.size]? = some (.cells #[.bool β] 49 (0, 0))) => Lib.hid (add_any w1.heap.size β Z l (dyAt xs j) (exAt xs j).toNat hZr hl r1 (by omega) w' h)
      have t1 : ((exAt xs j).toNat : Int) = exAt xs j := Int.toNat_of_nonneg u1
      simp only [t1] at hADD
      clear t1 r1 u1 u2 hG hj
      generalize dyX Z l (dyAt xs j) (exAt xs j).toNat = Q at *
      generalize dyE Z l (dyAt xs j) (exAt xs j).toNat = q at *
      generalize dyBad Z l (dyAt xs j) (exAt xs j).toNat = bb at *
      have HADD := hADD
      unfold dyAt exAt at HADD
      simp only at HADD
      clear hADD
      obtain ⟨bx, offx, rfl, hbkx, hcellx⟩ := HX.out (by omega)
      have hbrx : bx < wr.heap.size := by have := hEw.size; omega
      have zx0 : wr.cell? ⟨bx, offx + j * 5, none⟩ = some (.int .i64 (at3 xs (j * 5))) := (hEw.cells.1 bx (offx + (j * 5)) hbkx).trans (hcellx _ _ (at3_get (by have := HLX.out; omega)))
      have zx1 : wr.cell? ⟨bx, offx + j * 5 + 1, none⟩ = some (.int .i64 (at3 xs (j * 5 + 1))) := (hEw.cells.1 bx (offx + (j * 5 + 1)) hbkx).trans (hcellx _ _ (at3_get (by have := HLX.out; omega)))
      have zx2 : wr.cell? ⟨bx, offx + j * 5 + 2, none⟩ = some (.int .i64 (at3 xs (j * 5 + 2))) := (hEw.cells.1 bx (offx + (j * 5 + 2)) hbkx).trans (hcellx _ _ (at3_get (by have := HLX.out; omega)))
      have zx3 : wr.cell? ⟨bx, offx + j * 5 + 3, none⟩ = some (.int .i64 (at3 xs (j * 5 + 3))) := (hEw.cells.1 bx (offx + (j * 5 + 3)) hbkx).trans (hcellx _ _ (at3_get (by have := HLX.out; omega)))
      have zx4 : wr.cell? ⟨bx, offx + j * 5 + 4, none⟩ = some (.int .i64 (at3 xs (j * 5 + 4))) := (hEw.cells.1 bx (offx + (j * 5 + 4)) hbkx).trans (hcellx _ _ (at3_get (by have := HLX.out; omega)))
      clear hcellx
      generalize at3 xs (j * 5) = x0 at *
      generalize at3 xs (j * 5 + 1) = x1 at *
      generalize at3 xs (j * 5 + 2) = x2 at *
      generalize at3 xs (j * 5 + 3) = x3 at *
      generalize at3 xs (j * 5 + 4) = x4 at *
      have zb1 : ∀ k, wr.cell? ⟨w.heap.size, k, none⟩ = (#[.int .i64 R, .int .i64 R, .slice (some ⟨bx, offx, none⟩) (R * R) cap1] : Array Value)[k]? := fun k => cell_of_row _ _ _ _ _ _ hA
      have hjj : (j : Int) < (R : Int) * R := by
        have : ((R * R : Nat) : Int) = (R : Int) * R := by push_cast; rfl
        omega
      go_wp2
      refine Wr.wp_region_wr (m := 45) [⟨w1.heap.size, 49, #[.bool β]⟩, ⟨w1.heap.size + 1, 34, #[.int .i64 Z.a, .int .i64 Z.b, .int .i64 Z.c, .int .i64 Z.d, .int .i64 l]⟩] (by kernel_rfl) (by kernel_rfl) rfl (by simp; try omega) ?_ ?_
      · intro s hs
        rcases s with _ | _ | s
        · exact (show (World.heap _)[w1.heap.size]? = some (Obj.cells #[.bool β] 49 (0, 0)) from HC.out)
        · exact (show (World.heap _)[w1.heap.size + 1]? = some (Obj.cells #[.int .i64 Z.a, .int .i64 Z.b, .int .i64 Z.c, .int .i64 Z.d, .int .i64 l] 34 (0, 0)) from HS.out)
        · simp at hs
          try omega
      refine Wr.ww_old (w.heap.size) (by first | omega | (simp; done) | (simp; omega)) (by first | (simp; done) | (simp; omega)) (fun hold0 => ?_)
      refine Wr.ww_old (bx) (by first | omega | (simp; done) | (simp; omega)) (by first | (simp; done) | (simp; omega)) (fun hold1 => ?_)
      (refine Wr.ww_plain ?_; apply Exists.intro; refine ⟨?_, ?_⟩; (first | (go_simp; (try intro x); (try go_bits); rfl)); simp only [Act.put, List.setIfInBounds_toArray, List.set_cons_succ, List.set_cons_zero, List.nil_append, List.cons_append])
      refine Wr.ww_read 1 (w1.heap.size + 1) 34 #[.int .i64 Z.a, .int .i64 Z.b, .int .i64 Z.c, .int .i64 Z.d, .int .i64 l] (by simp) rfl rfl rfl (fun hr => ?_)
      apply Exists.intro
      refine ⟨?_, ?_⟩
      · go_simp
        (try intro x)
        (try go_bits)
        rfl
      clear hr
      simp only [Act.put, List.setIfInBounds_toArray, List.set_cons_succ, List.set_cons_zero, List.nil_append, List.cons_append]
      (refine Wr.ww_plain ?_; apply Exists.intro; refine ⟨?_, ?_⟩; (first | (go_simp; (try intro x); (try go_bits); rfl)); simp only [Act.put, List.setIfInBounds_toArray, List.set_cons_succ, List.set_cons_zero, List.nil_append, List.cons_append])
      (refine Wr.ww_plain ?_; apply Exists.intro; refine ⟨?_, ?_⟩; (first | (go_simp; (try intro x); (try go_bits); rfl)); simp only [Act.put, List.setIfInBounds_toArray, List.set_cons_succ, List.set_cons_zero, List.nil_append, List.cons_append])
      (refine Wr.ww_plain ?_; apply Exists.intro; refine ⟨?_, ?_⟩; (first | (go_simp; (try intro x); (try go_bits); rfl)); simp only [Act.put, List.setIfInBounds_toArray, List.set_cons_succ, List.set_cons_zero, List.nil_append, List.cons_append])
      (refine Wr.ww_plain ?_; apply Exists.intro; refine ⟨?_, ?_⟩; (first | (go_simp; (try intro x); (try go_bits); rfl)); simp only [Act.put, List.setIfInBounds_toArray, List.set_cons_succ, List.set_cons_zero, List.nil_append, List.cons_append])
      (refine Wr.ww_plain ?_; apply Exists.intro; refine ⟨?_, ?_⟩; (first | (go_simp; (try intro x); (try go_bits); rfl)); simp only [Act.put, List.setIfInBounds_toArray, List.set_cons_succ, List.set_cons_zero, List.nil_append, List.cons_append])
      (refine Wr.ww_plain ?_; apply Exists.intro; refine ⟨?_, ?_⟩; (first | (go_simp; (try intro x); (try go_bits); rfl)); simp only [Act.put, List.setIfInBounds_toArray, List.set_cons_succ, List.set_cons_zero, List.nil_append, List.cons_append])
      (refine Wr.ww_plain ?_; apply Exists.intro; refine ⟨?_, ?_⟩; (first | (go_simp; (try intro x); (try go_bits); rfl)); simp only [Act.put, List.setIfInBounds_toArray, List.set_cons_succ, List.set_cons_zero, List.nil_append, List.cons_append])
      (refine Wr.ww_plain ?_; apply Exists.intro; refine ⟨?_, ?_⟩; (first | (go_simp; (try intro x); (try go_bits); rfl)); simp only [Act.put, List.setIfInBounds_toArray, List.set_cons_succ, List.set_cons_zero, List.nil_append, List.cons_append])
      (refine Wr.ww_plain ?_; apply Exists.intro; refine ⟨?_, ?_⟩; (first | (go_simp; (try intro x); (try go_bits); rfl)); simp only [Act.put, List.setIfInBounds_toArray, List.set_cons_succ, List.set_cons_zero, List.nil_append, List.cons_append])
      (refine Wr.ww_plain ?_; apply Exists.intro; refine ⟨?_, ?_⟩; (first | (go_simp; (try intro x); (try go_bits); rfl)); simp only [Act.put, List.setIfInBounds_toArray, List.set_cons_succ, List.set_cons_zero, List.nil_append, List.cons_append])
      refine Wr.ww_call (.agg #[.int .i64 Q.a, .int .i64 Q.b, .int .i64 Q.c, .int .i64 Q.d, .int .i64 q]) 0 (w1.heap.size) 49 #[.bool β] #[.bool (or β bb)] rfl (by simp) rfl rfl rfl (fun x => ?_) ?_
      · apply Exists.intro
        apply Exists.intro
        refine ⟨?_, ?_⟩
        · go_simp
          (try go_bits)
          first | rfl | exact ⟨rfl, rfl⟩
        · exact (HADD _ x.2.2).out
      simp only [Act.put, List.setIfInBounds_toArray, List.set_cons_succ, List.set_cons_zero, List.nil_append, List.cons_append]
      refine Wr.ww_store 1 (w1.heap.size + 1) 34 #[.int .i64 Z.a, .int .i64 Z.b, .int .i64 Z.c, .int .i64 Z.d, .int .i64 l] #[.int .i64 Q.a, .int .i64 Q.b, .int .i64 Q.c, .int .i64 Q.d, .int .i64 q] rfl (by simp) rfl rfl rfl (fun x => ?_) ?_
      · have hcell : ∀ kk, x.w.cell? ⟨w1.heap.size + 1, kk, none⟩ = (#[.int .i64 Z.a, .int .i64 Z.b, .int .i64 Z.c, .int .i64 Z.d, .int .i64 l] : Array Value)[kk]? := fun kk => cell_of_row _ _ _ _ _ _ x.2.2
        have hfr : ∀ kk, x.w.frozen? ⟨w1.heap.size + 1, kk, none⟩ = false := fun kk => frozen_of_row _ _ _ _ _ x.2.2
        apply Exists.intro
        refine ⟨?_, ?_⟩
        · go_simp
          (try go_bits)
          rfl
        · exact (((((Fill.start x.2.2).set 0 _).set 1 _).set 2 _).set 3 _).set 4 _
      simp only [Act.put, List.setIfInBounds_toArray, List.set_cons_succ, List.set_cons_zero, List.nil_append, List.cons_append]
      refine Wr.ww_done (by kernel_rfl) (by kernel_rfl) (fun w2 hg2 hs2 => ?_)
      have hb2_0 : w2.heap[w1.heap.size]? = some (.cells #[.bool (or β bb)] 49 (0, 0)) := hs2 0 (by simp)
      have hb2_1 : w2.heap[w1.heap.size + 1]? = some (.cells #[.int .i64 Q.a, .int .i64 Q.b, .int .i64 Q.c, .int .i64 Q.d, .int .i64 q] 34 (0, 0)) := hs2 1 (by simp)
      clear hs2
      simp only [List.map_cons, List.map_nil] at hg2
      have hE2 : Ext w1 w2 := ((GX.ofExt (S := [w1.heap.size, w1.heap.size + 1]) hE).trans hg2).toExt (by simp)
      go_wp2
      go_roundw
      case rel =>
        refine ⟨k + 1, Q, q, (or β bb), by omega, by go_num, HRG.out.1, HRG.out.2, fun h => ?_, fun h => ?_, hb2_0, hb2_1, hE2⟩
        · have h1 : β = false := by cases β <;> simp_all
          have h2 : bb = false := by cases bb <;> simp_all
          obtain ⟨p1, p2⟩ := HST.out h1
          exact ⟨by rw [HSU.out, (HT.out h1).1, p1, h2]; rfl, p2 h2⟩
        · cases β
          · have h2 : bb = true := by cases bb <;> simp_all
            obtain ⟨p1, p2⟩ := HST.out rfl
            exact HBA.out (by rw [p1, h2]; rfl)
          · exact HF.out rfl
      case measure => simp [intOf]; omega
    · obtain rfl : k = R := by omega
      have zS : ∀ i, wr.cell? ⟨w1.heap.size + 1, i, none⟩ = (#[.int .i64 Z.a, .int .i64 Z.b, .int .i64 Z.c, .int .i64 Z.d, .int .i64 l] : Array Value)[i]? := fun i => cell_of_row _ _ _ _ _ _ HS.out
      have zA : ∀ i, wr.cell? ⟨w.heap.size, i, none⟩ = (#[.int .i64 k, .int .i64 k, .slice a1 (k * k) cap1] : Array Value)[i]? := fun i => cell_of_row _ _ _ _ _ _ hA
      have HEE := Lib.hid hEw
      clear hEw
      cases β
      · have HT2 := HT.out rfl
        have HTG : Hid (trG k k (k * k) xs = true) := HO.out.trans HT2.1
        have HY := Lib.hid ((HYes.out HTG.out).trans HT2.2)
        clear HT2
        have HOU := fun (W : World) (hb : W.heap[w1.heap.size]? = some (.cells #[.bool false] 49 (0, 0))) => Lib.hid (out_any w1.heap.size false Z.a Z.b Z.c Z.d l W hb)
        simp only [Bool.not_false, ifZ_true] at HOU
        go_wp2_with fail
        refine (HOU _ HC.out).out.mono ?_
        rintro e w3 ⟨rfl, hx3⟩
        have hE3 : Ext w w3 := HEE.out.trans hx3
        have hR3 := (hx3.heap lR).trans hRR
        have lR3 := (Array.getElem?_eq_some_iff.1 hR3).1
        have zR : ∀ i, w3.cell? ⟨w.heap.size + 1, i, none⟩ = (#[.int .i64 0, .int .i64 0, .int .i64 0, .int .i64 0, .int .i64 0] : Array Value)[i]? := fun i => cell_of_row _ _ _ _ _ _ hR3
        have fR : ∀ i, w3.frozen? ⟨w.heap.size + 1, i, none⟩ = false := fun i => frozen_of_row _ _ _ _ _ hR3
        clear hx3 hA hRR hR3 zS zA
        go_wp2
        refine bodyPost_ret (v := .tuple #[.agg #[.int .i64 Z.a, .int .i64 Z.b, .int .i64 Z.c, .int .i64 Z.d, .int .i64 l], .bool true]) (by simp [results, Try.results11, go_sem, *]) rfl ?_
        rw [HTG.out, HY.out]
        exact ⟨rfl, (by repeat (first | (with_reducible refine Ext.setCell ?_ (by first | (simp; done) | (simp; omega)) _) | with_reducible refine Ext.alloc ?_ _ | with_reducible refine Ext.drew ?_ | with_reducible refine Ext.drewN ?_ _ | with_reducible assumption | with_reducible exact Ext.refl _ | with_reducible refine Ext.trans ?_ (by with_reducible assumption)))⟩
      · have HTG : Hid (trG k k (k * k) xs = false) := HO.out.trans (HF.out rfl)
        have HY := Lib.hid (HNo.out HTG.out)
        have HOU := fun (W : World) (hb : W.heap[w1.heap.size]? = some (.cells #[.bool true] 49 (0, 0))) => Lib.hid (out_any w1.heap.size true Z.a Z.b Z.c Z.d l W hb)
        simp only [Bool.not_true, ifZ_false] at HOU
        go_wp2_with fail
        refine (HOU _ HC.out).out.mono ?_
        rintro e w3 ⟨rfl, hx3⟩
        have hE3 : Ext w w3 := HEE.out.trans hx3
        have hR3 := (hx3.heap lR).trans hRR
        have lR3 := (Array.getElem?_eq_some_iff.1 hR3).1
        have zR : ∀ i, w3.cell? ⟨w.heap.size + 1, i, none⟩ = (#[.int .i64 0, .int .i64 0, .int .i64 0, .int .i64 0, .int .i64 0] : Array Value)[i]? := fun i => cell_of_row _ _ _ _ _ _ hR3
        have fR : ∀ i, w3.frozen? ⟨w.heap.size + 1, i, none⟩ = false := fun i => frozen_of_row _ _ _ _ _ hR3
        clear hx3 hA hRR hR3 zS zA
        go_wp2
        refine bodyPost_ret (v := .tuple #[.agg #[.int .i64 0, .int .i64 0, .int .i64 0, .int .i64 0, .int .i64 0], .bool false]) (by simp [results, Try.results11, go_sem, *]) rfl ?_
        rw [HTG.out, HY.out]
        exact ⟨rfl, (by repeat (first | (with_reducible refine Ext.setCell ?_ (by first | (simp; done) | (simp; omega)) _) | with_reducible refine Ext.alloc ?_ _ | with_reducible refine Ext.drew ?_ | with_reducible refine Ext.drewN ?_ _ | with_reducible assumption | with_reducible exact Ext.refl _ | with_reducible refine Ext.trans ?_ (by with_reducible assumption)))⟩

end Go.Proofs.Ytolpmoicinijdaa
