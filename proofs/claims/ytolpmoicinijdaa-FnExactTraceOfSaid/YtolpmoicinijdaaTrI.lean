/- TraceOf: the program's side. -/
import Derived.Test.YtolpmoicinijdaaTr
namespace Go.Proofs.Ytolpmoicinijdaa
open Go.RowKit Go.Lib
set_option linter.unusedVariables false
set_option linter.unusedSimpArgs false

theorem nat_dim {r : Int} (h : dimB r = true) : ∃ R : Nat, r = R ∧ 1 ≤ R ∧ R ≤ 32 := ⟨r.toNat, by have := dim_bd h; omega, by have := dim_bd h; omega, by have := dim_bd h; omega⟩

set_option maxRecDepth 20000 in
set_option maxHeartbeats 4000000 in
theorem traceOf_any (r c : Int) {v : Value} {n : Nat} {xs : List Int} (hn : n ≤ 2000000) (w : World) (h : RV w 5 v n xs) :
    Calls Try.prog 13 #[.agg #[.int .i64 r, .int .i64 c, v]] w fun en w' =>
      en = .returned (.tuple #[.agg #[.int .i64 (trV r c n xs).1.a, .int .i64 (trV r c n xs).1.b, .int .i64 (trV r c n xs).1.c, .int .i64 (trV r c n xs).1.d, .int .i64 (trV r c n xs).2], .bool (trG r c n xs)]) ∧ Ext w w' := by
  have HV := fun w' (hx : Ext w w') => Lib.hid (isValidMatrix_any r c hn w' (h.ext hx))
  have HO : Hid (trG r c n xs = (mGood r c n xs && ((r == c) && trO xs r.toNat r.toNat))) := rfl
  have HNo : Hid (trG r c n xs = false → trV r c n xs = (R4.zero, 0)) := trV_no
  have HYes : Hid (trG r c n xs = true → trV r c n xs = trA xs r.toNat r.toNat) := trV_yes
  have R1 := fun w' (hx : Ext w w') => Lib.hid (h.ext hx)
  obtain ⟨-, a1, cap1, rfl, -, -, -⟩ := h
  cases g1 : mGood r c n xs
  · rw [g1] at HV HO
    have HF : Hid (trG r c n xs = false) := HO.out.trans (by simp)
    have HZ := Lib.hid (HNo.out HF.out)
    go_enter Try.func13, Try.ntmps13
    go_wp2_with fail
    refine ((HV _ (by repeat (first | exact Ext.refl _ | assumption | refine Ext.alloc ?_ _ | refine Ext.drew ?_ | refine Ext.drewN ?_ _ | refine Ext.setCell ?_ (by first | omega | (dsimp only; omega) | (simp; done) | (simp; omega)) _ | refine Ext.trans ?_ (by assumption)))).out).mono ?_
    rintro e w1 ⟨rfl, hx1⟩
    obtain ⟨hc1, hf1⟩ := hx1.cells
    have hz1 := hx1.size
    try simp at hz1
    have hs1_0 := sz2 (a := w.heap.size) (b := w1.heap.size) (by omega)
    go_wp2
    refine bodyPost_ret (v := .tuple #[.agg #[.int .i64 0, .int .i64 0, .int .i64 0, .int .i64 0, .int .i64 0], .bool false]) (by simp [results, Try.results13, go_sem, *]) rfl ?_
    rw [HF.out, HZ.out]
    exact ⟨rfl, (by repeat (first | (with_reducible refine Ext.setCell ?_ (by first | (simp; done) | (simp; omega)) _) | with_reducible refine Ext.alloc ?_ _ | with_reducible refine Ext.drew ?_ | with_reducible refine Ext.drewN ?_ _ | with_reducible assumption | with_reducible exact Ext.refl _ | with_reducible refine Ext.trans ?_ (by with_reducible assumption)))⟩
  by_cases g2 : r = c
  case neg =>
    rw [g1] at HV HO
    have HF : Hid (trG r c n xs = false) := HO.out.trans (by simp [g2])
    have HZ := Lib.hid (HNo.out HF.out)
    go_enter Try.func13, Try.ntmps13
    go_wp2_with fail
    refine ((HV _ (by repeat (first | exact Ext.refl _ | assumption | refine Ext.alloc ?_ _ | refine Ext.drew ?_ | refine Ext.drewN ?_ _ | refine Ext.setCell ?_ (by first | omega | (dsimp only; omega) | (simp; done) | (simp; omega)) _ | refine Ext.trans ?_ (by assumption)))).out).mono ?_
    rintro e w1 ⟨rfl, hx1⟩
    obtain ⟨hc1, hf1⟩ := hx1.cells
    have hz1 := hx1.size
    try simp at hz1
    have hs1_0 := sz2 (a := w.heap.size) (b := w1.heap.size) (by omega)
    go_wp2
    refine bodyPost_ret (v := .tuple #[.agg #[.int .i64 0, .int .i64 0, .int .i64 0, .int .i64 0, .int .i64 0], .bool false]) (by simp [results, Try.results13, go_sem, *]) rfl ?_
    rw [HF.out, HZ.out]
    exact ⟨rfl, (by repeat (first | (with_reducible refine Ext.setCell ?_ (by first | (simp; done) | (simp; omega)) _) | with_reducible refine Ext.alloc ?_ _ | with_reducible refine Ext.drew ?_ | with_reducible refine Ext.drewN ?_ _ | with_reducible assumption | with_reducible exact Ext.refl _ | with_reducible refine Ext.trans ?_ (by with_reducible assumption)))⟩
  subst g2
  rw [g1] at HV HO
  simp only [beq_self_eq_true, Bool.true_and] at HO
  obtain ⟨d1, _, e1, _⟩ := mGood_facts g1
  obtain ⟨R, rfl, bR1, bR2⟩ := nat_dim d1
  obtain rfl : n = R * R := by exact_mod_cast e1
  simp only [Int.toNat_natCast] at HO HYes
  clear g1 d1 e1
  have HAT := fun (i : Nat) (hi : i < R) (w' : World) (hx : RV w' 5 (.slice a1 (R * R) cap1) (R * R) xs) => Lib.hid (at_any R R hn i i (i * R + i) (by push_cast; rfl) (by
      have : (i + 1) * R ≤ R * R := Nat.mul_le_mul_right R hi
      rw [Nat.succ_mul] at this
      omega) (by
      have := mul_bd (a := (i : Int)) (b := (R : Int)) (A := 32) (B := 32) (by omega) (by omega) (by omega) (by omega)
      omega) (by omega) w' hx)
  have hR : (1 : Int) ≤ R ∧ (R : Int) ≤ 32 := by omega
  go_enter Try.func13, Try.ntmps13
  go_wp2_with fail
  refine ((HV _ (by repeat (first | exact Ext.refl _ | assumption | refine Ext.alloc ?_ _ | refine Ext.drew ?_ | refine Ext.drewN ?_ _ | refine Ext.setCell ?_ (by first | omega | (dsimp only; omega) | (simp; done) | (simp; omega)) _ | refine Ext.trans ?_ (by assumption)))).out).mono ?_
  rintro e w1 ⟨rfl, hx1⟩
  obtain ⟨hc1, hf1⟩ := hx1.cells
  have hz1 := hx1.size
  try simp at hz1
  have hs1_0 := sz2 (a := w.heap.size) (b := w1.heap.size) (by omega)
  have hA1 : w1.heap[w.heap.size]? = some (.cells #[.int .i64 R, .int .i64 R, .slice a1 (R * R) cap1] 39 (0, 0)) := (hx1.heap (by simp <;> omega)).trans (heap_alloc_lt (heap_alloc_new _ _))
  have hR1 : w1.heap[w.heap.size + 1]? = some (.cells #[.int .i64 0, .int .i64 0, .int .i64 0, .int .i64 0, .int .i64 0] 34 (0, 0)) := (hx1.heap (by simp <;> omega)).trans (heap_alloc_at _ _ _ (by simp))
  have hE1 : Ext w w1 := (by repeat (first | exact Ext.refl _ | assumption | refine Ext.alloc ?_ _ | refine Ext.drew ?_ | refine Ext.drewN ?_ _ | refine Ext.setCell ?_ (by first | omega | (dsimp only; omega) | (simp; done) | (simp; omega)) _ | refine Ext.trans ?_ (by assumption)))
  have lA1 := (Array.getElem?_eq_some_iff.1 hA1).1
  have lR1 := (Array.getElem?_eq_some_iff.1 hR1).1
  clear hc1 hf1 HV
  have zA1 : ∀ k, w1.cell? ⟨w.heap.size, k, none⟩ = (#[.int .i64 R, .int .i64 R, .slice a1 (R * R) cap1] : Array Value)[k]? := fun k => cell_of_row _ _ _ _ _ _ hA1
  go_wp2
  go_loopw [5, 6] (fun o i wr => ∃ (j : Nat) (b : Bool), j ≤ R ∧ i = .int .i64 j ∧ o = .bool b ∧ Hid (trO xs R j = b ∧ (b = false → trA xs R j = (R4.zero, 0))) ∧
    Hid (wr.heap[w1.heap.size]? = some (.cells #[.int .i64 (trA xs R j).1.a, .int .i64 (trA xs R j).1.b, .int .i64 (trA xs R j).1.c, .int .i64 (trA xs R j).1.d, .int .i64 (trA xs R j).2] 34 (0, 0))) ∧ Ext w1 wr) (fun _ i _ => R - (intOf i).toNat)
  case atStart => exact ⟨0, true, by omega, rfl, rfl, ⟨rfl, fun h => by cases h⟩, heap_alloc_new _ _, (by repeat (first | exact Ext.refl _ | assumption | refine Ext.alloc ?_ _ | refine Ext.drew ?_ | refine Ext.drewN ?_ _ | refine Ext.setCell ?_ (by first | omega | (dsimp only; omega) | (simp; done) | (simp; omega)) _ | refine Ext.trans ?_ (by assumption)))⟩
  case round =>
    clear zA1
    obtain ⟨j, b, hj, rfl, rfl, HT, HS, hE⟩ := hrel
    have hA : wr.heap[w.heap.size]? = some (.cells #[.int .i64 R, .int .i64 R, .slice a1 (R * R) cap1] 39 (0, 0)) := (hE.heap lA1).trans hA1
    have hRR : wr.heap[w.heap.size + 1]? = some (.cells #[.int .i64 0, .int .i64 0, .int .i64 0, .int .i64 0, .int .i64 0] 34 (0, 0)) := (hE.heap lR1).trans hR1
    have zA : ∀ k, wr.cell? ⟨w.heap.size, k, none⟩ = (#[.int .i64 R, .int .i64 R, .slice a1 (R * R) cap1] : Array Value)[k]? := fun k => cell_of_row _ _ _ _ _ _ hA
    have lA := (Array.getElem?_eq_some_iff.1 hA).1
    have lR := (Array.getElem?_eq_some_iff.1 hRR).1
    have HTT := Lib.hid (trO_succ xs R j)
    have HN : Hid (trA xs R (j + 1) = (adX (trA xs R j).1 (trA xs R j).2 (dyAt xs (j * R + j)) (exAt xs (j * R + j)), adE (trA xs R j).1 (trA xs R j).2 (dyAt xs (j * R + j)) (exAt xs (j * R + j)))) := rfl
    have HZ : Hid (adOk (trA xs R j).1 (trA xs R j).2 (dyAt xs (j * R + j)) (exAt xs (j * R + j)) = false → adX (trA xs R j).1 (trA xs R j).2 (dyAt xs (j * R + j)) (exAt xs (j * R + j)) = R4.zero ∧ adE (trA xs R j).1 (trA xs R j).2 (dyAt xs (j * R + j)) (exAt xs (j * R + j)) = 0) := ad_zero
    have HB : Hid (j < R → adOk (trA xs R j).1 (trA xs R j).2 (dyAt xs (j * R + j)) (exAt xs (j * R + j)) = false → trO xs R R = false) := fun h1 h2 => trO_bad h2 h1
    have HAD := fun w' => Lib.hid (addDyadic_any (trA xs R j).1 (trA xs R j).2 (dyAt xs (j * R + j)) (exAt xs (j * R + j)) w')
    have HOUT : Hid (j < R → trO xs R j = false → trO xs R R = false) := fun h1 h2 => by
      obtain ⟨d, hd⟩ : ∃ d, R = j + d := ⟨R - j, by omega⟩
      have key : ∀ d, trO xs R (j + d) = false := by
        intro d
        induction d with
        | zero => exact h2
        | succ d ih => rw [← Nat.add_assoc, trO_succ, ih]; rfl
      have := key d
      rw [← hd] at this
      exact this
    cases b
    · have hz := HT.out.2 rfl
      have HS' := HS.out
      rw [hz] at HS'
      have zS : ∀ k, wr.cell? ⟨w1.heap.size, k, none⟩ = (#[.int .i64 0, .int .i64 0, .int .i64 0, .int .i64 0, .int .i64 0] : Array Value)[k]? := fun k => cell_of_row _ _ _ _ _ _ HS'
      have zR : ∀ k, wr.cell? ⟨w.heap.size + 1, k, none⟩ = (#[.int .i64 0, .int .i64 0, .int .i64 0, .int .i64 0, .int .i64 0] : Array Value)[k]? := fun k => cell_of_row _ _ _ _ _ _ hRR
      have fR : ∀ k, wr.frozen? ⟨w.heap.size + 1, k, none⟩ = false := fun k => frozen_of_row _ _ _ _ _ hRR
      have HEE := Lib.hid (hE1.trans hE)
      have HF : Hid (trG R R (R * R) xs = false) := HO.out.trans (by
        rcases Nat.lt_or_ge j R with h | h
        · exact HOUT.out h HT.out.1
        · rw [show j = R by omega] at HT; exact HT.out.1)
      have HZ2 := Lib.hid (HNo.out HF.out)
      clear HS' hz
      by_cases hlt : (j : Int) < R
      all_goals
        go_wp2
        refine bodyPost_ret (v := .tuple #[.agg #[.int .i64 0, .int .i64 0, .int .i64 0, .int .i64 0, .int .i64 0], .bool false]) (by simp [results, Try.results13, go_sem, *]) rfl ?_
        rw [HF.out, HZ2.out]
        have hx := HEE.out
        exact ⟨rfl, (by repeat (first | (with_reducible refine Ext.setCell ?_ (by first | (simp; done) | (simp; omega)) _) | with_reducible refine Ext.alloc ?_ _ | with_reducible refine Ext.drew ?_ | with_reducible refine Ext.drewN ?_ _ | with_reducible assumption | with_reducible exact Ext.refl _ | with_reducible refine Ext.trans ?_ (by with_reducible assumption)))⟩
    · by_cases hlt : j < R
      · have hlt' : (j : Int) < R := by omega
        have HATj := HAT j hlt
        generalize adX (trA xs R j).1 (trA xs R j).2 (dyAt xs (j * R + j)) (exAt xs (j * R + j)) = Q at *
        generalize adE (trA xs R j).1 (trA xs R j).2 (dyAt xs (j * R + j)) (exAt xs (j * R + j)) = q at *
        generalize adOk (trA xs R j).1 (trA xs R j).2 (dyAt xs (j * R + j)) (exAt xs (j * R + j)) = o at *
        generalize (trA xs R j).1 = Z at *
        generalize (trA xs R j).2 = z at *
        generalize dyAt xs (j * R + j) = Y at *
        generalize exAt xs (j * R + j) = f at *
        have hEw : Ext w wr := hE1.trans hE
        go_wp2
        refine Wr.wp_region_wr (m := 39) [⟨w1.heap.size, 34, #[.int .i64 Z.a, .int .i64 Z.b, .int .i64 Z.c, .int .i64 Z.d, .int .i64 z]⟩] (by kernel_rfl) (by kernel_rfl) rfl (by simp; try omega) ?_ ?_
        · intro s hs
          rcases s with _ | s
          · exact (show (World.heap _)[w1.heap.size]? = some (Obj.cells #[.int .i64 Z.a, .int .i64 Z.b, .int .i64 Z.c, .int .i64 Z.d, .int .i64 z] 34 (0, 0)) from HS.out)
          · simp at hs
            try omega
        refine Wr.ww_old (w.heap.size) (by first | omega | (simp; done) | (simp; omega)) (by first | (simp; done) | (simp; omega)) (fun hold0 => ?_)
        refine Wr.ww_read 0 (w1.heap.size) 34 #[.int .i64 Z.a, .int .i64 Z.b, .int .i64 Z.c, .int .i64 Z.d, .int .i64 z] (by simp) rfl rfl rfl (fun hr => ?_)
        apply Exists.intro
        refine ⟨?_, ?_⟩
        · go_simp
          (try intro x)
          (try go_bits)
          rfl
        clear hr
        simp only [Act.put, List.setIfInBounds_toArray, List.set_cons_succ, List.set_cons_zero, List.nil_append, List.cons_append]
        (refine Wr.ww_plain ?_; apply Exists.intro; refine ⟨?_, ?_⟩; (first | (go_simp; (try intro x); (try go_bits); rfl)); simp only [Act.put, List.setIfInBounds_toArray, List.set_cons_succ, List.set_cons_zero, List.nil_append, List.cons_append])
        (refine Wr.ww_plain ?_; apply Exists.intro; refine ⟨?_, ?_⟩; (first | (go_simp; (try intro x); (try go_bits); rfl)); simp only [Act.put, List.setIfInBounds_toArray, List.set_cons_succ, List.set_cons_zero, List.nil_append, List.cons_append])
        (refine Wr.ww_plain ?_; apply Exists.intro; refine ⟨?_, ?_⟩; (first | (go_simp; (try intro x); (try go_bits); rfl)); simp only [Act.put, List.setIfInBounds_toArray, List.set_cons_succ, List.set_cons_zero, List.nil_append, List.cons_append])
        (refine Wr.ww_plain ?_; apply Exists.intro; refine ⟨?_, ?_⟩; (first | (go_simp; (try intro x); (try go_bits); rfl) | (go_simp; intro x; go_at_call 24; exact (HATj _ (R1 _ (((GX.ofExt (S := [w1.heap.size]) hEw).trans x.2.1).toExt (by simp; omega))).out).out)); simp only [Act.put, List.setIfInBounds_toArray, List.set_cons_succ, List.set_cons_zero, List.nil_append, List.cons_append])
        (refine Wr.ww_plain ?_; apply Exists.intro; refine ⟨?_, ?_⟩; (first | (go_simp; (try intro x); (try go_bits); rfl) | (go_simp; intro x; go_at_call 23; exact (HAD _).out)); simp only [Act.put, List.setIfInBounds_toArray, List.set_cons_succ, List.set_cons_zero, List.nil_append, List.cons_append])
        (refine Wr.ww_plain ?_; apply Exists.intro; refine ⟨?_, ?_⟩; (first | (go_simp; (try intro x); (try go_bits); rfl)); simp only [Act.put, List.setIfInBounds_toArray, List.set_cons_succ, List.set_cons_zero, List.nil_append, List.cons_append])
        (refine Wr.ww_plain ?_; apply Exists.intro; refine ⟨?_, ?_⟩; (first | (go_simp; (try intro x); (try go_bits); rfl)); simp only [Act.put, List.setIfInBounds_toArray, List.set_cons_succ, List.set_cons_zero, List.nil_append, List.cons_append])
        (refine Wr.ww_plain ?_; apply Exists.intro; refine ⟨?_, ?_⟩; (first | (go_simp; (try intro x); (try go_bits); rfl)); simp only [Act.put, List.setIfInBounds_toArray, List.set_cons_succ, List.set_cons_zero, List.nil_append, List.cons_append])
        refine Wr.ww_store 0 (w1.heap.size) 34 #[.int .i64 Z.a, .int .i64 Z.b, .int .i64 Z.c, .int .i64 Z.d, .int .i64 z] #[.int .i64 Q.a, .int .i64 Q.b, .int .i64 Q.c, .int .i64 Q.d, .int .i64 q] rfl (by simp) rfl rfl rfl (fun x => ?_) ?_
        · have hcell : ∀ kk, x.w.cell? ⟨w1.heap.size, kk, none⟩ = (#[.int .i64 Z.a, .int .i64 Z.b, .int .i64 Z.c, .int .i64 Z.d, .int .i64 z] : Array Value)[kk]? := fun kk => cell_of_row _ _ _ _ _ _ x.2.2
          have hfr : ∀ kk, x.w.frozen? ⟨w1.heap.size, kk, none⟩ = false := fun kk => frozen_of_row _ _ _ _ _ x.2.2
          apply Exists.intro
          refine ⟨?_, ?_⟩
          · go_simp
            (try go_bits)
            rfl
          · exact (((((Fill.start x.2.2).set 0 _).set 1 _).set 2 _).set 3 _).set 4 _
        simp only [Act.put, List.setIfInBounds_toArray, List.set_cons_succ, List.set_cons_zero, List.nil_append, List.cons_append]
        (refine Wr.ww_plain ?_; apply Exists.intro; refine ⟨?_, ?_⟩; (first | (go_simp; (try intro x); (try go_bits); rfl)); simp only [Act.put, List.setIfInBounds_toArray, List.set_cons_succ, List.set_cons_zero, List.nil_append, List.cons_append])
        refine Wr.ww_done (by kernel_rfl) (by kernel_rfl) (fun w2 hg2 hs2 => ?_)
        have hb2_0 : w2.heap[w1.heap.size]? = some (.cells #[.int .i64 Q.a, .int .i64 Q.b, .int .i64 Q.c, .int .i64 Q.d, .int .i64 q] 34 (0, 0)) := hs2 0 (by simp)
        clear hs2
        simp only [List.map_cons, List.map_nil] at hg2
        have hE2 : Ext w1 w2 := ((GX.ofExt (S := [w1.heap.size]) hE).trans hg2).toExt (by simp)
        go_wp2
        go_roundw
        case rel =>
          refine ⟨j + 1, o, by omega, by go_num, rfl, ⟨by rw [HTT.out, HT.out.1]; rfl, fun h => by rw [HN.out, (HZ.out h).1, (HZ.out h).2]⟩, ?_, hE2⟩
          unfold Hid
          rw [HN.out]
          exact hb2_0
        case measure => simp [intOf]; omega
      · obtain rfl : j = R := by omega
        have HT' : Hid (trG j j (j * j) xs = true) := HO.out.trans HT.out.1
        have HY := Lib.hid (HYes.out HT'.out)
        generalize trA xs j j = ZZ at *
        obtain ⟨Z, z⟩ := ZZ
        have zS : ∀ k, wr.cell? ⟨w1.heap.size, k, none⟩ = (#[.int .i64 Z.a, .int .i64 Z.b, .int .i64 Z.c, .int .i64 Z.d, .int .i64 z] : Array Value)[k]? := fun k => cell_of_row _ _ _ _ _ _ HS.out
        have zR : ∀ k, wr.cell? ⟨w.heap.size + 1, k, none⟩ = (#[.int .i64 0, .int .i64 0, .int .i64 0, .int .i64 0, .int .i64 0] : Array Value)[k]? := fun k => cell_of_row _ _ _ _ _ _ hRR
        have fR : ∀ k, wr.frozen? ⟨w.heap.size + 1, k, none⟩ = false := fun k => frozen_of_row _ _ _ _ _ hRR
        have HEE := Lib.hid (hE1.trans hE)
        clear HN HZ HB HAD HTT HOUT
        go_wp2
        refine bodyPost_ret (v := .tuple #[.agg #[.int .i64 Z.a, .int .i64 Z.b, .int .i64 Z.c, .int .i64 Z.d, .int .i64 z], .bool true]) (by simp [results, Try.results13, go_sem, *]) rfl ?_
        rw [HT'.out, HY.out]
        have hx := HEE.out
        exact ⟨rfl, (by repeat (first | (with_reducible refine Ext.setCell ?_ (by first | (simp; done) | (simp; omega)) _) | with_reducible refine Ext.alloc ?_ _ | with_reducible refine Ext.drew ?_ | with_reducible refine Ext.drewN ?_ _ | with_reducible assumption | with_reducible exact Ext.refl _ | with_reducible refine Ext.trans ?_ (by with_reducible assumption)))⟩

end Go.Proofs.Ytolpmoicinijdaa
