/- The folding pass: the program's side. -/
import Derived.Test.YtchaanppoklapaaPsL
import Derived.Test.YtchaanppoklapaaFpP
import Derived.Test.YtchaanppoklapaaCgK
namespace Go.Proofs.Ytchaanppoklapaa
open Go.RowKit Go.Lib
set_option linter.unusedVariables false
set_option linter.unusedSimpArgs false

set_option maxRecDepth 20000 in
set_option maxHeartbeats 8000000 in
theorem foldPass_any (q : Int) {v : Value} {n : Nat} {xs : List Int} (hn : n ≤ 2000000) (w : World) (h : RV w 3 v n xs) :
    Calls Try.prog 19 #[.agg #[.int .i64 q, v]] w fun e w' => ∃ x1 x3 x2, e = .returned (.tuple #[.agg #[.int .i64 (psC q xs n).q1, x1, x3, .int .i64 (psC q xs n).q2, x2], .bool (psOk q xs n)]) ∧
      CZ w' w.heap.size w'.heap.size x1 x3 x2 (psC q xs n) ∧ Ext w w' := by
  have hfn := fN_le q xs n
  have HFL := Lib.hid (fL_len q xs n)
  have HFP := fun w' (hx : Ext w w') => Lib.hid (foldPhases_any q hn w' (h.ext hx))
  have HCI := fun w' (hx : Ext w w') => Lib.hid (circuitIfF_any q hn w' (h.ext hx))
  have HEQ := fun w' v2 (hx : Ext w w') (h2 : RV w' 3 v2 (fN q xs n) (fL q xs n)) => Lib.hid (equalCircuits_any q (fQ q xs n) hn (by omega : fN q xs n ≤ 2000000) w' (h.ext hx) h2)
  have HCL1 := fun w' (hx : Ext w w') => Lib.hid (clonePs_any hn w' (h.ext hx))
  have HCL2 := fun w' v2 (h2 : RV w' 3 v2 (fN q xs n) (fL q xs n)) => Lib.hid (clonePs_any (by omega : fN q xs n ≤ 2000000) w' h2)
  have HPO : Hid (psOk q xs n = (fOk q xs n && (psE q xs n || psS q xs n))) := rfl
  have HPE : Hid (psE q xs n = eqC q n xs (fQ q xs n) (fN q xs n) (fL q xs n)) := rfl
  have HPS : Hid (psS q xs n = (decide (n ≤ 40) && decide (fN q xs n ≤ 40))) := rfl
  have HNO := Lib.hid (fun h => psC_no (q := q) (xs := xs) (n := n) h)
  have HYE := Lib.hid (fun h h2 => psC_eq (q := q) (xs := xs) (n := n) h h2)
  have HYN := Lib.hid (fun h h2 => psC_ne (q := q) (xs := xs) (n := n) h h2)
  have HFC : Hid (fOk q xs n = true → cOk q xs n = true) := Lib.hid (fun h => by
    unfold fOk mOk at h
    simp only [Bool.and_eq_true] at h
    exact h.1.1)
  have hw0 : w.heap.size ≤ w.heap.size + 1 := by omega
  obtain ⟨hl, a1, cap, rfl, p1, p2, hh⟩ := h
  clear hh
  obtain ⟨w2, hw2⟩ : ∃ x, x = (w.alloc (.cells #[.int .i64 q, .slice a1 n cap] 31 (0, 0))).alloc (.cells #[.int .i64 0, .slice none 0 0, .slice none 0 0, .int .i64 0, .slice none 0 0] 42 (0, 0)) := ⟨_, rfl⟩
  have HX2 : Hid (Ext w w2) := by rw [hw2]; exact Lib.hid (((Ext.refl w).alloc _).alloc _)
  have HB2 : Hid (w2.heap[w.heap.size]? = some (.cells #[.int .i64 q, .slice a1 n cap] 31 (0, 0))) := by rw [hw2]; exact Lib.hid (heap_alloc_lt (heap_alloc_new _ _))
  have HR2 : Hid (w2.heap[w.heap.size + 1]? = some (.cells #[.int .i64 0, .slice none 0 0, .slice none 0 0, .int .i64 0, .slice none 0 0] 42 (0, 0))) := by rw [hw2]; exact Lib.hid (heap_alloc_at _ _ _ (by simp))
  have hs2 : w.heap.size + 2 ≤ w2.heap.size := by rw [hw2]; simp
  have HFF := HFP w2 HX2.out
  have zb2 := fun k => cell_of_row _ _ k _ _ _ HB2.out
  have lb2 := (Array.getElem?_eq_some_iff.1 HB2.out).1
  clear HFP
  go_enter Try.func19, Try.ntmps19
  go_upto_region 1 with fail
  rw [← hw2]
  clear hw2
  go_wp2_with fail
  refine HFF.out.mono ?_
  rintro e w3 ⟨v3, rfl, o3, hx3⟩
  obtain ⟨a3, c3, rfl, _, _, _⟩ := own_shape o3
  obtain ⟨w4, hw4⟩ : ∃ x, x = w3.alloc (.cells #[.int .i64 (fQ q xs n), .slice a3 (fN q xs n) c3] 31 (0, 0)) := ⟨_, rfl⟩
  have HX34 : Hid (Ext w3 w4) := by rw [hw4]; exact Lib.hid ((Ext.refl _).alloc _)
  have HF4 : Hid (w4.heap[w3.heap.size]? = some (.cells #[.int .i64 (fQ q xs n), .slice a3 (fN q xs n) c3] 31 (0, 0))) := by rw [hw4]; exact Lib.hid (heap_alloc_new _ _)
  have hs4 : w3.heap.size < w4.heap.size := by rw [hw4]; simp
  have HX4 := Lib.hid (HX2.out.trans (hx3.trans HX34.out))
  have HO4 := Lib.hid (own_ext o3 HX34.out)
  have HL3 := Lib.hid (fun k (hk : (Value.slice a3 (fN q xs n) c3).ownBlock = some k) => o3.lt k hk)
  have HB4 := Lib.hid (row_farM HB2.out (hx3.trans HX34.out))
  have HR4 := Lib.hid (row_farM HR2.out (hx3.trans HX34.out))
  have hs23 := hx3.size
  have zb4 := fun k => cell_of_row _ _ k _ _ _ HB4.out
  have lb4 := (Array.getElem?_eq_some_iff.1 HB4.out).1
  have zr4 := fun k => cell_of_row _ _ k _ _ _ HR4.out
  have fr4 := fun k => frozen_of_row _ _ k _ _ HR4.out
  have lr4 := (Array.getElem?_eq_some_iff.1 HR4.out).1
  clear o3 hx3 zb2 lb2 HFF
  cases hok : fOk q xs n
  · have hpo : psOk q xs n = false := by rw [HPO.out, hok]; rfl
    have N0 := Lib.hid hpo
    have N1 := Lib.hid (HNO.out hpo)
    rw [hok] at *
    clear hok hpo
    go_upto_region 2 with fail
    rw [← hw4]
    clear hw4
    go_wp2
    refine bodyPost_ret (v := .tuple #[.agg #[.int .i64 0, .slice none 0 0, .slice none 0 0, .int .i64 0, .slice none 0 0], .bool false]) (by simp [results, Try.results19, go_sem, *]) rfl ?_
    refine ⟨.slice none 0 0, .slice none 0 0, .slice none 0 0, ?_, ?_, ?_⟩
    · rw [N1.out, N0.out]
    · rw [N1.out]; exact cz_zero _ _ _ _
    · exact ((((HX4.out.setCell hw0 _).setCell hw0 _).setCell hw0 _).setCell hw0 _).setCell hw0 _
  · have hcc := HFC.out hok
    have HCC := HCI w4 HX4.out
    rw [hcc] at HCC
    simp only [if_true] at HCC
    have Hok := Lib.hid hok
    clear hok hcc HFC
    go_upto_region 2 with fail
    rw [← hw4]
    clear hw4
    go_wp2_with fail
    refine HCC.out.mono ?_
    rintro e w5 ⟨v5, rfl, o5, hx5⟩
    obtain ⟨a5, c5, rfl, _, _, _⟩ := own_shape o5
    have HX5 := Lib.hid (HX4.out.trans hx5)
    have HO5 := Lib.hid o5
    have HL5 := Lib.hid (fun k (hk : (Value.slice a5 n c5).ownBlock = some k) => o5.lt k hk)
    have hs45 := hx5.size
    obtain ⟨w6, hw6⟩ : ∃ x, x = w5.alloc (.cells #[.int .i64 q, .slice a5 n c5] 31 (0, 0)) := ⟨_, rfl⟩
    have HX56 : Hid (Ext w5 w6) := by rw [hw6]; exact Lib.hid ((Ext.refl _).alloc _)
    have HB6 : Hid (w6.heap[w5.heap.size]? = some (.cells #[.int .i64 q, .slice a5 n c5] 31 (0, 0))) := by rw [hw6]; exact Lib.hid (heap_alloc_new _ _)
    have hs6 : w5.heap.size < w6.heap.size := by rw [hw6]; simp
    have HF6 := Lib.hid (row_farM HF4.out (hx5.trans HX56.out))
    have zb6 := fun k => cell_of_row _ _ k _ _ _ HB6.out
    have lb6 := (Array.getElem?_eq_some_iff.1 HB6.out).1
    have zf6 := fun k => cell_of_row _ _ k _ _ _ HF6.out
    have lf6 := (Array.getElem?_eq_some_iff.1 HF6.out).1
    obtain ⟨w7, hw7⟩ : ∃ x, x = w6.alloc (.cells #[.int .i64 q, .slice a5 n c5, .slice none 0 0, .int .i64 (fQ q xs n), .slice a3 (fN q xs n) c3] 42 (0, 0)) := ⟨_, rfl⟩
    have HX67 : Hid (Ext w6 w7) := by rw [hw7]; exact Lib.hid ((Ext.refl _).alloc _)
    have HC7 : Hid (w7.heap[w6.heap.size]? = some (.cells #[.int .i64 q, .slice a5 n c5, .slice none 0 0, .int .i64 (fQ q xs n), .slice a3 (fN q xs n) c3] 42 (0, 0))) := by rw [hw7]; exact Lib.hid (heap_alloc_new _ _)
    have HX57 := Lib.hid (HX56.out.trans HX67.out)
    have HX47 := Lib.hid (hx5.trans HX57.out)
    have HX7 := Lib.hid (HX4.out.trans HX47.out)
    have HB7 := Lib.hid (row_farM HB4.out HX47.out)
    have HF7 := Lib.hid (row_farM HF4.out HX47.out)
    have HO3_7 := Lib.hid (own_ext HO4.out HX47.out)
    have HEE := HEQ w7 _ HX7.out (RV.own HO3_7.out HFL.out)
    rw [← HPE.out] at HEE
    have zb7 := fun k => cell_of_row _ _ k _ _ _ HB7.out
    have lb7 := (Array.getElem?_eq_some_iff.1 HB7.out).1
    have zf7 := fun k => cell_of_row _ _ k _ _ _ HF7.out
    have lf7 := (Array.getElem?_eq_some_iff.1 HF7.out).1
    clear o5 hx5 HEQ HCI zr4 fr4 lr4 zb4 lb4 HCC
    go_upto_region 5 with fail
    rw [← hw6]
    clear hw6
    go_upto_region 6 with fail
    rw [← hw7]
    clear hw7 zb6 lb6 zf6 lf6
    go_wp2_with fail
    refine HEE.out.mono ?_
    rintro e w8 ⟨rfl, hx8⟩
    have HX78 := Lib.hid hx8
    have HX8 := Lib.hid (HX7.out.trans hx8)
    have HC8 := Lib.hid (row_farM HC7.out hx8)
    have HR8 := Lib.hid (row_farM HR4.out (HX47.out.trans hx8))
    have HB8 := Lib.hid (row_farM HB7.out hx8)
    have HF8 := Lib.hid (row_farM HF7.out hx8)
    have HO3 := Lib.hid (own_ext HO3_7.out hx8)
    have HO5b := Lib.hid (own_ext HO5.out (HX57.out.trans hx8))
    have hs78 := hx8.size
    have zb8 := fun k => cell_of_row _ _ k _ _ _ HB8.out
    have lb8 := (Array.getElem?_eq_some_iff.1 HB8.out).1
    have zf8 := fun k => cell_of_row _ _ k _ _ _ HF8.out
    have lf8 := (Array.getElem?_eq_some_iff.1 HF8.out).1
    have zc8 := fun k => cell_of_row _ _ k _ _ _ HC8.out
    have fc8 := fun k => frozen_of_row _ _ k _ _ HC8.out
    have lc8 := (Array.getElem?_eq_some_iff.1 HC8.out).1
    have zr8 := fun k => cell_of_row _ _ k _ _ _ HR8.out
    have fr8 := fun k => frozen_of_row _ _ k _ _ HR8.out
    have lr8 := (Array.getElem?_eq_some_iff.1 HR8.out).1
    have hs57 := HX57.out.size
    clear hx8 HEE zb7 lb7 zf7 lf7
    cases he : psE q xs n
    · by_cases hsm : n ≤ 40 ∧ fN q xs n ≤ 40
      · have hss : psS q xs n = true := by rw [HPS.out]; simp [hsm.1, hsm.2]
        have hpo : psOk q xs n = true := by rw [HPO.out, Hok.out, he, hss]; rfl
        have N0 := Lib.hid hpo
        have N1 := Lib.hid (HYN.out hpo he)
        have hn40 : ¬ (40 : Int) < (n : Int) := by omega
        have hf40 : ¬ (40 : Int) < (fN q xs n : Int) := by omega
        have HK : Hid (∀ W, Ext w8 W → W.cell? ⟨w.heap.size, 1, none⟩ = some (.slice a1 n cap) ∧ W.cell? ⟨w3.heap.size, 1, none⟩ = some (.slice a3 (fN q xs n) c3)) := Lib.hid (fun W hX => ⟨(hX.cells.1 _ 1 lb8).trans (zb8 1), (hX.cells.1 _ 1 lf8).trans (zf8 1)⟩)
        have HCA := fun W (hX : Ext w8 W) => HCL1 W (HX8.out.trans hX)
        have HCB := fun W (hX : Ext w8 W) => HCL2 W _ (RV.own (own_ext HO3.out hX) HFL.out)
        have h38 : w3.heap.size < w6.heap.size := by omega
        clear he hsm hss hpo HCL1 HCL2
        go_upto_region 10 with fail
        refine wp_region_held_drew (S := (fun W => W.cell? ⟨w.heap.size, 1, none⟩ = some (.slice a1 n cap) ∧ W.cell? ⟨w3.heap.size, 1, none⟩ = some (.slice a3 (fN q xs n) c3))) (by kernel_rfl) ?_ (fun hHeld => ?_)
        focus
          exact HK.out _ (by repeat (first | (with_reducible refine Ext.setCell ?_ (by first | (simp; done) | (simp; omega)) _) | with_reducible refine Ext.alloc ?_ _ | with_reducible refine Ext.drew ?_ | with_reducible refine Ext.drewN ?_ _ | with_reducible assumption | with_reducible exact Ext.refl _ | with_reducible refine Ext.trans ?_ (by with_reducible assumption)))
        refine wpAnyH_take (i := 0) (v := ?_) rfl (by kernel_rfl) (by kernel_rfl) (by kernel_rfl) (fun _ _ _ h => h) (Or.inl ⟨by rfl, ?_⟩) (by assumption) ?_
        rotate_left
        focus
          intro W hSw
          try dsimp only at hSw
          go_simp
          try with_reducible rfl
        try simp only [Act.put, List.setIfInBounds_toArray, List.set_cons_zero, List.set_cons_succ]
        refine wpAnyH_take (i := 1) (v := ?_) rfl (by kernel_rfl) (by kernel_rfl) (by kernel_rfl) (fun _ _ _ h => h) (Or.inl ⟨by rfl, ?_⟩) (by assumption) ?_
        rotate_left
        focus
          intro W hSw
          try dsimp only at hSw
          go_simp
          try with_reducible rfl
        try simp only [Act.put, List.setIfInBounds_toArray, List.set_cons_zero, List.set_cons_succ]
        refine wpAnyH_take (i := 3) (v := ?_) rfl (by kernel_rfl) (by kernel_rfl) (by kernel_rfl) (fun _ _ _ h => h) (Or.inl ⟨by rfl, ?_⟩) (by assumption) ?_
        rotate_left
        focus
          intro W hSw
          try dsimp only at hSw
          go_simp
          try with_reducible rfl
        try simp only [Act.put, List.setIfInBounds_toArray, List.set_cons_zero, List.set_cons_succ]
        refine wpAnyH_take (i := 4) (v := ?_) rfl (by kernel_rfl) (by kernel_rfl) (by kernel_rfl) (fun _ _ _ h => h) (Or.inl ⟨by rfl, ?_⟩) (by assumption) ?_
        rotate_left
        focus
          intro W hSw
          try dsimp only at hSw
          go_simp
          try with_reducible rfl
        try simp only [Act.put, List.setIfInBounds_toArray, List.set_cons_zero, List.set_cons_succ]
        refine wpAnyH_ready (rs := [2]) (by kernel_rfl) (by simp) ?_
        refine AllReadyH.cons rfl (fun K hK => ?_) AllReadyH.nil
        go_simp
        go_wp2_with (go_at_call 42; refine Calls.mono (HCA _ ?_).out ?_; (next => exact (by repeat (first | (with_reducible refine Ext.setCell ?_ (by first | (simp; done) | (simp; omega)) _) | with_reducible refine Ext.alloc ?_ _ | with_reducible refine Ext.drew ?_ | with_reducible refine Ext.drewN ?_ _ | with_reducible assumption | with_reducible exact Ext.refl _ | with_reducible refine Ext.trans ?_ (by with_reducible assumption)))); rintro e w9 ⟨v9, rfl, o9, hx9⟩; have O9 := Lib.hid o9; obtain ⟨a9, c9, rfl, _, _, _⟩ := own_shape o9; clear o9; have hx89 : Ext w8 w9 := (by repeat (first | (with_reducible refine Ext.setCell ?_ (by first | (simp; done) | (simp; omega)) _) | with_reducible refine Ext.alloc ?_ _ | with_reducible refine Ext.drew ?_ | with_reducible refine Ext.drewN ?_ _ | with_reducible assumption | with_reducible exact Ext.refl _ | with_reducible refine Ext.trans ?_ (by with_reducible assumption))); have hs89 := hx89.size)
        refine hK.out _ _ ?_ (fun hHeld => ?_)
        focus
          exact HK.out _ hx89
        clear hK K
        refine wpAnyH_ready (rs := [5]) (by kernel_rfl) (by simp) ?_
        refine AllReadyH.cons rfl (fun K hK => ?_) AllReadyH.nil
        go_simp
        go_wp2_with (go_at_call 42; refine Calls.mono (HCB _ ?_).out ?_; (next => exact hx89); rintro e w10 ⟨v10, rfl, o10, hx10⟩; have O10 := Lib.hid o10; obtain ⟨a10, c10, rfl, _, _, _⟩ := own_shape o10; clear o10; have hx810 : Ext w8 w10 := hx89.trans hx10; have hs910 := hx10.size)
        refine hK.out _ _ ?_ (fun hHeld => ?_)
        focus
          exact HK.out _ hx810
        clear hK K
        refine wpAnyH_take (i := 6) (v := ?_) rfl (by kernel_rfl) (by kernel_rfl) (by kernel_rfl) (fun _ _ _ h => h) (Or.inl ⟨by rfl, ?_⟩) (by assumption) ?_
        rotate_left
        focus
          intro W hSw
          try dsimp only at hSw
          go_simp
          try with_reducible rfl
        try simp only [Act.put, List.setIfInBounds_toArray, List.set_cons_zero, List.set_cons_succ]
        have HC10 := Lib.hid (row_farM HC8.out hx810)
        have HX910 := Lib.hid hx10
        obtain ⟨w11, hw11⟩ : ∃ x, x = w10.alloc (.cells #[.int .i64 0, .slice a9 n c9, .slice a10 (fN q xs n) c10] 81 (0, 0)) := ⟨_, rfl⟩
        have HX1011 : Hid (Ext w10 w11) := by rw [hw11]; exact Lib.hid ((Ext.refl _).alloc _)
        have HS11 : Hid (w11.heap[w10.heap.size]? = some (.cells #[.int .i64 0, .slice a9 n c9, .slice a10 (fN q xs n) c10] 81 (0, 0))) := by rw [hw11]; exact Lib.hid (heap_alloc_new _ _)
        have hs11 : w10.heap.size < w11.heap.size := by rw [hw11]; simp
        have HC11 := Lib.hid (row_farM HC10.out HX1011.out)
        have zc11 := fun k => cell_of_row _ _ k _ _ _ HC11.out
        have fc11 := fun k => frozen_of_row _ _ k _ _ HC11.out
        have lc11 := (Array.getElem?_eq_some_iff.1 HC11.out).1
        have hx811 := hx810.trans HX1011.out
        refine wpAnyH_ready (rs := [7]) (by kernel_rfl) (by simp) ?_
        refine AllReadyH.cons rfl (fun K hK => ?_) AllReadyH.nil
        go_simp
        rw [← hw11]
        clear hw11
        refine hK.out _ _ ?_ (fun hHeld => ?_)
        focus
          exact HK.out _ hx811
        clear hK K
        refine wpAnyH_take (i := 8) (v := ?_) rfl (by kernel_rfl) (by kernel_rfl) (by kernel_rfl) (fun _ _ _ h => h) (Or.inl ⟨by rfl, ?_⟩) (by assumption) ?_
        rotate_left
        focus
          intro W hSw
          try dsimp only at hSw
          go_simp
          try with_reducible rfl
        try simp only [Act.put, List.setIfInBounds_toArray, List.set_cons_zero, List.set_cons_succ]
        refine wpAnyH_ready (rs := [9]) (by kernel_rfl) (by simp) ?_
        refine AllReadyH.cons rfl (fun K hK => ?_) AllReadyH.nil
        go_simp
        refine hK.out _ _ ?_ (fun hHeld => ?_)
        focus
          exact ⟨(World.cell?_setCell_far _ _ _ _ (by show w6.heap.size ≠ w.heap.size; omega)).trans (HK.out w11 hx811).1, (World.cell?_setCell_far _ _ _ _ (by show w6.heap.size ≠ w3.heap.size; omega)).trans (HK.out w11 hx811).2⟩
        clear hK K
        refine wpAnyH_done (by kernel_rfl) ?_ _
        obtain ⟨w12, hw12⟩ : ∃ x, x = w11.setCell ⟨w6.heap.size, 2, none⟩ (.slice (some ⟨w10.heap.size, 0, none⟩) 1 1) := ⟨_, rfl⟩
        have hs8w : w6.heap.size < w8.heap.size := lc8
        have hw5w : w5.heap.size ≤ w8.heap.size := by omega
        have HC12 : Hid (w12.heap[w6.heap.size]? = some (.cells #[.int .i64 q, .slice a5 n c5, .slice (some ⟨w10.heap.size, 0, none⟩) 1 1, .int .i64 (fQ q xs n), .slice a3 (fN q xs n) c3] 42 (0, 0))) := by rw [hw12]; exact Lib.hid (heap_set_at HC11.out 2 _)
        have HR12 : Hid (w12.heap[w.heap.size + 1]? = some (.cells #[.int .i64 0, .slice none 0 0, .slice none 0 0, .int .i64 0, .slice none 0 0] 42 (0, 0))) := by rw [hw12]; exact Lib.hid (heap_set_ne (by show w.heap.size + 1 ≠ w6.heap.size; omega) (row_farM HR8.out hx811))
        have HS12 : Hid (w12.heap[w10.heap.size]? = some (.cells #[.int .i64 0, .slice a9 n c9, .slice a10 (fN q xs n) c10] 81 (0, 0))) := by rw [hw12]; exact Lib.hid (heap_set_ne (by show w10.heap.size ≠ w6.heap.size; omega) HS11.out)
        have HX12 : Hid (Ext w w12) := by rw [hw12]; exact Lib.hid ((HX8.out.trans hx811).setCell (by show w.heap.size ≤ w6.heap.size; omega) _)
        have hs12 : w12.heap.size = w11.heap.size := by rw [hw12, setCell_sz]
        have HL9 := Lib.hid (fun k (hk : (Value.slice a9 n c9).ownBlock = some k) => (show w8.heap.size ≤ k ∧ k < w9.heap.size from O9.out.lt k hk))
        have HL10 := Lib.hid (fun k (hk : (Value.slice a10 (fN q xs n) c10).ownBlock = some k) => (show w9.heap.size ≤ k ∧ k < w10.heap.size from O10.out.lt k hk))
        have P5 : Hid (w12.ownsRow w4.heap.size 72 3 (.slice a5 n c5) n (IL xs)) := by rw [hw12]; exact Lib.hid (own_setm (own_ext HO5b.out hx811) (fun k hk e => by have h9 := (HL5.out k hk).2; have e' : k = w6.heap.size := e; omega) _)
        have P3 : Hid (w12.ownsRow w2.heap.size 72 3 (.slice a3 (fN q xs n) c3) (fN q xs n) (IL (fL q xs n))) := by rw [hw12]; exact Lib.hid (own_setm (own_ext HO3.out hx811) (fun k hk e => by have h9 := (HL3.out k hk).2; have e' : k = w6.heap.size := e; omega) _)
        have P9 : Hid (w12.ownsRow w8.heap.size 72 3 (.slice a9 n c9) n (IL xs)) := by rw [hw12]; exact Lib.hid (own_setm (own_ext (show w9.ownsRow w8.heap.size 72 3 (.slice a9 n c9) n (IL xs) from O9.out) (HX910.out.trans HX1011.out)) (fun k hk e => by have h9 := (HL9.out k hk).1; have e' : k = w6.heap.size := e; omega) _)
        have P10 : Hid (w12.ownsRow w9.heap.size 72 3 (.slice a10 (fN q xs n) c10) (fN q xs n) (IL (fL q xs n))) := by rw [hw12]; exact Lib.hid (own_setm (own_ext (show w10.ownsRow w9.heap.size 72 3 (.slice a10 (fN q xs n) c10) (fN q xs n) (IL (fL q xs n)) from O10.out) HX1011.out) (fun k hk e => by have h9 := (HL10.out k hk).1; have e' : k = w6.heap.size := e; omega) _)
        have HCZ : Hid (CZ w12 w2.heap.size w12.heap.size (.slice a5 n c5) (.slice (some ⟨w10.heap.size, 0, none⟩) 1 1) (.slice a3 (fN q xs n) c3) ⟨q, n, xs, 1, psR q xs n, fQ q xs n, fN q xs n, fL q xs n⟩) := by
          refine Lib.hid ⟨own_base P5.out (by omega), P3.out, fun k hk => ?_, fun k hk => ?_, fun k hk hk' => ?_, (fun k => w8.heap.size ≤ k ∧ k < w11.heap.size), rsp_lit (R := psR q xs n) HS12.out (by omega) (own_base P9.out (by omega)) (own_base P10.out (by omega)) (fun k hk hk' => ?_) (fun k hk => ?_) (fun k hk => ?_) ⟨by omega, by omega⟩, fun k hk => ⟨?_, fun e => ?_, fun e => ?_⟩⟩
          · have := (HL5.out k hk).2; omega
          · have := (HL3.out k hk).2; omega
          · have := (HL5.out k hk).1; have := (HL3.out k hk').2; omega
          · have := (HL9.out k hk).2; have := (HL10.out k hk').1; omega
          · have := HL9.out k hk; exact ⟨by omega, by omega, by omega⟩
          · have := HL10.out k hk; exact ⟨by omega, by omega, by omega⟩
          · exact ⟨by omega, by omega⟩
          · have := (HL5.out k e).2; omega
          · have := (HL3.out k e).2; omega
        have zc12 := fun k => cell_of_row _ _ k _ _ _ HC12.out
        have lc12 := (Array.getElem?_eq_some_iff.1 HC12.out).1
        have zr12 := fun k => cell_of_row _ _ k _ _ _ HR12.out
        have fr12 := fun k => frozen_of_row _ _ k _ _ HR12.out
        have lr12 := (Array.getElem?_eq_some_iff.1 HR12.out).1
        have hsz12 : w12.heap.size ≤ w12.heap.size := Nat.le_refl _
        have hb : w.heap.size + 1 < w2.heap.size := by omega
        rw [← hw12]
        clear hw12 hs12 zc11 fc11 lc11 zb8 lb8 zf8 lf8 zc8 fc8 lc8 zr8 fr8 lr8
        go_wp2
        refine bodyPost_ret (v := .tuple #[.agg #[.int .i64 q, .slice a5 n c5, .slice (some ⟨w10.heap.size, 0, none⟩) 1 1, .int .i64 (fQ q xs n), .slice a3 (fN q xs n) c3], .bool true]) (by simp [results, Try.results19, go_sem, *]) rfl ?_
        refine ⟨.slice a5 n c5, .slice (some ⟨w10.heap.size, 0, none⟩) 1 1, .slice a3 (fN q xs n) c3, ?_, ?_, ?_⟩
        · rw [N1.out, N0.out]
        · rw [N1.out]
          exact CZ.weak (CZ.set (CZ.set (CZ.set (CZ.set (CZ.set HCZ.out hb _) hb _) hb _) hb _) hb _) (by omega) (by rw [setCell_sz, setCell_sz, setCell_sz, setCell_sz, setCell_sz]; exact Nat.le_refl _)
        · exact ((((HX12.out.setCell hw0 _).setCell hw0 _).setCell hw0 _).setCell hw0 _).setCell hw0 _
      · have hss : psS q xs n = false := by
          rw [HPS.out]
          by_cases h1 : n ≤ 40
          · have h2 : ¬ fN q xs n ≤ 40 := fun h2 => hsm ⟨h1, h2⟩
            simp [h2]
          · simp [h1]
        have hpo : psOk q xs n = false := by rw [HPO.out, Hok.out, he, hss]; rfl
        have N0 := Lib.hid hpo
        have N1 := Lib.hid (HNO.out hpo)
        have hbig : (40 : Int) < (n : Int) ∨ (40 : Int) < (fN q xs n : Int) := by omega
        clear he hss hpo
        rcases hbig with hb1 | hb1
        all_goals go_upto_region 9 with fail
        all_goals
          go_wp2
          refine bodyPost_ret (v := .tuple #[.agg #[.int .i64 0, .slice none 0 0, .slice none 0 0, .int .i64 0, .slice none 0 0], .bool false]) (by simp [results, Try.results19, go_sem, *]) rfl ?_
          refine ⟨.slice none 0 0, .slice none 0 0, .slice none 0 0, ?_, ?_, ?_⟩
          · rw [N1.out, N0.out]
          · rw [N1.out]; exact cz_zero _ _ _ _
          · exact ((((HX8.out.setCell hw0 _).setCell hw0 _).setCell hw0 _).setCell hw0 _).setCell hw0 _
    · have hpo : psOk q xs n = true := by rw [HPO.out, Hok.out, he]; rfl
      have N0 := Lib.hid hpo
      have N1 := Lib.hid (HYE.out hpo he)
      clear he hpo
      go_wp2
      refine bodyPost_ret (v := .tuple #[.agg #[.int .i64 q, .slice a5 n c5, .slice none 0 0, .int .i64 (fQ q xs n), .slice a3 (fN q xs n) c3], .bool true]) (by simp [results, Try.results19, go_sem, *]) rfl ?_
      refine ⟨.slice a5 n c5, .slice none 0 0, .slice a3 (fN q xs n) c3, ?_, ?_, ?_⟩
      · rw [N1.out, N0.out]
      · rw [N1.out]
        have hb : w.heap.size + 1 < w2.heap.size := by omega
        have hz : (((((w8.setCell ⟨w.heap.size + 1, 0, none⟩ (.int .i64 q)).setCell ⟨w.heap.size + 1, 1, none⟩ (.slice a5 n c5)).setCell ⟨w.heap.size + 1, 2, none⟩ (.slice none 0 0)).setCell ⟨w.heap.size + 1, 3, none⟩ (.int .i64 (fQ q xs n))).setCell ⟨w.heap.size + 1, 4, none⟩ (.slice a3 (fN q xs n) c3)).heap.size = w8.heap.size := by rw [setCell_sz, setCell_sz, setCell_sz, setCell_sz, setCell_sz]
        refine ⟨?_, ?_, ?_, ?_, ?_, fun _ => False, rsp_none _ _ _ _, fun k h => h.elim⟩
        · have h9 := HO5b.out
          have hb4 : w.heap.size + 1 < w4.heap.size := by omega
          exact own_base (base := w4.heap.size) (own_set (own_set (own_set (own_set (own_set h9 hb4 _) hb4 _) hb4 _) hb4 _) hb4 _) (by omega)
        · have h9 := own_base HO3.out (base' := w2.heap.size) (Nat.le_refl _)
          exact own_base (base := w2.heap.size) (own_set (own_set (own_set (own_set (own_set h9 hb _) hb _) hb _) hb _) hb _) (by omega)
        · intro k hk
          rw [hz]
          have := (HL5.out k hk).2
          omega
        · intro k hk
          rw [hz]
          have := (HL3.out k hk).2
          omega
        · intro k hk hk'
          have := (HL5.out k hk).1
          have := (HL3.out k hk').2
          omega
      · exact ((((HX8.out.setCell hw0 _).setCell hw0 _).setCell hw0 _).setCell hw0 _).setCell hw0 _

end Go.Proofs.Ytchaanppoklapaa
