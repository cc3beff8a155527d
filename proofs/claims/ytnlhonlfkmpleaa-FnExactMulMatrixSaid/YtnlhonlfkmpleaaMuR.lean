/- MulMatrix: the reference's side. -/
import Derived.Test.YtnlhonlfkmpleaaMuS
namespace Go.Proofs.Ytnlhonlfkmpleaa
open Go.RowKit Go.Lib
set_option linter.unusedVariables false
set_option linter.unusedSimpArgs false

theorem matrix_good (bc : Nat) (r c : Int) (a : Option Addr) (n cap : Nat) (w : World) (h : w.heap[bc]? = some (.cells #[.bool false] 84 (0, 0))) :
    Calls Try.prog 80 #[.pointer (some ⟨bc, 0, none⟩), .agg #[.int .i64 r, .int .i64 c, .slice a n cap]] w fun en w' => en = .returned (.tuple #[.agg #[.int .i64 r, .int .i64 c, .slice a n cap], .bool true]) ∧ Ext w w' := by
  have hl : bc < w.heap.size := (Array.getElem?_eq_some_iff.1 h).1
  have z : ∀ k, w.cell? ⟨bc, k, none⟩ = (#[.bool false] : Array Value)[k]? := fun k => cell_of_row _ _ _ _ _ _ h
  clear h
  go_enter Try.func80, Try.ntmps80
  go_wp2
  refine bodyPost_ret (v := .tuple #[.agg #[.int .i64 r, .int .i64 c, .slice a n cap], .bool true]) (by simp [results, Try.results80, go_sem, *]) rfl ?_
  exact ⟨rfl, (by repeat (first | (with_reducible refine Ext.setCell ?_ (by first | (simp; done) | (simp; omega)) _) | with_reducible refine Ext.alloc ?_ _ | with_reducible refine Ext.drew ?_ | with_reducible refine Ext.drewN ?_ _ | with_reducible assumption | with_reducible exact Ext.refl _ | with_reducible refine Ext.trans ?_ (by with_reducible assumption)))⟩
theorem matrix_bad (bc : Nat) (r c : Int) (a : Option Addr) (n cap : Nat) (w : World) (h : w.heap[bc]? = some (.cells #[.bool true] 84 (0, 0))) :
    Calls Try.prog 80 #[.pointer (some ⟨bc, 0, none⟩), .agg #[.int .i64 r, .int .i64 c, .slice a n cap]] w fun en w' => en = .returned (.tuple #[.agg #[.int .i64 0, .int .i64 0, .slice none 0 0], .bool false]) ∧ Ext w w' := by
  have hl : bc < w.heap.size := (Array.getElem?_eq_some_iff.1 h).1
  have z : ∀ k, w.cell? ⟨bc, k, none⟩ = (#[.bool true] : Array Value)[k]? := fun k => cell_of_row _ _ _ _ _ _ h
  clear h
  go_enter Try.func80, Try.ntmps80
  go_wp2
  refine bodyPost_ret (v := .tuple #[.agg #[.int .i64 0, .int .i64 0, .slice none 0 0], .bool false]) (by simp [results, Try.results80, go_sem, *]) rfl ?_
  exact ⟨rfl, (by repeat (first | (with_reducible refine Ext.setCell ?_ (by first | (simp; done) | (simp; omega)) _) | with_reducible refine Ext.alloc ?_ _ | with_reducible refine Ext.drew ?_ | with_reducible refine Ext.drewN ?_ _ | with_reducible assumption | with_reducible exact Ext.refl _ | with_reducible refine Ext.trans ?_ (by with_reducible assumption)))⟩

set_option maxRecDepth 20000 in
set_option maxHeartbeats 4000000 in
theorem s_mulMatrix_any (r c r' c' : Int) {v1 v2 : Value} {n m : Nat} {xs ys : List Int} (hn : n ≤ 2000000) (hm : m ≤ 2000000) (w : World) (h1 : RV w 5 v1 n xs) (h2 : RV w 5 v2 m ys) :
    Calls Try.prog 43 #[.agg #[.int .i64 r, .int .i64 c, v1], .agg #[.int .i64 r', .int .i64 c', v2]] w fun en w' => ∃ v, en = .returned (.tuple #[.agg #[.int .i64 (ifZ (mmOkM r c n xs r' c' m ys) r), .int .i64 (ifZ (mmOkM r c n xs r' c' m ys) c'), v], .bool (mmOkM r c n xs r' c' m ys)]) ∧
      w'.ownsRow w.heap.size 34 5 v (ifN (mmOkM r c n xs r' c' m ys) (r.toNat * c'.toNat)) (IL (ifL (mmOkM r c n xs r' c' m ys) (mmLM xs ys c.toNat c'.toNat (r.toNat * c'.toNat)))) ∧ Ext w w' := by
  have HV1 := fun w' (hx : Ext w w') => Lib.hid (l3Good_any r c w' (h1.ext hx))
  have HV2 := fun w' (hx : Ext w w') => Lib.hid (l3Good_any r' c' w' (h2.ext hx))
  have HO : Hid (mmOkM r c n xs r' c' m ys = ((mGood r c n xs && (mGood r' c' m ys && (c == r'))) && mmTo xs ys c.toNat c'.toNat (r.toNat * c'.toNat))) := rfl
  have R1 := Lib.hid h1
  have R2' := Lib.hid h2
  obtain ⟨_, a1, cap1, rfl, _⟩ := h1
  obtain ⟨_, a2, cap2, rfl, _⟩ := h2
  cases g1 : mGood r c n xs
  · rw [g1] at HV1 HO
    have HF : Hid (mmOkM r c n xs r' c' m ys = false) := HO.out.trans (by simp)
    go_enter Try.func43, Try.ntmps43
    go_wp2_with fail
    refine ((HV1 _ (by repeat (first | exact Ext.refl _ | assumption | refine Ext.alloc ?_ _ | refine Ext.drew ?_ | refine Ext.drewN ?_ _ | refine Ext.setCell ?_ (by first | omega | (dsimp only; omega) | (simp; done) | (simp; omega)) _ | refine Ext.trans ?_ (by assumption)))).out).mono ?_
    rintro e w1 ⟨rfl, hx1⟩
    obtain ⟨hc1, hf1⟩ := hx1.cells
    have hz1 := hx1.size
    try simp at hz1
    have hs1_0 := sz3 (a := w.heap.size) (b := w1.heap.size) (by omega)
    go_wp2
    refine bodyPost_ret (v := .tuple #[.agg #[.int .i64 0, .int .i64 0, .slice none 0 0], .bool false]) (by simp [results, Try.results43, go_sem, *]) rfl ?_
    rw [HF.out]
    exact ⟨_, rfl, own_nil _ _ _ _, (by repeat (first | (with_reducible refine Ext.setCell ?_ (by first | (simp; done) | (simp; omega)) _) | with_reducible refine Ext.alloc ?_ _ | with_reducible refine Ext.drew ?_ | with_reducible refine Ext.drewN ?_ _ | with_reducible assumption | with_reducible exact Ext.refl _ | with_reducible refine Ext.trans ?_ (by with_reducible assumption)))⟩
  cases g2 : mGood r' c' m ys
  · rw [g1] at HV1 HO
    rw [g2] at HV2 HO
    have HF : Hid (mmOkM r c n xs r' c' m ys = false) := HO.out.trans (by simp)
    go_enter Try.func43, Try.ntmps43
    go_wp2_with fail
    refine ((HV1 _ (by repeat (first | exact Ext.refl _ | assumption | refine Ext.alloc ?_ _ | refine Ext.drew ?_ | refine Ext.drewN ?_ _ | refine Ext.setCell ?_ (by first | omega | (dsimp only; omega) | (simp; done) | (simp; omega)) _ | refine Ext.trans ?_ (by assumption)))).out).mono ?_
    rintro e w1 ⟨rfl, hx1⟩
    obtain ⟨hc1, hf1⟩ := hx1.cells
    have hz1 := hx1.size
    try simp at hz1
    have hs1_0 := sz3 (a := w.heap.size) (b := w1.heap.size) (by omega)
    go_wp2_with fail
    refine ((HV2 _ (by repeat (first | exact Ext.refl _ | assumption | refine Ext.alloc ?_ _ | refine Ext.drew ?_ | refine Ext.drewN ?_ _ | refine Ext.setCell ?_ (by first | omega | (dsimp only; omega) | (simp; done) | (simp; omega)) _ | refine Ext.trans ?_ (by assumption)))).out).mono ?_
    rintro e w2 ⟨rfl, hx2⟩
    obtain ⟨hc2, hf2⟩ := hx2.cells
    have hz2 := hx2.size
    try simp at hz2
    have hs2_0 := sz3 (a := w.heap.size) (b := w2.heap.size) (by omega)
    go_wp2
    refine bodyPost_ret (v := .tuple #[.agg #[.int .i64 0, .int .i64 0, .slice none 0 0], .bool false]) (by simp [results, Try.results43, go_sem, *]) rfl ?_
    rw [HF.out]
    exact ⟨_, rfl, own_nil _ _ _ _, (by repeat (first | (with_reducible refine Ext.setCell ?_ (by first | (simp; done) | (simp; omega)) _) | with_reducible refine Ext.alloc ?_ _ | with_reducible refine Ext.drew ?_ | with_reducible refine Ext.drewN ?_ _ | with_reducible assumption | with_reducible exact Ext.refl _ | with_reducible refine Ext.trans ?_ (by with_reducible assumption)))⟩
  by_cases g3 : c = r'
  case neg =>
    rw [g1] at HV1 HO
    rw [g2] at HV2 HO
    have HF : Hid (mmOkM r c n xs r' c' m ys = false) := HO.out.trans (by simp [g3])
    go_enter Try.func43, Try.ntmps43
    go_wp2_with fail
    refine ((HV1 _ (by repeat (first | exact Ext.refl _ | assumption | refine Ext.alloc ?_ _ | refine Ext.drew ?_ | refine Ext.drewN ?_ _ | refine Ext.setCell ?_ (by first | omega | (dsimp only; omega) | (simp; done) | (simp; omega)) _ | refine Ext.trans ?_ (by assumption)))).out).mono ?_
    rintro e w1 ⟨rfl, hx1⟩
    obtain ⟨hc1, hf1⟩ := hx1.cells
    have hz1 := hx1.size
    try simp at hz1
    have hs1_0 := sz3 (a := w.heap.size) (b := w1.heap.size) (by omega)
    go_wp2_with fail
    refine ((HV2 _ (by repeat (first | exact Ext.refl _ | assumption | refine Ext.alloc ?_ _ | refine Ext.drew ?_ | refine Ext.drewN ?_ _ | refine Ext.setCell ?_ (by first | omega | (dsimp only; omega) | (simp; done) | (simp; omega)) _ | refine Ext.trans ?_ (by assumption)))).out).mono ?_
    rintro e w2 ⟨rfl, hx2⟩
    obtain ⟨hc2, hf2⟩ := hx2.cells
    have hz2 := hx2.size
    try simp at hz2
    have hs2_0 := sz3 (a := w.heap.size) (b := w2.heap.size) (by omega)
    go_wp2
    refine bodyPost_ret (v := .tuple #[.agg #[.int .i64 0, .int .i64 0, .slice none 0 0], .bool false]) (by simp [results, Try.results43, go_sem, *]) rfl ?_
    rw [HF.out]
    exact ⟨_, rfl, own_nil _ _ _ _, (by repeat (first | (with_reducible refine Ext.setCell ?_ (by first | (simp; done) | (simp; omega)) _) | with_reducible refine Ext.alloc ?_ _ | with_reducible refine Ext.drew ?_ | with_reducible refine Ext.drewN ?_ _ | with_reducible assumption | with_reducible exact Ext.refl _ | with_reducible refine Ext.trans ?_ (by with_reducible assumption)))⟩
  subst g3
  rw [g1] at HV1 HO
  rw [g2] at HV2 HO
  simp only [beq_self_eq_true, Bool.true_and] at HO
  obtain ⟨d1, d2, e1, mx⟩ := mGood_facts g1
  obtain ⟨_, d3, e2, my⟩ := mGood_facts g2
  obtain ⟨R, rfl⟩ := nat_of_dim d1
  obtain ⟨K, rfl⟩ := nat_of_dim d2
  obtain ⟨C, rfl⟩ := nat_of_dim d3
  obtain rfl : n = R * K := by exact_mod_cast e1
  obtain rfl : m = K * C := by exact_mod_cast e2
  have bR := dim_bd d1
  have bK := dim_bd d2
  have bC := dim_bd d3
  simp only [Int.toNat_natCast] at HO ⊢
  have HT := fun (bc : Nat) (w' : World) (hx : Ext w w') (hbc : w.heap.size ≤ bc) h => Lib.hid (times_any bc R K C (by omega) (by omega) (by omega) mx my w w' R1.out R2'.out hx hbc h)
  clear mx my e1 e2 g1 g2 d1 d2 d3 R1 R2'
  go_enter Try.func43, Try.ntmps43
  go_wp2_with fail
  refine ((HV1 _ (by repeat (first | exact Ext.refl _ | assumption | refine Ext.alloc ?_ _ | refine Ext.drew ?_ | refine Ext.drewN ?_ _ | refine Ext.setCell ?_ (by first | omega | (dsimp only; omega) | (simp; done) | (simp; omega)) _ | refine Ext.trans ?_ (by assumption)))).out).mono ?_
  rintro e w1 ⟨rfl, hx1⟩
  obtain ⟨hc1, hf1⟩ := hx1.cells
  have hz1 := hx1.size
  try simp at hz1
  have hs1_0 := sz3 (a := w.heap.size) (b := w1.heap.size) (by omega)
  go_wp2_with fail
  refine ((HV2 _ (by repeat (first | exact Ext.refl _ | assumption | refine Ext.alloc ?_ _ | refine Ext.drew ?_ | refine Ext.drewN ?_ _ | refine Ext.setCell ?_ (by first | omega | (dsimp only; omega) | (simp; done) | (simp; omega)) _ | refine Ext.trans ?_ (by assumption)))).out).mono ?_
  rintro e w2 ⟨rfl, hx2⟩
  obtain ⟨hc2, hf2⟩ := hx2.cells
  have hz2 := hx2.size
  try simp at hz2
  have hs2_0 := sz3 (a := w.heap.size) (b := w2.heap.size) (by omega)
  have hb3 : w2.heap[w.heap.size + 1 + 1]? = some (.cells #[.int .i64 0, .int .i64 0, .slice none 0 0] 51 (0, 0)) := (hx2.heap (by omega)).trans ((hx1.heap (by simp <;> omega)).trans (heap_alloc_at _ _ _ (by simp)))
  have l3 : w.heap.size + 1 + 1 < w2.heap.size := (Array.getElem?_eq_some_iff.1 hb3).1
  have hE2 : Ext w w2 := (by repeat (first | (with_reducible refine Ext.setCell ?_ (by first | (simp; done) | (simp; omega)) _) | with_reducible refine Ext.alloc ?_ _ | with_reducible refine Ext.drew ?_ | with_reducible refine Ext.drewN ?_ _ | with_reducible assumption | with_reducible exact Ext.refl _ | with_reducible refine Ext.trans ?_ (by with_reducible assumption)))
  go_wp2_with fail
  refine (HT w2.heap.size _ (hE2.alloc _) (by omega) (heap_alloc_new _ _)).out.mono ?_
  rintro e w3 ⟨a', cap', β, L, rfl, o3, hc3, hg3, hT, hF⟩
  have hE3 : Ext w2 w3 := ((GX.refl [w2.heap.size] w2).alloc _ |>.trans hg3).toExt (by simp)
  have hW : Ext w w3 := hE2.trans hE3
  have hb3' := heap_keepE hE3 hb3
  have O3 := Lib.hid (own_base (base' := w2.heap.size) o3 (by simp))
  have HTT := Lib.hid hT
  have HFF := Lib.hid hF
  have HC3 := Lib.hid hc3
  clear o3 hT hF hc3 hg3 HT HV1 HV2 hc1 hf1 hc2 hf2
  cases β
  · obtain ⟨t1, t2⟩ := HTT.out rfl
    have HOT : Hid (mmOkM R K (R * K) xs K C (K * C) ys = true) := HO.out.trans t1
    have HLL := Lib.hid t2
    clear t1 t2
    go_wp2_with fail
    refine (matrix_good w2.heap.size R C a' (R * C) cap' _ HC3.out).mono ?_
    rintro e w5 ⟨rfl, hx5⟩
    have hE5 : Ext w w5 := hW.trans hx5
    have HW5 := Lib.hid (own_ext O3.out hx5)
    have hb5 := heap_keepE hx5 hb3'
    have hlr5 := (Array.getElem?_eq_some_iff.1 hb5).1
    have zr5 : ∀ k, w5.cell? ⟨w.heap.size + 1 + 1, k, none⟩ = (#[.int .i64 0, .int .i64 0, .slice none 0 0] : Array Value)[k]? := fun k => cell_of_row _ _ _ _ _ _ hb5
    have fr5 : ∀ k, w5.frozen? ⟨w.heap.size + 1 + 1, k, none⟩ = false := fun k => frozen_of_row _ _ _ _ _ hb5
    go_wp2
    refine bodyPost_ret (v := .tuple #[.agg #[.int .i64 R, .int .i64 C, .slice a' (R * C) cap'], .bool true]) (by simp [results, Try.results43, go_sem, *]) rfl ?_
    rw [HOT.out, ← HLL.out]
    exact ⟨_, rfl, own_base (own_set (own_set (own_set HW5.out (by simp; omega) _) (by simp; omega) _) (by simp; omega) _) (by omega), (by repeat (first | (with_reducible refine Ext.setCell ?_ (by first | (simp; done) | (simp; omega)) _) | with_reducible refine Ext.alloc ?_ _ | with_reducible refine Ext.drew ?_ | with_reducible refine Ext.drewN ?_ _ | with_reducible assumption | with_reducible exact Ext.refl _ | with_reducible refine Ext.trans ?_ (by with_reducible assumption)))⟩
  · have HOT : Hid (mmOkM R K (R * K) xs K C (K * C) ys = false) := HO.out.trans (HFF.out rfl)
    go_wp2_with fail
    refine (matrix_bad w2.heap.size R C a' (R * C) cap' _ HC3.out).mono ?_
    rintro e w5 ⟨rfl, hx5⟩
    have hE5 : Ext w w5 := hW.trans hx5
    have hb5 := heap_keepE hx5 hb3'
    have hlr5 := (Array.getElem?_eq_some_iff.1 hb5).1
    have zr5 : ∀ k, w5.cell? ⟨w.heap.size + 1 + 1, k, none⟩ = (#[.int .i64 0, .int .i64 0, .slice none 0 0] : Array Value)[k]? := fun k => cell_of_row _ _ _ _ _ _ hb5
    have fr5 : ∀ k, w5.frozen? ⟨w.heap.size + 1 + 1, k, none⟩ = false := fun k => frozen_of_row _ _ _ _ _ hb5
    go_wp2
    refine bodyPost_ret (v := .tuple #[.agg #[.int .i64 0, .int .i64 0, .slice none 0 0], .bool false]) (by simp [results, Try.results43, go_sem, *]) rfl ?_
    rw [HOT.out]
    exact ⟨_, rfl, own_nil _ _ _ _, (by repeat (first | (with_reducible refine Ext.setCell ?_ (by first | (simp; done) | (simp; omega)) _) | with_reducible refine Ext.alloc ?_ _ | with_reducible refine Ext.drew ?_ | with_reducible refine Ext.drewN ?_ _ | with_reducible assumption | with_reducible exact Ext.refl _ | with_reducible refine Ext.trans ?_ (by with_reducible assumption)))⟩

end Go.Proofs.Ytnlhonlfkmpleaa
