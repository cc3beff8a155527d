/- ApproximationMatrix: both sides for all arguments, the law. -/
import Derived.Test.YtnlhonlfkmpleaaRows
import Derived.Test.YtnlhonlfkmpleaaApm
import Derived.Test.YtnlhonlfkmpleaaWro
namespace Go.Proofs.Ytnlhonlfkmpleaa
open Go.RowKit Go.Lib
set_option linter.unusedVariables false
set_option linter.unusedSimpArgs false

theorem apx_facts {a b c d e f g h k : Int} (hA : Apx a b c d e f g h k = true) : 0 ≤ k ∧ k ≤ 8 ∧ Rg a b c d = true ∧ Rg e f g h = true := by
  unfold Apx at hA
  simp only [Bool.and_eq_true, beq_iff_eq, S16, Wn_iff] at hA
  obtain ⟨⟨⟨hk, ⟨⟨⟨⟨⟨⟨⟨h1, h2⟩, h3⟩, h4⟩, h5⟩, h6⟩, h7⟩, h8⟩⟩, hu⟩, hv⟩ := hA
  exact ⟨hk.1, hk.2, Rg_mk (by omega), Rg_mk (by omega)⟩
def apOk (U V : R4) (k : Int) : Bool := Apx U.a U.b U.c U.d V.a V.b V.c V.d k
def apN (U V : R4) (k : Int) : Nat := if apOk U V k then 4 else 0
def apL (U V : R4) (k : Int) : List Int := if apOk U V k then amC (lowX k.toNat U) (lowE k.toNat U) (lowX k.toNat V) (lowE k.toNat V) else []
theorem ap_len (U V : R4) (k : Int) : (apL U V k).length = apN U V k * 5 ∧ apN U V k ≤ 4 := by
  unfold apL apN
  cases apOk U V k
  · exact ⟨rfl, by decide⟩
  · exact ⟨rfl, by decide⟩

theorem approximationMatrix_all (U V : R4) (k : Int) (w : World) :
    Calls Try.prog 32 #[.agg #[.int .i64 U.a, .int .i64 U.b, .int .i64 U.c, .int .i64 U.d, .int .i64 V.a, .int .i64 V.b, .int .i64 V.c, .int .i64 V.d, .int .i64 k]] w fun en w' =>
      ∃ v, en = .returned (.tuple #[.agg #[.int .i64 (ifZ (apOk U V k) 2), .int .i64 (ifZ (apOk U V k) 2), v], .bool (apOk U V k)]) ∧ w'.ownsRow w.heap.size 34 5 v (apN U V k) (IL (apL U V k)) ∧ Ext w w' := by
  cases h : apOk U V k
  · have HN : Hid (apN U V k = 0 ∧ apL U V k = []) := by unfold Hid apN apL; rw [h]; exact ⟨rfl, rfl⟩
    have H0 := fun w' => Lib.hid (isValidApproximation_any U.a U.b U.c U.d V.a V.b V.c V.d k w')
    rw [show Apx U.a U.b U.c U.d V.a V.b V.c V.d k = false from h] at H0
    rw [HN.out.1, HN.out.2]
    clear h
    go_enter Try.func32, Try.ntmps32
    go_wp2_with fail
    refine ((H0 _).out).mono ?_
    rintro e w1 ⟨rfl, hx1⟩
    obtain ⟨hc1, hf1⟩ := hx1.cells
    have hz1 := hx1.size
    try simp at hz1
    have hs1_0 := sz2 (a := w.heap.size) (b := w1.heap.size) (by omega)
    go_wp2
    refine bodyPost_ret (v := .tuple #[.agg #[.int .i64 0, .int .i64 0, .slice none 0 0], .bool false]) (by simp [results, Try.results32, go_sem, *]) rfl ?_
    exact ⟨_, rfl, own_nil _ _ _ _, (by repeat (first | (with_reducible refine Ext.setCell ?_ (by first | (simp; done) | (simp; omega)) _) | with_reducible refine Ext.alloc ?_ _ | with_reducible refine Ext.drew ?_ | with_reducible refine Ext.drewN ?_ _ | with_reducible assumption | with_reducible exact Ext.refl _ | with_reducible refine Ext.trans ?_ (by with_reducible assumption)))⟩
  · have hA : Apx U.a U.b U.c U.d V.a V.b V.c V.d k = true := h
    obtain ⟨k0, k1, r1, r2⟩ := apx_facts hA
    obtain ⟨n, rfl⟩ : ∃ n : Nat, k = n := ⟨k.toNat, by omega⟩
    have e1 : apN U V n = 4 := by unfold apN; rw [h]; rfl
    have e2 : apL U V n = amC (lowX n U) (lowE n U) (lowX n V) (lowE n V) := by unfold apL; rw [h]; rfl
    rw [e1, e2]
    exact approximationMatrix_any U V n (by omega) r1 r2 hA w

set_option maxRecDepth 20000 in
set_option maxHeartbeats 2000000 in
theorem l27Matrix_any (U V : R4) (k : Nat) (hk : k ≤ 60) (hU : U.rg = true) (hV : V.rg = true) (w : World) :
    Calls Try.prog 71 #[.agg #[.int .i64 U.a, .int .i64 U.b, .int .i64 U.c, .int .i64 U.d, .int .i64 V.a, .int .i64 V.b, .int .i64 V.c, .int .i64 V.d, .int .i64 k]] w fun en w' =>
      ∃ v, en = .returned (.agg #[.int .i64 2, .int .i64 2, v]) ∧ w'.ownsRow w.heap.size 34 5 v 4 (IL (amC (lowX k U) (lowE k U) (lowX k V) (lowE k V))) ∧ Ext w w' := by
  have H1 := fun w' => Lib.hid (l2Low_any k hk U hU w')
  have H2 := fun w' => Lib.hid (l2Low_any k hk V hV w')
  have rX := rg_low k U hU
  have rY := rg_low k V hV
  simp only [R4.val] at H1 H2
  generalize lowX k U = X at *
  generalize lowE k U = e at *
  generalize lowX k V = Y at *
  generalize lowE k V = j at *
  have H3 := fun w' => Lib.hid (l2Conj_any X e rX w')
  have H4 := fun w' => Lib.hid (l2Conj_any Y j rY w')
  have H5 := fun w' => Lib.hid (l2Neg_any Y.conj j (rg_conj rY) w')
  clear rX rY hU hV
  unfold amC
  generalize Y.conj.neg = Z at *
  generalize Y.conj = Yc at *
  generalize X.conj = Xc at *
  go_enter Try.func71, Try.ntmps71
  go_wp2_with fail
  refine ((H1 _).out).mono ?_
  rintro e w1 ⟨rfl, hx1⟩
  obtain ⟨hc1, hf1⟩ := hx1.cells
  have hz1 := hx1.size
  try simp at hz1
  have hs1_0 := sz2 (a := w.heap.size) (b := w1.heap.size) (by omega)
  go_wp2_with fail
  refine ((H2 _).out).mono ?_
  rintro e w2 ⟨rfl, hx2⟩
  obtain ⟨hc2, hf2⟩ := hx2.cells
  have hz2 := hx2.size
  try simp at hz2
  have hs2_0 := sz2 (a := w.heap.size) (b := w2.heap.size) (by omega)
  have hs2_1 := sz1 (a := w1.heap.size) (b := w2.heap.size) (by omega)
  have hB3 : w2.heap[w1.heap.size]? = some (.cells #[.int .i64 X.a, .int .i64 X.b, .int .i64 X.c, .int .i64 X.d, .int .i64 e] 34 (0, 0)) := (hx2.heap (by simp)).trans (heap_alloc_new _ _)
  have hBr : w2.heap[w.heap.size + 1]? = some (.cells #[.int .i64 0, .int .i64 0, .slice none 0 0] 51 (0, 0)) := (hx2.heap (by simp; omega)).trans (heap_alloc_lt ((hx1.heap (by simp)).trans (heap_alloc_at _ _ _ (by simp))))
  have hE2 : Ext w w2 := (by repeat (first | exact Ext.refl _ | assumption | refine Ext.alloc ?_ _ | refine Ext.drew ?_ | refine Ext.drewN ?_ _ | refine Ext.setCell ?_ (by first | omega | (dsimp only; omega) | (simp; done) | (simp; omega)) _ | refine Ext.trans ?_ (by assumption)))
  go_wp2
  refine Wr.wp_region_wr (m := 24) [⟨w1.heap.size, 34, #[.int .i64 X.a, .int .i64 X.b, .int .i64 X.c, .int .i64 X.d, .int .i64 e]⟩, ⟨w2.heap.size, 34, #[.int .i64 Y.a, .int .i64 Y.b, .int .i64 Y.c, .int .i64 Y.d, .int .i64 j]⟩] (by kernel_rfl) (by kernel_rfl) rfl (by simp; try omega) ?_ ?_
  · intro s hs
    rcases s with _ | _ | s
    · exact (show (World.heap _)[w1.heap.size]? = some (Obj.cells #[.int .i64 X.a, .int .i64 X.b, .int .i64 X.c, .int .i64 X.d, .int .i64 e] 34 (0, 0)) from heap_alloc_lt hB3)
    · exact (show (World.heap _)[w2.heap.size]? = some (Obj.cells #[.int .i64 Y.a, .int .i64 Y.b, .int .i64 Y.c, .int .i64 Y.d, .int .i64 j] 34 (0, 0)) from heap_alloc_new _ _)
    · simp at hs
      try omega
  refine Wr.ww_read 0 (w1.heap.size) 34 #[.int .i64 X.a, .int .i64 X.b, .int .i64 X.c, .int .i64 X.d, .int .i64 e] (by simp) rfl rfl rfl (fun hr => ?_)
  apply Exists.intro
  refine ⟨?_, ?_⟩
  · go_simp
    (try intro x)
    (try go_bits)
    rfl
  clear hr
  simp only [Act.put, List.setIfInBounds_toArray, List.set_cons_succ, List.set_cons_zero, List.nil_append, List.cons_append]
  refine Wr.ww_read 1 (w2.heap.size) 34 #[.int .i64 Y.a, .int .i64 Y.b, .int .i64 Y.c, .int .i64 Y.d, .int .i64 j] (by simp) rfl rfl rfl (fun hr => ?_)
  apply Exists.intro
  refine ⟨?_, ?_⟩
  · go_simp
    (try intro x)
    (try go_bits)
    rfl
  clear hr
  simp only [Act.put, List.setIfInBounds_toArray, List.set_cons_succ, List.set_cons_zero, List.nil_append, List.cons_append]
  (refine Wr.ww_plain ?_; apply Exists.intro; refine ⟨?_, ?_⟩; (first | (go_simp; (try intro x); (try go_bits); rfl) | (go_simp; intro x; go_at_call 120; exact (H4 _).out)); simp only [Act.put, List.setIfInBounds_toArray, List.set_cons_succ, List.set_cons_zero, List.nil_append, List.cons_append])
  (refine Wr.ww_plain ?_; apply Exists.intro; refine ⟨?_, ?_⟩; (first | (go_simp; (try intro x); (try go_bits); rfl) | (go_simp; intro x; go_at_call 59; exact (H5 _).out)); simp only [Act.put, List.setIfInBounds_toArray, List.set_cons_succ, List.set_cons_zero, List.nil_append, List.cons_append])
  refine Wr.ww_read 1 (w2.heap.size) 34 #[.int .i64 Y.a, .int .i64 Y.b, .int .i64 Y.c, .int .i64 Y.d, .int .i64 j] (by simp) rfl rfl rfl (fun hr => ?_)
  apply Exists.intro
  refine ⟨?_, ?_⟩
  · go_simp
    (try intro x)
    (try go_bits)
    rfl
  clear hr
  simp only [Act.put, List.setIfInBounds_toArray, List.set_cons_succ, List.set_cons_zero, List.nil_append, List.cons_append]
  refine Wr.ww_read 0 (w1.heap.size) 34 #[.int .i64 X.a, .int .i64 X.b, .int .i64 X.c, .int .i64 X.d, .int .i64 e] (by simp) rfl rfl rfl (fun hr => ?_)
  apply Exists.intro
  refine ⟨?_, ?_⟩
  · go_simp
    (try intro x)
    (try go_bits)
    rfl
  clear hr
  simp only [Act.put, List.setIfInBounds_toArray, List.set_cons_succ, List.set_cons_zero, List.nil_append, List.cons_append]
  (refine Wr.ww_plain ?_; apply Exists.intro; refine ⟨?_, ?_⟩; (first | (go_simp; (try intro x); (try go_bits); rfl) | (go_simp; intro x; go_at_call 120; exact (H3 _).out)); simp only [Act.put, List.setIfInBounds_toArray, List.set_cons_succ, List.set_cons_zero, List.nil_append, List.cons_append])
  refine Wr.ww_stop (by kernel_rfl) (by kernel_rfl) (fun w3 hg3 hs3 => ?_)
  have hb3_0 : w3.heap[w1.heap.size]? = some (.cells #[.int .i64 X.a, .int .i64 X.b, .int .i64 X.c, .int .i64 X.d, .int .i64 e] 34 (0, 0)) := hs3 0 (by simp)
  have hb3_1 : w3.heap[w2.heap.size]? = some (.cells #[.int .i64 Y.a, .int .i64 Y.b, .int .i64 Y.c, .int .i64 Y.d, .int .i64 j] 34 (0, 0)) := hs3 1 (by simp)
  clear hs3
  simp only [List.map_cons, List.map_nil] at hg3
  have hR : w3.heap[w.heap.size + 1]? = some (.cells #[.int .i64 0, .int .i64 0, .slice none 0 0] 51 (0, 0)) := (hg3.heap (by simp; omega) (by simp; omega)).trans (heap_alloc_lt hBr)
  have hE3 : Ext w w3 := ((GX.ofExt (S := []) (hE2.alloc _)).join hg3 (by simp; omega)).toExt (by simp)
  have hl3 : w.heap.size + 1 < w3.heap.size := (Array.getElem?_eq_some_iff.1 hR).1
  have zR : ∀ k, w3.cell? ⟨w.heap.size + 1, k, none⟩ = (#[.int .i64 0, .int .i64 0, .slice none 0 0] : Array Value)[k]? := fun k => cell_of_row _ _ _ _ _ _ hR
  have fR : ∀ k, w3.frozen? ⟨w.heap.size + 1, k, none⟩ = false := fun k => frozen_of_row _ _ _ _ _ hR
  go_wp2
  refine bodyPost_ret (v := .agg #[.int .i64 2, .int .i64 2, .slice (some ⟨w3.heap.size, 0, none⟩) 4 4]) (by simp [results, Try.results71, go_sem, *]) rfl ?_
  exact ⟨_, rfl, own_base (own_lit2 (N := w3.heap.size) (by simp) (by decide) (by rfl) (by rfl)) (by omega), (by repeat (first | (with_reducible refine Ext.setCell ?_ (by first | (simp; done) | (simp; omega)) _) | with_reducible refine Ext.alloc ?_ _ | with_reducible refine Ext.drew ?_ | with_reducible refine Ext.drewN ?_ _ | with_reducible assumption | with_reducible exact Ext.refl _ | with_reducible refine Ext.trans ?_ (by with_reducible assumption)))⟩

theorem s_approximationMatrix_all (U V : R4) (k : Int) (w : World) :
    Calls Try.prog 30 #[.agg #[.int .i64 U.a, .int .i64 U.b, .int .i64 U.c, .int .i64 U.d, .int .i64 V.a, .int .i64 V.b, .int .i64 V.c, .int .i64 V.d, .int .i64 k]] w fun en w' =>
      ∃ v, en = .returned (.tuple #[.agg #[.int .i64 (ifZ (apOk U V k) 2), .int .i64 (ifZ (apOk U V k) 2), v], .bool (apOk U V k)]) ∧ w'.ownsRow w.heap.size 34 5 v (apN U V k) (IL (apL U V k)) ∧ Ext w w' := by
  have H0 := fun w' => Lib.hid (l27Valid_any U.a U.b U.c U.d V.a V.b V.c V.d k w')
  cases h : apOk U V k
  · have HN : Hid (apN U V k = 0 ∧ apL U V k = []) := by unfold Hid apN apL; rw [h]; exact ⟨rfl, rfl⟩
    rw [show Apx U.a U.b U.c U.d V.a V.b V.c V.d k = false from h] at H0
    rw [HN.out.1, HN.out.2]
    clear h
    go_enter Try.func30, Try.ntmps30
    go_wp2_with fail
    refine ((H0 _).out).mono ?_
    rintro e w1 ⟨rfl, hx1⟩
    obtain ⟨hc1, hf1⟩ := hx1.cells
    have hz1 := hx1.size
    try simp at hz1
    have hs1_0 := sz2 (a := w.heap.size) (b := w1.heap.size) (by omega)
    go_wp2
    refine bodyPost_ret (v := .tuple #[.agg #[.int .i64 0, .int .i64 0, .slice none 0 0], .bool false]) (by simp [results, Try.results30, go_sem, *]) rfl ?_
    exact ⟨_, rfl, own_nil _ _ _ _, (by repeat (first | (with_reducible refine Ext.setCell ?_ (by first | (simp; done) | (simp; omega)) _) | with_reducible refine Ext.alloc ?_ _ | with_reducible refine Ext.drew ?_ | with_reducible refine Ext.drewN ?_ _ | with_reducible assumption | with_reducible exact Ext.refl _ | with_reducible refine Ext.trans ?_ (by with_reducible assumption)))⟩
  · have hA : Apx U.a U.b U.c U.d V.a V.b V.c V.d k = true := h
    obtain ⟨k0, k1, r1, r2⟩ := apx_facts hA
    obtain ⟨n, rfl⟩ : ∃ n : Nat, k = n := ⟨k.toNat, by omega⟩
    have e1 : apN U V n = 4 := by unfold apN; rw [h]; rfl
    have e2 : apL U V n = amC (lowX n U) (lowE n U) (lowX n V) (lowE n V) := by unfold apL; rw [h]; rfl
    rw [e1, e2]
    rw [hA] at H0
    have HM := fun w' => Lib.hid (l27Matrix_any U V n (by omega) r1 r2 w')
    generalize amC (lowX n U) (lowE n U) (lowX n V) (lowE n V) = L at *
    clear h hA e1 e2
    go_enter Try.func30, Try.ntmps30
    go_wp2_with fail
    refine ((H0 _).out).mono ?_
    rintro e w1 ⟨rfl, hx1⟩
    obtain ⟨hc1, hf1⟩ := hx1.cells
    have hz1 := hx1.size
    try simp at hz1
    have hs1_0 := sz2 (a := w.heap.size) (b := w1.heap.size) (by omega)
    go_wp2_with fail
    refine (HM _).out.mono ?_
    rintro e w2 ⟨v, rfl, o2, hx2⟩
    obtain ⟨hc2, hf2⟩ := hx2.cells
    have hz2 := hx2.size
    try simp at hz2
    have hs2_0 := sz2 (a := w.heap.size) (b := w2.heap.size) (by omega)
    have O2 := Lib.hid o2
    obtain ⟨a', cap', rfl, q1, q2, q3⟩ := own_shape o2
    clear q3 o2
    go_wp2
    refine bodyPost_ret (v := .tuple #[.agg #[.int .i64 2, .int .i64 2, .slice a' 4 cap'], .bool true]) (by simp [results, Try.results30, go_sem, *]) rfl ?_
    exact ⟨_, rfl, own_base (own_set (own_set (own_set O2.out (by simp; omega) _) (by simp; omega) _) (by simp; omega) _) (by omega), (by repeat (first | (with_reducible refine Ext.setCell ?_ (by first | (simp; done) | (simp; omega)) _) | with_reducible refine Ext.alloc ?_ _ | with_reducible refine Ext.drew ?_ | with_reducible refine Ext.drewN ?_ _ | with_reducible assumption | with_reducible exact Ext.refl _ | with_reducible refine Ext.trans ?_ (by with_reducible assumption)))⟩

set_option maxHeartbeats 2000000 in
theorem law_ApproximationMatrix (a b c d e f g h k : Int) (w : World) :
    Calls Try.prog 8 #[.agg #[.int .i64 a, .int .i64 b, .int .i64 c, .int .i64 d, .int .i64 e, .int .i64 f, .int .i64 g, .int .i64 h, .int .i64 k]] w fun en w' => en = .returned (.bool true) ∧ Ext w w' := by
  obtain ⟨hl, hn⟩ := ap_len ⟨a, b, c, d⟩ ⟨e, f, g, h⟩ k
  have HT := Lib.hid (toApproximation_any a b c d e f g h k)
  have HI := Lib.hid (approximationMatrix_all ⟨a, b, c, d⟩ ⟨e, f, g, h⟩ k)
  have HS := Lib.hid (s_approximationMatrix_all ⟨a, b, c, d⟩ ⟨e, f, g, h⟩ k)
  unfold Hid at HI HS
  simp only at HI HS
  have HI := Lib.hid HI
  have HS := Lib.hid HS
  have HL := Lib.hid hl
  generalize apL ⟨a, b, c, d⟩ ⟨e, f, g, h⟩ k = xs at *
  generalize apN ⟨a, b, c, d⟩ ⟨e, f, g, h⟩ k = N at *
  generalize apOk ⟨a, b, c, d⟩ ⟨e, f, g, h⟩ k = ok at *
  generalize ifZ ok 2 = rr at *
  clear hl
  go_enter Try.func8, Try.ntmps8
  go_wp2_with fail
  refine (HT.out _).mono ?_
  rintro e w1 ⟨rfl, hx1⟩
  obtain ⟨hc1, hf1⟩ := hx1.cells
  have hz1 := hx1.size
  try simp at hz1
  have hs1_0 := sz1 (a := w.heap.size) (b := w1.heap.size) (by omega)
  go_wp2_with fail
  refine (HS.out _).mono ?_
  rintro en w2 ⟨v0, rfl, o0, hx2⟩
  obtain ⟨hc2, hf2⟩ := hx2.cells
  have hz2 := hx2.size
  try simp at hz2
  have hs2_0 := sz1 (a := w.heap.size) (b := w2.heap.size) (by omega)
  have O0 := Lib.hid o0
  obtain ⟨a0, cp0, rfl, _, _, _⟩ := own_shape o0
  clear o0
  go_wp2_with fail
  refine (HT.out _).mono ?_
  rintro e w3 ⟨rfl, hx3⟩
  obtain ⟨hc3, hf3⟩ := hx3.cells
  have hz3 := hx3.size
  try simp at hz3
  have hs3_0 := sz1 (a := w.heap.size) (b := w3.heap.size) (by omega)
  have hs3_1 := sz1 (a := w2.heap.size) (b := w3.heap.size) (by omega)
  go_wp2_with fail
  refine (HI.out _).mono ?_
  rintro en w4 ⟨v1, rfl, o1, hx4⟩
  obtain ⟨hc4, hf4⟩ := hx4.cells
  have hz4 := hx4.size
  try simp at hz4
  have hs4_0 := sz1 (a := w.heap.size) (b := w4.heap.size) (by omega)
  have hs4_1 := sz1 (a := w2.heap.size) (b := w4.heap.size) (by omega)
  have O1 := Lib.hid o1
  obtain ⟨a1, cp1, rfl, _, _, _⟩ := own_shape o1
  clear o1
  have O2 := Lib.hid (own_ext (own_ext (own_ext O0.out ((Ext.refl w2).alloc _)) hx3) hx4)
  go_wp2_with fail
  refine (eqMatrix_same rr rr HL.out (by omega) _ (own_ext O1.out ((Ext.refl w4).alloc _)) (own_ext O2.out ((Ext.refl w4).alloc _))).mono ?_
  rintro en w5 ⟨rfl, hx5⟩
  obtain ⟨hc5, hf5⟩ := hx5.cells
  have hz5 := hx5.size
  try simp at hz5
  have hs5_0 := sz1 (a := w.heap.size) (b := w5.heap.size) (by omega)
  have hs5_1 := sz1 (a := w2.heap.size) (b := w5.heap.size) (by omega)
  have hs5_2 := sz1 (a := w4.heap.size) (b := w5.heap.size) (by omega)
  have O3 := Lib.hid (own_ext (own_ext O1.out ((Ext.refl w4).alloc _)) hx5)
  have hB3 : w3.heap[w2.heap.size]? = some (.cells #[.int .i64 rr, .int .i64 rr, .slice a0 N cp0] 51 (0, 0)) := (hx3.heap (by simp)).trans (heap_alloc_new _ _)
  have hBA : w3.heap[w.heap.size]? = some (.cells #[.int .i64 a, .int .i64 b, .int .i64 c, .int .i64 d, .int .i64 e, .int .i64 f, .int .i64 g, .int .i64 h, .int .i64 k] 48 (0, 0)) := (hx3.heap (by simp; omega)).trans (heap_alloc_lt ((hx2.heap (by omega)).trans ((hx1.heap (by simp)).trans (heap_alloc_new _ _))))
  have hB5 : w5.heap[w4.heap.size]? = some (.cells #[.int .i64 rr, .int .i64 rr, .slice a1 N cp1] 51 (0, 0)) := (hx5.heap (by simp)).trans (heap_alloc_new _ _)
  go_wp2_with fail
  refine (markMatrix_any rr rr (by rw [il_length]; exact HL.out) (by omega) 1 (by omega) _ O3.out).mono ?_
  rintro en w6 ⟨rfl, o4, hg6⟩
  have O4 := Lib.hid o4
  clear o4
  have hv1 : ∀ k, (Value.slice a1 N cp1).ownBlock = some k → w3.heap.size ≤ k ∧ k < w4.heap.size := fun k hk => O1.out.lt k hk
  have hE35 : Ext w3 (w5.alloc (.cells #[.int .i64 rr, .int .i64 rr, .slice a1 N cp1] 51)) := (by repeat (first | exact Ext.refl _ | assumption | refine Ext.alloc ?_ _ | refine Ext.drew ?_ | refine Ext.drewN ?_ _ | refine Ext.setCell ?_ (by first | omega | (dsimp only; omega) | (simp; done) | (simp; omega)) _ | refine Ext.trans ?_ (by assumption)))
  have hE36 : Ext w3 w6 := Ext.grown hE35 hg6 (fun k hk => (hv1 k hk).1)
  have hE3 : Ext w w3 := (by repeat (first | exact Ext.refl _ | assumption | refine Ext.alloc ?_ _ | refine Ext.drew ?_ | refine Ext.drewN ?_ _ | refine Ext.setCell ?_ (by first | omega | (dsimp only; omega) | (simp; done) | (simp; omega)) _ | refine Ext.trans ?_ (by assumption)))
  have hE6 : Ext w w6 := hE3.trans hE36
  have hB3' : w6.heap[w2.heap.size]? = some (.cells #[.int .i64 rr, .int .i64 rr, .slice a0 N cp0] 51 (0, 0)) := (hE36.heap (Array.getElem?_eq_some_iff.1 hB3).1).trans hB3
  have hBA' : w6.heap[w.heap.size]? = some (.cells #[.int .i64 a, .int .i64 b, .int .i64 c, .int .i64 d, .int .i64 e, .int .i64 f, .int .i64 g, .int .i64 h, .int .i64 k] 48 (0, 0)) := (hE36.heap (Array.getElem?_eq_some_iff.1 hBA).1).trans hBA
  have hB5' : w6.heap[w4.heap.size]? = some (.cells #[.int .i64 rr, .int .i64 rr, .slice a1 N cp1] 51 (0, 0)) := (hg6.block _ (by simp; have := (Array.getElem?_eq_some_iff.1 hB5).1; omega) (fun e => by have := (hv1 _ e.symm).2; omega)).trans (heap_alloc_lt hB5)
  have O5 := Lib.hid (own_ext (own_ext (own_ext O0.out ((Ext.refl w2).alloc _)) hx3) hE36)
  clear hB3 hBA hB5 hg6 hc1 hf1 hc2 hf2 hc3 hf3 hc4 hf4 hc5 hf5 O0 O1 O2 O3
  have zA : ∀ k', w6.cell? ⟨w.heap.size, k', none⟩ = (#[.int .i64 a, .int .i64 b, .int .i64 c, .int .i64 d, .int .i64 e, .int .i64 f, .int .i64 g, .int .i64 h, .int .i64 k] : Array Value)[k']? := fun k => cell_of_row _ _ _ _ _ _ hBA'
  have z3 : ∀ k, w6.cell? ⟨w2.heap.size, k, none⟩ = (#[.int .i64 rr, .int .i64 rr, .slice a0 N cp0] : Array Value)[k]? := fun k => cell_of_row _ _ _ _ _ _ hB3'
  have z5 : ∀ k, w6.cell? ⟨w4.heap.size, k, none⟩ = (#[.int .i64 rr, .int .i64 rr, .slice a1 N cp1] : Array Value)[k]? := fun k => cell_of_row _ _ _ _ _ _ hB5'
  have lA : w.heap.size < w6.heap.size := (Array.getElem?_eq_some_iff.1 hBA').1
  have l3 : w2.heap.size < w6.heap.size := (Array.getElem?_eq_some_iff.1 hB3').1
  have l5 : w4.heap.size < w6.heap.size := (Array.getElem?_eq_some_iff.1 hB5').1
  clear hBA' hB3' hB5'
  go_wp2_with fail
  refine (heldMatrix_any rr rr (by omega) 1 (by omega) _ O4.out).mono ?_
  rintro en w7 ⟨rfl, hx7⟩
  obtain ⟨hc7, hf7⟩ := hx7.cells
  have hz7 := hx7.size
  try simp at hz7
  have lA7 : w.heap.size < w7.heap.size := by omega
  have l37 : w2.heap.size < w7.heap.size := by omega
  have l57 : w4.heap.size < w7.heap.size := by omega
  have O6 := Lib.hid (own_ext O4.out hx7)
  go_wp2_with fail
  refine (HT.out _).mono ?_
  rintro e w8 ⟨rfl, hx8⟩
  obtain ⟨hc8, hf8⟩ := hx8.cells
  have hz8 := hx8.size
  try simp at hz8
  have lA8 : w.heap.size < w8.heap.size := by omega
  have l38 : w2.heap.size < w8.heap.size := by omega
  have l58 : w4.heap.size < w8.heap.size := by omega
  go_wp2_with fail
  refine (HI.out _).mono ?_
  rintro en w9 ⟨v2, rfl, o6, hx9⟩
  obtain ⟨hc9, hf9⟩ := hx9.cells
  have hz9 := hx9.size
  try simp at hz9
  have lA9 : w.heap.size < w9.heap.size := by omega
  have l39 : w2.heap.size < w9.heap.size := by omega
  have l59 : w4.heap.size < w9.heap.size := by omega
  have O7 := Lib.hid o6
  obtain ⟨a2, cp2, rfl, _, _, _⟩ := own_shape o6
  clear o6
  have hx79 : Ext w6 w9 := (hx7.trans hx8).trans hx9
  have O8 := Lib.hid (own_ext (own_ext O5.out hx79) ((Ext.refl w9).alloc (.cells #[.int .i64 rr, .int .i64 rr, .slice a2 N cp2] 51)))
  go_wp2_with fail
  refine (eqMatrix_same rr rr HL.out (by omega) _ (own_ext O7.out ((Ext.refl w9).alloc _)) O8.out).mono ?_
  rintro en w10 ⟨rfl, hx10⟩
  obtain ⟨hc10, hf10⟩ := hx10.cells
  have hz10 := hx10.size
  try simp at hz10
  have hs10_0 := sz1 (a := w9.heap.size) (b := w10.heap.size) (by omega)
  have lA10 : w.heap.size < w10.heap.size := by omega
  have l310 : w2.heap.size < w10.heap.size := by omega
  have l510 : w4.heap.size < w10.heap.size := by omega
  have O9 := Lib.hid (own_ext (own_ext (own_ext (own_ext O6.out hx8) hx9) ((Ext.refl w9).alloc _)) hx10)
  go_wp2_with fail
  refine (heldMatrix_any rr rr (by omega) 1 (by omega) _ O9.out).mono ?_
  rintro en w11 ⟨rfl, hx11⟩
  have hEnd : Ext w w11 := (((hE6.trans hx79).alloc _).trans hx10).trans hx11
  go_wp2
  go_ret
  exact ⟨rfl, hEnd⟩

end Go.Proofs.Ytnlhonlfkmpleaa
