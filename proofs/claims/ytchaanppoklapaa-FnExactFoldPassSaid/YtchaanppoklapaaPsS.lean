/- The folding pass: the reference's side. -/
import Derived.Test.YtchaanppoklapaaPsL
import Derived.Test.YtchaanppoklapaaFpS
import Derived.Test.YtchaanppoklapaaCgP
import Derived.Test.YtchaanppoklapaaCgK
namespace Go.Proofs.Ytchaanppoklapaa
open Go.RowKit Go.Lib
set_option linter.unusedVariables false
set_option linter.unusedSimpArgs false

theorem ne_own {w : World} {B : Nat} {s1 s2 : Value} {t : Int} {base n : Nat} {v : Value} {xs : List Value} (hB : w.heap[B]? = some (.cells #[.int .i64 t, s1, s2] 81 (0, 0))) (o : w.ownsRow base 72 3 v n xs) {k : Nat} (hk : v.ownBlock = some k) (e : k = B) : False := by
  subst e
  rcases o.2 with hn | ⟨g, cap, cur, hv, hb, hg, r⟩
  · rw [hn.1] at hk; cases hk
  · rw [hv] at hk
    cases hk
    rw [hB] at hg
    injection hg with hg
    injection hg with _ h2 _
    cases h2

set_option maxRecDepth 20000 in
set_option maxHeartbeats 8000000 in
theorem s_foldPass_any (q : Int) {v : Value} {n : Nat} {xs : List Int} (hn : n ≤ 2000000) (w : World) (h : RV w 3 v n xs) :
    Calls Try.prog 18 #[.agg #[.int .i64 q, v]] w fun e w' => ∃ x1 x3 x2, e = .returned (.tuple #[.agg #[.int .i64 (psC q xs n).q1, x1, x3, .int .i64 (psC q xs n).q2, x2], .bool (psOk q xs n)]) ∧
      CZ w' w.heap.size w'.heap.size x1 x3 x2 (psC q xs n) ∧ Ext w w' := by
  have hfn := fN_le q xs n
  have HFL := Lib.hid (fL_len q xs n)
  have HFP := fun w' (hx : Ext w w') => Lib.hid (s_foldPhases_any q hn w' (h.ext hx))
  have HOW := fun w' (hx : Ext w w') => Lib.hid (l4Own_any q hn w' (h.ext hx))
  have HVC := fun w' (hx : Ext w w') => h.ext hx
  have HEQ := fun w' v2 (hx : Ext w w') (h2 : RV w' 3 v2 (fN q xs n) (fL q xs n)) => Lib.hid (s_equalCircuits_any q (fQ q xs n) hn (by omega : fN q xs n ≤ 2000000) w' (h.ext hx) h2)
  have HCL1 := fun w' (hx : Ext w w') => Lib.hid (clonePs_any hn w' (h.ext hx))
  have HCL2 := fun w' v2 (h2 : RV w' 3 v2 (fN q xs n) (fL q xs n)) => Lib.hid (clonePs_any (by omega : fN q xs n ≤ 2000000) w' h2)
  have HPO : Hid (psOk q xs n = (fOk q xs n && (psE q xs n || psS q xs n))) := rfl
  have HPE : Hid (psE q xs n = eqC q n xs (fQ q xs n) (fN q xs n) (fL q xs n)) := rfl
  have HPS : Hid (psS q xs n = (decide (n ≤ 40) && decide (fN q xs n ≤ 40))) := rfl
  have HNO := Lib.hid (fun h => psC_no (q := q) (xs := xs) (n := n) h)
  have HYE := Lib.hid (fun h h2 => psC_eq (q := q) (xs := xs) (n := n) h h2)
  have HYN := Lib.hid (fun h h2 => psC_ne (q := q) (xs := xs) (n := n) h h2)
  have HFC : Hid (fOk q xs n = true → cOk q xs n = true) := Lib.hid (fun h => by
    unfold fOk mOk at h
    simp only [Bool.and_eq_true] at h
    exact h.1.1)
  have hw0 : w.heap.size ≤ w.heap.size + 1 := by omega
  obtain ⟨hl, a1, cap, rfl, p1, p2, hh⟩ := h
  clear hh
  obtain ⟨w2, hw2⟩ : ∃ x, x = (w.alloc (.cells #[.int .i64 q, .slice a1 n cap] 31 (0, 0))).alloc (.cells #[.int .i64 0, .slice none 0 0, .slice none 0 0, .int .i64 0, .slice none 0 0] 42 (0, 0)) := ⟨_, rfl⟩
  have HX2 : Hid (Ext w w2) := by rw [hw2]; exact Lib.hid (((Ext.refl w).alloc _).alloc _)
  have HB2 : Hid (w2.heap[w.heap.size]? = some (.cells #[.int .i64 q, .slice a1 n cap] 31 (0, 0))) := by rw [hw2]; exact Lib.hid (heap_alloc_lt (heap_alloc_new _ _))
  have HR2 : Hid (w2.heap[w.heap.size + 1]? = some (.cells #[.int .i64 0, .slice none 0 0, .slice none 0 0, .int .i64 0, .slice none 0 0] 42 (0, 0))) := by rw [hw2]; exact Lib.hid (heap_alloc_at _ _ _ (by simp))
  have hs2 : w.heap.size + 2 ≤ w2.heap.size := by rw [hw2]; simp
  have HFF := HFP w2 HX2.out
  have zb2 := fun k => cell_of_row _ _ k _ _ _ HB2.out
  have lb2 := (Array.getElem?_eq_some_iff.1 HB2.out).1
  clear HFP
  go_enter Try.func18, Try.ntmps18
  go_upto_region 1 with fail
  rw [← hw2]
  clear hw2
  go_wp2_with fail
  refine HFF.out.mono ?_
  rintro e w3 ⟨v3, rfl, o3, hx3⟩
  obtain ⟨a3, c3, rfl, _, _, _⟩ := own_shape o3
  obtain ⟨w4, hw4⟩ : ∃ x, x = w3.alloc (.cells #[.int .i64 (fQ q xs n), .slice a3 (fN q xs n) c3] 31 (0, 0)) := ⟨_, rfl⟩
  have HX34 : Hid (Ext w3 w4) := by rw [hw4]; exact Lib.hid ((Ext.refl _).alloc _)
  have HF4 : Hid (w4.heap[w3.heap.size]? = some (.cells #[.int .i64 (fQ q xs n), .slice a3 (fN q xs n) c3] 31 (0, 0))) := by rw [hw4]; exact Lib.hid (heap_alloc_new _ _)
  have hs4 : w3.heap.size < w4.heap.size := by rw [hw4]; simp
  have HX4 := Lib.hid (HX2.out.trans (hx3.trans HX34.out))
  have HO4 := Lib.hid (own_ext o3 HX34.out)
  have HL3 := Lib.hid (fun k (hk : (Value.slice a3 (fN q xs n) c3).ownBlock = some k) => o3.lt k hk)
  have HB4 := Lib.hid (row_farM HB2.out (hx3.trans HX34.out))
  have HR4 := Lib.hid (row_farM HR2.out (hx3.trans HX34.out))
  have hs23 := hx3.size
  have zb4 := fun k => cell_of_row _ _ k _ _ _ HB4.out
  have lb4 := (Array.getElem?_eq_some_iff.1 HB4.out).1
  have zr4 := fun k => cell_of_row _ _ k _ _ _ HR4.out
  have fr4 := fun k => frozen_of_row _ _ k _ _ HR4.out
  have lr4 := (Array.getElem?_eq_some_iff.1 HR4.out).1
  clear o3 hx3 zb2 lb2 HFF
  cases hok : fOk q xs n
  · have hpo : psOk q xs n = false := by rw [HPO.out, hok]; rfl
    have N0 := Lib.hid hpo
    have N1 := Lib.hid (HNO.out hpo)
    rw [hok] at *
    clear hok hpo
    go_upto_region 2 with fail
    rw [← hw4]
    clear hw4
    go_wp2
    refine bodyPost_ret (v := .tuple #[.agg #[.int .i64 0, .slice none 0 0, .slice none 0 0, .int .i64 0, .slice none 0 0], .bool false]) (by simp [results, Try.results18, go_sem, *]) rfl ?_
    refine ⟨.slice none 0 0, .slice none 0 0, .slice none 0 0, ?_, ?_, ?_⟩
    · rw [N1.out, N0.out]
    · rw [N1.out]; exact cz_zero _ _ _ _
    · exact ((((HX4.out.setCell hw0 _).setCell hw0 _).setCell hw0 _).setCell hw0 _).setCell hw0 _
  · have Hok := Lib.hid hok
    have HK : Hid (∀ W, Ext w4 W → (W.cell? ⟨w.heap.size, 0, none⟩ = some (.int .i64 q) ∧ W.cell? ⟨w.heap.size, 1, none⟩ = some (.slice a1 n cap)) ∧ W.cell? ⟨w3.heap.size, 0, none⟩ = some (.int .i64 (fQ q xs n)) ∧ W.cell? ⟨w3.heap.size, 1, none⟩ = some (.slice a3 (fN q xs n) c3)) := Lib.hid (fun W hX => ⟨⟨(hX.cells.1 _ 0 lb4).trans (zb4 0), (hX.cells.1 _ 1 lb4).trans (zb4 1)⟩, (hX.cells.1 _ 0 (Array.getElem?_eq_some_iff.1 HF4.out).1).trans (cell_of_row _ _ 0 _ _ _ HF4.out), (hX.cells.1 _ 1 (Array.getElem?_eq_some_iff.1 HF4.out).1).trans (cell_of_row _ _ 1 _ _ _ HF4.out)⟩)
    have HOX := fun W (hX : Ext w4 W) => HOW W (HX4.out.trans hX)
    clear hok HFC HOW
    go_upto_region 2 with fail
    rw [← hw4]
    clear hw4
    go_upto_region 4 with fail
    go_region_held3 (fun W => (W.cell? ⟨w.heap.size, 0, none⟩ = some (.int .i64 q) ∧ W.cell? ⟨w.heap.size, 1, none⟩ = some (.slice a1 n cap)) ∧ W.cell? ⟨w3.heap.size, 0, none⟩ = some (.int .i64 (fQ q xs n)) ∧ W.cell? ⟨w3.heap.size, 1, none⟩ = some (.slice a3 (fN q xs n) c3)) (exact HK.out _ (by repeat (first | (with_reducible refine Ext.setCell ?_ (by first | (simp; done) | (simp; omega)) _) | with_reducible refine Ext.alloc ?_ _ | with_reducible refine Ext.drew ?_ | with_reducible refine Ext.drewN ?_ _ | with_reducible assumption | with_reducible exact Ext.refl _ | with_reducible refine Ext.trans ?_ (by with_reducible assumption))))
      (first
      | (go_at_call 39; (with_reducible refine Calls.mono (HOX _ ?_).out ?_); (next => exact (by repeat (first | (with_reducible refine Ext.setCell ?_ (by first | (simp; done) | (simp; omega)) _) | with_reducible refine Ext.alloc ?_ _ | with_reducible refine Ext.drew ?_ | with_reducible refine Ext.drewN ?_ _ | with_reducible assumption | with_reducible exact Ext.refl _ | with_reducible refine Ext.trans ?_ (by with_reducible assumption)))); rintro e w5 ⟨v5, rfl, o5, hx5⟩; have O5 := Lib.hid o5; obtain ⟨a5, c5, rfl, _, _, _⟩ := own_shape o5; clear o5; have hxw5 : Ext w4 w5 := (by repeat (first | (with_reducible refine Ext.setCell ?_ (by first | (simp; done) | (simp; omega)) _) | with_reducible refine Ext.alloc ?_ _ | with_reducible refine Ext.drew ?_ | with_reducible refine Ext.drewN ?_ _ | with_reducible assumption | with_reducible exact Ext.refl _ | with_reducible refine Ext.trans ?_ (by with_reducible assumption))); obtain ⟨hc5, hf5⟩ := hx5.cells; have hs5 := hx5.size; (try simp at hs5)))
    focus
      obtain ⟨B6, hB6⟩ : ∃ b, b = w5.heap.size := ⟨_, rfl⟩
      obtain ⟨w7, hw7⟩ : ∃ x, x = w5.alloc (.cells #[.int .i64 q, .slice a5 n c5, .slice none 0 0, .int .i64 (fQ q xs n), .slice a3 (fN q xs n) c3] 42 (0, 0)) := ⟨_, rfl⟩
      have HC7 : Hid (w7.heap[B6]? = some (.cells #[.int .i64 q, .slice a5 n c5, .slice none 0 0, .int .i64 (fQ q xs n), .slice a3 (fN q xs n) c3] 42 (0, 0))) := by rw [hw7, hB6]; exact Lib.hid (heap_alloc_new _ _)
      have HX47 : Hid (Ext w4 w7) := by rw [hw7]; exact Lib.hid (hxw5.alloc _)
      have HO5b : Hid (w7.ownsRow w4.heap.size 72 3 (.slice a5 n c5) n (IL xs)) := by rw [hw7]; exact Lib.hid (own_ext (show w5.ownsRow w4.heap.size 72 3 (.slice a5 n c5) n (IL xs) from O5.out) ((Ext.refl _).alloc _))
      have HL5 : Hid (∀ k, (Value.slice a5 n c5).ownBlock = some k → w4.heap.size ≤ k ∧ k < w7.heap.size ∧ k ≠ B6) := Lib.hid (fun k hk => by
        have h1 : w4.heap.size ≤ k ∧ k < w5.heap.size := O5.out.lt k hk
        have h2 : w7.heap.size = w5.heap.size + 1 := by rw [hw7]; simp
        omega)
      have hB64 : w4.heap.size ≤ B6 := by have := hxw5.size; omega
      rw [← hw7, ← hB6]
      clear hw7 hB6 hc5 hf5 hs5 O5 hxw5 hx5
    rotate_left
    focus
      obtain ⟨B6, hB6⟩ : ∃ b, b = w4.heap.size := ⟨_, rfl⟩
      obtain ⟨w7, hw7⟩ : ∃ x, x = ((((w5.setCell ⟨w4.heap.size, 0, none⟩ (.int .i64 q)).setCell ⟨w4.heap.size, 1, none⟩ (.slice a5 n c5)).setCell ⟨w4.heap.size, 2, none⟩ (.slice none 0 0)).setCell ⟨w4.heap.size, 3, none⟩ (.int .i64 (fQ q xs n))).setCell ⟨w4.heap.size, 4, none⟩ (.slice a3 (fN q xs n) c3) := ⟨_, rfl⟩
      have hz5 := Lib.hid (row_farM (heap_alloc_new w4.drew _) hx5)
      have HC7 : Hid (w7.heap[B6]? = some (.cells #[.int .i64 q, .slice a5 n c5, .slice none 0 0, .int .i64 (fQ q xs n), .slice a3 (fN q xs n) c3] 42 (0, 0))) := by rw [hw7, hB6]; exact Lib.hid (heap_set5 hz5.out)
      have hl4 : w4.heap.size ≤ w4.heap.size := Nat.le_refl _
      have HX47 : Hid (Ext w4 w7) := by rw [hw7]; exact Lib.hid (((((hxw5.setCell hl4 _).setCell hl4 _).setCell hl4 _).setCell hl4 _).setCell hl4 _)
      have hba : w4.heap.size + 1 = (w4.drew.alloc (.cells #[.int .i64 0, .slice none 0 0, .slice none 0 0, .int .i64 0, .slice none 0 0] 42 (0, 0))).heap.size := by simp
      have HO5a : Hid (w5.ownsRow (w4.heap.size + 1) 72 3 (.slice a5 n c5) n (IL xs)) := by rw [hba]; exact O5
      have hl5 : w4.heap.size < w4.heap.size + 1 := by omega
      have HO5b : Hid (w7.ownsRow w4.heap.size 72 3 (.slice a5 n c5) n (IL xs)) := by rw [hw7]; exact Lib.hid (own_base (own_set (own_set (own_set (own_set (own_set HO5a.out hl5 _) hl5 _) hl5 _) hl5 _) hl5 _) (by omega))
      have HL5 : Hid (∀ k, (Value.slice a5 n c5).ownBlock = some k → w4.heap.size ≤ k ∧ k < w7.heap.size ∧ k ≠ B6) := Lib.hid (fun k hk => by
        have h1 := HO5a.out.lt k hk
        have h2 : w7.heap.size = w5.heap.size := by rw [hw7, setCell_sz, setCell_sz, setCell_sz, setCell_sz, setCell_sz]
        omega)
      have hB64 : w4.heap.size ≤ B6 := by omega
      rw [← hw7, ← hB6]
      clear hw7 hB6 hc5 hf5 hs5 O5 hxw5 hx5 hz5 hba HO5a hl5 hl4
    all_goals
      have HX7 := Lib.hid (HX4.out.trans HX47.out)
      have HB7 := Lib.hid (row_farM HB4.out HX47.out)
      have HF7 := Lib.hid (row_farM HF4.out HX47.out)
      have HO3_7 := Lib.hid (own_ext HO4.out HX47.out)
      have HEE := HEQ w7 _ HX7.out (RV.own HO3_7.out HFL.out)
      rw [← HPE.out] at HEE
      have zb7 := fun k => cell_of_row _ _ k _ _ _ HB7.out
      have lb7 := (Array.getElem?_eq_some_iff.1 HB7.out).1
      have zf7 := fun k => cell_of_row _ _ k _ _ _ HF7.out
      have lf7 := (Array.getElem?_eq_some_iff.1 HF7.out).1
      clear HEQ zr4 fr4 lr4 zb4 lb4 HK HOX
      go_wp2_with fail
      refine HEE.out.mono ?_
      rintro e w8 ⟨rfl, hx8⟩
      have HX78 := Lib.hid hx8
      have HX8 := Lib.hid (HX7.out.trans hx8)
      have HC8 := Lib.hid (row_farM HC7.out hx8)
      have HR8 := Lib.hid (row_farM HR4.out (HX47.out.trans hx8))
      have HB8 := Lib.hid (row_farM HB7.out hx8)
      have HF8 := Lib.hid (row_farM HF7.out hx8)
      have HO3 := Lib.hid (own_ext HO3_7.out hx8)
      have HO5c := Lib.hid (own_ext HO5b.out hx8)
      have hs78 := hx8.size
      have hs47 := HX47.out.size
      have zb8 := fun k => cell_of_row _ _ k _ _ _ HB8.out
      have lb8 := (Array.getElem?_eq_some_iff.1 HB8.out).1
      have zf8 := fun k => cell_of_row _ _ k _ _ _ HF8.out
      have lf8 := (Array.getElem?_eq_some_iff.1 HF8.out).1
      have zc8 := fun k => cell_of_row _ _ k _ _ _ HC8.out
      have fc8 := fun k => frozen_of_row _ _ k _ _ HC8.out
      have lc8 := (Array.getElem?_eq_some_iff.1 HC8.out).1
      have zr8 := fun k => cell_of_row _ _ k _ _ _ HR8.out
      have fr8 := fun k => frozen_of_row _ _ k _ _ HR8.out
      have lr8 := (Array.getElem?_eq_some_iff.1 HR8.out).1
      clear hx8 HEE zb7 lb7 zf7 lf7
      cases he : psE q xs n
      · by_cases hsm : n ≤ 40 ∧ fN q xs n ≤ 40
        · have hss : psS q xs n = true := by rw [HPS.out]; simp [hsm.1, hsm.2]
          have hpo : psOk q xs n = true := by rw [HPO.out, Hok.out, he, hss]; rfl
          have N0 := Lib.hid hpo
          have N1 := Lib.hid (HYN.out hpo he)
          have hn40 : ¬ (40 : Int) < (n : Int) := by omega
          have hf40 : ¬ (40 : Int) < (fN q xs n : Int) := by omega
          have HV1 : Hid (∀ W, Ext w8 W → RV W 3 (.slice a1 n cap) n xs) := Lib.hid (fun W hX => HVC W (HX8.out.trans hX))
          have HV2 : Hid (∀ W, Ext w8 W → RV W 3 (.slice a3 (fN q xs n) c3) (fN q xs n) (fL q xs n)) := Lib.hid (fun W hX => RV.own (own_ext HO3.out hX) HFL.out)
          clear he hsm hss hpo HCL1 HCL2
          go_upto_region 9 with fail
          go_wp2
          refine Ex.wp_region_ex (m := 46) [.ex (Ex.PhN (w8) (fun n => .slice (some ⟨n, 0, none⟩) 0 0) 72 #[]) 1 [], .fn [] (fun _ => .pointer (some ⟨w.heap.size, 1, none⟩)), .fn [] (fun _ => .slice a1 n cap), .ex (Ex.PhS (w8) 72 3 (n) (xs)) 1 [0], .ex (Ex.PhN (w8) (fun n => .slice (some ⟨n, 0, none⟩) 0 0) 72 #[]) 2 [], .fn [] (fun _ => .pointer (some ⟨w3.heap.size, 1, none⟩)), .fn [] (fun _ => .slice a3 (fN q xs n) c3), .ex (Ex.PhS (w8) 72 3 ((fN q xs n)) ((fL q xs n))) 2 [4], .fn [3, 7] (fun u => .agg #[.int .i64 0, u.getD 0 undef, u.getD 1 undef]), .ex (PhR w8 0 n xs (fN q xs n) (fL q xs n)) 3 [3, 7], .fn [] (fun _ => .pointer (some ⟨B6, 2, none⟩))] (by kernel_rfl) (by kernel_rfl) rfl (by kernel_rfl) (by kernel_rfl) (Ex.mono_ex (Ex.phN_mono _ _ _ _) (Ex.mono_fn (Ex.mono_fn (Ex.mono_ex (Ex.phS_mono _ _ _ _ _) (Ex.mono_ex (Ex.phN_mono _ _ _ _) (Ex.mono_fn (Ex.mono_fn (Ex.mono_ex (Ex.phS_mono _ _ _ _ _) (Ex.mono_fn (Ex.mono_ex (phR_mono _ _ _ _ _ _) (Ex.mono_fn Ex.mono_nil))))))))))) (fun sig20 => ?_)
          have hxc := fun (x : Xt (w8)) (b o : Nat) (h : b < (w8).heap.size) => x.ext.cells.1 b o h
          refine Ex.we_new rfl (fun _ => rfl) (fun x => ?_) ?_
          · first | (go_simp; done) | (go_simp; rfl)
          simp only [Act.put, List.setIfInBounds_toArray, List.set_cons_succ, List.set_cons_zero, List.nil_append, List.cons_append, Nat.zero_add, Nat.reduceAdd]
          refine Ex.we_det ?_ ?_
          · first | (go_simp; done) | (go_simp; rfl) | (go_simp; (try intro x); (try go_bits); first | done | rfl | (simp; done) | (simp; omega))
          simp only [Act.put, List.setIfInBounds_toArray, List.set_cons_succ, List.set_cons_zero, List.nil_append, List.cons_append, Nat.zero_add, Nat.reduceAdd]
          refine Ex.we_det ?_ ?_
          · first | (go_simp; done) | (go_simp; rfl) | (go_simp; (try intro x); (try go_bits); first | done | rfl | (simp; done) | (simp; omega))
          simp only [Act.put, List.setIfInBounds_toArray, List.set_cons_succ, List.set_cons_zero, List.nil_append, List.cons_append, Nat.zero_add, Nat.reduceAdd]
          refine Ex.we_append (j := 0) elt_CG rfl rfl rfl (.slice a1 n cap) (n) (xs) rfl (HV1.out) (by omega) rfl ?_
          simp only [Act.put, List.setIfInBounds_toArray, List.set_cons_succ, List.set_cons_zero, List.nil_append, List.cons_append, Nat.zero_add, Nat.reduceAdd]
          refine Ex.we_new rfl (fun _ => rfl) (fun x => ?_) ?_
          · first | (go_simp; done) | (go_simp; rfl)
          simp only [Act.put, List.setIfInBounds_toArray, List.set_cons_succ, List.set_cons_zero, List.nil_append, List.cons_append, Nat.zero_add, Nat.reduceAdd]
          refine Ex.we_det ?_ ?_
          · first | (go_simp; done) | (go_simp; rfl) | (go_simp; (try intro x); (try go_bits); first | done | rfl | (simp; done) | (simp; omega))
          simp only [Act.put, List.setIfInBounds_toArray, List.set_cons_succ, List.set_cons_zero, List.nil_append, List.cons_append, Nat.zero_add, Nat.reduceAdd]
          refine Ex.we_det ?_ ?_
          · first | (go_simp; done) | (go_simp; rfl) | (go_simp; (try intro x); (try go_bits); first | done | rfl | (simp; done) | (simp; omega))
          simp only [Act.put, List.setIfInBounds_toArray, List.set_cons_succ, List.set_cons_zero, List.nil_append, List.cons_append, Nat.zero_add, Nat.reduceAdd]
          refine Ex.we_append (j := 4) elt_CG rfl rfl rfl (.slice a3 (fN q xs n) c3) ((fN q xs n)) ((fL q xs n)) rfl (HV2.out) (by omega) rfl ?_
          simp only [Act.put, List.setIfInBounds_toArray, List.set_cons_succ, List.set_cons_zero, List.nil_append, List.cons_append, Nat.zero_add, Nat.reduceAdd]
          refine Ex.we_fn rfl (fun W hxW hFW => ?_) ?_
          · (have h6 : Ex.PhS w8 72 3 n xs (sig20 3) W := hFW.phi 3 (by simp); have h10 : Ex.PhS w8 72 3 (fN q xs n) (fL q xs n) (sig20 7) W := hFW.phi 7 (by simp); obtain ⟨s1, s2, s3, _⟩ := own_shape h6; obtain ⟨s4, s5, s6, _⟩ := own_shape h10; simp only [List.map_cons, List.map_nil, s3, s6]; go_simp)
          simp only [Act.put, List.setIfInBounds_toArray, List.set_cons_succ, List.set_cons_zero, List.nil_append, List.cons_append, Nat.zero_add, Nat.reduceAdd]
          refine Ex.we_ex rfl (fun W hxW hFW => ?_) ?_
          · (have h6 : Ex.PhS w8 72 3 n xs (sig20 3) W := hFW.phi 3 (by simp); have h10 : Ex.PhS w8 72 3 (fN q xs n) (fL q xs n) (sig20 7) W := hFW.phi 7 (by simp); obtain ⟨s1, s2, s3, _⟩ := own_shape h6; obtain ⟨s4, s5, s6, _⟩ := own_shape h10; have d1 : ∀ b, Ex.blk (sig20 3) = some b → Ex.blk (sig20 7) = some b → False := hFW.dif 3 (by simp) 7 (by simp) (show (1 : Nat) ≠ 2 by decide) (show (1 : Nat) ≠ 0 by decide) (show (2 : Nat) ≠ 0 by decide); unfold Ex.PhS at h6 h10; have dj := fun k h1 h2 => d1 k (own_blk h6 k h1) (own_blk h10 k h2); clear d1; rw [s3] at h6 dj; rw [s6] at h10 dj; have H6 := Lib.hid h6; have H10 := Lib.hid h10; have DJ := Lib.hid dj; have HXW := Lib.hid hxW; clear h6 h10 dj hxW; simp only [List.map_cons, List.map_nil, List.getD_cons_zero, List.getD_cons_succ, s3, s6]; clear s3 s6; go_simp; refine ⟨(Ext.refl W).alloc _, ⟨_, _, _, rfl, HXW.out.size, heap_alloc_new W _, own_ext H6.out ((Ext.refl W).alloc _), own_ext H10.out ((Ext.refl W).alloc _), DJ.out⟩, fun _ b hb => ?_⟩; have hb' : W.heap.size = b := (by simpa [Ex.blk] using hb); subst hb'; exact ⟨by simp, .inl (Nat.le_refl _)⟩)
          simp only [Act.put, List.setIfInBounds_toArray, List.set_cons_succ, List.set_cons_zero, List.nil_append, List.cons_append, Nat.zero_add, Nat.reduceAdd]
          refine Ex.we_det ?_ ?_
          · first | (go_simp; done) | (go_simp; rfl) | (go_simp; (try intro x); (try go_bits); first | done | rfl | (simp; done) | (simp; omega))
          simp only [Act.put, List.setIfInBounds_toArray, List.set_cons_succ, List.set_cons_zero, List.nil_append, List.cons_append, Nat.zero_add, Nat.reduceAdd]
          refine Ex.we_stop (fun w20 hx20 hF20 => ?_)
          clear hxc
          obtain ⟨B, va, vb, e12, hB1, hB3, h6, h10, d1⟩ : PhR w8 0 n xs (fN q xs n) (fL q xs n) (sig20 9) w20 := hF20.phi 9 (by simp)
          simp only [List.map_cons, List.map_nil, List.getD_cons_zero, List.getD_cons_succ, e12]
          have HX20 := Lib.hid hx20
          have HB3 := Lib.hid hB3
          have H6 := Lib.hid h6
          have H10 := Lib.hid h10
          have HDJ := Lib.hid d1
          have HL9 := Lib.hid (fun k (hk : va.ownBlock = some k) => h6.lt k hk)
          have HL10 := Lib.hid (fun k (hk : vb.ownBlock = some k) => h10.lt k hk)
          have HN1 := Lib.hid (fun k (hk : va.ownBlock = some k) => (show k ≠ B from fun e => ne_own hB3 h6 hk e))
          have HN2 := Lib.hid (fun k (hk : vb.ownBlock = some k) => (show k ≠ B from fun e => ne_own hB3 h10 hk e))
          have hlB := (Array.getElem?_eq_some_iff.1 hB3).1
          have HC20 := Lib.hid (row_farM HC8.out hx20)
          have zc20 := fun k => cell_of_row _ _ k _ _ _ HC20.out
          have fc20 := fun k => frozen_of_row _ _ k _ _ HC20.out
          have lc20 := (Array.getElem?_eq_some_iff.1 HC20.out).1
          have hs20 := hx20.size
          obtain ⟨w12, hw12⟩ : ∃ x, x = w20.setCell ⟨B6, 2, none⟩ (.slice (some ⟨B, 0, none⟩) 1 1) := ⟨_, rfl⟩
          have hs8w : B6 < w8.heap.size := lc8
          have HC12 : Hid (w12.heap[B6]? = some (.cells #[.int .i64 q, .slice a5 n c5, .slice (some ⟨B, 0, none⟩) 1 1, .int .i64 (fQ q xs n), .slice a3 (fN q xs n) c3] 42 (0, 0))) := by rw [hw12]; exact Lib.hid (heap_set_at HC20.out 2 _)
          have HR12 : Hid (w12.heap[w.heap.size + 1]? = some (.cells #[.int .i64 0, .slice none 0 0, .slice none 0 0, .int .i64 0, .slice none 0 0] 42 (0, 0))) := by rw [hw12]; exact Lib.hid (heap_set_ne (by show w.heap.size + 1 ≠ B6; omega) (row_farM HR8.out hx20))
          have HS12 : Hid (w12.heap[B]? = some (.cells #[.int .i64 0, va, vb] 81 (0, 0))) := by rw [hw12]; exact Lib.hid (heap_set_ne (by show B ≠ B6; omega) hB3)
          have HX12 : Hid (Ext w w12) := by rw [hw12]; exact Lib.hid ((HX8.out.trans hx20).setCell (by show w.heap.size ≤ B6; omega) _)
          have hs12 : w12.heap.size = w20.heap.size := by rw [hw12, setCell_sz]
          have P5 : Hid (w12.ownsRow w4.heap.size 72 3 (.slice a5 n c5) n (IL xs)) := by rw [hw12]; exact Lib.hid (own_setm (own_ext HO5c.out hx20) (fun k hk e => by have h9 := (HL5.out k hk).2.2; exact h9 e) _)
          have P3 : Hid (w12.ownsRow w2.heap.size 72 3 (.slice a3 (fN q xs n) c3) (fN q xs n) (IL (fL q xs n))) := by rw [hw12]; exact Lib.hid (own_setm (own_ext HO3.out hx20) (fun k hk e => by have h9 := (HL3.out k hk).2; have e' : k = B6 := e; omega) _)
          have P9 : Hid (w12.ownsRow w8.heap.size 72 3 va n (IL xs)) := by rw [hw12]; exact Lib.hid (own_setm h6 (fun k hk e => by have h9 := (HL9.out k hk).1; have e' : k = B6 := e; omega) _)
          have P10 : Hid (w12.ownsRow w8.heap.size 72 3 vb (fN q xs n) (IL (fL q xs n))) := by rw [hw12]; exact Lib.hid (own_setm h10 (fun k hk e => by have h9 := (HL10.out k hk).1; have e' : k = B6 := e; omega) _)
          have HCZ : Hid (CZ w12 w2.heap.size w12.heap.size (.slice a5 n c5) (.slice (some ⟨B, 0, none⟩) 1 1) (.slice a3 (fN q xs n) c3) ⟨q, n, xs, 1, psR q xs n, fQ q xs n, fN q xs n, fL q xs n⟩) := by
            refine Lib.hid ⟨own_base P5.out (by omega), P3.out, fun k hk => ?_, fun k hk => ?_, fun k hk hk' => ?_, (fun k => w8.heap.size ≤ k ∧ k < w20.heap.size), rsp_lit (R := psR q xs n) HS12.out (by omega) (own_base P9.out (by omega)) (own_base P10.out (by omega)) (fun k hk hk' => HDJ.out k hk hk') (fun k hk => ⟨HN1.out k hk, HL9.out k hk⟩) (fun k hk => ⟨HN2.out k hk, HL10.out k hk⟩) ⟨hB1, hlB⟩, fun k hk => ⟨?_, fun e => ?_, fun e => ?_⟩⟩
            · have := (HL5.out k hk).2.1; omega
            · have := (HL3.out k hk).2; omega
            · have := (HL5.out k hk).1; have := (HL3.out k hk').2; omega
            · exact ⟨by omega, by omega⟩
            · have := (HL5.out k e).2.1; omega
            · have := (HL3.out k e).2; omega
          have zc12 := fun k => cell_of_row _ _ k _ _ _ HC12.out
          have lc12 := (Array.getElem?_eq_some_iff.1 HC12.out).1
          have zr12 := fun k => cell_of_row _ _ k _ _ _ HR12.out
          have fr12 := fun k => frozen_of_row _ _ k _ _ HR12.out
          have lr12 := (Array.getElem?_eq_some_iff.1 HR12.out).1
          have hb : w.heap.size + 1 < w2.heap.size := by omega
          clear hx20 hB3 h6 h10 d1 zb8 lb8 zf8 lf8 zc8 fc8 lc8 zr8 fr8 lr8 hs12
          go_upto_region 10 with fail
          rw [← hw12]
          clear hw12 zc20 fc20 lc20 e12 hF20
          go_wp2
          refine bodyPost_ret (v := .tuple #[.agg #[.int .i64 q, .slice a5 n c5, .slice (some ⟨B, 0, none⟩) 1 1, .int .i64 (fQ q xs n), .slice a3 (fN q xs n) c3], .bool true]) (by simp [results, Try.results18, go_sem, *]) rfl ?_
          refine ⟨.slice a5 n c5, .slice (some ⟨B, 0, none⟩) 1 1, .slice a3 (fN q xs n) c3, ?_, ?_, ?_⟩
          · rw [N1.out, N0.out]
          · rw [N1.out]
            exact CZ.weak (CZ.set (CZ.set (CZ.set (CZ.set (CZ.set HCZ.out hb _) hb _) hb _) hb _) hb _) (by omega) (by rw [setCell_sz, setCell_sz, setCell_sz, setCell_sz, setCell_sz]; exact Nat.le_refl _)
          · exact ((((HX12.out.setCell hw0 _).setCell hw0 _).setCell hw0 _).setCell hw0 _).setCell hw0 _
        · have hss : psS q xs n = false := by
            rw [HPS.out]
            by_cases h1 : n ≤ 40
            · have h2 : ¬ fN q xs n ≤ 40 := fun h2 => hsm ⟨h1, h2⟩
              simp [h2]
            · simp [h1]
          have hpo : psOk q xs n = false := by rw [HPO.out, Hok.out, he, hss]; rfl
          have N0 := Lib.hid hpo
          have N1 := Lib.hid (HNO.out hpo)
          have hbig : (40 : Int) < (n : Int) ∨ (40 : Int) < (fN q xs n : Int) := by omega
          clear he hss hpo
          rcases hbig with hb1 | hb1
          all_goals go_upto_region 8 with fail
          all_goals
            go_wp2
            refine bodyPost_ret (v := .tuple #[.agg #[.int .i64 0, .slice none 0 0, .slice none 0 0, .int .i64 0, .slice none 0 0], .bool false]) (by simp [results, Try.results18, go_sem, *]) rfl ?_
            refine ⟨.slice none 0 0, .slice none 0 0, .slice none 0 0, ?_, ?_, ?_⟩
            · rw [N1.out, N0.out]
            · rw [N1.out]; exact cz_zero _ _ _ _
            · exact ((((HX8.out.setCell hw0 _).setCell hw0 _).setCell hw0 _).setCell hw0 _).setCell hw0 _
      · have hpo : psOk q xs n = true := by rw [HPO.out, Hok.out, he]; rfl
        have N0 := Lib.hid hpo
        have N1 := Lib.hid (HYE.out hpo he)
        clear he hpo
        go_wp2
        refine bodyPost_ret (v := .tuple #[.agg #[.int .i64 q, .slice a5 n c5, .slice none 0 0, .int .i64 (fQ q xs n), .slice a3 (fN q xs n) c3], .bool true]) (by simp [results, Try.results18, go_sem, *]) rfl ?_
        refine ⟨.slice a5 n c5, .slice none 0 0, .slice a3 (fN q xs n) c3, ?_, ?_, ?_⟩
        · rw [N1.out, N0.out]
        · rw [N1.out]
          have hb : w.heap.size + 1 < w2.heap.size := by omega
          have hz : (((((w8.setCell ⟨w.heap.size + 1, 0, none⟩ (.int .i64 q)).setCell ⟨w.heap.size + 1, 1, none⟩ (.slice a5 n c5)).setCell ⟨w.heap.size + 1, 2, none⟩ (.slice none 0 0)).setCell ⟨w.heap.size + 1, 3, none⟩ (.int .i64 (fQ q xs n))).setCell ⟨w.heap.size + 1, 4, none⟩ (.slice a3 (fN q xs n) c3)).heap.size = w8.heap.size := by rw [setCell_sz, setCell_sz, setCell_sz, setCell_sz, setCell_sz]
          refine ⟨?_, ?_, ?_, ?_, ?_, fun _ => False, rsp_none _ _ _ _, fun k h => h.elim⟩
          · have h9 := HO5c.out
            have hb4 : w.heap.size + 1 < w4.heap.size := by omega
            exact own_base (base := w4.heap.size) (own_set (own_set (own_set (own_set (own_set h9 hb4 _) hb4 _) hb4 _) hb4 _) hb4 _) (by omega)
          · have h9 := own_base HO3.out (base' := w2.heap.size) (Nat.le_refl _)
            exact own_base (base := w2.heap.size) (own_set (own_set (own_set (own_set (own_set h9 hb _) hb _) hb _) hb _) hb _) (by omega)
          · intro k hk
            rw [hz]
            have := (HL5.out k hk).2.1
            omega
          · intro k hk
            rw [hz]
            have := (HL3.out k hk).2
            omega
          · intro k hk hk'
            have := (HL5.out k hk).1
            have := (HL3.out k hk').2
            omega
        · exact ((((HX8.out.setCell hw0 _).setCell hw0 _).setCell hw0 _).setCell hw0 _).setCell hw0 _

end Go.Proofs.Ytchaanppoklapaa
