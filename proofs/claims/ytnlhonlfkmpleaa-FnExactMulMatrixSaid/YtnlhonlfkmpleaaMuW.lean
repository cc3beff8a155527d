/- The law on MulMatrix. -/
import Derived.Test.YtnlhonlfkmpleaaMuR
import Derived.Test.YtnlhonlfkmpleaaMatB
import Derived.Deep.RegionHeld3
import Derived.Deep.Cut
namespace Go.Proofs.Ytnlhonlfkmpleaa
open Go.RowKit Go.Lib
set_option linter.unusedVariables false
set_option linter.unusedSimpArgs false

set_option maxRecDepth 20000 in
set_option maxHeartbeats 20000000 in
theorem law_MulMatrix (r c r' c' : Int) {v1 v2 : Value} {n m : Nat} {xs ys : List Int} (w : World) (h1 : RV w 5 v1 n xs) (h2 : RV w 5 v2 m ys) :
    Calls Try.prog 11 #[.agg #[.int .i64 r, .int .i64 c, v1], .agg #[.int .i64 r', .int .i64 c', v2]] w fun e w' => e = .returned (.bool true) ∧ Ext w w' := by
  have HZ1 := fun w' (hx : Ext w w') => Lib.hid (szMatrix_any r c 1048576 (by omega) w' (h1.ext hx))
  have HZ2 := fun l (hl : 0 ≤ l ∧ l ≤ 1048576) w' (hx : Ext w w') => Lib.hid (szMatrix_any r' c' l hl w' (h2.ext hx))
  have HTA := fun hm w' (hx : Ext w w') => Lib.hid (toMatrix_any r c hm w' (h1.ext hx))
  have HTB := fun hm w' (hx : Ext w w') => Lib.hid (toMatrix_any r' c' hm w' (h2.ext hx))
  have HL1 := Lib.hid h1.1
  have HL2 := Lib.hid h2.1
  have HS := fun hn hm u1 u2 w' (k1 : RV w' 5 u1 n xs) (k2 : RV w' 5 u2 m ys) => Lib.hid (s_mulMatrix_any r c r' c' (v1 := u1) (v2 := u2) hn hm w' k1 k2)
  have HI := fun hn hm u1 u2 w' (k1 : RV w' 5 u1 n xs) (k2 : RV w' 5 u2 m ys) => Lib.hid (mulMatrix_any r c r' c' (v1 := u1) (v2 := u2) hn hm w' k1 k2)
  have hlen := ifNL_len (mmOkM r c n xs r' c' m ys) (n := r.toNat * c'.toNat) (l := mmLM xs ys c.toNat c'.toNat (r.toNat * c'.toNat)) (moL_len _ _ _)
  have hle := mm_le r c n xs r' c' m ys
  obtain ⟨-, a1, c1, rfl, -, -, hh1⟩ := h1
  obtain ⟨-, a2, c2, rfl, -, -, hh2⟩ := h2
  clear hh1 hh2
  generalize mmOkM r c n xs r' c' m ys = ok at *
  generalize mmLM xs ys c.toNat c'.toNat (r.toNat * c'.toNat) = L0 at *
  generalize ifN ok (r.toNat * c'.toNat) = nn at *
  generalize ifL ok L0 = LL at *
  generalize ifZ ok r = rr at *
  generalize ifZ ok c' = cc at *
  have HLL := Lib.hid hlen
  clear hlen
  by_cases hm1 : (n : Int) ≤ 1048576
  case neg =>
    simp only [if_neg hm1] at HZ1
    go_enter Try.func11, Try.ntmps11
    go_wp2_with fail
    refine ((HZ1 _ (by repeat (first | exact Ext.refl _ | assumption | refine Ext.alloc ?_ _ | refine Ext.drew ?_ | refine Ext.drewN ?_ _ | refine Ext.setCell ?_ (by first | omega | (dsimp only; omega) | (simp; done) | (simp; omega)) _ | refine Ext.trans ?_ (by assumption)))).out).mono ?_
    rintro e w1 ⟨rfl, hx1⟩
    obtain ⟨hc1, hf1⟩ := hx1.cells
    have hz1 := hx1.size
    try simp at hz1
    have hs1_0 := sz2 (a := w.heap.size) (b := w1.heap.size) (by omega)
    go_wp2
    go_ret
    exact ⟨rfl, (by repeat (first | exact Ext.refl _ | assumption | refine Ext.alloc ?_ _ | refine Ext.drew ?_ | refine Ext.drewN ?_ _ | refine Ext.setCell ?_ (by first | omega | (dsimp only; omega) | (simp; done) | (simp; omega)) _ | refine Ext.trans ?_ (by assumption)))⟩
  simp only [if_pos hm1] at HZ1
  have hr0 : ¬ ((1048576 : Int) - n < 0) := by omega
  have HZ2 := HZ2 (1048576 - n) (by omega)
  by_cases hm2 : (m : Int) ≤ 1048576 - n
  case neg =>
    simp only [if_neg hm2] at HZ2
    go_enter Try.func11, Try.ntmps11
    go_wp2_with fail
    refine ((HZ1 _ (by repeat (first | exact Ext.refl _ | assumption | refine Ext.alloc ?_ _ | refine Ext.drew ?_ | refine Ext.drewN ?_ _ | refine Ext.setCell ?_ (by first | omega | (dsimp only; omega) | (simp; done) | (simp; omega)) _ | refine Ext.trans ?_ (by assumption)))).out).mono ?_
    rintro e w1 ⟨rfl, hx1⟩
    obtain ⟨hc1, hf1⟩ := hx1.cells
    have hz1 := hx1.size
    try simp at hz1
    have hs1_0 := sz2 (a := w.heap.size) (b := w1.heap.size) (by omega)
    go_wp2_with fail
    refine ((HZ2 _ (by repeat (first | exact Ext.refl _ | assumption | refine Ext.alloc ?_ _ | refine Ext.drew ?_ | refine Ext.drewN ?_ _ | refine Ext.setCell ?_ (by first | omega | (dsimp only; omega) | (simp; done) | (simp; omega)) _ | refine Ext.trans ?_ (by assumption)))).out).mono ?_
    rintro e w2 ⟨rfl, hx2⟩
    obtain ⟨hc2, hf2⟩ := hx2.cells
    have hz2 := hx2.size
    try simp at hz2
    have hs2_0 := sz2 (a := w.heap.size) (b := w2.heap.size) (by omega)
    go_wp2
    go_ret
    exact ⟨rfl, (by repeat (first | exact Ext.refl _ | assumption | refine Ext.alloc ?_ _ | refine Ext.drew ?_ | refine Ext.drewN ?_ _ | refine Ext.setCell ?_ (by first | omega | (dsimp only; omega) | (simp; done) | (simp; omega)) _ | refine Ext.trans ?_ (by assumption)))⟩
  simp only [if_pos hm2] at HZ2
  have hr1 : ¬ ((1048576 : Int) - n - m < 0) := by omega
  have HTA := HTA (by omega)
  have HTB := HTB (by omega)
  have HS := HS (by omega) (by omega)
  have HI := HI (by omega) (by omega)
  go_enter Try.func11, Try.ntmps11
  go_wp2_with fail
  refine ((HZ1 _ (by repeat (first | exact Ext.refl _ | assumption | refine Ext.alloc ?_ _ | refine Ext.drew ?_ | refine Ext.drewN ?_ _ | refine Ext.setCell ?_ (by first | omega | (dsimp only; omega) | (simp; done) | (simp; omega)) _ | refine Ext.trans ?_ (by assumption)))).out).mono ?_
  rintro e w1 ⟨rfl, hx1⟩
  obtain ⟨hc1, hf1⟩ := hx1.cells
  have hz1 := hx1.size
  try simp at hz1
  have hs1_0 := sz2 (a := w.heap.size) (b := w1.heap.size) (by omega)
  go_wp2_with fail
  refine ((HZ2 _ (by repeat (first | exact Ext.refl _ | assumption | refine Ext.alloc ?_ _ | refine Ext.drew ?_ | refine Ext.drewN ?_ _ | refine Ext.setCell ?_ (by first | omega | (dsimp only; omega) | (simp; done) | (simp; omega)) _ | refine Ext.trans ?_ (by assumption)))).out).mono ?_
  rintro e w2 ⟨rfl, hx2⟩
  obtain ⟨hc2, hf2⟩ := hx2.cells
  have hz2 := hx2.size
  try simp at hz2
  have hs2_0 := sz2 (a := w.heap.size) (b := w2.heap.size) (by omega)
  have hE2 : Ext w w2 := (by repeat (first | (with_reducible refine Ext.setCell ?_ (by first | (simp; done) | (simp; omega)) _) | with_reducible refine Ext.alloc ?_ _ | with_reducible refine Ext.drew ?_ | with_reducible refine Ext.drewN ?_ _ | with_reducible assumption | with_reducible exact Ext.refl _ | with_reducible refine Ext.trans ?_ (by with_reducible assumption)))
  have hA2 : Hid (w2.heap[w.heap.size]? = some (.cells #[.int .i64 r, .int .i64 c, .slice a1 n c1] 62 (0, 0))) := (hx2.heap (by omega)).trans ((hx1.heap (by simp <;> omega)).trans (heap_alloc_lt (heap_alloc_new _ _)))
  have hB2 : Hid (w2.heap[w.heap.size + 1]? = some (.cells #[.int .i64 r', .int .i64 c', .slice a2 m c2] 62 (0, 0))) := (hx2.heap (by omega)).trans ((hx1.heap (by simp <;> omega)).trans (heap_alloc_at _ _ _ (by simp)))
  have s2 : w.heap.size + 2 ≤ w2.heap.size := by omega
  clear hc1 hf1 hc2 hf2 hx1 hx2 HZ1 HZ2 hr0 hr1
  have zA2 : ∀ k, w2.cell? ⟨w.heap.size, k, none⟩ = (#[.int .i64 r, .int .i64 c, .slice a1 n c1] : Array Value)[k]? := fun k => cell_of_row _ _ _ _ _ _ hA2.out
  have lA2 : w.heap.size < w2.heap.size := (Array.getElem?_eq_some_iff.1 hA2.out).1
  have zB2 : ∀ k, w2.cell? ⟨w.heap.size + 1, k, none⟩ = (#[.int .i64 r', .int .i64 c', .slice a2 m c2] : Array Value)[k]? := fun k => cell_of_row _ _ _ _ _ _ hB2.out
  have lB2 : w.heap.size + 1 < w2.heap.size := (Array.getElem?_eq_some_iff.1 hB2.out).1
  have HK8 : Hid (∀ w', Ext w2 w' → (w'.cell? ⟨w.heap.size, 0, none⟩ = some (.int .i64 r) ∧ w'.cell? ⟨w.heap.size, 1, none⟩ = some (.int .i64 c) ∧ w'.cell? ⟨w.heap.size, 2, none⟩ = some (.slice a1 n c1) ∧ w'.cell? ⟨w.heap.size + 1, 0, none⟩ = some (.int .i64 r') ∧ w'.cell? ⟨w.heap.size + 1, 1, none⟩ = some (.int .i64 c') ∧ w'.cell? ⟨w.heap.size + 1, 2, none⟩ = some (.slice a2 m c2))) := fun w' hx =>
    ⟨(hx.cells.1 _ 0 lA2).trans (zA2 0), (hx.cells.1 _ 1 lA2).trans (zA2 1), (hx.cells.1 _ 2 lA2).trans (zA2 2), (hx.cells.1 _ 0 lB2).trans (zB2 0), (hx.cells.1 _ 1 lB2).trans (zB2 1), (hx.cells.1 _ 2 lB2).trans (zB2 2)⟩
  go_upto_region 8 with fail
  go_cut [6, 7] from 27 (fun u6 u7 wx => ∃ (B0 : Nat) (a0 : Option Addr) (cp0 : Nat), u6 = .pointer (some ⟨B0, 0, none⟩) ∧ u7 = .bool ok ∧ w2.heap.size ≤ B0 ∧ wx.heap[B0]? = some (.cells #[.int .i64 rr, .int .i64 cc, .slice a0 nn cp0] 51 (0, 0)) ∧ wx.ownsRow w2.heap.size 34 5 (.slice a0 nn cp0) nn (IL LL) ∧ Ext w2 wx)
  case first =>
    go_region_held3 (fun w' => w'.cell? ⟨w.heap.size, 0, none⟩ = some (.int .i64 r) ∧ w'.cell? ⟨w.heap.size, 1, none⟩ = some (.int .i64 c) ∧ w'.cell? ⟨w.heap.size, 2, none⟩ = some (.slice a1 n c1) ∧ w'.cell? ⟨w.heap.size + 1, 0, none⟩ = some (.int .i64 r') ∧ w'.cell? ⟨w.heap.size + 1, 1, none⟩ = some (.int .i64 c') ∧ w'.cell? ⟨w.heap.size + 1, 2, none⟩ = some (.slice a2 m c2)) (exact HK8.out _ (by repeat (first | (with_reducible refine Ext.setCell ?_ (by first | (simp; done) | (simp; omega)) _) | with_reducible refine Ext.alloc ?_ _ | with_reducible refine Ext.drew ?_ | with_reducible refine Ext.drewN ?_ _ | with_reducible assumption | with_reducible exact Ext.refl _ | with_reducible refine Ext.trans ?_ (by with_reducible assumption))))
      (first
      | (go_at_call 38; (with_reducible refine Calls.mono (HTA _ ?_).out ?_); (next => exact (by repeat (first | (with_reducible refine Ext.setCell ?_ (by first | (simp; done) | (simp; omega)) _) | with_reducible refine Ext.alloc ?_ _ | with_reducible refine Ext.drew ?_ | with_reducible refine Ext.drewN ?_ _ | with_reducible assumption | with_reducible exact Ext.refl _ | with_reducible refine Ext.trans ?_ (by with_reducible assumption)))); rintro e wA ⟨uA, rfl, oA, hxA⟩; obtain ⟨aA, cA, rfl, q1A, q2A, q3A⟩ := own_shape oA; clear q1A q2A q3A; have RA := Lib.hid (RV.own oA HL1.out); clear oA; obtain ⟨hcA, hfA⟩ := hxA.cells; have hsA := hxA.size; (try simp at hsA); (try have l2A : w2.heap.size < wA.heap.size := (by omega)))
      | (go_at_call 38; (with_reducible refine Calls.mono (HTB _ ?_).out ?_); (next => exact (by repeat (first | (with_reducible refine Ext.setCell ?_ (by first | (simp; done) | (simp; omega)) _) | with_reducible refine Ext.alloc ?_ _ | with_reducible refine Ext.drew ?_ | with_reducible refine Ext.drewN ?_ _ | with_reducible assumption | with_reducible exact Ext.refl _ | with_reducible refine Ext.trans ?_ (by with_reducible assumption)))); rintro e wB ⟨uB, rfl, oB, hxB⟩; obtain ⟨aB, cB, rfl, q1B, q2B, q3B⟩ := own_shape oB; clear q1B q2B q3B; have RB := Lib.hid (RV.own oB HL2.out); clear oB; obtain ⟨hcB, hfB⟩ := hxB.cells; have hsB := hxB.size; (try simp at hsB); (try have l2B : w2.heap.size < wB.heap.size := (by omega)); (try have lAB : wA.heap.size < wB.heap.size := (by omega)))
      | (go_at_call 43; (with_reducible refine Calls.mono (HS _ _ _ ?_ ?_).out ?_); (next => exact RA.out.ext (by repeat (first | (with_reducible refine Ext.setCell ?_ (by first | (simp; done) | (simp; omega)) _) | with_reducible refine Ext.alloc ?_ _ | with_reducible refine Ext.drew ?_ | with_reducible refine Ext.drewN ?_ _ | with_reducible assumption | with_reducible exact Ext.refl _ | with_reducible refine Ext.trans ?_ (by with_reducible assumption)))); (next => exact RB.out.ext (by repeat (first | (with_reducible refine Ext.setCell ?_ (by first | (simp; done) | (simp; omega)) _) | with_reducible refine Ext.alloc ?_ _ | with_reducible refine Ext.drew ?_ | with_reducible refine Ext.drewN ?_ _ | with_reducible assumption | with_reducible exact Ext.refl _ | with_reducible refine Ext.trans ?_ (by with_reducible assumption)))); rintro e wF ⟨uF, rfl, oF, hxF⟩; obtain ⟨aF, cF, rfl, q1F, q2F, q3F⟩ := own_shape oF; clear q1F q2F q3F; have OF := Lib.hid oF; clear oF; obtain ⟨hcF, hfF⟩ := hxF.cells; have hsF := hxF.size; (try simp at hsF); (try have l2F : w2.heap.size < wF.heap.size := (by omega)); (try have lAF : wA.heap.size < wF.heap.size := (by omega)); (try have lBF : wB.heap.size < wF.heap.size := (by omega))))
    all_goals
      go_wp2_with fail
      go_meet
      refine ⟨_, aF, cF, rfl, rfl, ?_, ?_, ?_, (by repeat (first | (with_reducible refine Ext.setCell ?_ (by first | (simp; done) | (simp; omega)) _) | with_reducible refine Ext.alloc ?_ _ | with_reducible refine Ext.drew ?_ | with_reducible refine Ext.drewN ?_ _ | with_reducible assumption | with_reducible exact Ext.refl _ | with_reducible refine Ext.trans ?_ (by with_reducible assumption)))⟩
      · omega
      · first
          | (with_reducible exact heap_alloc_new _ _)
          | (with_reducible refine heap_set3 (a := .int .i64 0) (b := .int .i64 0) (c := .slice none 0 0) (heap_keep hxF ?_)
             first
               | (with_reducible exact heap_alloc_new _ _)
               | (with_reducible refine heap_keep hxB ?_
                  first
                    | (with_reducible exact heap_alloc_new _ _)
                    | (with_reducible refine heap_keep hxA ?_
                       exact heap_alloc_new _ _)))
      · first
          | (with_reducible refine own_base (own_ext OF.out ((Ext.refl _).alloc _)) ?_
             first | omega | (simp <;> omega))
          | (with_reducible refine own_base (own_set (own_set (own_set OF.out ?_ _) ?_ _) ?_ _) ?_ <;> first | omega | (simp <;> omega))
  case rest =>
    clear zA2 zB2 lA2 lB2 HS
    obtain ⟨B0, a0, cp0, rfl, rfl, hB0, hb0, o0, hx3⟩ := hcut
    have hE3 : Ext w wc := hE2.trans hx3
    have O0 := Lib.hid o0
    have hk3 : Hid (∀ k, (Value.slice a0 nn cp0).ownBlock = some k → w2.heap.size ≤ k ∧ k < wc.heap.size) := fun k hk => O0.out.lt k hk
    have s3 := hx3.size
    have sB : B0 < wc.heap.size := (Array.getElem?_eq_some_iff.1 hb0).1
    have hA3 : Hid (wc.heap[w.heap.size]? = some (.cells #[.int .i64 r, .int .i64 c, .slice a1 n c1] 62 (0, 0))) := heap_keep hx3 hA2.out
    have hB3 : Hid (wc.heap[w.heap.size + 1]? = some (.cells #[.int .i64 r', .int .i64 c', .slice a2 m c2] 62 (0, 0))) := heap_keep hx3 hB2.out
    have hG03 : Hid (wc.heap[B0]? = some (.cells #[.int .i64 rr, .int .i64 cc, .slice a0 nn cp0] 51 (0, 0))) := hb0
    clear hA2 hB2
    clear o0 hb0 HK8 hx3 hE2
    have zA3 : ∀ k, wc.cell? ⟨w.heap.size, k, none⟩ = (#[.int .i64 r, .int .i64 c, .slice a1 n c1] : Array Value)[k]? := fun k => cell_of_row _ _ _ _ _ _ hA3.out
    have lA3 : w.heap.size < wc.heap.size := (Array.getElem?_eq_some_iff.1 hA3.out).1
    go_wp2_with fail
    refine (HTA _ hE3).out.mono ?_
    rintro e w4 ⟨u, rfl, o4, hx4⟩
    clear zA3 lA3
    have O4 := Lib.hid o4
    obtain ⟨aX, cX, rfl, p1, p2, p3⟩ := own_shape o4
    clear o4 p1 p2 p3
    have hk4 : Hid (∀ k, (Value.slice aX n cX).ownBlock = some k → wc.heap.size ≤ k ∧ k < w4.heap.size) := fun k hk => O4.out.lt k hk
    have hE4 : Ext w w4 := hE3.trans hx4
    have s4 := hx4.size
    have P0 := Lib.hid (own_ext O0.out hx4)
    have hA4 : Hid (w4.heap[w.heap.size]? = some (.cells #[.int .i64 r, .int .i64 c, .slice a1 n c1] 62 (0, 0))) := heap_keep hx4 hA3.out
    have hB4 : Hid (w4.heap[w.heap.size + 1]? = some (.cells #[.int .i64 r', .int .i64 c', .slice a2 m c2] 62 (0, 0))) := heap_keep hx4 hB3.out
    have hG04 : Hid (w4.heap[B0]? = some (.cells #[.int .i64 rr, .int .i64 cc, .slice a0 nn cp0] 51 (0, 0))) := heap_keep hx4 hG03.out
    clear hA3 hB3 hG03
    clear O0 hx4 hE3
    have zB4 : ∀ k, w4.cell? ⟨w.heap.size + 1, k, none⟩ = (#[.int .i64 r', .int .i64 c', .slice a2 m c2] : Array Value)[k]? := fun k => cell_of_row _ _ _ _ _ _ hB4.out
    have lB4 : w.heap.size + 1 < w4.heap.size := (Array.getElem?_eq_some_iff.1 hB4.out).1
    go_wp2_with fail
    refine (HTB _ (hE4.alloc _)).out.mono ?_
    rintro e w5 ⟨u, rfl, o5, hx5⟩
    clear zB4 lB4
    have O5 := Lib.hid o5
    obtain ⟨aY, cY, rfl, p1, p2, p3⟩ := own_shape o5
    clear o5 p1 p2 p3
    have hk5 : Hid (∀ k, (Value.slice aY m cY).ownBlock = some k → w4.heap.size + 1 ≤ k ∧ k < w5.heap.size) := fun k hk => by have := O5.out.lt k hk; simp at this; omega
    have hE5 : Ext w w5 := (hE4.alloc _).trans hx5
    have s5 := hx5.size
    simp at s5
    have P1 := Lib.hid (own_ext (own_ext P0.out ((Ext.refl _).alloc _)) hx5)
    have Q4 := Lib.hid (own_ext (own_ext O4.out ((Ext.refl _).alloc _)) hx5)
    have hA5 : Hid (w5.heap[w.heap.size]? = some (.cells #[.int .i64 r, .int .i64 c, .slice a1 n c1] 62 (0, 0))) := heap_keep hx5 (heap_alloc_lt hA4.out)
    have hB5 : Hid (w5.heap[w.heap.size + 1]? = some (.cells #[.int .i64 r', .int .i64 c', .slice a2 m c2] 62 (0, 0))) := heap_keep hx5 (heap_alloc_lt hB4.out)
    have hG05 : Hid (w5.heap[B0]? = some (.cells #[.int .i64 rr, .int .i64 cc, .slice a0 nn cp0] 51 (0, 0))) := heap_keep hx5 (heap_alloc_lt hG04.out)
    have hX05 : Hid (w5.heap[w4.heap.size]? = some (.cells #[.int .i64 r, .int .i64 c, .slice aX n cX] 51 (0, 0))) := heap_keep hx5 (heap_alloc_new _ _)
    clear hA4 hB4 hG04
    clear P0 O4 hx5 hE4
    have zX05 : ∀ k, w5.cell? ⟨w4.heap.size, k, none⟩ = (#[.int .i64 r, .int .i64 c, .slice aX n cX] : Array Value)[k]? := fun k => cell_of_row _ _ _ _ _ _ hX05.out
    have lX05 : w4.heap.size < w5.heap.size := (Array.getElem?_eq_some_iff.1 hX05.out).1
    go_wp2_with fail
    refine (HI _ _ _ (RV.own (own_ext Q4.out ((Ext.refl _).alloc _)) HL1.out) (RV.own (own_ext O5.out ((Ext.refl _).alloc _)) HL2.out)).out.mono ?_
    rintro e w6 ⟨u, rfl, o6, hx6⟩
    clear zX05 lX05
    have O6 := Lib.hid o6
    obtain ⟨aG, cG, rfl, p1, p2, p3⟩ := own_shape o6
    clear o6 p1 p2 p3
    have hk6 : Hid (∀ k, (Value.slice aG nn cG).ownBlock = some k → w5.heap.size + 1 ≤ k ∧ k < w6.heap.size) := fun k hk => by have := O6.out.lt k hk; simp at this; omega
    have hE6 : Ext w w6 := (hE5.alloc _).trans hx6
    have s6 := hx6.size
    simp at s6
    have P2 := Lib.hid (own_ext (own_ext P1.out ((Ext.refl _).alloc _)) hx6)
    have Q5 := Lib.hid (own_ext (own_ext Q4.out ((Ext.refl _).alloc _)) hx6)
    have R5 := Lib.hid (own_ext (own_ext O5.out ((Ext.refl _).alloc _)) hx6)
    have hA6 : Hid (w6.heap[w.heap.size]? = some (.cells #[.int .i64 r, .int .i64 c, .slice a1 n c1] 62 (0, 0))) := heap_keep hx6 (heap_alloc_lt hA5.out)
    have hB6 : Hid (w6.heap[w.heap.size + 1]? = some (.cells #[.int .i64 r', .int .i64 c', .slice a2 m c2] 62 (0, 0))) := heap_keep hx6 (heap_alloc_lt hB5.out)
    have hG06 : Hid (w6.heap[B0]? = some (.cells #[.int .i64 rr, .int .i64 cc, .slice a0 nn cp0] 51 (0, 0))) := heap_keep hx6 (heap_alloc_lt hG05.out)
    have hX06 : Hid (w6.heap[w4.heap.size]? = some (.cells #[.int .i64 r, .int .i64 c, .slice aX n cX] 51 (0, 0))) := heap_keep hx6 (heap_alloc_lt hX05.out)
    have hX16 : Hid (w6.heap[w5.heap.size]? = some (.cells #[.int .i64 r', .int .i64 c', .slice aY m cY] 51 (0, 0))) := heap_keep hx6 (heap_alloc_new _ _)
    clear hA5 hB5 hG05 hX05
    clear P1 Q4 O5 hx6 hE5
    have zG06 : ∀ k, w6.cell? ⟨B0, k, none⟩ = (#[.int .i64 rr, .int .i64 cc, .slice a0 nn cp0] : Array Value)[k]? := fun k => cell_of_row _ _ _ _ _ _ hG06.out
    have lG06 : B0 < w6.heap.size := (Array.getElem?_eq_some_iff.1 hG06.out).1
    go_wp2_with fail
    refine (eqMatrix_big rr cc HLL.out (by omega) _ (own_ext O6.out ((Ext.refl _).alloc _)) (own_ext P2.out ((Ext.refl _).alloc _))).mono ?_
    rintro e w7 ⟨rfl, hx7⟩
    clear zG06 lG06
    have hE7 : Ext w w7 := (hE6.alloc _).trans hx7
    have s7 := hx7.size
    simp at s7
    have P3 := Lib.hid (own_ext (own_ext P2.out ((Ext.refl _).alloc _)) hx7)
    have Q6 := Lib.hid (own_ext (own_ext Q5.out ((Ext.refl _).alloc _)) hx7)
    have R6 := Lib.hid (own_ext (own_ext R5.out ((Ext.refl _).alloc _)) hx7)
    have T6 := Lib.hid (own_ext (own_ext O6.out ((Ext.refl _).alloc _)) hx7)
    have hA7 : Hid (w7.heap[w.heap.size]? = some (.cells #[.int .i64 r, .int .i64 c, .slice a1 n c1] 62 (0, 0))) := heap_keep hx7 (heap_alloc_lt hA6.out)
    have hB7 : Hid (w7.heap[w.heap.size + 1]? = some (.cells #[.int .i64 r', .int .i64 c', .slice a2 m c2] 62 (0, 0))) := heap_keep hx7 (heap_alloc_lt hB6.out)
    have hG07 : Hid (w7.heap[B0]? = some (.cells #[.int .i64 rr, .int .i64 cc, .slice a0 nn cp0] 51 (0, 0))) := heap_keep hx7 (heap_alloc_lt hG06.out)
    have hX07 : Hid (w7.heap[w4.heap.size]? = some (.cells #[.int .i64 r, .int .i64 c, .slice aX n cX] 51 (0, 0))) := heap_keep hx7 (heap_alloc_lt hX06.out)
    have hX17 : Hid (w7.heap[w5.heap.size]? = some (.cells #[.int .i64 r', .int .i64 c', .slice aY m cY] 51 (0, 0))) := heap_keep hx7 (heap_alloc_lt hX16.out)
    have hG7 : Hid (w7.heap[w6.heap.size]? = some (.cells #[.int .i64 rr, .int .i64 cc, .slice aG nn cG] 51 (0, 0))) := heap_keep hx7 (heap_alloc_new _ _)
    clear hA6 hB6 hG06 hX06 hX16
    clear P2 Q5 R5 O6 hx7 hE6
    have zX07 : ∀ k, w7.cell? ⟨w4.heap.size, k, none⟩ = (#[.int .i64 r, .int .i64 c, .slice aX n cX] : Array Value)[k]? := fun k => cell_of_row _ _ _ _ _ _ hX07.out
    have lX07 : w4.heap.size < w7.heap.size := (Array.getElem?_eq_some_iff.1 hX07.out).1
    have zA7 : ∀ k, w7.cell? ⟨w.heap.size, k, none⟩ = (#[.int .i64 r, .int .i64 c, .slice a1 n c1] : Array Value)[k]? := fun k => cell_of_row _ _ _ _ _ _ hA7.out
    have lA7 : w.heap.size < w7.heap.size := (Array.getElem?_eq_some_iff.1 hA7.out).1
    have HK7 : Hid (∀ w', Ext w7 w' → (w'.cell? ⟨w4.heap.size, 0, none⟩ = some (.int .i64 r) ∧ w'.cell? ⟨w4.heap.size, 1, none⟩ = some (.int .i64 c) ∧ w'.cell? ⟨w4.heap.size, 2, none⟩ = some (.slice aX n cX) ∧ w'.cell? ⟨w.heap.size, 0, none⟩ = some (.int .i64 r) ∧ w'.cell? ⟨w.heap.size, 1, none⟩ = some (.int .i64 c) ∧ w'.cell? ⟨w.heap.size, 2, none⟩ = some (.slice a1 n c1))) := fun w' hx =>
      ⟨(hx.cells.1 _ 0 lX07).trans (zX07 0), (hx.cells.1 _ 1 lX07).trans (zX07 1), (hx.cells.1 _ 2 lX07).trans (zX07 2), (hx.cells.1 _ 0 lA7).trans (zA7 0), (hx.cells.1 _ 1 lA7).trans (zA7 1), (hx.cells.1 _ 2 lA7).trans (zA7 2)⟩
    go_wp2_with fail
    go_region_held3 (fun w' => w'.cell? ⟨w4.heap.size, 0, none⟩ = some (.int .i64 r) ∧ w'.cell? ⟨w4.heap.size, 1, none⟩ = some (.int .i64 c) ∧ w'.cell? ⟨w4.heap.size, 2, none⟩ = some (.slice aX n cX) ∧ w'.cell? ⟨w.heap.size, 0, none⟩ = some (.int .i64 r) ∧ w'.cell? ⟨w.heap.size, 1, none⟩ = some (.int .i64 c) ∧ w'.cell? ⟨w.heap.size, 2, none⟩ = some (.slice a1 n c1)) (exact HK7.out _ (by repeat (first | (with_reducible refine Ext.setCell ?_ (by first | (simp; done) | (simp; omega)) _) | with_reducible refine Ext.alloc ?_ _ | with_reducible refine Ext.drew ?_ | with_reducible refine Ext.drewN ?_ _ | with_reducible assumption | with_reducible exact Ext.refl _ | with_reducible refine Ext.trans ?_ (by with_reducible assumption))))
      (first
      | (go_at_call 38; (with_reducible refine (HTA _ (by repeat (first | (with_reducible refine Ext.setCell ?_ (by first | (simp; done) | (simp; omega)) _) | with_reducible refine Ext.alloc ?_ _ | with_reducible refine Ext.drew ?_ | with_reducible refine Ext.drewN ?_ _ | with_reducible assumption | with_reducible exact Ext.refl _ | with_reducible refine Ext.trans ?_ (by with_reducible assumption)))).out.mono ?_); rintro e w8 ⟨u, rfl, o8, hx8⟩; have O8 := Lib.hid o8; obtain ⟨aE, cE, rfl, q1E, q2E, q3E⟩ := own_shape o8; clear q1E q2E q3E o8)
      | (go_at_call 33; (with_reducible refine (eqMatrix_big r c HL1.out (by omega) _ (own_ext Q6.out (by repeat (first | (with_reducible refine Ext.setCell ?_ (by first | (simp; done) | (simp; omega)) _) | with_reducible refine Ext.alloc ?_ _ | with_reducible refine Ext.drew ?_ | with_reducible refine Ext.drewN ?_ _ | with_reducible assumption | with_reducible exact Ext.refl _ | with_reducible refine Ext.trans ?_ (by with_reducible assumption)))) O8.out).mono ?_); rintro e w9 ⟨rfl, hx9⟩))
    have hx79 : Ext w7 w9 := (by repeat (first | (with_reducible refine Ext.setCell ?_ (by first | (simp; done) | (simp; omega)) _) | with_reducible refine Ext.alloc ?_ _ | with_reducible refine Ext.drew ?_ | with_reducible refine Ext.drewN ?_ _ | with_reducible assumption | with_reducible exact Ext.refl _ | with_reducible refine Ext.trans ?_ (by with_reducible assumption)))
    have hE9 : Ext w w9 := hE7.trans hx79
    have s9 := hx79.size
    clear zX07 lX07 zA7 lA7
    have P4 := Lib.hid (own_ext P3.out hx79)
    have Q7 := Lib.hid (own_ext Q6.out hx79)
    have R7 := Lib.hid (own_ext R6.out hx79)
    have T7 := Lib.hid (own_ext T6.out hx79)
    have hA9 : Hid (w9.heap[w.heap.size]? = some (.cells #[.int .i64 r, .int .i64 c, .slice a1 n c1] 62 (0, 0))) := heap_keep hx79 hA7.out
    have hB9 : Hid (w9.heap[w.heap.size + 1]? = some (.cells #[.int .i64 r', .int .i64 c', .slice a2 m c2] 62 (0, 0))) := heap_keep hx79 hB7.out
    have hG09 : Hid (w9.heap[B0]? = some (.cells #[.int .i64 rr, .int .i64 cc, .slice a0 nn cp0] 51 (0, 0))) := heap_keep hx79 hG07.out
    have hX09 : Hid (w9.heap[w4.heap.size]? = some (.cells #[.int .i64 r, .int .i64 c, .slice aX n cX] 51 (0, 0))) := heap_keep hx79 hX07.out
    have hX19 : Hid (w9.heap[w5.heap.size]? = some (.cells #[.int .i64 r', .int .i64 c', .slice aY m cY] 51 (0, 0))) := heap_keep hx79 hX17.out
    have hG9 : Hid (w9.heap[w6.heap.size]? = some (.cells #[.int .i64 rr, .int .i64 cc, .slice aG nn cG] 51 (0, 0))) := heap_keep hx79 hG7.out
    clear hA7 hB7 hG07 hX07 hX17 hG7
    clear P3 Q6 R6 T6 O8 hx8 hx9 hx79 HK7 hE7
    have zX19 : ∀ k, w9.cell? ⟨w5.heap.size, k, none⟩ = (#[.int .i64 r', .int .i64 c', .slice aY m cY] : Array Value)[k]? := fun k => cell_of_row _ _ _ _ _ _ hX19.out
    have lX19 : w5.heap.size < w9.heap.size := (Array.getElem?_eq_some_iff.1 hX19.out).1
    have zB9 : ∀ k, w9.cell? ⟨w.heap.size + 1, k, none⟩ = (#[.int .i64 r', .int .i64 c', .slice a2 m c2] : Array Value)[k]? := fun k => cell_of_row _ _ _ _ _ _ hB9.out
    have lB9 : w.heap.size + 1 < w9.heap.size := (Array.getElem?_eq_some_iff.1 hB9.out).1
    have HK9 : Hid (∀ w', Ext w9 w' → (w'.cell? ⟨w5.heap.size, 0, none⟩ = some (.int .i64 r') ∧ w'.cell? ⟨w5.heap.size, 1, none⟩ = some (.int .i64 c') ∧ w'.cell? ⟨w5.heap.size, 2, none⟩ = some (.slice aY m cY) ∧ w'.cell? ⟨w.heap.size + 1, 0, none⟩ = some (.int .i64 r') ∧ w'.cell? ⟨w.heap.size + 1, 1, none⟩ = some (.int .i64 c') ∧ w'.cell? ⟨w.heap.size + 1, 2, none⟩ = some (.slice a2 m c2))) := fun w' hx =>
      ⟨(hx.cells.1 _ 0 lX19).trans (zX19 0), (hx.cells.1 _ 1 lX19).trans (zX19 1), (hx.cells.1 _ 2 lX19).trans (zX19 2), (hx.cells.1 _ 0 lB9).trans (zB9 0), (hx.cells.1 _ 1 lB9).trans (zB9 1), (hx.cells.1 _ 2 lB9).trans (zB9 2)⟩
    go_wp2_with fail
    go_region_held3 (fun w' => w'.cell? ⟨w5.heap.size, 0, none⟩ = some (.int .i64 r') ∧ w'.cell? ⟨w5.heap.size, 1, none⟩ = some (.int .i64 c') ∧ w'.cell? ⟨w5.heap.size, 2, none⟩ = some (.slice aY m cY) ∧ w'.cell? ⟨w.heap.size + 1, 0, none⟩ = some (.int .i64 r') ∧ w'.cell? ⟨w.heap.size + 1, 1, none⟩ = some (.int .i64 c') ∧ w'.cell? ⟨w.heap.size + 1, 2, none⟩ = some (.slice a2 m c2)) (exact HK9.out _ (by repeat (first | (with_reducible refine Ext.setCell ?_ (by first | (simp; done) | (simp; omega)) _) | with_reducible refine Ext.alloc ?_ _ | with_reducible refine Ext.drew ?_ | with_reducible refine Ext.drewN ?_ _ | with_reducible assumption | with_reducible exact Ext.refl _ | with_reducible refine Ext.trans ?_ (by with_reducible assumption))))
      (first
      | (go_at_call 38; (with_reducible refine (HTB _ (by repeat (first | (with_reducible refine Ext.setCell ?_ (by first | (simp; done) | (simp; omega)) _) | with_reducible refine Ext.alloc ?_ _ | with_reducible refine Ext.drew ?_ | with_reducible refine Ext.drewN ?_ _ | with_reducible assumption | with_reducible exact Ext.refl _ | with_reducible refine Ext.trans ?_ (by with_reducible assumption)))).out.mono ?_); rintro e w10 ⟨u, rfl, o10, hx10⟩; have O10 := Lib.hid o10; obtain ⟨aE, cE, rfl, q1E, q2E, q3E⟩ := own_shape o10; clear q1E q2E q3E o10)
      | (go_at_call 33; (with_reducible refine (eqMatrix_big r' c' HL2.out (by omega) _ (own_ext R7.out (by repeat (first | (with_reducible refine Ext.setCell ?_ (by first | (simp; done) | (simp; omega)) _) | with_reducible refine Ext.alloc ?_ _ | with_reducible refine Ext.drew ?_ | with_reducible refine Ext.drewN ?_ _ | with_reducible assumption | with_reducible exact Ext.refl _ | with_reducible refine Ext.trans ?_ (by with_reducible assumption)))) O10.out).mono ?_); rintro e w11 ⟨rfl, hx11⟩))
    have hx911 : Ext w9 w11 := (by repeat (first | (with_reducible refine Ext.setCell ?_ (by first | (simp; done) | (simp; omega)) _) | with_reducible refine Ext.alloc ?_ _ | with_reducible refine Ext.drew ?_ | with_reducible refine Ext.drewN ?_ _ | with_reducible assumption | with_reducible exact Ext.refl _ | with_reducible refine Ext.trans ?_ (by with_reducible assumption)))
    have hE11 : Ext w w11 := hE9.trans hx911
    have s11 := hx911.size
    clear zX19 lX19 zB9 lB9
    have P5 := Lib.hid (own_ext P4.out hx911)
    have Q8 := Lib.hid (own_ext Q7.out hx911)
    have R8 := Lib.hid (own_ext R7.out hx911)
    have T8 := Lib.hid (own_ext T7.out hx911)
    have hA11 : Hid (w11.heap[w.heap.size]? = some (.cells #[.int .i64 r, .int .i64 c, .slice a1 n c1] 62 (0, 0))) := heap_keep hx911 hA9.out
    have hB11 : Hid (w11.heap[w.heap.size + 1]? = some (.cells #[.int .i64 r', .int .i64 c', .slice a2 m c2] 62 (0, 0))) := heap_keep hx911 hB9.out
    have hG011 : Hid (w11.heap[B0]? = some (.cells #[.int .i64 rr, .int .i64 cc, .slice a0 nn cp0] 51 (0, 0))) := heap_keep hx911 hG09.out
    have hX011 : Hid (w11.heap[w4.heap.size]? = some (.cells #[.int .i64 r, .int .i64 c, .slice aX n cX] 51 (0, 0))) := heap_keep hx911 hX09.out
    have hX111 : Hid (w11.heap[w5.heap.size]? = some (.cells #[.int .i64 r', .int .i64 c', .slice aY m cY] 51 (0, 0))) := heap_keep hx911 hX19.out
    have hG11 : Hid (w11.heap[w6.heap.size]? = some (.cells #[.int .i64 rr, .int .i64 cc, .slice aG nn cG] 51 (0, 0))) := heap_keep hx911 hG9.out
    clear hA9 hB9 hG09 hX09 hX19 hG9
    clear P4 Q7 R7 T7 O10 hx10 hx11 hx911 HK9 hE9
    have zX011 : ∀ k, w11.cell? ⟨w4.heap.size, k, none⟩ = (#[.int .i64 r, .int .i64 c, .slice aX n cX] : Array Value)[k]? := fun k => cell_of_row _ _ _ _ _ _ hX011.out
    have lX011 : w4.heap.size < w11.heap.size := (Array.getElem?_eq_some_iff.1 hX011.out).1
    go_wp2_with fail
    refine (markMatrix_big r c (by rw [il_length]; exact HL1.out) (by omega) (1) (by omega) _ Q8.out).mono ?_
    rintro e w12 ⟨rfl, om12, hg12⟩
    clear zX011 lX011
    have hE12 : Ext w w12 := Ext.grown (hE11.alloc _) hg12 (fun k hk => by have := hk4.out k hk; omega)
    have s12 := hg12.size
    simp at s12
    have P6 := Lib.hid (own_far (own_ext P5.out ((Ext.refl _).alloc _)) hg12 (fun j hj k hk => by have := hk4.out j hj; have := hk3.out k hk; omega))
    have R9 := Lib.hid (own_far (own_ext R8.out ((Ext.refl _).alloc _)) hg12 (fun j hj k hk => by have := hk4.out j hj; have := hk5.out k hk; omega))
    have T9 := Lib.hid (own_far (own_ext T8.out ((Ext.refl _).alloc _)) hg12 (fun j hj k hk => by have := hk4.out j hj; have := hk6.out k hk; omega))
    have hA12 : Hid (w12.heap[w.heap.size]? = some (.cells #[.int .i64 r, .int .i64 c, .slice a1 n c1] 62 (0, 0))) := heap_far hg12 (heap_alloc_lt hA11.out) (fun j hj => by have := hk4.out j hj; omega)
    have hB12 : Hid (w12.heap[w.heap.size + 1]? = some (.cells #[.int .i64 r', .int .i64 c', .slice a2 m c2] 62 (0, 0))) := heap_far hg12 (heap_alloc_lt hB11.out) (fun j hj => by have := hk4.out j hj; omega)
    have hG012 : Hid (w12.heap[B0]? = some (.cells #[.int .i64 rr, .int .i64 cc, .slice a0 nn cp0] 51 (0, 0))) := heap_far hg12 (heap_alloc_lt hG011.out) (fun j hj => by have := hk4.out j hj; omega)
    have hX012 : Hid (w12.heap[w4.heap.size]? = some (.cells #[.int .i64 r, .int .i64 c, .slice aX n cX] 51 (0, 0))) := heap_far hg12 (heap_alloc_lt hX011.out) (fun j hj => by have := hk4.out j hj; omega)
    have hX112 : Hid (w12.heap[w5.heap.size]? = some (.cells #[.int .i64 r', .int .i64 c', .slice aY m cY] 51 (0, 0))) := heap_far hg12 (heap_alloc_lt hX111.out) (fun j hj => by have := hk4.out j hj; omega)
    have hG12 : Hid (w12.heap[w6.heap.size]? = some (.cells #[.int .i64 rr, .int .i64 cc, .slice aG nn cG] 51 (0, 0))) := heap_far hg12 (heap_alloc_lt hG11.out) (fun j hj => by have := hk4.out j hj; omega)
    clear hA11 hB11 hG011 hX011 hX111 hG11
    clear hE11 P5 R8 T8
    clear om12 hg12 Q8
    have zX112 : ∀ k, w12.cell? ⟨w5.heap.size, k, none⟩ = (#[.int .i64 r', .int .i64 c', .slice aY m cY] : Array Value)[k]? := fun k => cell_of_row _ _ _ _ _ _ hX112.out
    have lX112 : w5.heap.size < w12.heap.size := (Array.getElem?_eq_some_iff.1 hX112.out).1
    go_wp2_with fail
    refine (markMatrix_big r' c' (by rw [il_length]; exact HL2.out) (by omega) (1 + (n : Int) * 5) (by omega) _ R9.out).mono ?_
    rintro e w13 ⟨rfl, om13, hg13⟩
    clear zX112 lX112
    have hE13 : Ext w w13 := Ext.grown (hE12.alloc _) hg13 (fun k hk => by have := hk5.out k hk; omega)
    have s13 := hg13.size
    simp at s13
    have P7 := Lib.hid (own_far (own_ext P6.out ((Ext.refl _).alloc _)) hg13 (fun j hj k hk => by have := hk5.out j hj; have := hk3.out k hk; omega))
    have T10 := Lib.hid (own_far (own_ext T9.out ((Ext.refl _).alloc _)) hg13 (fun j hj k hk => by have := hk5.out j hj; have := hk6.out k hk; omega))
    have hA13 : Hid (w13.heap[w.heap.size]? = some (.cells #[.int .i64 r, .int .i64 c, .slice a1 n c1] 62 (0, 0))) := heap_far hg13 (heap_alloc_lt hA12.out) (fun j hj => by have := hk5.out j hj; omega)
    have hB13 : Hid (w13.heap[w.heap.size + 1]? = some (.cells #[.int .i64 r', .int .i64 c', .slice a2 m c2] 62 (0, 0))) := heap_far hg13 (heap_alloc_lt hB12.out) (fun j hj => by have := hk5.out j hj; omega)
    have hG013 : Hid (w13.heap[B0]? = some (.cells #[.int .i64 rr, .int .i64 cc, .slice a0 nn cp0] 51 (0, 0))) := heap_far hg13 (heap_alloc_lt hG012.out) (fun j hj => by have := hk5.out j hj; omega)
    have hX013 : Hid (w13.heap[w4.heap.size]? = some (.cells #[.int .i64 r, .int .i64 c, .slice aX n cX] 51 (0, 0))) := heap_far hg13 (heap_alloc_lt hX012.out) (fun j hj => by have := hk5.out j hj; omega)
    have hX113 : Hid (w13.heap[w5.heap.size]? = some (.cells #[.int .i64 r', .int .i64 c', .slice aY m cY] 51 (0, 0))) := heap_far hg13 (heap_alloc_lt hX112.out) (fun j hj => by have := hk5.out j hj; omega)
    have hG13 : Hid (w13.heap[w6.heap.size]? = some (.cells #[.int .i64 rr, .int .i64 cc, .slice aG nn cG] 51 (0, 0))) := heap_far hg13 (heap_alloc_lt hG12.out) (fun j hj => by have := hk5.out j hj; omega)
    clear hA12 hB12 hG012 hX012 hX112 hG12
    clear hE12 P6 T9
    clear om13 hg13 R9
    have hkn : ¬ ((1 : Int) + n * 5 + m * 5 < 0) := by omega
    have zG13 : ∀ k, w13.cell? ⟨w6.heap.size, k, none⟩ = (#[.int .i64 rr, .int .i64 cc, .slice aG nn cG] : Array Value)[k]? := fun k => cell_of_row _ _ _ _ _ _ hG13.out
    have lG13 : w6.heap.size < w13.heap.size := (Array.getElem?_eq_some_iff.1 hG13.out).1
    have zG013 : ∀ k, w13.cell? ⟨B0, k, none⟩ = (#[.int .i64 rr, .int .i64 cc, .slice a0 nn cp0] : Array Value)[k]? := fun k => cell_of_row _ _ _ _ _ _ hG013.out
    have lG013 : B0 < w13.heap.size := (Array.getElem?_eq_some_iff.1 hG013.out).1
    go_wp2_with fail
    refine (eqMatrix_big rr cc HLL.out (by omega) _ T10.out P7.out).mono ?_
    rintro e w14 ⟨rfl, hx14⟩
    clear zG13 lG13 zG013 lG013
    have hE14 : Ext w w14 := hE13.trans hx14
    have s14 := hx14.size
    have P8 := Lib.hid (own_ext P7.out hx14)
    have T11 := Lib.hid (own_ext T10.out hx14)
    have hA14 : Hid (w14.heap[w.heap.size]? = some (.cells #[.int .i64 r, .int .i64 c, .slice a1 n c1] 62 (0, 0))) := heap_keep hx14 hA13.out
    have hB14 : Hid (w14.heap[w.heap.size + 1]? = some (.cells #[.int .i64 r', .int .i64 c', .slice a2 m c2] 62 (0, 0))) := heap_keep hx14 hB13.out
    have hG014 : Hid (w14.heap[B0]? = some (.cells #[.int .i64 rr, .int .i64 cc, .slice a0 nn cp0] 51 (0, 0))) := heap_keep hx14 hG013.out
    have hX014 : Hid (w14.heap[w4.heap.size]? = some (.cells #[.int .i64 r, .int .i64 c, .slice aX n cX] 51 (0, 0))) := heap_keep hx14 hX013.out
    have hX114 : Hid (w14.heap[w5.heap.size]? = some (.cells #[.int .i64 r', .int .i64 c', .slice aY m cY] 51 (0, 0))) := heap_keep hx14 hX113.out
    have hG14 : Hid (w14.heap[w6.heap.size]? = some (.cells #[.int .i64 rr, .int .i64 cc, .slice aG nn cG] 51 (0, 0))) := heap_keep hx14 hG13.out
    clear hA13 hB13 hG013 hX013 hX113 hG13
    clear P7 T10 hx14 hkn hE13
    have zG14 : ∀ k, w14.cell? ⟨w6.heap.size, k, none⟩ = (#[.int .i64 rr, .int .i64 cc, .slice aG nn cG] : Array Value)[k]? := fun k => cell_of_row _ _ _ _ _ _ hG14.out
    have lG14 : w6.heap.size < w14.heap.size := (Array.getElem?_eq_some_iff.1 hG14.out).1
    go_wp2_with fail
    refine (markMatrix_big rr cc (by rw [il_length]; exact HLL.out) (by omega) (1) (by omega) _ T11.out).mono ?_
    rintro e w15 ⟨rfl, om15, hg15⟩
    clear zG14 lG14
    have hE15 : Ext w w15 := Ext.grown (hE14.alloc _) hg15 (fun k hk => by have := hk6.out k hk; omega)
    have s15 := hg15.size
    simp at s15
    have P9 := Lib.hid (own_far (own_ext P8.out ((Ext.refl _).alloc _)) hg15 (fun j hj k hk => by have := hk6.out j hj; have := hk3.out k hk; omega))
    have hA15 : Hid (w15.heap[w.heap.size]? = some (.cells #[.int .i64 r, .int .i64 c, .slice a1 n c1] 62 (0, 0))) := heap_far hg15 (heap_alloc_lt hA14.out) (fun j hj => by have := hk6.out j hj; omega)
    have hB15 : Hid (w15.heap[w.heap.size + 1]? = some (.cells #[.int .i64 r', .int .i64 c', .slice a2 m c2] 62 (0, 0))) := heap_far hg15 (heap_alloc_lt hB14.out) (fun j hj => by have := hk6.out j hj; omega)
    have hG015 : Hid (w15.heap[B0]? = some (.cells #[.int .i64 rr, .int .i64 cc, .slice a0 nn cp0] 51 (0, 0))) := heap_far hg15 (heap_alloc_lt hG014.out) (fun j hj => by have := hk6.out j hj; omega)
    have hX015 : Hid (w15.heap[w4.heap.size]? = some (.cells #[.int .i64 r, .int .i64 c, .slice aX n cX] 51 (0, 0))) := heap_far hg15 (heap_alloc_lt hX014.out) (fun j hj => by have := hk6.out j hj; omega)
    have hX115 : Hid (w15.heap[w5.heap.size]? = some (.cells #[.int .i64 r', .int .i64 c', .slice aY m cY] 51 (0, 0))) := heap_far hg15 (heap_alloc_lt hX114.out) (fun j hj => by have := hk6.out j hj; omega)
    have hG15 : Hid (w15.heap[w6.heap.size]? = some (.cells #[.int .i64 rr, .int .i64 cc, .slice aG nn cG] 51 (0, 0))) := heap_far hg15 (heap_alloc_lt hG14.out) (fun j hj => by have := hk6.out j hj; omega)
    clear hA14 hB14 hG014 hX014 hX114 hG14
    clear hE14 P8
    have M1 := Lib.hid om15
    clear om15 hg15 T11
    go_upto_region 25 with fail
    go_cut [14] from 17 (fun u14 wx => u14 = .int .i64 1 ∧ w15 = wx)
    case first =>
      go_wp2_with fail
      go_meet
      exact ⟨rfl, rfl⟩
    case rest =>
      obtain ⟨rfl, rfl⟩ := hcut
      have zG15 : ∀ k, w15.cell? ⟨w6.heap.size, k, none⟩ = (#[.int .i64 rr, .int .i64 cc, .slice aG nn cG] : Array Value)[k]? := fun k => cell_of_row _ _ _ _ _ _ hG15.out
      have lG15 : w6.heap.size < w15.heap.size := (Array.getElem?_eq_some_iff.1 hG15.out).1
      go_wp2_with fail
      refine (heldMatrix_big rr cc (by omega) 1 (by omega) _ M1.out).mono ?_
      rintro e w16 ⟨rfl, hx16⟩
      clear zG15 lG15
      have hE16 : Ext w w16 := hE15.trans hx16
      have s16 := hx16.size
      have P10 := Lib.hid (own_ext P9.out hx16)
      have M2 := Lib.hid (own_ext M1.out hx16)
      have hA16 : Hid (w16.heap[w.heap.size]? = some (.cells #[.int .i64 r, .int .i64 c, .slice a1 n c1] 62 (0, 0))) := heap_keep hx16 hA15.out
      have hB16 : Hid (w16.heap[w.heap.size + 1]? = some (.cells #[.int .i64 r', .int .i64 c', .slice a2 m c2] 62 (0, 0))) := heap_keep hx16 hB15.out
      have hG016 : Hid (w16.heap[B0]? = some (.cells #[.int .i64 rr, .int .i64 cc, .slice a0 nn cp0] 51 (0, 0))) := heap_keep hx16 hG015.out
      have hG16 : Hid (w16.heap[w6.heap.size]? = some (.cells #[.int .i64 rr, .int .i64 cc, .slice aG nn cG] 51 (0, 0))) := heap_keep hx16 hG15.out
      clear hA15 hB15 hG015 hX015 hX115 hG15
      clear P9 M1 hx16 hE15
      have BUN := Lib.hid (And.intro hG016.out (And.intro hG16.out (And.intro P10.out (And.intro M2.out (And.intro hle (And.intro hm1 hE16))))))
      have hE16' : Ext w w16 := hE16
      clear hG016 hG16 P10 M2 s2 s3 s4 s5 s6 s7 s9 s11 s12 s13 s14 s15 s16 sB hk3 hk4 hk5 hk6 hB0 hE16
      have zA16 : ∀ k, w16.cell? ⟨w.heap.size, k, none⟩ = (#[.int .i64 r, .int .i64 c, .slice a1 n c1] : Array Value)[k]? := fun k => cell_of_row _ _ _ _ _ _ hA16.out
      have lA16 : w.heap.size < w16.heap.size := (Array.getElem?_eq_some_iff.1 hA16.out).1
      have zB16 : ∀ k, w16.cell? ⟨w.heap.size + 1, k, none⟩ = (#[.int .i64 r', .int .i64 c', .slice a2 m c2] : Array Value)[k]? := fun k => cell_of_row _ _ _ _ _ _ hB16.out
      have lB16 : w.heap.size + 1 < w16.heap.size := (Array.getElem?_eq_some_iff.1 hB16.out).1
      have HK31 : Hid (∀ w', Ext w16 w' → (w'.cell? ⟨w.heap.size, 0, none⟩ = some (.int .i64 r) ∧ w'.cell? ⟨w.heap.size, 1, none⟩ = some (.int .i64 c) ∧ w'.cell? ⟨w.heap.size, 2, none⟩ = some (.slice a1 n c1) ∧ w'.cell? ⟨w.heap.size + 1, 0, none⟩ = some (.int .i64 r') ∧ w'.cell? ⟨w.heap.size + 1, 1, none⟩ = some (.int .i64 c') ∧ w'.cell? ⟨w.heap.size + 1, 2, none⟩ = some (.slice a2 m c2))) := fun w' hx =>
        ⟨(hx.cells.1 _ 0 lA16).trans (zA16 0), (hx.cells.1 _ 1 lA16).trans (zA16 1), (hx.cells.1 _ 2 lA16).trans (zA16 2), (hx.cells.1 _ 0 lB16).trans (zB16 0), (hx.cells.1 _ 1 lB16).trans (zB16 1), (hx.cells.1 _ 2 lB16).trans (zB16 2)⟩
      go_upto_region 31 with fail
      go_cut [15, 16] from 94 (fun u15 u16 wx => ∃ (B1 : Nat) (aH : Option Addr) (cH : Nat), u15 = .pointer (some ⟨B1, 0, none⟩) ∧ u16 = .bool ok ∧ w16.heap.size ≤ B1 ∧ wx.heap[B1]? = some (.cells #[.int .i64 rr, .int .i64 cc, .slice aH nn cH] 51 (0, 0)) ∧ wx.ownsRow w16.heap.size 34 5 (.slice aH nn cH) nn (IL LL) ∧ Ext w16 wx)
      case first =>
        go_region_held3 (fun w' => w'.cell? ⟨w.heap.size, 0, none⟩ = some (.int .i64 r) ∧ w'.cell? ⟨w.heap.size, 1, none⟩ = some (.int .i64 c) ∧ w'.cell? ⟨w.heap.size, 2, none⟩ = some (.slice a1 n c1) ∧ w'.cell? ⟨w.heap.size + 1, 0, none⟩ = some (.int .i64 r') ∧ w'.cell? ⟨w.heap.size + 1, 1, none⟩ = some (.int .i64 c') ∧ w'.cell? ⟨w.heap.size + 1, 2, none⟩ = some (.slice a2 m c2)) (exact HK31.out _ (by repeat (first | (with_reducible refine Ext.setCell ?_ (by first | (simp; done) | (simp; omega)) _) | with_reducible refine Ext.alloc ?_ _ | with_reducible refine Ext.drew ?_ | with_reducible refine Ext.drewN ?_ _ | with_reducible assumption | with_reducible exact Ext.refl _ | with_reducible refine Ext.trans ?_ (by with_reducible assumption))))
          (first
          | (go_at_call 38; (with_reducible refine Calls.mono (HTA _ ?_).out ?_); (next => exact (by repeat (first | (with_reducible refine Ext.setCell ?_ (by first | (simp; done) | (simp; omega)) _) | with_reducible refine Ext.alloc ?_ _ | with_reducible refine Ext.drew ?_ | with_reducible refine Ext.drewN ?_ _ | with_reducible assumption | with_reducible exact Ext.refl _ | with_reducible refine Ext.trans ?_ (by with_reducible assumption)))); rintro e wA ⟨uA, rfl, oA, hxA⟩; obtain ⟨aA, cA, rfl, q1A, q2A, q3A⟩ := own_shape oA; clear q1A q2A q3A; have RA := Lib.hid (RV.own oA HL1.out); clear oA; obtain ⟨hcA, hfA⟩ := hxA.cells; have hsA := hxA.size; (try simp at hsA); (try have l2A : w16.heap.size < wA.heap.size := (by omega)))
          | (go_at_call 38; (with_reducible refine Calls.mono (HTB _ ?_).out ?_); (next => exact (by repeat (first | (with_reducible refine Ext.setCell ?_ (by first | (simp; done) | (simp; omega)) _) | with_reducible refine Ext.alloc ?_ _ | with_reducible refine Ext.drew ?_ | with_reducible refine Ext.drewN ?_ _ | with_reducible assumption | with_reducible exact Ext.refl _ | with_reducible refine Ext.trans ?_ (by with_reducible assumption)))); rintro e wB ⟨uB, rfl, oB, hxB⟩; obtain ⟨aB, cB, rfl, q1B, q2B, q3B⟩ := own_shape oB; clear q1B q2B q3B; have RB := Lib.hid (RV.own oB HL2.out); clear oB; obtain ⟨hcB, hfB⟩ := hxB.cells; have hsB := hxB.size; (try simp at hsB); (try have l2B : w16.heap.size < wB.heap.size := (by omega)); (try have lAB : wA.heap.size < wB.heap.size := (by omega)))
          | (go_at_call 44; (with_reducible refine Calls.mono (HI _ _ _ ?_ ?_).out ?_); (next => exact RA.out.ext (by repeat (first | (with_reducible refine Ext.setCell ?_ (by first | (simp; done) | (simp; omega)) _) | with_reducible refine Ext.alloc ?_ _ | with_reducible refine Ext.drew ?_ | with_reducible refine Ext.drewN ?_ _ | with_reducible assumption | with_reducible exact Ext.refl _ | with_reducible refine Ext.trans ?_ (by with_reducible assumption)))); (next => exact RB.out.ext (by repeat (first | (with_reducible refine Ext.setCell ?_ (by first | (simp; done) | (simp; omega)) _) | with_reducible refine Ext.alloc ?_ _ | with_reducible refine Ext.drew ?_ | with_reducible refine Ext.drewN ?_ _ | with_reducible assumption | with_reducible exact Ext.refl _ | with_reducible refine Ext.trans ?_ (by with_reducible assumption)))); rintro e wF ⟨uF, rfl, oF, hxF⟩; obtain ⟨aF, cF, rfl, q1F, q2F, q3F⟩ := own_shape oF; clear q1F q2F q3F; have OF := Lib.hid oF; clear oF; obtain ⟨hcF, hfF⟩ := hxF.cells; have hsF := hxF.size; (try simp at hsF); (try have l2F : w16.heap.size < wF.heap.size := (by omega)); (try have lAF : wA.heap.size < wF.heap.size := (by omega)); (try have lBF : wB.heap.size < wF.heap.size := (by omega))))
        all_goals
          go_wp2_with fail
          go_meet
          refine ⟨_, aF, cF, rfl, rfl, ?_, ?_, ?_, (by repeat (first | (with_reducible refine Ext.setCell ?_ (by first | (simp; done) | (simp; omega)) _) | with_reducible refine Ext.alloc ?_ _ | with_reducible refine Ext.drew ?_ | with_reducible refine Ext.drewN ?_ _ | with_reducible assumption | with_reducible exact Ext.refl _ | with_reducible refine Ext.trans ?_ (by with_reducible assumption)))⟩
          · omega
          · first
              | (with_reducible exact heap_alloc_new _ _)
              | (with_reducible refine heap_set3 (a := .int .i64 0) (b := .int .i64 0) (c := .slice none 0 0) (heap_keep hxF ?_)
                 first
                   | (with_reducible exact heap_alloc_new _ _)
                   | (with_reducible refine heap_keep hxB ?_
                      first
                        | (with_reducible exact heap_alloc_new _ _)
                        | (with_reducible refine heap_keep hxA ?_
                           exact heap_alloc_new _ _)))
          · first
              | (with_reducible refine own_base (own_ext OF.out ((Ext.refl _).alloc _)) ?_
                 first | omega | (simp <;> omega))
              | (with_reducible refine own_base (own_set (own_set (own_set OF.out ?_ _) ?_ _) ?_ _) ?_ <;> first | omega | (simp <;> omega))
      case rest =>
        clear zA16 zB16 lA16 lB16 HI
        obtain ⟨B1, aH, cH, rfl, rfl, hB1, hb1, o17, hx17⟩ := hcut
        obtain ⟨hG016, hG16, P10, M2, hle, hm1, hE16⟩ := BUN.out
        have hE17 := hE16.trans hx17
        have O17 := Lib.hid o17
        have P11 := Lib.hid (own_ext P10 hx17)
        have M3 := Lib.hid (own_ext M2 hx17)
        have hG017 := heap_keep hx17 hG016
        have hG17 := heap_keep hx17 hG16
        have zG017 := fun k => cell_of_row _ _ k _ _ _ hG017
        have lG017 := (Array.getElem?_eq_some_iff.1 hG017).1
        have zG117 := fun k => cell_of_row _ _ k _ _ _ hb1
        have lG117 := (Array.getElem?_eq_some_iff.1 hb1).1
        have HG17 := Lib.hid hG17
        clear o17 P10 M2 HK31 hG17 hG017 hb1 hA16 hB16 hG016 hG16 BUN hE16 hE16'
        go_wp2_with fail
        refine (eqMatrix_big rr cc HLL.out (by omega) _ O17.out P11.out).mono ?_
        rintro e w18 ⟨rfl, hx18⟩
        have hE18 := hE17.trans hx18
        have M4 := Lib.hid (own_ext M3.out hx18)
        have hG18 := heap_keep hx18 HG17.out
        have zG18 := fun k => cell_of_row _ _ k _ _ _ hG18
        have lG18 := (Array.getElem?_eq_some_iff.1 hG18).1
        clear zG017 lG017 zG117 lG117 hG18
        go_wp2_with fail
        refine (heldMatrix_big rr cc (by omega) 1 (by omega) _ M4.out).mono ?_
        rintro e w19 ⟨rfl, hx19⟩
        have hE19 := hE18.trans hx19
        go_wp2
        go_ret
        exact ⟨rfl, hE19⟩

theorem law_MulMatrix_c (cs ds : Array Value) {n m : Nat} {w0 : World} (hs : Shape Try.prog w0 n 62 (Value.agg cs).cells.toList) (ht : Shape Try.prog w0 m 62 (Value.agg ds).cells.toList) (w : World) (hw : w0 = w := by rfl) :
    Calls Try.prog 11 #[.agg cs, .agg ds] w fun e w' => e = .returned (.bool true) ∧ Ext w w' := by
  subst hw
  obtain ⟨r, c, v1, n1, xs, rfl, h1, -, -⟩ := mat_arg hs
  obtain ⟨r', c', v2, n2, ys, rfl, h2, -, -⟩ := mat_arg ht
  exact law_MulMatrix r c r' c' w0 h1 h2

end Go.Proofs.Ytnlhonlfkmpleaa
