/- The draw of the law on folding. -/
import Derived.Test.YtbddgeoaaklgpaaQwN
import Derived.Test.YtbddgeoaaklgpaaQuR
namespace Go.Proofs.Ytbddgeoaaklgpaa
open Go.RowKit Go.Lib
set_option linter.unusedVariables false
set_option linter.unusedSimpArgs false

/-- a drawn circuit, its gates own: few, or the long one -/
def DF (lo : Nat) (q : Int) (vm : Value) (w' : World) : Prop :=
  ∃ (N : Nat) (L : List Int), L.length = N * 3 ∧ w'.ownsRow lo 47 3 vm N (IL L) ∧ (N ≤ 20 ∨ (q = 2 ∧ 56 ≤ N ∧ N ≤ 59 ∧ L = hL N N))
theorem cu_newF {w : World} {v : Value} {n : Nat} (h : BY w.heap.size w v n) (o : Obj) : CU (w.heap.size + 1) v n 0 ((w.alloc o).alloc (.cells #[v, .int .i64 0, .int .u64 0] 77)) := by
  have := cu_new (h.later ((Ext.refl w).alloc o))
  rwa [show (w.alloc o).heap.size = w.heap.size + 1 by simp] at this
/-- the state of the long draw -/
structure DR (w : World) (b : Nat) (vm : Value) (j : Nat) (L : List Int) (wr : World) : Prop where
  own : wr.ownsRow (b + 1) 47 3 vm j (IL L)
  box : wr.heap[b]? = some (.cells #[.int .i64 2, vm] 25 (0, 0))
  gx : GX [w.heap.size + 1] (w.alloc (.cells #[.int .i64 0, .slice none 0 0] 25)) wr

set_option maxRecDepth 20000 in
set_option maxHeartbeats 8000000 in
theorem drawRotationsOf_any (v : Value) (n : Nat) (w : World) (h : BY w.heap.size w v n) :
    Calls Try.prog 20 #[v] w fun e w' => ∃ (q : Int) (vm : Value), e = .returned (.agg #[.int .i64 q, vm]) ∧ (0 ≤ q ∧ q ≤ 10) ∧ DF w.heap.size q vm w' ∧ Ext w w' := by
  have HC := Lib.hid (cu_newF h (.cells #[.int .i64 0, .slice none 0 0] 25))
  have hP := fun a m w' (hc : CU (w.heap.size + 1) v n a w') (hb : 0 ≤ a ∧ a ≤ 900000000) (hm : m ≤ 65536) => Lib.hid (pick_any (w.heap.size + 1) v n a m w' hc hb hm)
  have hA := fun a w' (hc : CU (w.heap.size + 1) v n a w') (hb : 0 ≤ a ∧ a ≤ 300000000) => Lib.hid (curAnyCircuit_any (w.heap.size + 1) v n a w' hc hb)
  have hF := fun a w' (hc : CU (w.heap.size + 1) v n a w') (hb : 0 ≤ a ∧ a ≤ 300000000) => Lib.hid (curFoldable_any (w.heap.size + 1) v n a w' hc (by omega))
  obtain ⟨ad, cap, rfl, -, -, -⟩ := h
  go_enter Try.func20, Try.ntmps20
  go_wp2_with fail
  refine ((hP _ _ _ HC.out (by omega) (by omega)).out).mono ?_
  rintro e w1 ⟨y1, a1, rfl, p1, q1, r1, s1, hg1, hc1⟩
  have HC1 := Lib.hid hc1
  have HG1 := Lib.hid ((((GX.refl [w.heap.size + 1] (w.alloc (.cells #[.int .i64 0, .slice none 0 0] 25))).alloc _)).trans (GX.ofGrown hg1))
  clear hg1 hc1
  have u1 : y1 < 14 := by omega
  clear q1
  have HB0 : Hid (w1.heap[w.heap.size]? = some (.cells #[.int .i64 0, .slice none 0 0] 25 (0, 0))) := (HG1.out.heap (k := w.heap.size) (by simp) (by simp)).trans (heap_alloc_new _ _)
  have hl1 : w.heap.size + 1 < w1.heap.size := HC1.out.lt
  by_cases h0 : y1 = 0
  · have k0 : (y1 == 0) = true := by simpa using h0
    clear h0
    go_wp2_with fail
    refine ((hA _ _ HC1.out (by omega)).out).mono ?_
    rintro e w2 ⟨q, vm, rfl, hq, N, L, a2, hN, hL, ho, r2, s2, hg2, hc2⟩
    obtain ⟨av, cv, rfl, _, _, _⟩ := own_shape ho
    have HO := Lib.hid ho
    have HG2 : Hid (GX [w.heap.size + 1] (w.alloc (.cells #[.int .i64 0, .slice none 0 0] 25)) w2) := HG1.out.trans (GX.ofGrown hg2)
    have hb0 : w2.heap[w.heap.size]? = some (.cells #[.int .i64 0, .slice none 0 0] 25 (0, 0)) := (HG2.out.heap (k := w.heap.size) (by simp) (by simp)).trans (heap_alloc_new _ _)
    have z0 := fun k => cell_of_row _ _ k _ _ _ hb0
    have f0 := fun k => frozen_of_row _ _ k _ _ hb0
    have l0 := (Array.getElem?_eq_some_iff.1 hb0).1
    have hx : Hid (Ext w w2) := (((GX.refl [w.heap.size + 1] w).alloc _).trans HG2.out).toExt (by simp)
    clear hb0 hg2 hc2 ho
    go_wp2
    refine bodyPost_ret (v := .agg #[.int .i64 q, .slice av N cv]) (by simp [results, Try.results20, go_sem, *]) rfl ?_
    have hx' := hx.out
    exact ⟨_, _, rfl, by omega, ⟨N, L, hL, own_base (own_set (own_set HO.out (by simp; omega) _) (by simp; omega) _) (by omega), .inl (by omega)⟩, (by repeat (first | (with_reducible refine Ext.setCell ?_ (by first | (simp; done) | (simp; omega)) _) | with_reducible refine Ext.alloc ?_ _ | with_reducible refine Ext.drew ?_ | with_reducible refine Ext.drewN ?_ _ | with_reducible assumption | with_reducible exact Ext.refl _ | with_reducible refine Ext.trans ?_ (by with_reducible assumption)))⟩
  have k0 : (y1 == 0) = false := by simpa using h0
  by_cases h1 : y1 = 1
  · have k1 : (y1 == 1) = true := by simpa using h1
    clear h0 h1
    go_wp2_with fail
    refine ((hP _ _ _ (HC1.out.keep (by repeat (first | (with_reducible refine Ext.setCell ?_ (by first | (simp; done) | (simp; omega)) _) | with_reducible refine Ext.alloc ?_ _ | with_reducible refine Ext.drew ?_ | with_reducible refine Ext.drewN ?_ _ | with_reducible assumption | with_reducible exact Ext.refl _ | with_reducible refine Ext.trans ?_ (by with_reducible assumption)))) (by omega) (by omega)).out).mono ?_
    rintro e w2 ⟨y2, a2, rfl, p2, q2, r2, s2, hg2, hc2⟩
    have u2 : y2 < 4 := by omega
    clear q2
    have HBX : Hid (w2.heap[w1.heap.size]? = some (.cells #[.int .i64 2, .slice none 0 0] 25 (0, 0))) := ((GX.ofGrown hg2).heap (k := w1.heap.size) (by simp) (by simp; omega)).trans (heap_alloc_new _ _)
    have hE1 : Ext w1 w1 := Ext.refl _
    have HG2 : Hid (GX [w.heap.size + 1] (w.alloc (.cells #[.int .i64 0, .slice none 0 0] 25)) w2) := (HG1.out.ext (by repeat (first | (with_reducible refine Ext.setCell ?_ (by first | (simp; done) | (simp; omega)) _) | with_reducible refine Ext.alloc ?_ _ | with_reducible refine Ext.drew ?_ | with_reducible refine Ext.drewN ?_ _ | with_reducible assumption | with_reducible exact Ext.refl _ | with_reducible refine Ext.trans ?_ (by with_reducible assumption)))).trans (GX.ofGrown hg2)
    obtain ⟨N, rfl⟩ : ∃ N : Nat, y2 = N - 56 := ⟨(56 + y2).toNat, by omega⟩
    clear hg2 hc2 hE1
    have hs2 : w1.heap.size < w2.heap.size := (Array.getElem?_eq_some_iff.1 HBX.out).1
    go_wp2
    go_loopw [5] (fun s5 wr => ∃ (j : Nat) (vm : Value) (L : List Int), j ≤ N ∧ s5 = .int .i64 ((N : Int) - j) ∧ Hid (L = hL N j) ∧ Hid (DR w w1.heap.size vm j L wr)) (fun s5 _ => (RowKit.intOf s5).toNat)
    case atStart =>
      exact ⟨0, .slice none 0 0, [], by omega, by simp; omega, rfl, own_nil _ _ _ _, HBX.out, HG2.out⟩
    case round =>
      obtain ⟨j, vm, L, hj, rfl, HL, HS⟩ := hrel
      obtain ⟨av, cv, rfl, _, _, _⟩ := own_shape HS.out.own
      have hsr : w1.heap.size < wr.heap.size := (Array.getElem?_eq_some_iff.1 HS.out.box).1
      have z7 := fun k => cell_of_row _ _ k _ _ _ HS.out.box
      have f7 := fun k => frozen_of_row _ _ k _ _ HS.out.box
      have hne : w.heap.size ≠ w1.heap.size := by omega
      by_cases hlt : j < N
      · have hlt' : (0 : Int) < (N : Int) - j := by omega
        have hmod : ((N : Int) - j) % 2 = (((N - j) % 2 : Nat) : Int) := by omega
        have hr2 : 0 ≤ ((N : Int) - j) % 2 ∧ ((N : Int) - j) % 2 < 2 := by omega
        have HM := Lib.hid hmod
        clear hmod
        go_wp2_with (at_builtin; refine wpList_append_rvt (base := w1.heap.size + 1) rfl elt_FG rfl (.slice av j cv) j L rfl (own_ext HS.out.own ((Ext.refl _).alloc _)) (.slice (some ⟨wr.heap.size, 0, none⟩) 1 1) 1 [1, ((N : Int) - j) % 2, 0] rfl (rv_heap (heap_alloc_new _ _) rfl rfl (by omega) (by decide)) (by omega) (by simp; omega) ?_; intro v5 w5 hown5 hgrow5 hiff5 hloc5; obtain ⟨a5, c5, rfl, _, _, _⟩ := own_shape hown5; have HO5 := Lib.hid hown5; have hfar : ∀ k, (Value.slice av j cv).ownBlock = some k → w1.heap.size + 1 ≤ k := (fun k hk => (HS.out.own.lt k hk).1); have HB5 : Hid (w5.heap[w1.heap.size]? = some (.cells #[.int .i64 2, .slice av j cv] 25 (0, 0))) := (heap_grown hgrow5 (heap_alloc_lt HS.out.box) (fun e => by have := hfar _ e.symm; omega)); have HG5 : Hid (GX [w.heap.size + 1] (w.alloc (.cells #[.int .i64 0, .slice none 0 0] 25)) w5) := (gx_rowQ (HS.out.gx.alloc _) hgrow5 (fun k hk => by have := hfar _ hk; simp; omega)); have hs5 : w1.heap.size < w5.heap.size := (Array.getElem?_eq_some_iff.1 HB5.out).1; have z75 : ∀ k, w5.cell? ⟨w1.heap.size, k, none⟩ = (#[.int .i64 2, .slice av j cv] : Array Value)[k]? := (fun k => cell_of_row _ _ k _ _ _ HB5.out); have f75 : ∀ k, w5.frozen? ⟨w1.heap.size, k, none⟩ = false := (fun k => frozen_of_row _ _ k _ _ HB5.out); clear hown5 hgrow5 hiff5 hloc5 hfar)
        go_roundw
        case rel =>
          refine ⟨j + 1, .slice a5 (j + 1) c5, L ++ [1, ((N : Int) - j) % 2, 0], by omega, by go_num, ?_, own_set HO5.out (by simp) _, heap_set_at HB5.out 1 _, HG5.out.setCell (.inr (by simp; omega)) _⟩
          rw [HM.out, HL.out]
          rfl
        case measure => simp [RowKit.intOf]; omega
      · obtain rfl : j = N := by omega
        have hlt' : ¬ ((0 : Int) < (j : Int) - j) := by omega
        have hb0 : wr.heap[w.heap.size]? = some (.cells #[.int .i64 0, .slice none 0 0] 25 (0, 0)) := (HS.out.gx.heap (k := w.heap.size) (by simp) (by simp)).trans (heap_alloc_new _ _)
        have z0 := fun k => cell_of_row _ _ k _ _ _ hb0
        have f0 := fun k => frozen_of_row _ _ k _ _ hb0
        have l0 := (Array.getElem?_eq_some_iff.1 hb0).1
        have hx : Hid (Ext w wr) := (((GX.refl [w.heap.size + 1] w).alloc _).trans HS.out.gx).toExt (by simp)
        clear hb0
        go_wp2
        refine bodyPost_ret (v := .agg #[.int .i64 2, .slice av j cv]) (by simp [results, Try.results20, go_sem, *]) rfl ?_
        have hx' := hx.out
        refine ⟨_, _, rfl, by omega, ⟨j, L, by rw [HL.out, hL_len], own_base (own_set (own_set HS.out.own (by simp; omega) _) (by simp; omega) _) (by omega), .inr ⟨rfl, by omega, by omega, HL.out⟩⟩, (by repeat (first | (with_reducible refine Ext.setCell ?_ (by first | (simp; done) | (simp; omega)) _) | with_reducible refine Ext.alloc ?_ _ | with_reducible refine Ext.drew ?_ | with_reducible refine Ext.drewN ?_ _ | with_reducible assumption | with_reducible exact Ext.refl _ | with_reducible refine Ext.trans ?_ (by with_reducible assumption)))⟩
  have k1 : (y1 == 1) = false := by simpa using h1
  clear h0 h1
  go_wp2_with fail
  refine ((hF _ _ HC1.out (by omega)).out).mono ?_
  rintro e w2 ⟨q, vm, rfl, hq, N, L, a2, hN, hL, ho, r2, s2, hg2, hc2⟩
  obtain ⟨av, cv, rfl, _, _, _⟩ := own_shape ho
  have HO := Lib.hid ho
  have HG2 : Hid (GX [w.heap.size + 1] (w.alloc (.cells #[.int .i64 0, .slice none 0 0] 25)) w2) := HG1.out.trans (GX.ofGrown hg2)
  have hb0 : w2.heap[w.heap.size]? = some (.cells #[.int .i64 0, .slice none 0 0] 25 (0, 0)) := (HG2.out.heap (k := w.heap.size) (by simp) (by simp)).trans (heap_alloc_new _ _)
  have z0 := fun k => cell_of_row _ _ k _ _ _ hb0
  have f0 := fun k => frozen_of_row _ _ k _ _ hb0
  have l0 := (Array.getElem?_eq_some_iff.1 hb0).1
  have hx : Hid (Ext w w2) := (((GX.refl [w.heap.size + 1] w).alloc _).trans HG2.out).toExt (by simp)
  clear hb0 hg2 hc2 ho
  go_wp2
  refine bodyPost_ret (v := .agg #[.int .i64 q, .slice av N cv]) (by simp [results, Try.results20, go_sem, *]) rfl ?_
  have hx' := hx.out
  exact ⟨_, _, rfl, by omega, ⟨N, L, hL, own_base (own_set (own_set HO.out (by simp; omega) _) (by simp; omega) _) (by omega), .inl (by omega)⟩, (by repeat (first | (with_reducible refine Ext.setCell ?_ (by first | (simp; done) | (simp; omega)) _) | with_reducible refine Ext.alloc ?_ _ | with_reducible refine Ext.drew ?_ | with_reducible refine Ext.drewN ?_ _ | with_reducible assumption | with_reducible exact Ext.refl _ | with_reducible refine Ext.trans ?_ (by with_reducible assumption)))⟩

set_option maxRecDepth 20000 in
theorem drawFoldPhases_any (v : Value) (n : Nat) (w : World) (h : BY w.heap.size w v n) :
    Calls Try.prog 5 #[v] w fun e w' => ∃ (q : Int) (vm : Value), e = .returned (.agg #[.int .i64 q, vm]) ∧ (0 ≤ q ∧ q ≤ 10) ∧ DF w.heap.size q vm w' ∧ Ext w w' := by
  have hD := fun w' (hx : Ext w w') => Lib.hid (drawRotationsOf_any v n w' (h.later hx))
  obtain ⟨ad, cap, rfl, -, -, -⟩ := h
  go_enter Try.func5, Try.ntmps5
  go_wp2_with fail
  refine ((hD _ (by repeat (first | (with_reducible refine Ext.setCell ?_ (by first | (simp; done) | (simp; omega)) _) | with_reducible refine Ext.alloc ?_ _ | with_reducible refine Ext.drew ?_ | with_reducible refine Ext.drewN ?_ _ | with_reducible assumption | with_reducible exact Ext.refl _ | with_reducible refine Ext.trans ?_ (by with_reducible assumption)))).out).mono ?_
  rintro e w1 ⟨q, vm, rfl, hq, ⟨N, L, hL, ho, hN⟩, hx1⟩
  obtain ⟨av, cv, rfl, _, _, _⟩ := own_shape ho
  have HO := Lib.hid ho
  have hb0 : w1.heap[w.heap.size]? = some (.cells #[.int .i64 0, .slice none 0 0] 25 (0, 0)) := (hx1.heap (k := w.heap.size) (by simp)).trans (heap_alloc_new _ _)
  have z0 := fun k => cell_of_row _ _ k _ _ _ hb0
  have f0 := fun k => frozen_of_row _ _ k _ _ hb0
  have l0 := (Array.getElem?_eq_some_iff.1 hb0).1
  have hx : Hid (Ext w w1) := ((Ext.refl w).alloc _).trans hx1
  have HN := Lib.hid hN
  clear hb0 hx1 ho hN
  go_wp2
  refine bodyPost_ret (v := .agg #[.int .i64 q, .slice av N cv]) (by simp [results, Try.results5, go_sem, *]) rfl ?_
  have hx' := hx.out
  exact ⟨_, _, rfl, hq, ⟨N, L, hL, own_base (own_set (own_set HO.out (by simp) _) (by simp) _) (by simp), HN.out⟩, (by repeat (first | (with_reducible refine Ext.setCell ?_ (by first | (simp; done) | (simp; omega)) _) | with_reducible refine Ext.alloc ?_ _ | with_reducible refine Ext.drew ?_ | with_reducible refine Ext.drewN ?_ _ | with_reducible assumption | with_reducible exact Ext.refl _ | with_reducible refine Ext.trans ?_ (by with_reducible assumption)))⟩

end Go.Proofs.Ytbddgeoaaklgpaa
