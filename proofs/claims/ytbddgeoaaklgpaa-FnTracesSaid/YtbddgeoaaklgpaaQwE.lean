/- A gate's matrix; the identity matrix. -/
import Derived.Test.YtbddgeoaaklgpaaQwD
import Derived.Test.YtbddgeoaaklgpaaQwM
namespace Go.Proofs.Ytbddgeoaaklgpaa
open Go.RowKit
set_option linter.unusedVariables false
set_option linter.unusedSimpArgs false

theorem allTrue (n : Nat) : allTo (fun _ => true) n = true := allTo_mkQ fun _ _ => rfl

set_option maxRecDepth 20000 in
set_option maxHeartbeats 4000000 in
theorem gateMatrix_any (n k a b : Nat) (h1 : 1 ≤ n) (hn : n ≤ 3) (hg : gOk n k a b = true) (w : World) :
    Calls Try.prog 81 #[.int .i64 n, .agg #[.int .i64 k, .int .i64 a, .int .i64 b]] w fun e w' => ∃ v, e = .returned (.tuple #[.agg #[.int .i64 ((2 ^ n : Nat) : Int), .int .i64 ((2 ^ n : Nat) : Int), v], .bool true]) ∧
      w'.ownsRow w.heap.size 107 5 v (2 ^ n * 2 ^ n) (IL (gmL n (k, a, b))) ∧ Ext w w' := by
  have f := gOk_facts hg (by omega)
  have hV : ∀ w', Hid (Calls Try.prog 71 #[.int .i64 n, .agg #[.int .i64 k, .int .i64 a, .int .i64 b]] w' fun e w'' => e = .returned (.bool true) ∧ Ext w' w'') := fun w' => by
    have h := isValidGate_any n k a b w'
    rw [hg, Wn_iff.2 (by omega)] at h
    exact h
  have hd := (dim_q h1 hn).1
  have HM : ∀ (B1 B2 : Nat) (w1 w' : World), w1.heap[B1]? = some (.cells #[.int .i64 k, .int .i64 a, .int .i64 b] 47 (0, 0)) → w1.heap[B2]? = some (.cells #[.int .i64 n] 3 (0, 0)) → Ext w1 w' →
      Hid (Calls Try.prog 78 #[.int .i64 ((2 ^ n : Nat) : Int), .int .i64 ((2 ^ n : Nat) : Int), .func (.func 93) #[] #[.pointer (some ⟨B1, 0, none⟩), .pointer (some ⟨B2, 0, none⟩)]] w' fun e w'' => ∃ v, e = .returned (.tuple #[.agg #[.int .i64 ((2 ^ n : Nat) : Int), .int .i64 ((2 ^ n : Nat) : Int), v], .bool true]) ∧
        w''.ownsRow w'.heap.size 107 5 v (2 ^ n * 2 ^ n) (IL (gmL n (k, a, b))) ∧ Ext w' w'') := fun B1 B2 w1 w' hb1 hb2 hx => by
    have h := matrixOf_gate (2 ^ n) (2 ^ n) hd hd B1 B2 (fun p => (gcV n k a b (p / 2 ^ n) (p % 2 ^ n)).1) (fun p => ((gcV n k a b (p / 2 ^ n) (p % 2 ^ n)).2 : Int)) (fun _ => true) w' (fun i j w2 hi hj hx2 => by
      have hp := pair_div (i := i) hj
      rw [hp.1, hp.2]
      exact gm1_any n k a b i j h1 hn (by omega) (by omega) (by omega) hi hj B1 B2 w2 (((hx.trans hx2).heap ((Array.getElem?_eq_some_iff.1 hb1).1)).trans hb1) (((hx.trans hx2).heap ((Array.getElem?_eq_some_iff.1 hb2).1)).trans hb2))
    rw [allTrue] at h
    exact h
  generalize gmL n (k, a, b) = L at *
  clear hg hd f
  have hn3 : n = 1 ∨ n = 2 ∨ n = 3 := by omega
  rcases hn3 with rfl | rfl | rfl
  all_goals
    simp only [Nat.reducePow, Nat.reduceMul] at HM ⊢
    clear h1 hn
    go_enter Try.func81, Try.ntmps81
    go_wp2_with fail
    refine ((hV _).out).mono ?_
    rintro e w1 ⟨rfl, hx1⟩
    obtain ⟨hc1, hf1⟩ := hx1.cells
    have hz1 := hx1.size
    try simp at hz1
    have hs1_0 := sz3 (a := w.heap.size) (b := w1.heap.size) (by omega)
    have hb2 : w1.heap[w.heap.size]? = _ := (hx1.heap (by simp; omega)).trans (heap_alloc_lt (heap_alloc_lt (heap_alloc_new _ _)))
    have hb1 : w1.heap[w.heap.size + 1]? = _ := (hx1.heap (by simp)).trans (heap_alloc_lt (heap_alloc_at _ _ _ (by simp)))
    have hb3 : w1.heap[w.heap.size + 2]? = some (.cells #[.int .i64 0, .int .i64 0, .slice none 0 0] 71 (0, 0)) := (hx1.heap (by simp)).trans (heap_alloc_at _ _ _ (by simp))
    have HMM := fun w' hx => HM _ _ w1 w' hb1 hb2 hx
    have HE : Hid (Ext w w1) := Lib.hid (by repeat (first | exact Ext.refl _ | assumption | refine Ext.alloc ?_ _ | refine Ext.drew ?_ | refine Ext.drewN ?_ _ | refine Ext.setCell ?_ (by first | omega | (dsimp only; omega) | (simp; done) | (simp; omega)) _ | refine Ext.trans ?_ (by assumption)))
    have HB3 := Lib.hid hb3
    have l3 := (Array.getElem?_eq_some_iff.1 hb3).1
    have hw2 : IntKind.i64.wrap 2 = 2 := rfl
    have hw4 : IntKind.i64.wrap 4 = 4 := rfl
    have hw8 : IntKind.i64.wrap 8 = 8 := rfl
    clear HM hV hb1 hb2 hb3
    go_upto_region 3 with fail
    go_region_law
        (refine step_callsQ rfl ?_ (HMM _ (Ext.refl w1).drew).out ?_
         · go_simp
         rintro e w5 ⟨v, rfl, o5, hx5⟩
         refine ⟨_, rfl, ?_⟩
         obtain ⟨av, cv, rfl, _, _, _⟩ := own_shape o5
         have HO5 := Lib.hid o5
         have HX5 : Hid (Ext w1 w5) := (Ext.refl w1).drew.trans hx5
         have h35 := (HX5.out.heap l3).trans HB3.out
         have y3 := fun k => cell_of_row _ _ k _ _ _ h35
         have g3 := fun k => frozen_of_row _ _ k _ _ h35
         have l35 := (Array.getElem?_eq_some_iff.1 h35).1
         clear o5 hx5 h35)
    all_goals
      go_wp2
      first
      | (refine bodyPost_ret (v := .tuple #[.agg #[.int .i64 2, .int .i64 2, .slice av 4 cv], .bool true]) (by simp [results, Try.results81, go_sem, *]) rfl ?_
         exact ⟨_, rfl, own_base (own_set (own_set (own_set HO5.out (by simp; omega) _) (by simp; omega) _) (by simp; omega) _) (by simp; omega), ((HE.out.trans HX5.out).setCell (by simp; omega) _ |>.setCell (by simp; omega) _ |>.setCell (by simp; omega) _)⟩)
      | (refine bodyPost_ret (v := .tuple #[.agg #[.int .i64 4, .int .i64 4, .slice av 16 cv], .bool true]) (by simp [results, Try.results81, go_sem, *]) rfl ?_
         exact ⟨_, rfl, own_base (own_set (own_set (own_set HO5.out (by simp; omega) _) (by simp; omega) _) (by simp; omega) _) (by simp; omega), ((HE.out.trans HX5.out).setCell (by simp; omega) _ |>.setCell (by simp; omega) _ |>.setCell (by simp; omega) _)⟩)
      | (refine bodyPost_ret (v := .tuple #[.agg #[.int .i64 8, .int .i64 8, .slice av 64 cv], .bool true]) (by simp [results, Try.results81, go_sem, *]) rfl ?_
         exact ⟨_, rfl, own_base (own_set (own_set (own_set HO5.out (by simp; omega) _) (by simp; omega) _) (by simp; omega) _) (by simp; omega), ((HE.out.trans HX5.out).setCell (by simp; omega) _ |>.setCell (by simp; omega) _ |>.setCell (by simp; omega) _)⟩)

set_option maxRecDepth 20000 in
set_option maxHeartbeats 4000000 in
theorem identity_any (n : Nat) (h1 : 1 ≤ n) (hn : n ≤ 3) (w : World) :
    Calls Try.prog 58 #[.int .i64 ((2 ^ n : Nat) : Int)] w fun e w' => ∃ v, e = .returned (.tuple #[.agg #[.int .i64 ((2 ^ n : Nat) : Int), .int .i64 ((2 ^ n : Nat) : Int), v], .bool true]) ∧
      w'.ownsRow w.heap.size 107 5 v (2 ^ n * 2 ^ n) (IL (unL n)) ∧ Ext w w' := by
  have hd := (dim_q h1 hn).1
  have HI : ∀ (i j : Nat) (w' : World), Hid (Calls Try.prog 79 #[.int .i64 i, .int .i64 j] w' fun e w'' => e = .returned (.tuple #[.agg #[.int .i64 (if i = j then R4.one else R4.zero).a, .int .i64 (if i = j then R4.one else R4.zero).b, .int .i64 (if i = j then R4.one else R4.zero).c, .int .i64 (if i = j then R4.one else R4.zero).d, .int .i64 0], .bool true]) ∧ Ext w' w'') := fun i j w' => by
    have HW := fun w' => Lib.hid (wholeQ_any 1 w')
    by_cases hij : i = j
    · subst hij
      rw [if_pos rfl]
      unfold R4.one
      dsimp only
      go_enter Try.func79, Try.ntmps79
      go_wp2_with fail
      refine ((HW _).out).mono ?_
      rintro e w1 ⟨rfl, hx1⟩
      obtain ⟨hc1, hf1⟩ := hx1.cells
      have hz1 := hx1.size
      try simp at hz1
      have hs1_0 := sz1 (a := w'.heap.size) (b := w1.heap.size) (by omega)
      go_wp2
      refine bodyPost_ret (v := .tuple #[.agg #[.int .i64 1, .int .i64 0, .int .i64 0, .int .i64 0, .int .i64 0], .bool true]) (by simp [results, Try.results79, go_sem, *]) rfl ?_
      exact ⟨rfl, (by repeat (first | (with_reducible refine Ext.setCell ?_ (by first | (simp; done) | (simp; omega)) _) | with_reducible refine Ext.alloc ?_ _ | with_reducible refine Ext.drew ?_ | with_reducible refine Ext.drewN ?_ _ | with_reducible assumption | with_reducible exact Ext.refl _ | with_reducible refine Ext.trans ?_ (by with_reducible assumption)))⟩
    · have hij' : ¬ ((i : Int) = j) := by omega
      rw [if_neg hij]
      unfold R4.zero
      dsimp only
      go_enter Try.func79, Try.ntmps79
      go_wp2
      refine bodyPost_ret (v := .tuple #[.agg #[.int .i64 0, .int .i64 0, .int .i64 0, .int .i64 0, .int .i64 0], .bool true]) (by simp [results, Try.results79, go_sem, *]) rfl ?_
      exact ⟨rfl, (by repeat (first | (with_reducible refine Ext.setCell ?_ (by first | (simp; done) | (simp; omega)) _) | with_reducible refine Ext.alloc ?_ _ | with_reducible refine Ext.drew ?_ | with_reducible refine Ext.drewN ?_ _ | with_reducible assumption | with_reducible exact Ext.refl _ | with_reducible refine Ext.trans ?_ (by with_reducible assumption)))⟩
  have HM : ∀ (w' : World), Hid (Calls Try.prog 78 #[.int .i64 ((2 ^ n : Nat) : Int), .int .i64 ((2 ^ n : Nat) : Int), .func (.func 79) #[] #[]] w' fun e w'' => ∃ v, e = .returned (.tuple #[.agg #[.int .i64 ((2 ^ n : Nat) : Int), .int .i64 ((2 ^ n : Nat) : Int), v], .bool true]) ∧
        w''.ownsRow w'.heap.size 107 5 v (2 ^ n * 2 ^ n) (IL (unL n)) ∧ Ext w' w'') := fun w' => by
    have h := matrixOf_id (2 ^ n) (2 ^ n) hd hd (fun p => if p / 2 ^ n = p % 2 ^ n then R4.one else R4.zero) (fun _ => 0) (fun _ => true) w' (fun i j w2 hi hj hx2 => by
      have hp := pair_div (i := i) hj
      rw [hp.1, hp.2]
      exact HI i j w2)
    rw [allTrue] at h
    exact h
  generalize unL n = L at *
  generalize (2 ^ n * 2 ^ n) = NN at *
  generalize 2 ^ n = N at *
  clear h1 hn hd HI
  go_enter Try.func58, Try.ntmps58
  go_wp2_with fail
  refine (HM _).out.mono ?_
  rintro e w1 ⟨v, rfl, o1, hx1⟩
  obtain ⟨hc1, hf1⟩ := hx1.cells
  have hz1 := hx1.size
  try simp at hz1
  have hs1_0 := sz1 (a := w.heap.size) (b := w1.heap.size) (by omega)
  have O1 := Lib.hid (own_base (base' := w.heap.size + 1) o1 (by simp))
  obtain ⟨av, cv, rfl, _, _, _⟩ := own_shape o1
  clear o1
  go_wp2
  refine bodyPost_ret (v := .tuple #[.agg #[.int .i64 N, .int .i64 N, .slice av NN cv], .bool true]) (by simp [results, Try.results58, go_sem, *]) rfl ?_
  exact ⟨_, rfl, own_base (own_set (own_set (own_set O1.out (by simp) _) (by simp) _) (by simp) _) (by omega), (by repeat (first | (with_reducible refine Ext.setCell ?_ (by first | (simp; done) | (simp; omega)) _) | with_reducible refine Ext.alloc ?_ _ | with_reducible refine Ext.drew ?_ | with_reducible refine Ext.drewN ?_ _ | with_reducible assumption | with_reducible exact Ext.refl _ | with_reducible refine Ext.trans ?_ (by with_reducible assumption)))⟩

end Go.Proofs.Ytbddgeoaaklgpaa
