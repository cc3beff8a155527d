/- Canonical phases: turns and comparisons. -/
import Derived.Test.YtlaajkdhegkpdaaCpL
namespace Go.Proofs.Ytlaajkdhegkpdaa
open Go.RowKit Go.Lib
set_option linter.unusedVariables false
set_option linter.unusedSimpArgs false

theorem heap_set4 {w : World} {g : Nat} {t : TypeId} {a b c d x y z u : Value} (h : w.heap[g]? = some (.cells #[a, b, c, d] t (0, 0))) : ((((w.setCell ⟨g, 0, none⟩ x).setCell ⟨g, 1, none⟩ y).setCell ⟨g, 2, none⟩ z).setCell ⟨g, 3, none⟩ u).heap[g]? = some (.cells #[x, y, z, u] t (0, 0)) :=
  heap_set_at (heap_set_at (heap_set_at (heap_set_at h 0 x) 1 y) 2 z) 3 u
theorem heap_sets4 {w : World} {g k : Nat} {o : Obj} {x y z u : Value} (hk : k ≠ g) (h : w.heap[k]? = some o) : ((((w.setCell ⟨g, 0, none⟩ x).setCell ⟨g, 1, none⟩ y).setCell ⟨g, 2, none⟩ z).setCell ⟨g, 3, none⟩ u).heap[k]? = some o :=
  heap_set_ne hk (heap_set_ne hk (heap_set_ne hk (heap_set_ne hk h)))

set_option maxHeartbeats 2000000 in
theorem l1Turn_any (X : R4) (hX : X.rg = true) (k : Nat) (hk : k ≤ 7) (w : World) :
    Calls Try.prog 37 #[.agg #[.int .i64 X.a, .int .i64 X.b, .int .i64 X.c, .int .i64 X.d], .int .i64 k] w fun en w' =>
      en = .returned (.agg #[.int .i64 (turns k X).a, .int .i64 (turns k X).b, .int .i64 (turns k X).c, .int .i64 (turns k X).d]) ∧ Ext w w' := by
  have t1 : Int.tmod (k : Int) 8 = k := Int.tmod_eq_of_lt (by omega) (by omega)
  have t2 : Int.tmod ((k : Int) + 8) 8 = k := by
    have : ((k : Int) + 8) = ((k + 8 : Nat) : Int) := by push_cast; rfl
    rw [this, show (8 : Int) = ((8 : Nat) : Int) from rfl, ← Int.ofNat_tmod]
    omega
  have HX := Lib.hid hX
  clear hX
  go_enter Try.func37, Try.ntmps37
  go_wp2
  go_loopw [1] (fun s1 wr => ∃ (j m : Nat), j + m = k ∧ s1 = .int .i64 j ∧ Hid (wr.heap[w.heap.size]? = some (.cells #[.int .i64 (turns m X).a, .int .i64 (turns m X).b, .int .i64 (turns m X).c, .int .i64 (turns m X).d] 42 (0, 0))) ∧
    Hid (wr.heap[w.heap.size + 1]? = some (.cells #[.int .i64 0, .int .i64 0, .int .i64 0, .int .i64 0] 42 (0, 0))) ∧ Ext w wr) (fun s1 _ => (intOf s1).toNat)
  case atStart => exact ⟨k, 0, by omega, by simp [t1, t2], heap_alloc_lt (heap_alloc_new _ _), heap_alloc_at _ _ _ (by simp), (by repeat (first | exact Ext.refl _ | assumption | refine Ext.alloc ?_ _ | refine Ext.drew ?_ | refine Ext.drewN ?_ _ | refine Ext.setCell ?_ (by first | omega | (dsimp only; omega) | (simp; done) | (simp; omega)) _ | refine Ext.trans ?_ (by assumption)))⟩
  case round =>
    clear t1 t2
    obtain ⟨j, m, hjm, rfl, HS, HR, hE⟩ := hrel
    have lS := (Array.getElem?_eq_some_iff.1 HS.out).1
    have lR := (Array.getElem?_eq_some_iff.1 HR.out).1
    have HT : Hid (turns (m + 1) X = ⟨-(turns m X).d, (turns m X).a, (turns m X).b, (turns m X).c⟩) := rfl
    obtain ⟨b1, b2, b3, b4⟩ := Rg_bd ((rg_turns X m).trans HX.out)
    have HZ : Hid (j = 0 → turns m X = turns k X) := fun h => by rw [← hjm, h, Nat.zero_add]
    generalize turns m X = Y at *
    obtain ⟨a, b, c, d⟩ := Y
    dsimp only at b1 b2 b3 b4
    have zS : ∀ q, wr.cell? ⟨w.heap.size, q, none⟩ = (#[.int .i64 a, .int .i64 b, .int .i64 c, .int .i64 d] : Array Value)[q]? := fun q => cell_of_row _ _ _ _ _ _ HS.out
    have fS : ∀ q, wr.frozen? ⟨w.heap.size, q, none⟩ = false := fun q => frozen_of_row _ _ _ _ _ HS.out
    have zR : ∀ q, wr.cell? ⟨w.heap.size + 1, q, none⟩ = (#[.int .i64 0, .int .i64 0, .int .i64 0, .int .i64 0] : Array Value)[q]? := fun q => cell_of_row _ _ _ _ _ _ HR.out
    have fR : ∀ q, wr.frozen? ⟨w.heap.size + 1, q, none⟩ = false := fun q => frozen_of_row _ _ _ _ _ HR.out
    by_cases hlt : 0 < j
    · have hlt' : (0 : Int) < j := by omega
      go_wp2
      go_roundw
      case rel =>
        refine ⟨j - 1, m + 1, by omega, by go_num, ?_, heap_sets4 (by omega) HR.out, (by repeat (first | exact Ext.refl _ | assumption | refine Ext.alloc ?_ _ | refine Ext.drew ?_ | refine Ext.drewN ?_ _ | refine Ext.setCell ?_ (by first | omega | (dsimp only; omega) | (simp; done) | (simp; omega)) _ | refine Ext.trans ?_ (by assumption)))⟩
        unfold Hid
        rw [HT.out]
        exact heap_set4 HS.out
      case measure => simp [intOf]; omega
    · obtain rfl : j = 0 := by omega
      have HY := Lib.hid (HZ.out rfl)
      go_wp2
      refine bodyPost_ret (v := .agg #[.int .i64 a, .int .i64 b, .int .i64 c, .int .i64 d]) (by simp [results, Try.results37, go_sem, *]) rfl ?_
      rw [← HY.out]
      exact ⟨rfl, (by repeat (first | (with_reducible refine Ext.setCell ?_ (by first | (simp; done) | (simp; omega)) _) | with_reducible refine Ext.alloc ?_ _ | with_reducible refine Ext.drew ?_ | with_reducible refine Ext.drewN ?_ _ | with_reducible assumption | with_reducible exact Ext.refl _ | with_reducible refine Ext.trans ?_ (by with_reducible assumption)))⟩

set_option maxHeartbeats 2000000 in
theorem mulOmega_any (X : R4) (hX : X.rg = true) (k : Nat) (hk : k ≤ 7) (w : World) :
    Calls Try.prog 44 #[.agg #[.int .i64 X.a, .int .i64 X.b, .int .i64 X.c, .int .i64 X.d], .int .i64 k] w fun en w' =>
      en = .returned (.tuple #[.agg #[.int .i64 (turns k X).a, .int .i64 (turns k X).b, .int .i64 (turns k X).c, .int .i64 (turns k X).d], .bool true]) ∧ Ext w w' := by
  have t1 : Int.tmod (k : Int) 8 = k := Int.tmod_eq_of_lt (by omega) (by omega)
  have t2 : Int.tmod ((k : Int) + 8) 8 = k := by
    have : ((k : Int) + 8) = ((k + 8 : Nat) : Int) := by push_cast; rfl
    rw [this, show (8 : Int) = ((8 : Nat) : Int) from rfl, ← Int.ofNat_tmod]
    omega
  have HW : ∀ w', Hid (Calls Try.prog 27 #[.int .i64 k, .int .i64 (-1000), .int .i64 1000] w' fun e w'' => e = .returned (.bool true) ∧ w' = w'') := fun w' => by
    have := within_any k (-1000) 1000 w'
    rw [show Wn (k : Int) (-1000) 1000 = true by unfold Wn; simp; omega] at this
    exact this
  have HV : ∀ w', Hid (Calls Try.prog 50 #[.agg #[.int .i64 X.a, .int .i64 X.b, .int .i64 X.c, .int .i64 X.d]] w' fun e w'' => e = .returned (.bool true) ∧ Ext w' w'') := fun w' => by
    have := isValidRing_any X.a X.b X.c X.d w'
    rw [show Rg X.a X.b X.c X.d = true from hX] at this
    exact this
  have HX := Lib.hid hX
  clear hX
  go_enter Try.func44, Try.ntmps44
  go_wp2_with fail
  refine ((HW _).out).mono ?_
  rintro e w' ⟨rfl, rfl⟩
  go_wp2_with fail
  refine ((HV _).out).mono ?_
  rintro e w1 ⟨rfl, hx1⟩
  obtain ⟨hc1, hf1⟩ := hx1.cells
  have hz1 := hx1.size
  try simp at hz1
  have hs1_0 := sz2 (a := w.heap.size) (b := w1.heap.size) (by omega)
  have hS1 : w1.heap[w.heap.size]? = some (.cells #[.int .i64 X.a, .int .i64 X.b, .int .i64 X.c, .int .i64 X.d] 42 (0, 0)) := (hx1.heap (by simp <;> omega)).trans (heap_alloc_lt (heap_alloc_new _ _))
  have hR1 : w1.heap[w.heap.size + 1]? = some (.cells #[.int .i64 0, .int .i64 0, .int .i64 0, .int .i64 0] 42 (0, 0)) := (hx1.heap (by simp <;> omega)).trans (heap_alloc_at _ _ _ (by simp))
  have hE1 : Ext w w1 := (by repeat (first | exact Ext.refl _ | assumption | refine Ext.alloc ?_ _ | refine Ext.drew ?_ | refine Ext.drewN ?_ _ | refine Ext.setCell ?_ (by first | omega | (dsimp only; omega) | (simp; done) | (simp; omega)) _ | refine Ext.trans ?_ (by assumption)))
  go_wp2
  go_loopw [19] (fun s1 wr => ∃ (m : Nat), m ≤ k ∧ s1 = .int .i64 m ∧ Hid (wr.heap[w.heap.size]? = some (.cells #[.int .i64 (turns m X).a, .int .i64 (turns m X).b, .int .i64 (turns m X).c, .int .i64 (turns m X).d] 42 (0, 0))) ∧
    Hid (wr.heap[w.heap.size + 1]? = some (.cells #[.int .i64 0, .int .i64 0, .int .i64 0, .int .i64 0] 42 (0, 0))) ∧ Ext w wr) (fun s1 _ => k - (intOf s1).toNat)
  case atStart => exact ⟨0, by omega, rfl, hS1, hR1, hE1⟩
  case round =>
    clear t1 t2 hc1 hf1
    obtain ⟨m, hm, rfl, HS, HR, hE⟩ := hrel
    have lS := (Array.getElem?_eq_some_iff.1 HS.out).1
    have lR := (Array.getElem?_eq_some_iff.1 HR.out).1
    have HT : Hid (turns (m + 1) X = ⟨-(turns m X).d, (turns m X).a, (turns m X).b, (turns m X).c⟩) := rfl
    obtain ⟨b1, b2, b3, b4⟩ := Rg_bd ((rg_turns X m).trans HX.out)
    have HZ : Hid (m = k → turns m X = turns k X) := fun h => by rw [h]
    generalize turns m X = Y at *
    obtain ⟨a, b, c, d⟩ := Y
    dsimp only at b1 b2 b3 b4
    have zS : ∀ q, wr.cell? ⟨w.heap.size, q, none⟩ = (#[.int .i64 a, .int .i64 b, .int .i64 c, .int .i64 d] : Array Value)[q]? := fun q => cell_of_row _ _ _ _ _ _ HS.out
    have fS : ∀ q, wr.frozen? ⟨w.heap.size, q, none⟩ = false := fun q => frozen_of_row _ _ _ _ _ HS.out
    have zR : ∀ q, wr.cell? ⟨w.heap.size + 1, q, none⟩ = (#[.int .i64 0, .int .i64 0, .int .i64 0, .int .i64 0] : Array Value)[q]? := fun q => cell_of_row _ _ _ _ _ _ HR.out
    have fR : ∀ q, wr.frozen? ⟨w.heap.size + 1, q, none⟩ = false := fun q => frozen_of_row _ _ _ _ _ HR.out
    by_cases hlt : m < k
    · have hlt' : (m : Int) < k := by omega
      go_wp2
      go_roundw
      case rel =>
        refine ⟨m + 1, by omega, by go_num, ?_, heap_sets4 (by omega) HR.out, (by repeat (first | exact Ext.refl _ | assumption | refine Ext.alloc ?_ _ | refine Ext.drew ?_ | refine Ext.drewN ?_ _ | refine Ext.setCell ?_ (by first | omega | (dsimp only; omega) | (simp; done) | (simp; omega)) _ | refine Ext.trans ?_ (by assumption)))⟩
        unfold Hid
        rw [HT.out]
        exact heap_set4 HS.out
      case measure => simp [intOf]; omega
    · obtain rfl : m = k := by omega
      have HY := Lib.hid (HZ.out rfl)
      go_wp2
      refine bodyPost_ret (v := .tuple #[.agg #[.int .i64 a, .int .i64 b, .int .i64 c, .int .i64 d], .bool true]) (by simp [results, Try.results44, go_sem, *]) rfl ?_
      rw [← HY.out]
      exact ⟨rfl, (by repeat (first | (with_reducible refine Ext.setCell ?_ (by first | (simp; done) | (simp; omega)) _) | with_reducible refine Ext.alloc ?_ _ | with_reducible refine Ext.drew ?_ | with_reducible refine Ext.drewN ?_ _ | with_reducible assumption | with_reducible exact Ext.refl _ | with_reducible refine Ext.trans ?_ (by with_reducible assumption)))⟩

theorem phase_any (k : Nat) (hk : k ≤ 7) (w : World) :
    Calls Try.prog 30 #[.int .i64 k] w fun en w' =>
      en = .returned (.agg #[.int .i64 (turns k R4.one).a, .int .i64 (turns k R4.one).b, .int .i64 (turns k R4.one).c, .int .i64 (turns k R4.one).d, .int .i64 0]) ∧ Ext w w' := by
  have HM := fun w' => Lib.hid (mulOmega_any R4.one (by decide) k hk w')
  generalize turns k R4.one = Y at *
  unfold R4.one at HM
  dsimp only at HM
  go_enter Try.func30, Try.ntmps30
  go_wp2_with fail
  refine ((HM _).out).mono ?_
  rintro e w1 ⟨rfl, hx1⟩
  obtain ⟨hc1, hf1⟩ := hx1.cells
  have hz1 := hx1.size
  try simp at hz1
  have hs1_0 := sz1 (a := w.heap.size) (b := w1.heap.size) (by omega)
  go_wp2
  refine bodyPost_ret (v := .agg #[.int .i64 Y.a, .int .i64 Y.b, .int .i64 Y.c, .int .i64 Y.d, .int .i64 0]) (by simp [results, Try.results30, go_sem, *]) rfl ?_
  exact ⟨rfl, (by repeat (first | (with_reducible refine Ext.setCell ?_ (by first | (simp; done) | (simp; omega)) _) | with_reducible refine Ext.alloc ?_ _ | with_reducible refine Ext.drew ?_ | with_reducible refine Ext.drewN ?_ _ | with_reducible assumption | with_reducible exact Ext.refl _ | with_reducible refine Ext.trans ?_ (by with_reducible assumption)))⟩

end Go.Proofs.Ytlaajkdhegkpdaa
