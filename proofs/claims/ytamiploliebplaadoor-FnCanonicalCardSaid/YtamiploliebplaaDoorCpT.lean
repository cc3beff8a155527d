/- Canonical phases: turns and comparisons. -/
import Derived.Test.YtamiploliebplaaDoorCpL
namespace Go.Proofs.YtamiploliebplaaDoor
open Go.RowKit Go.Lib
set_option linter.unusedVariables false
set_option linter.unusedSimpArgs false

theorem heap_set4 {w : World} {g : Nat} {t : TypeId} {a b c d x y z u : Value} (h : w.heap[g]? = some (.cells #[a, b, c, d] t (0, 0))) : ((((w.setCell ⟨g, 0, none⟩ x).setCell ⟨g, 1, none⟩ y).setCell ⟨g, 2, none⟩ z).setCell ⟨g, 3, none⟩ u).heap[g]? = some (.cells #[x, y, z, u] t (0, 0)) :=
  heap_set_at (heap_set_at (heap_set_at (heap_set_at h 0 x) 1 y) 2 z) 3 u
theorem heap_sets4 {w : World} {g k : Nat} {o : Obj} {x y z u : Value} (hk : k ≠ g) (h : w.heap[k]? = some o) : ((((w.setCell ⟨g, 0, none⟩ x).setCell ⟨g, 1, none⟩ y).setCell ⟨g, 2, none⟩ z).setCell ⟨g, 3, none⟩ u).heap[k]? = some o :=
  heap_set_ne hk (heap_set_ne hk (heap_set_ne hk (heap_set_ne hk h)))

set_option maxHeartbeats 2000000 in
theorem l1Turn_any (X : R4) (hX : X.rg = true) (k : Nat) (hk : k ≤ 7) (w : World) :
    Calls Tryd.prog 37 #[.agg #[.int .i64 X.a, .int .i64 X.b, .int .i64 X.c, .int .i64 X.d], .int .i64 k] w fun en w' =>
      en = .returned (.agg #[.int .i64 (turns k X).a, .int .i64 (turns k X).b, .int .i64 (turns k X).c, .int .i64 (turns k X).d]) ∧ Ext w w' := by
  have t1 : Int.tmod (k : Int) 8 = k := Int.tmod_eq_of_lt (by omega) (by omega)
  have t2 : Int.tmod ((k : Int) + 8) 8 = k := by
    have : ((k : Int) + 8) = ((k + 8 : Nat) : Int) := by push_cast; rfl
    rw [this, show (8 : Int) = ((8 : Nat) : Int) from rfl, ← Int.ofNat_tmod]
    omega
  have HX := Lib.hid hX
  clear hX
  go_enter Tryd.func37, Tryd.ntmps37
  go_wp2
  go_loopw [1] (fun s1 wr => ∃ (j m : Nat), j + m = k ∧ s1 = .int .i64 j ∧ Hid (wr.heap[w.heap.size]? = some (.cells #[.int .i64 (turns m X).a, .int .i64 (turns m X).b, .int .i64 (turns m X).c, .int .i64 (turns m X).d] 40 (0, 0))) ∧
    Hid (wr.heap[w.heap.size + 1]? = some (.cells #[.int .i64 0, .int .i64 0, .int .i64 0, .int .i64 0] 40 (0, 0))) ∧ Ext w wr) (fun s1 _ => (intOf s1).toNat)
  case atStart => exact ⟨k, 0, by omega, by simp [t1, t2], heap_alloc_lt (heap_alloc_new _ _), heap_alloc_at _ _ _ (by simp), (by repeat (first | exact Ext.refl _ | assumption | refine Ext.alloc ?_ _ | refine Ext.drew ?_ | refine Ext.drewN ?_ _ | refine Ext.setCell ?_ (by first | omega | (dsimp only; omega) | (simp; done) | (simp; omega)) _ | refine Ext.trans ?_ (by assumption)))⟩
  case round =>
    clear t1 t2
    obtain ⟨j, m, hjm, rfl, HS, HR, hE⟩ := hrel
    have lS := (Array.getElem?_eq_some_iff.1 HS.out).1
    have lR := (Array.getElem?_eq_some_iff.1 HR.out).1
    have HT : Hid (turns (m + 1) X = ⟨-(turns m X).d, (turns m X).a, (turns m X).b, (turns m X).c⟩) := rfl
    obtain ⟨b1, b2, b3, b4⟩ := Rg_bd ((rg_turns X m).trans HX.out)
    have HZ : Hid (j = 0 → turns m X = turns k X) := fun h => by rw [← hjm, h, Nat.zero_add]
    generalize turns m X = Y at *
    obtain ⟨a, b, c, d⟩ := Y
    dsimp only at b1 b2 b3 b4
    have zS : ∀ q, wr.cell? ⟨w.heap.size, q, none⟩ = (#[.int .i64 a, .int .i64 b, .int .i64 c, .int .i64 d] : Array Value)[q]? := fun q => cell_of_row _ _ _ _ _ _ HS.out
    have fS : ∀ q, wr.frozen? ⟨w.heap.size, q, none⟩ = false := fun q => frozen_of_row _ _ _ _ _ HS.out
    have zR : ∀ q, wr.cell? ⟨w.heap.size + 1, q, none⟩ = (#[.int .i64 0, .int .i64 0, .int .i64 0, .int .i64 0] : Array Value)[q]? := fun q => cell_of_row _ _ _ _ _ _ HR.out
    have fR : ∀ q, wr.frozen? ⟨w.heap.size + 1, q, none⟩ = false := fun q => frozen_of_row _ _ _ _ _ HR.out
    by_cases hlt : 0 < j
    · have hlt' : (0 : Int) < j := by omega
      go_wp2
      go_roundw
      case rel =>
        refine ⟨j - 1, m + 1, by omega, by go_num, ?_, heap_sets4 (by omega) HR.out, (by repeat (first | exact Ext.refl _ | assumption | refine Ext.alloc ?_ _ | refine Ext.drew ?_ | refine Ext.drewN ?_ _ | refine Ext.setCell ?_ (by first | omega | (dsimp only; omega) | (simp; done) | (simp; omega)) _ | refine Ext.trans ?_ (by assumption)))⟩
        unfold Hid
        rw [HT.out]
        exact heap_set4 HS.out
      case measure => simp [intOf]; omega
    · obtain rfl : j = 0 := by omega
      have HY := Lib.hid (HZ.out rfl)
      go_wp2
      refine bodyPost_ret (v := .agg #[.int .i64 a, .int .i64 b, .int .i64 c, .int .i64 d]) (by simp [results, Tryd.results37, go_sem, *]) rfl ?_
      rw [← HY.out]
      exact ⟨rfl, (by repeat (first | (with_reducible refine Ext.setCell ?_ (by first | (simp; done) | (simp; omega)) _) | with_reducible refine Ext.alloc ?_ _ | with_reducible refine Ext.drew ?_ | with_reducible refine Ext.drewN ?_ _ | with_reducible assumption | with_reducible exact Ext.refl _ | with_reducible refine Ext.trans ?_ (by with_reducible assumption)))⟩

set_option maxHeartbeats 2000000 in
theorem mulOmega_any (X : R4) (hX : X.rg = true) (k : Nat) (hk : k ≤ 7) (w : World) :
    Calls Tryd.prog 29 #[.agg #[.int .i64 X.a, .int .i64 X.b, .int .i64 X.c, .int .i64 X.d], .int .i64 k] w fun en w' =>
      en = .returned (.tuple #[.agg #[.int .i64 (turns k X).a, .int .i64 (turns k X).b, .int .i64 (turns k X).c, .int .i64 (turns k X).d], .bool true]) ∧ Ext w w' := by
  have t1 : Int.tmod (k : Int) 8 = k := Int.tmod_eq_of_lt (by omega) (by omega)
  have t2 : Int.tmod ((k : Int) + 8) 8 = k := by
    have : ((k : Int) + 8) = ((k + 8 : Nat) : Int) := by push_cast; rfl
    rw [this, show (8 : Int) = ((8 : Nat) : Int) from rfl, ← Int.ofNat_tmod]
    omega
  have HW : ∀ w', Hid (Calls Tryd.prog 60 #[.int .i64 k, .int .i64 (-1000), .int .i64 1000] w' fun e w'' => e = .returned (.bool true) ∧ w' = w'') := fun w' => by
    have := within_any k (-1000) 1000 w'
    rw [show Wn (k : Int) (-1000) 1000 = true by unfold Wn; simp; omega] at this
    exact this
  have HV : ∀ w', Hid (Calls Tryd.prog 61 #[.agg #[.int .i64 X.a, .int .i64 X.b, .int .i64 X.c, .int .i64 X.d]] w' fun e w'' => e = .returned (.bool true) ∧ Ext w' w'') := fun w' => by
    have := isValidRing_any X.a X.b X.c X.d w'
    rw [show Rg X.a X.b X.c X.d = true from hX] at this
    exact this
  have HX := Lib.hid hX
  clear hX
  go_enter Tryd.func29, Tryd.ntmps29
  go_wp2_with fail
  refine ((HW _).out).mono ?_
  rintro e w' ⟨rfl, rfl⟩
  go_wp2_with fail
  refine ((HV _).out).mono ?_
  rintro e w1 ⟨rfl, hx1⟩
  obtain ⟨hc1, hf1⟩ := hx1.cells
  have hz1 := hx1.size
  try simp at hz1
  have hs1_0 := sz2 (a := w.heap.size) (b := w1.heap.size) (by omega)
  have hS1 : w1.heap[w.heap.size]? = some (.cells #[.int .i64 X.a, .int .i64 X.b, .int .i64 X.c, .int .i64 X.d] 40 (0, 0)) := (hx1.heap (by simp <;> omega)).trans (heap_alloc_lt (heap_alloc_new _ _))
  have hR1 : w1.heap[w.heap.size + 1]? = some (.cells #[.int .i64 0, .int .i64 0, .int .i64 0, .int .i64 0] 40 (0, 0)) := (hx1.heap (by simp <;> omega)).trans (heap_alloc_at _ _ _ (by simp))
  have hE1 : Ext w w1 := (by repeat (first | exact Ext.refl _ | assumption | refine Ext.alloc ?_ _ | refine Ext.drew ?_ | refine Ext.drewN ?_ _ | refine Ext.setCell ?_ (by first | omega | (dsimp only; omega) | (simp; done) | (simp; omega)) _ | refine Ext.trans ?_ (by assumption)))
  go_wp2
  go_loopw [19] (fun s1 wr => ∃ (m : Nat), m ≤ k ∧ s1 = .int .i64 m ∧ Hid (wr.heap[w.heap.size]? = some (.cells #[.int .i64 (turns m X).a, .int .i64 (turns m X).b, .int .i64 (turns m X).c, .int .i64 (turns m X).d] 40 (0, 0))) ∧
    Hid (wr.heap[w.heap.size + 1]? = some (.cells #[.int .i64 0, .int .i64 0, .int .i64 0, .int .i64 0] 40 (0, 0))) ∧ Ext w wr) (fun s1 _ => k - (intOf s1).toNat)
  case atStart => exact ⟨0, by omega, rfl, hS1, hR1, hE1⟩
  case round =>
    clear t1 t2 hc1 hf1
    obtain ⟨m, hm, rfl, HS, HR, hE⟩ := hrel
    have lS := (Array.getElem?_eq_some_iff.1 HS.out).1
    have lR := (Array.getElem?_eq_some_iff.1 HR.out).1
    have HT : Hid (turns (m + 1) X = ⟨-(turns m X).d, (turns m X).a, (turns m X).b, (turns m X).c⟩) := rfl
    obtain ⟨b1, b2, b3, b4⟩ := Rg_bd ((rg_turns X m).trans HX.out)
    have HZ : Hid (m = k → turns m X = turns k X) := fun h => by rw [h]
    generalize turns m X = Y at *
    obtain ⟨a, b, c, d⟩ := Y
    dsimp only at b1 b2 b3 b4
    have zS : ∀ q, wr.cell? ⟨w.heap.size, q, none⟩ = (#[.int .i64 a, .int .i64 b, .int .i64 c, .int .i64 d] : Array Value)[q]? := fun q => cell_of_row _ _ _ _ _ _ HS.out
    have fS : ∀ q, wr.frozen? ⟨w.heap.size, q, none⟩ = false := fun q => frozen_of_row _ _ _ _ _ HS.out
    have zR : ∀ q, wr.cell? ⟨w.heap.size + 1, q, none⟩ = (#[.int .i64 0, .int .i64 0, .int .i64 0, .int .i64 0] : Array Value)[q]? := fun q => cell_of_row _ _ _ _ _ _ HR.out
    have fR : ∀ q, wr.frozen? ⟨w.heap.size + 1, q, none⟩ = false := fun q => frozen_of_row _ _ _ _ _ HR.out
    by_cases hlt : m < k
    · have hlt' : (m : Int) < k := by omega
      go_wp2
      go_roundw
      case rel =>
        refine ⟨m + 1, by omega, by go_num, ?_, heap_sets4 (by omega) HR.out, (by repeat (first | exact Ext.refl _ | assumption | refine Ext.alloc ?_ _ | refine Ext.drew ?_ | refine Ext.drewN ?_ _ | refine Ext.setCell ?_ (by first | omega | (dsimp only; omega) | (simp; done) | (simp; omega)) _ | refine Ext.trans ?_ (by assumption)))⟩
        unfold Hid
        rw [HT.out]
        exact heap_set4 HS.out
      case measure => simp [intOf]; omega
    · obtain rfl : m = k := by omega
      have HY := Lib.hid (HZ.out rfl)
      go_wp2
      refine bodyPost_ret (v := .tuple #[.agg #[.int .i64 a, .int .i64 b, .int .i64 c, .int .i64 d], .bool true]) (by simp [results, Tryd.results29, go_sem, *]) rfl ?_
      rw [← HY.out]
      exact ⟨rfl, (by repeat (first | (with_reducible refine Ext.setCell ?_ (by first | (simp; done) | (simp; omega)) _) | with_reducible refine Ext.alloc ?_ _ | with_reducible refine Ext.drew ?_ | with_reducible refine Ext.drewN ?_ _ | with_reducible assumption | with_reducible exact Ext.refl _ | with_reducible refine Ext.trans ?_ (by with_reducible assumption)))⟩

theorem phase_any (k : Nat) (hk : k ≤ 7) (w : World) :
    Calls Tryd.prog 32 #[.int .i64 k] w fun en w' =>
      en = .returned (.agg #[.int .i64 (turns k R4.one).a, .int .i64 (turns k R4.one).b, .int .i64 (turns k R4.one).c, .int .i64 (turns k R4.one).d, .int .i64 0]) ∧ Ext w w' := by
  have HM := fun w' => Lib.hid (mulOmega_any R4.one (by decide) k hk w')
  generalize turns k R4.one = Y at *
  unfold R4.one at HM
  dsimp only at HM
  go_enter Tryd.func32, Tryd.ntmps32
  go_wp2_with fail
  refine ((HM _).out).mono ?_
  rintro e w1 ⟨rfl, hx1⟩
  obtain ⟨hc1, hf1⟩ := hx1.cells
  have hz1 := hx1.size
  try simp at hz1
  have hs1_0 := sz1 (a := w.heap.size) (b := w1.heap.size) (by omega)
  go_wp2
  refine bodyPost_ret (v := .agg #[.int .i64 Y.a, .int .i64 Y.b, .int .i64 Y.c, .int .i64 Y.d, .int .i64 0]) (by simp [results, Tryd.results32, go_sem, *]) rfl ?_
  exact ⟨rfl, (by repeat (first | (with_reducible refine Ext.setCell ?_ (by first | (simp; done) | (simp; omega)) _) | with_reducible refine Ext.alloc ?_ _ | with_reducible refine Ext.drew ?_ | with_reducible refine Ext.drewN ?_ _ | with_reducible assumption | with_reducible exact Ext.refl _ | with_reducible refine Ext.trans ?_ (by with_reducible assumption)))⟩

set_option maxHeartbeats 2000000 in
theorem l25Less_any (X Y : R4) (w : World) :
    Calls Tryd.prog 91 #[.agg #[.int .i64 X.a, .int .i64 X.b, .int .i64 X.c, .int .i64 X.d], .agg #[.int .i64 Y.a, .int .i64 Y.b, .int .i64 Y.c, .int .i64 Y.d]] w fun en w' =>
      en = .returned (.bool (rLt X Y)) ∧ Ext w w' := by
  obtain ⟨a, b, c, d⟩ := X
  obtain ⟨e, f, g, h⟩ := Y
  dsimp only
  by_cases h1 : a = e
  case neg =>
    have HV : Hid (rLt ⟨a, b, c, d⟩ ⟨e, f, g, h⟩ = decide (a < e)) := by simp [Hid, rLt, h1]
    go_enter Tryd.func91, Tryd.ntmps91
    go_wp2
    go_ret
    exact ⟨ret_bool (by rw [HV.out]), (by repeat (first | exact Ext.refl _ | assumption | refine Ext.alloc ?_ _ | refine Ext.drew ?_ | refine Ext.drewN ?_ _ | refine Ext.setCell ?_ (by first | omega | (dsimp only; omega) | (simp; done) | (simp; omega)) _ | refine Ext.trans ?_ (by assumption)))⟩
  by_cases h2 : b = f
  case neg =>
    have HV : Hid (rLt ⟨a, b, c, d⟩ ⟨e, f, g, h⟩ = decide (b < f)) := by simp [Hid, rLt, h1, h2]
    subst h1
    go_enter Tryd.func91, Tryd.ntmps91
    go_wp2
    go_ret
    exact ⟨ret_bool (by rw [HV.out]), (by repeat (first | exact Ext.refl _ | assumption | refine Ext.alloc ?_ _ | refine Ext.drew ?_ | refine Ext.drewN ?_ _ | refine Ext.setCell ?_ (by first | omega | (dsimp only; omega) | (simp; done) | (simp; omega)) _ | refine Ext.trans ?_ (by assumption)))⟩
  by_cases h3 : c = g
  case neg =>
    have HV : Hid (rLt ⟨a, b, c, d⟩ ⟨e, f, g, h⟩ = decide (c < g)) := by simp [Hid, rLt, h1, h2, h3]
    subst h1
    subst h2
    go_enter Tryd.func91, Tryd.ntmps91
    go_wp2
    go_ret
    exact ⟨ret_bool (by rw [HV.out]), (by repeat (first | exact Ext.refl _ | assumption | refine Ext.alloc ?_ _ | refine Ext.drew ?_ | refine Ext.drewN ?_ _ | refine Ext.setCell ?_ (by first | omega | (dsimp only; omega) | (simp; done) | (simp; omega)) _ | refine Ext.trans ?_ (by assumption)))⟩
  have HV : Hid (rLt ⟨a, b, c, d⟩ ⟨e, f, g, h⟩ = decide (d < h)) := by simp [Hid, rLt, h1, h2, h3]
  subst h1
  subst h2
  subst h3
  go_enter Tryd.func91, Tryd.ntmps91
  go_wp2
  go_ret
  exact ⟨ret_bool (by rw [HV.out]), (by repeat (first | exact Ext.refl _ | assumption | refine Ext.alloc ?_ _ | refine Ext.drew ?_ | refine Ext.drewN ?_ _ | refine Ext.setCell ?_ (by first | omega | (dsimp only; omega) | (simp; done) | (simp; omega)) _ | refine Ext.trans ?_ (by assumption)))⟩

set_option maxHeartbeats 2000000 in
theorem l28Turn_any (X : R4) (hX : X.rg = true) (w : World) :
    Calls Tryd.prog 68 #[.agg #[.int .i64 X.a, .int .i64 X.b, .int .i64 X.c, .int .i64 X.d]] w fun en w' => en = .returned (.int .i64 (cpB X 7 : Nat)) ∧ Ext w w' := by
  have HT := fun (k : Nat) (hk : k ≤ 7) w' => Lib.hid (l1Turn_any X hX k hk w')
  clear hX
  go_enter Tryd.func68, Tryd.ntmps68
  go_wp2
  go_loopw [3, 4] (fun s3 s4 wr => ∃ (k : Nat), k ≤ 7 ∧ s4 = .int .i64 ((k : Int) + 1) ∧ s3 = .int .i64 (cpB X k : Nat) ∧ Ext (w.alloc (.cells #[.int .i64 X.a, .int .i64 X.b, .int .i64 X.c, .int .i64 X.d] 40 (0, 0))) wr) (fun _ s4 _ => 8 - (intOf s4).toNat)
  case atStart => exact ⟨0, by omega, rfl, rfl, Ext.refl _⟩
  case round =>
    obtain ⟨k, hk, rfl, rfl, hE⟩ := hrel
    have hS : wr.heap[w.heap.size]? = some (.cells #[.int .i64 X.a, .int .i64 X.b, .int .i64 X.c, .int .i64 X.d] 40 (0, 0)) := (hE.heap (by simp)).trans (heap_alloc_new _ _)
    have hl := (Array.getElem?_eq_some_iff.1 hS).1
    have zS : ∀ q, wr.cell? ⟨w.heap.size, q, none⟩ = (#[.int .i64 X.a, .int .i64 X.b, .int .i64 X.c, .int .i64 X.d] : Array Value)[q]? := fun q => cell_of_row _ _ _ _ _ _ hS
    have hE0 : Ext w wr := ((Ext.refl w).alloc _).trans hE
    clear hS
    have hb := cpB_le X k
    by_cases hlt : k < 7
    · have hlt' : (k : Int) + 1 < 8 := by omega
      have H1 := HT (cpB X k) (by omega)
      have H2 := HT (k + 1) (by omega)
      have HL := fun w' => Lib.hid (l25Less_any (turns (cpB X k) X) (turns (k + 1) X) w')
      have HB : Hid (cpB X (k + 1) = if rLt (turns (cpB X k) X) (turns (k + 1) X) then k + 1 else cpB X k) := rfl
      rw [show ((k + 1 : Nat) : Int) = (k : Int) + 1 by push_cast; rfl] at H2
      generalize rLt (turns (cpB X k) X) (turns (k + 1) X) = o at *
      generalize turns (cpB X k) X = Y at *
      generalize turns (k + 1) X = Z at *
      generalize cpB X k = b at *
      cases o
      · go_wp2
        refine wp_region_madeC (m := 18) (by kernel_rfl) (by kernel_rfl) rfl (fun hxc => ?_)
        repeat (refine mw_quiet ?_; apply Exists.intro; refine ⟨fun σ => ?_, ?_⟩; (first | (go_simp; rfl) | (go_simp; intro x; first | (go_at_call 37; with_reducible exact (H1 _).out) | (go_at_call 37; with_reducible exact (H2 _).out) | (go_at_call 91; with_reducible exact (HL _).out) | (go_at_call 37; exact (H1 _).out) | (go_at_call 37; exact (H2 _).out) | (go_at_call 91; exact (HL _).out))); simp only [Act.put, List.setIfInBounds_toArray, List.set_cons_succ, List.set_cons_zero, List.nil_append, List.cons_append])
        refine ⟨by kernel_rfl, fun σ w2 hF2 => ?_⟩
        have hx2 := hF2.ext
        clear hF2 hxc
        obtain ⟨hc2, hf2⟩ := hx2.cells
        have hz2 := hx2.size
        try simp at hz2
        go_wp2
        go_roundw
        case rel => exact ⟨k + 1, by omega, by go_num, by rw [HB.out]; rfl, hE.trans hx2⟩
        case measure => simp [intOf]; omega
      · go_wp2
        refine wp_region_madeC (m := 18) (by kernel_rfl) (by kernel_rfl) rfl (fun hxc => ?_)
        repeat (refine mw_quiet ?_; apply Exists.intro; refine ⟨fun σ => ?_, ?_⟩; (first | (go_simp; rfl) | (go_simp; intro x; first | (go_at_call 37; with_reducible exact (H1 _).out) | (go_at_call 37; with_reducible exact (H2 _).out) | (go_at_call 91; with_reducible exact (HL _).out) | (go_at_call 37; exact (H1 _).out) | (go_at_call 37; exact (H2 _).out) | (go_at_call 91; exact (HL _).out))); simp only [Act.put, List.setIfInBounds_toArray, List.set_cons_succ, List.set_cons_zero, List.nil_append, List.cons_append])
        refine ⟨by kernel_rfl, fun σ w2 hF2 => ?_⟩
        have hx2 := hF2.ext
        clear hF2 hxc
        obtain ⟨hc2, hf2⟩ := hx2.cells
        have hz2 := hx2.size
        try simp at hz2
        go_wp2
        go_roundw
        case rel => exact ⟨k + 1, by omega, by go_num, by rw [HB.out]; go_num, hE.trans hx2⟩
        case measure => simp [intOf]; omega
    · obtain rfl : k = 7 := by omega
      go_wp2
      go_ret
      exact ⟨rfl, (by repeat (first | exact Ext.refl _ | assumption | refine Ext.alloc ?_ _ | refine Ext.drew ?_ | refine Ext.drewN ?_ _ | refine Ext.setCell ?_ (by first | omega | (dsimp only; omega) | (simp; done) | (simp; omega)) _ | refine Ext.trans ?_ (by assumption)))⟩


open Go.RowKit Go.Lib
set_option linter.unusedVariables false
set_option linter.unusedSimpArgs false

theorem isNaN_any (x : Int) (w : World) : Calls Tryd.prog 98 #[.int .i64 x] w fun en w' => en = .returned (.bool false) ∧ w = w' := by
  go_enter Tryd.func98, Tryd.ntmps98
  go_wp2
  go_ret
  exact ⟨rfl, rfl⟩
theorem cmpInt_any (x y : Int) (w : World) : Calls Tryd.prog 87 #[.int .i64 x, .int .i64 y] w fun en w' => en = .returned (.int .i64 (cmpZ x y)) ∧ w = w' := by
  have HC : Hid (cmpZ x y = if x < y then -1 else if y < x then 1 else 0) := rfl
  have HN := fun x w' => Lib.hid (isNaN_any x w')
  by_cases h1 : x < y
  · have HV : Hid (cmpZ x y = -1) := HC.out.trans (if_pos h1)
    generalize cmpZ x y = v at *
    obtain rfl := HV.out
    clear HC HV
    go_enter Tryd.func87, Tryd.ntmps87
    go_wp2_with fail
    refine ((HN _ _).out).mono ?_
    rintro e w' ⟨rfl, rfl⟩
    go_wp2_with fail
    refine ((HN _ _).out).mono ?_
    rintro e w' ⟨rfl, rfl⟩
    go_wp2
    go_ret
    exact ⟨rfl, rfl⟩
  by_cases h2 : y < x
  · have HV : Hid (cmpZ x y = 1) := HC.out.trans ((if_neg h1).trans (if_pos h2))
    generalize cmpZ x y = v at *
    obtain rfl := HV.out
    clear HC HV
    go_enter Tryd.func87, Tryd.ntmps87
    go_wp2_with fail
    refine ((HN _ _).out).mono ?_
    rintro e w' ⟨rfl, rfl⟩
    go_wp2_with fail
    refine ((HN _ _).out).mono ?_
    rintro e w' ⟨rfl, rfl⟩
    go_wp2
    go_ret
    exact ⟨rfl, rfl⟩
  · have HV : Hid (cmpZ x y = 0) := HC.out.trans ((if_neg h1).trans (if_neg h2))
    generalize cmpZ x y = v at *
    obtain rfl := HV.out
    clear HC HV
    go_enter Tryd.func87, Tryd.ntmps87
    go_wp2_with fail
    refine ((HN _ _).out).mono ?_
    rintro e w' ⟨rfl, rfl⟩
    go_wp2_with fail
    refine ((HN _ _).out).mono ?_
    rintro e w' ⟨rfl, rfl⟩
    go_wp2
    go_ret
    exact ⟨rfl, rfl⟩

set_option maxHeartbeats 2000000 in
theorem compareS_any {v1 v2 : Value} {n : Nat} {xs ys : List Int} (hn : n ≤ 2000000) (w : World) (h1 : RV w 1 v1 n xs) (h2 : RV w 1 v2 n ys) :
    Calls Tryd.prog 62 #[v1, v2] w fun e w' => e = .returned (.int .i64 (cmpTo xs ys n)) ∧ Ext w w' := by
  obtain ⟨hl1, a1, cap1, rfl, p1, p2, H1⟩ := h1
  obtain ⟨hl2, a2, cap2, rfl, p3, p4, H2⟩ := h2
  have HX := Lib.hid H1
  have HY := Lib.hid H2
  have HLX := Lib.hid hl1
  have HLY := Lib.hid hl2
  clear H1 H2 hl1 hl2 p1 p2 p3 p4
  have HM := fun x y w' => Lib.hid (cmpInt_any x y w')
  go_enter Tryd.func62, Tryd.ntmps62
  go_wp2
  go_loopw [5, 6, 7, 8, 11] (fun _ _ _ _ q wr => ∃ j : Nat, j ≤ n ∧ q = .int .i64 j ∧ Hid (cmpTo xs ys j = 0) ∧ Ext w wr) (fun _ _ _ _ q _ => n - (intOf q).toNat)
  case atStart => exact ⟨0, by omega, rfl, rfl, (by repeat (first | exact Ext.refl _ | assumption | refine Ext.alloc ?_ _ | refine Ext.drew ?_ | refine Ext.drewN ?_ _ | refine Ext.setCell ?_ (by first | omega | (dsimp only; omega) | (simp; done) | (simp; omega)) _ | refine Ext.trans ?_ (by assumption)))⟩
  case round =>
    obtain ⟨j, hj, rfl, HO, hE⟩ := hrel
    by_cases hlt : j < n
    · have hlt' : (j : Int) < n := by omega
      have HS : Hid (cmpTo xs ys (j + 1) = if cmpTo xs ys j = 0 then cmpZ (at3 xs j) (at3 ys j) else cmpTo xs ys j) := rfl
      have HK : Hid (cmpTo xs ys (j + 1) ≠ 0 → cmpTo xs ys n = cmpTo xs ys (j + 1)) := fun h => by
        obtain ⟨d, rfl⟩ : ∃ d, n = j + 1 + d := ⟨n - j - 1, by omega⟩
        exact cmpTo_keep h d
      obtain ⟨bx, offx, rfl, hbkx, hcellx⟩ := HX.out (by omega)
      have hbrx : bx < wr.heap.size := by have := hE.size; omega
      have zx0 : wr.cell? ⟨bx, offx + j, none⟩ = some (.int .i64 (at3 xs (j))) := (hE.cells.1 bx (offx + (j)) hbkx).trans (hcellx _ _ (at3_get (by have := HLX.out; omega)))
      clear hcellx
      obtain ⟨bz, offz, rfl, hbkz, hcellz⟩ := HY.out (by omega)
      have hbrz : bz < wr.heap.size := by have := hE.size; omega
      have zz0 : wr.cell? ⟨bz, offz + j, none⟩ = some (.int .i64 (at3 ys (j))) := (hE.cells.1 bz (offz + (j)) hbkz).trans (hcellz _ _ (at3_get (by have := HLY.out; omega)))
      clear hcellz
      generalize at3 xs j = x0 at *
      generalize at3 ys j = y0 at *
      have HC := HM x0 y0
      have HS2 : Hid (cmpTo xs ys (j + 1) = cmpZ x0 y0) := HS.out.trans (if_pos HO.out)
      generalize cmpZ x0 y0 = v at *
      clear HS HM
      by_cases hv : v = 0
      · subst hv
        go_wp2_with fail
        refine (HC _).out.mono ?_
        rintro e w2 ⟨rfl, rfl⟩
        go_wp2
        go_roundw
        case rel => exact ⟨j + 1, by omega, by go_num, HS2, hE⟩
        case measure => simp [intOf]; omega
      · have HF := Lib.hid ((HK.out (by rw [HS2.out]; exact hv)).trans HS2.out)
        go_wp2_with fail
        refine (HC _).out.mono ?_
        rintro e w2 ⟨rfl, rfl⟩
        go_wp2
        go_ret
        rw [HF.out]
        exact ⟨rfl, hE⟩
    · obtain rfl : j = n := by omega
      go_wp2
      go_ret
      rw [HO.out]
      exact ⟨rfl, hE⟩

theorem rv_lit4 {w : World} {B : Nat} {t : TypeId} {a b c d : Int} (h : w.heap[B]? = some (.cells #[.int .i64 a, .int .i64 b, .int .i64 c, .int .i64 d] t (0, 0))) : RV w 1 (.slice (some ⟨B, 0, none⟩) 4 4) 4 [a, b, c, d] := by
  refine ⟨rfl, _, _, rfl, Nat.le_refl _, by decide, fun _ => ⟨B, 0, rfl, (Array.getElem?_eq_some_iff.1 h).1, fun j u hu => ?_⟩⟩
  rw [Nat.zero_add, cell_of_row _ _ _ _ _ _ h]
  simpa [IL] using hu

set_option maxHeartbeats 2000000 in
theorem compareRings_any (X Y : R4) (w : World) :
    Calls Tryd.prog 30 #[.agg #[.int .i64 X.a, .int .i64 X.b, .int .i64 X.c, .int .i64 X.d], .agg #[.int .i64 Y.a, .int .i64 Y.b, .int .i64 Y.c, .int .i64 Y.d]] w fun en w' =>
      en = .returned (.int .i64 (cmpTo [X.a, X.b, X.c, X.d] [Y.a, Y.b, Y.c, Y.d] 4)) ∧ Ext w w' := by
  go_enter Tryd.func30, Tryd.ntmps30
  go_wp2_with fail
  refine (compareS_any (n := 4) (xs := [X.a, X.b, X.c, X.d]) (ys := [Y.a, Y.b, Y.c, Y.d]) (by omega) _ (rv_lit4 (heap_alloc_lt (heap_alloc_at _ _ _ (by simp)))) (rv_lit4 (heap_alloc_at _ _ _ (by simp)))).mono ?_
  rintro e w1 ⟨rfl, hx1⟩
  go_wp2
  go_ret
  exact ⟨rfl, (by repeat (first | exact Ext.refl _ | assumption | refine Ext.alloc ?_ _ | refine Ext.drew ?_ | refine Ext.drewN ?_ _ | refine Ext.setCell ?_ (by first | omega | (dsimp only; omega) | (simp; done) | (simp; omega)) _ | refine Ext.trans ?_ (by assumption)))⟩

theorem nzCell_any (a b c d e : Int) (w : World) :
    Calls Tryd.prog 27 #[.agg #[.int .i64 a, .int .i64 b, .int .i64 c, .int .i64 d, .int .i64 e]] w fun en w' => en = .returned (.bool (!((a == 0) && ((b == 0) && ((c == 0) && ((d == 0) && (e == 0))))))) ∧ Ext w w' := by
  go_enter Tryd.func27, Tryd.ntmps27
  go_wp2
  all_goals
    go_ret
    exact ⟨ret_bool (by simp [*]), (by repeat (first | exact Ext.refl _ | assumption | refine Ext.alloc ?_ _ | refine Ext.drew ?_ | refine Ext.drewN ?_ _ | refine Ext.setCell ?_ (by first | omega | (dsimp only; omega) | (simp; done) | (simp; omega)) _ | refine Ext.trans ?_ (by assumption)))⟩

end Go.Proofs.YtamiploliebplaaDoor
