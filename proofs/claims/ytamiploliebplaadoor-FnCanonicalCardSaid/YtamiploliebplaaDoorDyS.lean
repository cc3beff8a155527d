/- Dyadic numbers: which are valid; the laws' copies. -/
import Derived.Test.YtamiploliebplaaDoorDyL
import Derived.Test.YtamiploliebplaaDoorRingS
namespace Go.Proofs.YtamiploliebplaaDoor
open Go.RowKit Go.Lib
set_option linter.unusedVariables false
set_option linter.unusedSimpArgs false

theorem toDyadic_any (a b c d e : Int) (w : World) :
    Calls Tryd.prog 42 #[.agg #[.int .i64 a, .int .i64 b, .int .i64 c, .int .i64 d, .int .i64 e]] w fun en w' => en = .returned (.agg #[.int .i64 a, .int .i64 b, .int .i64 c, .int .i64 d, .int .i64 e]) ∧ Ext w w' := by
  go_enter Tryd.func42, Tryd.ntmps42
  go_wp2
  refine bodyPost_ret (v := .agg #[.int .i64 a, .int .i64 b, .int .i64 c, .int .i64 d]) (by simp [results, Tryd.results76, go_sem]) rfl ?_
  go_wp2
  refine bodyPost_ret (v := .agg #[.int .i64 a, .int .i64 b, .int .i64 c, .int .i64 d, .int .i64 e]) (by simp [results, Tryd.results42, go_sem]) rfl ⟨rfl, ?_⟩
  exact (by repeat (first | exact Ext.refl _ | assumption | refine Ext.alloc ?_ _ | refine Ext.drew ?_ | refine Ext.drewN ?_ _ | refine Ext.setCell ?_ (by first | omega | (dsimp only; omega) | (simp; done) | (simp; omega)) _ | refine Ext.trans ?_ (by assumption)))

theorem GD_eq (a b c d e : Int) : GD ⟨a, b, c, d⟩ e = (Rg a b c d && Wn e 0 60 && (e == 0 || !evR a b c d)) := rfl

theorem l2Good_any (a b c d e : Int) (w : World) :
    Calls Tryd.prog 38 #[.agg #[.int .i64 a, .int .i64 b, .int .i64 c, .int .i64 d, .int .i64 e]] w fun en w' => en = .returned (.bool (GD ⟨a, b, c, d⟩ e)) ∧ Ext w w' := by
  have HG : Hid (GD ⟨a, b, c, d⟩ e = (Rg a b c d && Wn e 0 60 && (e == 0 || !evR a b c d))) := GD_eq a b c d e
  cases h1 : Rg a b c d
  · go_enter Tryd.func38, Tryd.ntmps38
    go_wp2_with fail
    refine (l1Good_any _ _ _ _ _).mono ?_
    rintro e w1 ⟨rfl, hx1⟩
    obtain ⟨hc1, hf1⟩ := hx1.cells
    have hz1 := hx1.size
    try simp at hz1
    have hs1_0 := sz1 (a := w.heap.size) (b := w1.heap.size) (by omega)
    go_wp2
    go_ret
    exact ⟨ret_bool (by rw [HG.out, h1]; rfl), (by repeat (first | exact Ext.refl _ | assumption | refine Ext.alloc ?_ _ | refine Ext.drew ?_ | refine Ext.drewN ?_ _ | refine Ext.setCell ?_ (by first | omega | (dsimp only; omega) | (simp; done) | (simp; omega)) _ | refine Ext.trans ?_ (by assumption)))⟩
  cases h2 : Wn e 0 60
  · go_enter Tryd.func38, Tryd.ntmps38
    go_wp2_with fail
    refine (l1Good_any _ _ _ _ _).mono ?_
    rintro e w1 ⟨rfl, hx1⟩
    obtain ⟨hc1, hf1⟩ := hx1.cells
    have hz1 := hx1.size
    try simp at hz1
    have hs1_0 := sz1 (a := w.heap.size) (b := w1.heap.size) (by omega)
    go_wp2_with (go_at_call 36; ((with_reducible refine (l1In_any _ _ _ _).mono ?_); rintro e w' ⟨rfl, rfl⟩))
    go_ret
    exact ⟨ret_bool (by rw [HG.out, h1, h2]; rfl), (by repeat (first | exact Ext.refl _ | assumption | refine Ext.alloc ?_ _ | refine Ext.drew ?_ | refine Ext.drewN ?_ _ | refine Ext.setCell ?_ (by first | omega | (dsimp only; omega) | (simp; done) | (simp; omega)) _ | refine Ext.trans ?_ (by assumption)))⟩
  cases h3 : (e == 0)
  · go_enter Tryd.func38, Tryd.ntmps38
    go_wp2_with fail
    refine (l1Good_any _ _ _ _ _).mono ?_
    rintro e w1 ⟨rfl, hx1⟩
    obtain ⟨hc1, hf1⟩ := hx1.cells
    have hz1 := hx1.size
    try simp at hz1
    have hs1_0 := sz1 (a := w.heap.size) (b := w1.heap.size) (by omega)
    go_wp2_with (go_at_call 36; ((with_reducible refine (l1In_any _ _ _ _).mono ?_); rintro e w' ⟨rfl, rfl⟩))
    refine (l1Even_any _ _ _ _ h1 _).mono ?_
    rintro en w2 ⟨rfl, hx2⟩
    obtain ⟨hc2, hf2⟩ := hx2.cells
    have hz2 := hx2.size
    try simp at hz2
    have hs2_0 := sz1 (a := w.heap.size) (b := w2.heap.size) (by omega)
    go_wp2
    go_ret
    exact ⟨ret_bool (by rw [HG.out, h1, h2, h3]; rfl), (by repeat (first | exact Ext.refl _ | assumption | refine Ext.alloc ?_ _ | refine Ext.drew ?_ | refine Ext.drewN ?_ _ | refine Ext.setCell ?_ (by first | omega | (dsimp only; omega) | (simp; done) | (simp; omega)) _ | refine Ext.trans ?_ (by assumption)))⟩
  · go_enter Tryd.func38, Tryd.ntmps38
    go_wp2_with fail
    refine (l1Good_any _ _ _ _ _).mono ?_
    rintro e w1 ⟨rfl, hx1⟩
    obtain ⟨hc1, hf1⟩ := hx1.cells
    have hz1 := hx1.size
    try simp at hz1
    have hs1_0 := sz1 (a := w.heap.size) (b := w1.heap.size) (by omega)
    go_wp2_with (go_at_call 36; ((with_reducible refine (l1In_any _ _ _ _).mono ?_); rintro e w' ⟨rfl, rfl⟩))
    go_ret
    exact ⟨ret_bool (by rw [HG.out, h1, h2, h3]; rfl), (by repeat (first | exact Ext.refl _ | assumption | refine Ext.alloc ?_ _ | refine Ext.drew ?_ | refine Ext.drewN ?_ _ | refine Ext.setCell ?_ (by first | omega | (dsimp only; omega) | (simp; done) | (simp; omega)) _ | refine Ext.trans ?_ (by assumption)))⟩

theorem isValidDyadic_any (a b c d e : Int) (w : World) :
    Calls Tryd.prog 43 #[.agg #[.int .i64 a, .int .i64 b, .int .i64 c, .int .i64 d, .int .i64 e]] w fun en w' => en = .returned (.bool (GD ⟨a, b, c, d⟩ e)) ∧ Ext w w' := by
  have HG : Hid (GD ⟨a, b, c, d⟩ e = (Rg a b c d && Wn e 0 60 && (e == 0 || !evR a b c d))) := GD_eq a b c d e
  cases h1 : Rg a b c d
  · go_enter Tryd.func43, Tryd.ntmps43
    go_wp2_with fail
    refine (isValidRing_any _ _ _ _ _).mono ?_
    rintro e w1 ⟨rfl, hx1⟩
    obtain ⟨hc1, hf1⟩ := hx1.cells
    have hz1 := hx1.size
    try simp at hz1
    have hs1_0 := sz1 (a := w.heap.size) (b := w1.heap.size) (by omega)
    go_wp2
    go_ret
    exact ⟨ret_bool (by rw [HG.out, h1]; rfl), (by repeat (first | exact Ext.refl _ | assumption | refine Ext.alloc ?_ _ | refine Ext.drew ?_ | refine Ext.drewN ?_ _ | refine Ext.setCell ?_ (by first | omega | (dsimp only; omega) | (simp; done) | (simp; omega)) _ | refine Ext.trans ?_ (by assumption)))⟩
  cases h2 : Wn e 0 60
  · go_enter Tryd.func43, Tryd.ntmps43
    go_wp2_with fail
    refine (isValidRing_any _ _ _ _ _).mono ?_
    rintro e w1 ⟨rfl, hx1⟩
    obtain ⟨hc1, hf1⟩ := hx1.cells
    have hz1 := hx1.size
    try simp at hz1
    have hs1_0 := sz1 (a := w.heap.size) (b := w1.heap.size) (by omega)
    go_wp2_with (go_at_call 60; ((with_reducible refine (within_any _ _ _ _).mono ?_); rintro e w' ⟨rfl, rfl⟩))
    go_ret
    exact ⟨ret_bool (by rw [HG.out, h1, h2]; rfl), (by repeat (first | exact Ext.refl _ | assumption | refine Ext.alloc ?_ _ | refine Ext.drew ?_ | refine Ext.drewN ?_ _ | refine Ext.setCell ?_ (by first | omega | (dsimp only; omega) | (simp; done) | (simp; omega)) _ | refine Ext.trans ?_ (by assumption)))⟩
  cases h3 : (e == 0)
  · go_enter Tryd.func43, Tryd.ntmps43
    go_wp2_with fail
    refine (isValidRing_any _ _ _ _ _).mono ?_
    rintro e w1 ⟨rfl, hx1⟩
    obtain ⟨hc1, hf1⟩ := hx1.cells
    have hz1 := hx1.size
    try simp at hz1
    have hs1_0 := sz1 (a := w.heap.size) (b := w1.heap.size) (by omega)
    go_wp2_with (go_at_call 60; ((with_reducible refine (within_any _ _ _ _).mono ?_); rintro e w' ⟨rfl, rfl⟩))
    refine (isEven_any _ _ _ _ h1 _).mono ?_
    rintro en w2 ⟨rfl, hx2⟩
    obtain ⟨hc2, hf2⟩ := hx2.cells
    have hz2 := hx2.size
    try simp at hz2
    have hs2_0 := sz1 (a := w.heap.size) (b := w2.heap.size) (by omega)
    go_wp2
    go_ret
    exact ⟨ret_bool (by rw [HG.out, h1, h2, h3]; rfl), (by repeat (first | exact Ext.refl _ | assumption | refine Ext.alloc ?_ _ | refine Ext.drew ?_ | refine Ext.drewN ?_ _ | refine Ext.setCell ?_ (by first | omega | (dsimp only; omega) | (simp; done) | (simp; omega)) _ | refine Ext.trans ?_ (by assumption)))⟩
  · go_enter Tryd.func43, Tryd.ntmps43
    go_wp2_with fail
    refine (isValidRing_any _ _ _ _ _).mono ?_
    rintro e w1 ⟨rfl, hx1⟩
    obtain ⟨hc1, hf1⟩ := hx1.cells
    have hz1 := hx1.size
    try simp at hz1
    have hs1_0 := sz1 (a := w.heap.size) (b := w1.heap.size) (by omega)
    go_wp2_with (go_at_call 60; ((with_reducible refine (within_any _ _ _ _).mono ?_); rintro e w' ⟨rfl, rfl⟩))
    go_ret
    exact ⟨ret_bool (by rw [HG.out, h1, h2, h3]; rfl), (by repeat (first | exact Ext.refl _ | assumption | refine Ext.alloc ?_ _ | refine Ext.drew ?_ | refine Ext.drewN ?_ _ | refine Ext.setCell ?_ (by first | omega | (dsimp only; omega) | (simp; done) | (simp; omega)) _ | refine Ext.trans ?_ (by assumption)))⟩

end Go.Proofs.YtamiploliebplaaDoor
