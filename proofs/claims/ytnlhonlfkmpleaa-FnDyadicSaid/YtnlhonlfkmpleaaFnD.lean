/- The law FnDyadic. -/
import Derived.Test.YtnlhonlfkmpleaaCru
import Derived.Test.YtnlhonlfkmpleaaDyU
import Derived.Test.YtnlhonlfkmpleaaDyK
namespace Go.Proofs.Ytnlhonlfkmpleaa
open Go.RowKit Go.Lib
set_option linter.unusedVariables false
set_option linter.unusedSimpArgs false

theorem bigD_any (v1 v2 : Value) (n1 n2 : Nat) (w : World) (h1 : ∃ a c, v1 = .slice a n1 c ∧ n1 ≤ maxLen) (h2 : ∃ a c, v2 = .slice a n2 c ∧ n2 ≤ maxLen) :
    Calls Try.prog 24 #[v1, v2] w fun e w' => e = .returned (.bool (decide (1048576 < (n1 : Int)) || decide (1048576 - (n1 : Int) < n2))) ∧ Ext w w' := by
  obtain ⟨a1, c1, rfl, k1⟩ := h1
  obtain ⟨a2, c2, rfl, k2⟩ := h2
  have m1 : n1 ≤ 9223372036854775807 := k1
  have m2 : n2 ≤ 9223372036854775807 := k2
  go_enter Try.func24, Try.ntmps24
  by_cases h : (1048576 : Int) < n1
  · go_wp2
    go_ret
    exact ⟨ret_bool (by simp [h]), (by repeat (first | exact Ext.refl _ | assumption | refine Ext.alloc ?_ _ | refine Ext.drew ?_ | refine Ext.drewN ?_ _ | refine Ext.setCell ?_ (by first | omega | (dsimp only; omega) | (simp; done) | (simp; omega)) _ | refine Ext.trans ?_ (by assumption)))⟩
  · go_wp2
    go_ret
    exact ⟨ret_bool (by simp [h]; omega), (by repeat (first | exact Ext.refl _ | assumption | refine Ext.alloc ?_ _ | refine Ext.drew ?_ | refine Ext.drewN ?_ _ | refine Ext.setCell ?_ (by first | omega | (dsimp only; omega) | (simp; done) | (simp; omega)) _ | refine Ext.trans ?_ (by assumption)))⟩

theorem r4_of (a b c d : Int) : ∃ X : R4, X.a = a ∧ X.b = b ∧ X.c = c ∧ X.d = d := ⟨⟨a, b, c, d⟩, rfl, rfl, rfl, rfl⟩

set_option maxRecDepth 20000 in
set_option maxHeartbeats 4000000 in
theorem law_FnDyadic (v1 v2 : Value) (n1 n2 : Nat) (w : World) (h1 : BY w.heap.size w v1 n1) (h2 : BY w.heap.size w v2 n2) :
    Calls Try.prog 6 #[v1, v2] w fun e w' => e = .returned (.bool true) ∧ Ext w w' := by
  have hb := bigD_any v1 v2 n1 n2 w (by obtain ⟨a, c, h, h3, h4, _⟩ := h1; exact ⟨a, c, h, Nat.le_trans h3 h4⟩) (by obtain ⟨a, c, h, h3, h4, _⟩ := h2; exact ⟨a, c, h, Nat.le_trans h3 h4⟩)
  generalize (decide (1048576 < (n1 : Int)) || decide (1048576 - (n1 : Int) < n2)) = big at hb
  have HB := Lib.hid hb
  have HD1 := fun w' (hx : Ext w w') => Lib.hid (drawAddDyadic_any v1 n1 w' (h1.later hx))
  have HD2 := fun w' (hx : Ext w w') => Lib.hid (drawConjDyadic_any v2 n2 w' (h2.later hx))
  obtain ⟨a1, c1, rfl⟩ := h1.noarg
  obtain ⟨a2, c2, rfl⟩ := h2.noarg
  clear h1 h2 hb
  go_enter Try.func6, Try.ntmps6
  go_wp2_with fail
  refine HB.out.mono ?_
  rintro en w1 ⟨rfl, hx1⟩
  cases big
  case true =>
    go_wp2
    go_ret
    exact ⟨rfl, hx1⟩
  go_wp2_with fail
  refine (HD1 w1 hx1).out.mono ?_
  rintro en w2 ⟨a, b, c, d, e, a', b', c', d', j, rfl, hx2⟩
  obtain ⟨X, rfl, rfl, rfl, rfl⟩ := r4_of a b c d
  obtain ⟨Y, rfl, rfl, rfl, rfl⟩ := r4_of a' b' c' d'
  have X2 : Ext w w2 := hx1.trans hx2
  clear hx1 hx2
  go_wp2_with fail
  refine (HD2 _ ((X2.alloc _).alloc _)).out.mono ?_
  rintro en w3 ⟨a, b, c, d, l, rfl, hx3⟩
  obtain ⟨Z, rfl, rfl, rfl, rfl⟩ := r4_of a b c d
  obtain ⟨hc3, hf3⟩ := hx3.cells
  have hz3 := hx3.size
  try simp at hz3
  have hs3_0 := sz2 (a := w2.heap.size) (b := w3.heap.size) (by omega)
  have HA := fun w' => Lib.hid (addDyadic_any X e Y j w')
  have HA' := fun w' => Lib.hid (addDyadic_any Y j X e w')
  simp only [(ad_comm Y j X e).1, (ad_comm Y j X e).2.1, (ad_comm Y j X e).2.2] at HA'
  have HS := fun w' => Lib.hid (s_addDyadic_any X e Y j w')
  have HB := fun w' => Lib.hid (subDyadic_any (adX X e Y j) (adE X e Y j) Y j w')
  have HM := fun w' => Lib.hid (mulDyadic_any X e Y j w')
  have HM' := fun w' => Lib.hid (mulDyadic_any Y j X e w')
  simp only [(mu_comm Y j X e).1, (mu_comm Y j X e).2.1, (mu_comm Y j X e).2.2] at HM'
  have HXZ := fun w' => Lib.hid (mulDyadic_any X e Z l w')
  have HYZ := fun w' => Lib.hid (mulDyadic_any Y j Z l w')
  have HL := fun w' => Lib.hid (mulDyadic_any (adX X e Y j) (adE X e Y j) Z l w')
  have HR := fun w' => Lib.hid (addDyadic_any (muX X e Z l) (muE X e Z l) (muX Y j Z l) (muE Y j Z l) w')
  have hback := Lib.hid (fun h h2 => ad_back (X := X) (e := e) (Y := Y) (j := j) h h2)
  have hmul := Lib.hid (fun h h1 h2 h3 h4 => ad_mul (X := X) (e := e) (Y := Y) (j := j) (Z := Z) (l := l) h h1 h2 h3 h4)
  generalize adX (muX X e Z l) (muE X e Z l) (muX Y j Z l) (muE Y j Z l) = R at *
  generalize adE (muX X e Z l) (muE X e Z l) (muX Y j Z l) (muE Y j Z l) = re at *
  generalize adOk (muX X e Z l) (muE X e Z l) (muX Y j Z l) (muE Y j Z l) = ro at *
  generalize muX (adX X e Y j) (adE X e Y j) Z l = L at *
  generalize muE (adX X e Y j) (adE X e Y j) Z l = le at *
  generalize muOk (adX X e Y j) (adE X e Y j) Z l = lo at *
  generalize adX (adX X e Y j) (adE X e Y j) Y.neg j = K at *
  generalize adE (adX X e Y j) (adE X e Y j) Y.neg j = ke at *
  generalize adOk (adX X e Y j) (adE X e Y j) Y.neg j = ko at *
  generalize muX X e Z l = U at *
  generalize muE X e Z l = ue at *
  generalize muOk X e Z l = uo at *
  generalize muX Y j Z l = V at *
  generalize muE Y j Z l = ve at *
  generalize muOk Y j Z l = vo at *
  generalize muX X e Y j = P at *
  generalize muE X e Y j = pe at *
  generalize muOk X e Y j = po at *
  generalize adX X e Y j = T at *
  generalize adE X e Y j = te at *
  generalize adOk X e Y j = o at *
  clear HD1 HD2
  go_wp2_with fail
  refine ((HA _).out).mono ?_
  rintro e w4 ⟨rfl, hx4⟩
  obtain ⟨hc4, hf4⟩ := hx4.cells
  have hz4 := hx4.size
  try simp at hz4
  have hs4_0 := sz2 (a := w2.heap.size) (b := w4.heap.size) (by omega)
  have hs4_1 := sz1 (a := w3.heap.size) (b := w4.heap.size) (by omega)
  go_wp2_with fail
  refine ((HA' _).out).mono ?_
  rintro e w5 ⟨rfl, hx5⟩
  obtain ⟨hc5, hf5⟩ := hx5.cells
  have hz5 := hx5.size
  try simp at hz5
  have hs5_0 := sz2 (a := w2.heap.size) (b := w5.heap.size) (by omega)
  have hs5_1 := sz1 (a := w3.heap.size) (b := w5.heap.size) (by omega)
  have hs5_2 := sz1 (a := w4.heap.size) (b := w5.heap.size) (by omega)
  go_wp2_with fail
  refine ((HS _).out).mono ?_
  rintro e w6 ⟨rfl, hx6⟩
  obtain ⟨hc6, hf6⟩ := hx6.cells
  have hz6 := hx6.size
  try simp at hz6
  have hs6_0 := sz2 (a := w2.heap.size) (b := w6.heap.size) (by omega)
  have hs6_1 := sz1 (a := w3.heap.size) (b := w6.heap.size) (by omega)
  have hs6_2 := sz1 (a := w4.heap.size) (b := w6.heap.size) (by omega)
  have hs6_3 := sz1 (a := w5.heap.size) (b := w6.heap.size) (by omega)
  go_wp2_with fail
  refine ((HB _).out).mono ?_
  rintro e w7 ⟨rfl, hx7⟩
  obtain ⟨hc7, hf7⟩ := hx7.cells
  have hz7 := hx7.size
  try simp at hz7
  have hs7_0 := sz2 (a := w2.heap.size) (b := w7.heap.size) (by omega)
  have hs7_1 := sz1 (a := w3.heap.size) (b := w7.heap.size) (by omega)
  have hs7_2 := sz1 (a := w4.heap.size) (b := w7.heap.size) (by omega)
  have hcase : (o = true ∧ ko = true ∧ K = X ∧ ke = e) ∨ o = false ∨ (o = true ∧ ko = false) := by
    cases o
    · exact .inr (.inl rfl)
    · cases ko
      · exact .inr (.inr ⟨rfl, rfl⟩)
      · exact .inl ⟨rfl, rfl, hback.out rfl rfl⟩
  clear hback
  rcases hcase with ⟨rfl, rfl, rfl, rfl⟩ | rfl | ⟨rfl, rfl⟩
  · clear HA HA' HS HB
    go_wp2_with fail
    refine ((HM _).out).mono ?_
    rintro e w8 ⟨rfl, hx8⟩
    obtain ⟨hc8, hf8⟩ := hx8.cells
    have hz8 := hx8.size
    try simp at hz8
    have hs8_0 := sz2 (a := w2.heap.size) (b := w8.heap.size) (by omega)
    have hs8_1 := sz1 (a := w3.heap.size) (b := w8.heap.size) (by omega)
    have hs8_2 := sz1 (a := w4.heap.size) (b := w8.heap.size) (by omega)
    go_wp2_with fail
    refine ((HM' _).out).mono ?_
    rintro e w9 ⟨rfl, hx9⟩
    obtain ⟨hc9, hf9⟩ := hx9.cells
    have hz9 := hx9.size
    try simp at hz9
    have hs9_0 := sz2 (a := w2.heap.size) (b := w9.heap.size) (by omega)
    have hs9_1 := sz1 (a := w3.heap.size) (b := w9.heap.size) (by omega)
    have hs9_2 := sz1 (a := w4.heap.size) (b := w9.heap.size) (by omega)
    have hs9_3 := sz1 (a := w8.heap.size) (b := w9.heap.size) (by omega)
    go_wp2_with fail
    refine ((HXZ _).out).mono ?_
    rintro e w10 ⟨rfl, hx10⟩
    obtain ⟨hc10, hf10⟩ := hx10.cells
    have hz10 := hx10.size
    try simp at hz10
    have hs10_0 := sz2 (a := w2.heap.size) (b := w10.heap.size) (by omega)
    have hs10_1 := sz1 (a := w3.heap.size) (b := w10.heap.size) (by omega)
    have hs10_2 := sz1 (a := w4.heap.size) (b := w10.heap.size) (by omega)
    go_wp2_with fail
    refine ((HYZ _).out).mono ?_
    rintro e w11 ⟨rfl, hx11⟩
    obtain ⟨hc11, hf11⟩ := hx11.cells
    have hz11 := hx11.size
    try simp at hz11
    have hs11_0 := sz2 (a := w2.heap.size) (b := w11.heap.size) (by omega)
    have hs11_1 := sz1 (a := w3.heap.size) (b := w11.heap.size) (by omega)
    have hs11_2 := sz1 (a := w4.heap.size) (b := w11.heap.size) (by omega)
    have hs11_3 := sz1 (a := w10.heap.size) (b := w11.heap.size) (by omega)
    go_wp2_with fail
    refine ((HL _).out).mono ?_
    rintro e w12 ⟨rfl, hx12⟩
    obtain ⟨hc12, hf12⟩ := hx12.cells
    have hz12 := hx12.size
    try simp at hz12
    have hs12_0 := sz1 (a := w10.heap.size) (b := w12.heap.size) (by omega)
    have hs12_1 := sz1 (a := w11.heap.size) (b := w12.heap.size) (by omega)
    go_wp2_with fail
    refine ((HR _).out).mono ?_
    rintro e w13 ⟨rfl, hx13⟩
    obtain ⟨hc13, hf13⟩ := hx13.cells
    have hz13 := hx13.size
    try simp at hz13
    have hs13_0 := sz1 (a := w12.heap.size) (b := w13.heap.size) (by omega)
    cases uo
    · go_wp2
      go_ret
      exact ⟨rfl, (by repeat (first | (with_reducible refine Ext.setCell ?_ (by first | (simp; done) | (simp; omega)) _) | with_reducible refine Ext.alloc ?_ _ | with_reducible refine Ext.drew ?_ | with_reducible refine Ext.drewN ?_ _ | with_reducible assumption | with_reducible exact Ext.refl _ | with_reducible refine Ext.trans ?_ (by with_reducible assumption)))⟩
    cases vo
    · go_wp2
      go_ret
      exact ⟨rfl, (by repeat (first | (with_reducible refine Ext.setCell ?_ (by first | (simp; done) | (simp; omega)) _) | with_reducible refine Ext.alloc ?_ _ | with_reducible refine Ext.drew ?_ | with_reducible refine Ext.drewN ?_ _ | with_reducible assumption | with_reducible exact Ext.refl _ | with_reducible refine Ext.trans ?_ (by with_reducible assumption)))⟩
    cases lo
    · go_wp2
      go_ret
      exact ⟨rfl, (by repeat (first | (with_reducible refine Ext.setCell ?_ (by first | (simp; done) | (simp; omega)) _) | with_reducible refine Ext.alloc ?_ _ | with_reducible refine Ext.drew ?_ | with_reducible refine Ext.drewN ?_ _ | with_reducible assumption | with_reducible exact Ext.refl _ | with_reducible refine Ext.trans ?_ (by with_reducible assumption)))⟩
    cases ro
    · go_wp2
      go_ret
      exact ⟨rfl, (by repeat (first | (with_reducible refine Ext.setCell ?_ (by first | (simp; done) | (simp; omega)) _) | with_reducible refine Ext.alloc ?_ _ | with_reducible refine Ext.drew ?_ | with_reducible refine Ext.drewN ?_ _ | with_reducible assumption | with_reducible exact Ext.refl _ | with_reducible refine Ext.trans ?_ (by with_reducible assumption)))⟩
    obtain ⟨rfl, rfl⟩ := hmul.out (by first | rfl | trivial) (by first | rfl | trivial) (by first | rfl | trivial) (by first | rfl | trivial) (by first | rfl | trivial)
    go_wp2
    go_ret
    exact ⟨rfl, (by repeat (first | (with_reducible refine Ext.setCell ?_ (by first | (simp; done) | (simp; omega)) _) | with_reducible refine Ext.alloc ?_ _ | with_reducible refine Ext.drew ?_ | with_reducible refine Ext.drewN ?_ _ | with_reducible assumption | with_reducible exact Ext.refl _ | with_reducible refine Ext.trans ?_ (by with_reducible assumption)))⟩
  · clear HA HA' HS HB
    go_wp2_with fail
    refine ((HM _).out).mono ?_
    rintro e w8 ⟨rfl, hx8⟩
    obtain ⟨hc8, hf8⟩ := hx8.cells
    have hz8 := hx8.size
    try simp at hz8
    have hs8_0 := sz2 (a := w2.heap.size) (b := w8.heap.size) (by omega)
    have hs8_1 := sz1 (a := w3.heap.size) (b := w8.heap.size) (by omega)
    have hs8_2 := sz1 (a := w4.heap.size) (b := w8.heap.size) (by omega)
    go_wp2_with fail
    refine ((HM' _).out).mono ?_
    rintro e w9 ⟨rfl, hx9⟩
    obtain ⟨hc9, hf9⟩ := hx9.cells
    have hz9 := hx9.size
    try simp at hz9
    have hs9_0 := sz2 (a := w2.heap.size) (b := w9.heap.size) (by omega)
    have hs9_1 := sz1 (a := w3.heap.size) (b := w9.heap.size) (by omega)
    have hs9_2 := sz1 (a := w4.heap.size) (b := w9.heap.size) (by omega)
    have hs9_3 := sz1 (a := w8.heap.size) (b := w9.heap.size) (by omega)
    go_wp2_with fail
    refine ((HXZ _).out).mono ?_
    rintro e w10 ⟨rfl, hx10⟩
    obtain ⟨hc10, hf10⟩ := hx10.cells
    have hz10 := hx10.size
    try simp at hz10
    have hs10_0 := sz2 (a := w2.heap.size) (b := w10.heap.size) (by omega)
    have hs10_1 := sz1 (a := w3.heap.size) (b := w10.heap.size) (by omega)
    have hs10_2 := sz1 (a := w4.heap.size) (b := w10.heap.size) (by omega)
    go_wp2_with fail
    refine ((HYZ _).out).mono ?_
    rintro e w11 ⟨rfl, hx11⟩
    obtain ⟨hc11, hf11⟩ := hx11.cells
    have hz11 := hx11.size
    try simp at hz11
    have hs11_0 := sz2 (a := w2.heap.size) (b := w11.heap.size) (by omega)
    have hs11_1 := sz1 (a := w3.heap.size) (b := w11.heap.size) (by omega)
    have hs11_2 := sz1 (a := w4.heap.size) (b := w11.heap.size) (by omega)
    have hs11_3 := sz1 (a := w10.heap.size) (b := w11.heap.size) (by omega)
    go_wp2_with fail
    refine ((HL _).out).mono ?_
    rintro e w12 ⟨rfl, hx12⟩
    obtain ⟨hc12, hf12⟩ := hx12.cells
    have hz12 := hx12.size
    try simp at hz12
    have hs12_0 := sz1 (a := w10.heap.size) (b := w12.heap.size) (by omega)
    have hs12_1 := sz1 (a := w11.heap.size) (b := w12.heap.size) (by omega)
    go_wp2_with fail
    refine ((HR _).out).mono ?_
    rintro e w13 ⟨rfl, hx13⟩
    obtain ⟨hc13, hf13⟩ := hx13.cells
    have hz13 := hx13.size
    try simp at hz13
    have hs13_0 := sz1 (a := w12.heap.size) (b := w13.heap.size) (by omega)
    go_wp2
    go_ret
    exact ⟨rfl, (by repeat (first | (with_reducible refine Ext.setCell ?_ (by first | (simp; done) | (simp; omega)) _) | with_reducible refine Ext.alloc ?_ _ | with_reducible refine Ext.drew ?_ | with_reducible refine Ext.drewN ?_ _ | with_reducible assumption | with_reducible exact Ext.refl _ | with_reducible refine Ext.trans ?_ (by with_reducible assumption)))⟩
  · clear HA HA' HS HB
    go_wp2_with fail
    refine ((HM _).out).mono ?_
    rintro e w8 ⟨rfl, hx8⟩
    obtain ⟨hc8, hf8⟩ := hx8.cells
    have hz8 := hx8.size
    try simp at hz8
    have hs8_0 := sz2 (a := w2.heap.size) (b := w8.heap.size) (by omega)
    have hs8_1 := sz1 (a := w3.heap.size) (b := w8.heap.size) (by omega)
    have hs8_2 := sz1 (a := w4.heap.size) (b := w8.heap.size) (by omega)
    go_wp2_with fail
    refine ((HM' _).out).mono ?_
    rintro e w9 ⟨rfl, hx9⟩
    obtain ⟨hc9, hf9⟩ := hx9.cells
    have hz9 := hx9.size
    try simp at hz9
    have hs9_0 := sz2 (a := w2.heap.size) (b := w9.heap.size) (by omega)
    have hs9_1 := sz1 (a := w3.heap.size) (b := w9.heap.size) (by omega)
    have hs9_2 := sz1 (a := w4.heap.size) (b := w9.heap.size) (by omega)
    have hs9_3 := sz1 (a := w8.heap.size) (b := w9.heap.size) (by omega)
    go_wp2_with fail
    refine ((HXZ _).out).mono ?_
    rintro e w10 ⟨rfl, hx10⟩
    obtain ⟨hc10, hf10⟩ := hx10.cells
    have hz10 := hx10.size
    try simp at hz10
    have hs10_0 := sz2 (a := w2.heap.size) (b := w10.heap.size) (by omega)
    have hs10_1 := sz1 (a := w3.heap.size) (b := w10.heap.size) (by omega)
    have hs10_2 := sz1 (a := w4.heap.size) (b := w10.heap.size) (by omega)
    go_wp2_with fail
    refine ((HYZ _).out).mono ?_
    rintro e w11 ⟨rfl, hx11⟩
    obtain ⟨hc11, hf11⟩ := hx11.cells
    have hz11 := hx11.size
    try simp at hz11
    have hs11_0 := sz2 (a := w2.heap.size) (b := w11.heap.size) (by omega)
    have hs11_1 := sz1 (a := w3.heap.size) (b := w11.heap.size) (by omega)
    have hs11_2 := sz1 (a := w4.heap.size) (b := w11.heap.size) (by omega)
    have hs11_3 := sz1 (a := w10.heap.size) (b := w11.heap.size) (by omega)
    go_wp2_with fail
    refine ((HL _).out).mono ?_
    rintro e w12 ⟨rfl, hx12⟩
    obtain ⟨hc12, hf12⟩ := hx12.cells
    have hz12 := hx12.size
    try simp at hz12
    have hs12_0 := sz1 (a := w10.heap.size) (b := w12.heap.size) (by omega)
    have hs12_1 := sz1 (a := w11.heap.size) (b := w12.heap.size) (by omega)
    go_wp2_with fail
    refine ((HR _).out).mono ?_
    rintro e w13 ⟨rfl, hx13⟩
    obtain ⟨hc13, hf13⟩ := hx13.cells
    have hz13 := hx13.size
    try simp at hz13
    have hs13_0 := sz1 (a := w12.heap.size) (b := w13.heap.size) (by omega)
    cases uo
    · go_wp2
      go_ret
      exact ⟨rfl, (by repeat (first | (with_reducible refine Ext.setCell ?_ (by first | (simp; done) | (simp; omega)) _) | with_reducible refine Ext.alloc ?_ _ | with_reducible refine Ext.drew ?_ | with_reducible refine Ext.drewN ?_ _ | with_reducible assumption | with_reducible exact Ext.refl _ | with_reducible refine Ext.trans ?_ (by with_reducible assumption)))⟩
    cases vo
    · go_wp2
      go_ret
      exact ⟨rfl, (by repeat (first | (with_reducible refine Ext.setCell ?_ (by first | (simp; done) | (simp; omega)) _) | with_reducible refine Ext.alloc ?_ _ | with_reducible refine Ext.drew ?_ | with_reducible refine Ext.drewN ?_ _ | with_reducible assumption | with_reducible exact Ext.refl _ | with_reducible refine Ext.trans ?_ (by with_reducible assumption)))⟩
    cases lo
    · go_wp2
      go_ret
      exact ⟨rfl, (by repeat (first | (with_reducible refine Ext.setCell ?_ (by first | (simp; done) | (simp; omega)) _) | with_reducible refine Ext.alloc ?_ _ | with_reducible refine Ext.drew ?_ | with_reducible refine Ext.drewN ?_ _ | with_reducible assumption | with_reducible exact Ext.refl _ | with_reducible refine Ext.trans ?_ (by with_reducible assumption)))⟩
    cases ro
    · go_wp2
      go_ret
      exact ⟨rfl, (by repeat (first | (with_reducible refine Ext.setCell ?_ (by first | (simp; done) | (simp; omega)) _) | with_reducible refine Ext.alloc ?_ _ | with_reducible refine Ext.drew ?_ | with_reducible refine Ext.drewN ?_ _ | with_reducible assumption | with_reducible exact Ext.refl _ | with_reducible refine Ext.trans ?_ (by with_reducible assumption)))⟩
    obtain ⟨rfl, rfl⟩ := hmul.out (by first | rfl | trivial) (by first | rfl | trivial) (by first | rfl | trivial) (by first | rfl | trivial) (by first | rfl | trivial)
    go_wp2
    go_ret
    exact ⟨rfl, (by repeat (first | (with_reducible refine Ext.setCell ?_ (by first | (simp; done) | (simp; omega)) _) | with_reducible refine Ext.alloc ?_ _ | with_reducible refine Ext.drew ?_ | with_reducible refine Ext.drewN ?_ _ | with_reducible assumption | with_reducible exact Ext.refl _ | with_reducible refine Ext.trans ?_ (by with_reducible assumption)))⟩

theorem law_FnDyadic_c (v1 v2 : Value) {k1 k2 : Nat} {w0 : World} (s1 : Shape Try.prog w0 k1 40 v1.cells.toList) (s2 : Shape Try.prog w0 k2 40 v2.cells.toList) (w : World) (hw : w0 = w := by rfl) (c1 : v1.cells = #[v1] := by rfl) (c2 : v2.cells = #[v2] := by rfl) :
    Calls Try.prog 6 #[v1, v2] w fun e w' => e = .returned (.bool true) ∧ Ext w w' := by
  subst hw
  rw [c1] at s1
  rw [c2] at s2
  obtain ⟨n1, h1⟩ := by_of_shape Try.underlying40 Try.underlying5 (by kernel_rfl) s1
  obtain ⟨n2, h2⟩ := by_of_shape Try.underlying40 Try.underlying5 (by kernel_rfl) s2
  exact law_FnDyadic v1 v2 n1 n2 w0 h1 h2

end Go.Proofs.Ytnlhonlfkmpleaa
