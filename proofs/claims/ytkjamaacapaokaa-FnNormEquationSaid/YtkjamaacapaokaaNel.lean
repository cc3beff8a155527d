/- The law FnNormEquation. -/
import Derived.Test.YtkjamaacapaokaaNed
import Derived.Test.YtkjamaacapaokaaNormS
import Derived.Test.YtkjamaacapaokaaFnF
namespace Go.Proofs.Ytkjamaacapaokaa
open Go.RowKit Go.Lib
set_option linter.unusedVariables false
set_option linter.unusedSimpArgs false

theorem abs_sol {P Q a b c d : Int} (hP : 0 ≤ P ∧ P ≤ 400) (hQ : -1000000 ≤ Q ∧ Q ≤ 1000000) (h : Sol P Q a b c d) : okSq a b c d = true ∧ absU a b c d = P ∧ absV a b c d = Q := by
  have i1 := isq_of hP
  obtain ⟨h1, h2⟩ := h
  have p1 := sq_nn a
  have p2 := sq_nn b
  have p3 := sq_nn c
  have p4 := sq_nn d
  have j1 := in_isq hP (a := a) (by omega)
  have j2 := in_isq hP (a := b) (by omega)
  have j3 := in_isq hP (a := c) (by omega)
  have j4 := in_isq hP (a := d) (by omega)
  have e1 : sqU a b c d = P := h1
  have e2 : sqV a b c d = Q := h2
  have ho : okSq a b c d = true := by
    unfold okSq
    rw [Rg_mk ⟨by omega, by omega, by omega, by omega⟩, e1, e2, Cf_mk (by omega), Cf_mk (by omega)]
    rfl
  refine ⟨ho, ?_, ?_⟩
  · unfold absU; rw [if_pos ho]; exact e1
  · unfold absV; rw [if_pos ho]; exact e2
theorem ne_facts {P Q : Int} (hD : Drn P Q) :
    ((fstN P Q).isSome = true → okSq (solV P Q).1 (solV P Q).2.1 (solV P Q).2.2.1 (solV P Q).2.2.2 = true ∧ absU (solV P Q).1 (solV P Q).2.1 (solV P Q).2.2.1 (solV P Q).2.2.2 = P ∧ absV (solV P Q).1 (solV P Q).2.1 (solV P Q).2.2.1 (solV P Q).2.2.2 = Q) ∧
    (smallN P Q = true → (fstN P Q).isSome = sumV P Q ∧ decide (0 < cntN P Q) = sumV P Q) := by
  refine ⟨fun h => ?_, fun h => ⟨(ne_prog hD h).1, (ne_prog hD h).2.1⟩⟩
  have hs : smallN P Q = true := by
    cases hh : smallN P Q
    · rw [(sol_no hh).2] at h; cases h
    · rfl
  have h2 := hs
  unfold smallN at h2
  rw [Bool.and_eq_true] at h2
  exact abs_sol (Wn_iff.1 h2.2) (R2_bd h2.1).2 ((ne_prog hD hs).2.2 h)

set_option maxRecDepth 20000 in
set_option maxHeartbeats 4000000 in
theorem law_FnNormEquation (v1 v2 : Value) (n1 n2 : Nat) (w : World) (h1 : BY w.heap.size w v1 n1) (h2 : BY w.heap.size w v2 n2) :
    Calls Try.prog 12 #[v1, v2] w fun e w' => e = .returned (.bool true) ∧ Ext w w' := by
  have hb := big_any v1 v2 n1 n2 w (by obtain ⟨a, c, h, h3, h4, _⟩ := h1; exact ⟨a, c, h, Nat.le_trans h3 h4⟩) (by obtain ⟨a, c, h, h3, h4, _⟩ := h2; exact ⟨a, c, h, Nat.le_trans h3 h4⟩)
  generalize (decide (1048576 < (n1 : Int)) || decide (1048576 - (n1 : Int) < n2)) = big at hb
  have HB := Lib.hid hb
  have HD1 := fun w' (hx : Ext w w') => Lib.hid (drawSolveNorm_any v1 n1 w' (h1.later hx))
  have HD2 := fun w' (hx : Ext w w') => Lib.hid (drawIsDoublyPositive_any v2 n2 w' (h2.later hx))
  obtain ⟨a1, c1, rfl⟩ := h1.noarg
  obtain ⟨a2, c2, rfl⟩ := h2.noarg
  clear h1 h2 hb
  go_enter Try.func12, Try.ntmps12
  go_wp2_with fail
  refine HB.out.mono ?_
  rintro e w1 ⟨rfl, hx1⟩
  cases big
  case true =>
    go_wp2
    go_ret
    exact ⟨rfl, hx1⟩
  go_wp2_with fail
  refine (HD1 w1 hx1).out.mono ?_
  rintro e w2 ⟨P, Q, rfl, hd, hx2⟩
  have X2 : Hid (Ext w w2) := hx1.trans hx2
  clear hx1 hx2 HB HD1
  obtain ⟨nf1, nf2⟩ := ne_facts hd
  have NF1 := Lib.hid nf1
  have NF2 := Lib.hid nf2
  have HI := fun w => Lib.hid (solveNorm_any P Q w)
  have HS := fun w => Lib.hid (s_solveNorm_any P Q w)
  have HA := fun w => Lib.hid (s_absSquare_any (solV P Q).1 (solV P Q).2.1 (solV P Q).2.2.1 (solV P Q).2.2.2 w)
  have HM := fun w => Lib.hid (isSumNorm_any P Q w)
  have HC := fun w => Lib.hid (countNorm_any P Q w)
  clear nf1 nf2 hd
  generalize absU (solV P Q).1 (solV P Q).2.1 (solV P Q).2.2.1 (solV P Q).2.2.2 = au at *
  generalize absV (solV P Q).1 (solV P Q).2.1 (solV P Q).2.2.1 (solV P Q).2.2.2 = av at *
  generalize okSq (solV P Q).1 (solV P Q).2.1 (solV P Q).2.2.1 (solV P Q).2.2.2 = ao at *
  generalize (solV P Q).1 = x1 at *
  generalize (solV P Q).2.1 = x2 at *
  generalize (solV P Q).2.2.1 = x3 at *
  generalize (solV P Q).2.2.2 = x4 at *
  generalize (fstN P Q).isSome = f at *
  generalize cntN P Q = cn at *
  generalize smallN P Q = o2 at *
  generalize okS P Q = o1 at *
  generalize sumV P Q = sv at *
  go_wp2_with fail
  refine ((HI _).out).mono ?_
  rintro e w3 ⟨rfl, hx3⟩
  obtain ⟨hc3, hf3⟩ := hx3.cells
  have hz3 := hx3.size
  try simp at hz3
  have hs3_0 := sz1 (a := w2.heap.size) (b := w3.heap.size) (by omega)
  go_wp2_with fail
  refine ((HS _).out).mono ?_
  rintro e w4 ⟨rfl, hx4⟩
  obtain ⟨hc4, hf4⟩ := hx4.cells
  have hz4 := hx4.size
  try simp at hz4
  have hs4_0 := sz1 (a := w2.heap.size) (b := w4.heap.size) (by omega)
  have hs4_1 := sz1 (a := w3.heap.size) (b := w4.heap.size) (by omega)
  have X4 : Hid (Ext w w4) := ((X2.out.alloc _).trans hx3 |>.alloc _).trans hx4
  cases f
  case false =>
    go_wp2_with fail
    refine ((HM _).out).mono ?_
    rintro e w5 ⟨rfl, hx5⟩
    obtain ⟨hc5, hf5⟩ := hx5.cells
    have hz5 := hx5.size
    try simp at hz5
    have hs5_0 := sz1 (a := w2.heap.size) (b := w5.heap.size) (by omega)
    have hs5_1 := sz1 (a := w3.heap.size) (b := w5.heap.size) (by omega)
    have hs5_2 := sz1 (a := w4.heap.size) (b := w5.heap.size) (by omega)
    go_wp2_with fail
    refine ((HC _).out).mono ?_
    rintro e w6 ⟨rfl, hx6⟩
    obtain ⟨hc6, hf6⟩ := hx6.cells
    have hz6 := hx6.size
    try simp at hz6
    have hs6_0 := sz1 (a := w2.heap.size) (b := w6.heap.size) (by omega)
    have hs6_1 := sz1 (a := w3.heap.size) (b := w6.heap.size) (by omega)
    have hs6_2 := sz1 (a := w4.heap.size) (b := w6.heap.size) (by omega)
    have X6 : Ext w w6 := ((X4.out.alloc _).trans hx5).trans hx6
    cases o2
    case false =>
      cases o1
      all_goals
        go_wp2_with fail
        refine (HD2 w6 X6).out.mono ?_
        rintro e w7 ⟨p, q, rfl, hx7⟩
        have HP := fun w => Lib.hid (isDoublyPositive_pub p q w)
        have HQ := fun w => Lib.hid (s_isDoublyPositive p q w)
        generalize (R2 p q && Dp p q) = g1 at *
        generalize R2 p q = g2 at *
        go_wp2_with fail
        refine ((HP _).out).mono ?_
        rintro e w8 ⟨rfl, hx8⟩
        obtain ⟨hc8, hf8⟩ := hx8.cells
        have hz8 := hx8.size
        try simp at hz8
        have hs8_0 := sz1 (a := w7.heap.size) (b := w8.heap.size) (by omega)
        go_wp2_with fail
        refine ((HQ _).out).mono ?_
        rintro e w9 ⟨rfl, hx9⟩
        obtain ⟨hc9, hf9⟩ := hx9.cells
        have hz9 := hx9.size
        try simp at hz9
        have hs9_0 := sz1 (a := w7.heap.size) (b := w9.heap.size) (by omega)
        have XE : Ext w w9 := (((X6.trans hx7).alloc _).trans hx8).trans hx9
        cases g2
        all_goals
          cases g1
          all_goals
            go_wp2
            go_ret
            exact ⟨rfl, XE⟩
    case true =>
      obtain ⟨sv1, sv2⟩ := NF2.out rfl
      subst sv1
      have hcn : ¬ 0 < cn := by simpa using sv2
      clear sv2
      cases o1
      all_goals
        go_wp2_with fail
        refine (HD2 w6 X6).out.mono ?_
        rintro e w7 ⟨p, q, rfl, hx7⟩
        have HP := fun w => Lib.hid (isDoublyPositive_pub p q w)
        have HQ := fun w => Lib.hid (s_isDoublyPositive p q w)
        generalize (R2 p q && Dp p q) = g1 at *
        generalize R2 p q = g2 at *
        go_wp2_with fail
        refine ((HP _).out).mono ?_
        rintro e w8 ⟨rfl, hx8⟩
        obtain ⟨hc8, hf8⟩ := hx8.cells
        have hz8 := hx8.size
        try simp at hz8
        have hs8_0 := sz1 (a := w7.heap.size) (b := w8.heap.size) (by omega)
        go_wp2_with fail
        refine ((HQ _).out).mono ?_
        rintro e w9 ⟨rfl, hx9⟩
        obtain ⟨hc9, hf9⟩ := hx9.cells
        have hz9 := hx9.size
        try simp at hz9
        have hs9_0 := sz1 (a := w7.heap.size) (b := w9.heap.size) (by omega)
        have XE : Ext w w9 := (((X6.trans hx7).alloc _).trans hx8).trans hx9
        cases g2
        all_goals
          cases g1
          all_goals
            go_wp2
            go_ret
            exact ⟨rfl, XE⟩
  case true =>
    obtain ⟨e1, e2, e3⟩ := NF1.out rfl
    subst e1
    subst e2
    subst e3
    go_wp2_with fail
    refine ((HA _).out).mono ?_
    rintro e w10 ⟨rfl, hx10⟩
    obtain ⟨hc10, hf10⟩ := hx10.cells
    have hz10 := hx10.size
    try simp at hz10
    have hs10_0 := sz1 (a := w2.heap.size) (b := w10.heap.size) (by omega)
    have hs10_1 := sz1 (a := w3.heap.size) (b := w10.heap.size) (by omega)
    have hs10_2 := sz1 (a := w4.heap.size) (b := w10.heap.size) (by omega)
    go_wp2_with fail
    refine ((HM _).out).mono ?_
    rintro e w5 ⟨rfl, hx5⟩
    obtain ⟨hc5, hf5⟩ := hx5.cells
    have hz5 := hx5.size
    try simp at hz5
    have hs5_0 := sz1 (a := w2.heap.size) (b := w5.heap.size) (by omega)
    have hs5_1 := sz1 (a := w3.heap.size) (b := w5.heap.size) (by omega)
    have hs5_2 := sz1 (a := w4.heap.size) (b := w5.heap.size) (by omega)
    go_wp2_with fail
    refine ((HC _).out).mono ?_
    rintro e w6 ⟨rfl, hx6⟩
    obtain ⟨hc6, hf6⟩ := hx6.cells
    have hz6 := hx6.size
    try simp at hz6
    have hs6_0 := sz1 (a := w2.heap.size) (b := w6.heap.size) (by omega)
    have hs6_1 := sz1 (a := w3.heap.size) (b := w6.heap.size) (by omega)
    have hs6_2 := sz1 (a := w4.heap.size) (b := w6.heap.size) (by omega)
    have X6 : Ext w w6 := (((X4.out.alloc _).trans hx10).trans hx5).trans hx6
    cases o2
    case false =>
      cases o1
      all_goals
        go_wp2_with fail
        refine (HD2 w6 X6).out.mono ?_
        rintro e w7 ⟨p, q, rfl, hx7⟩
        have HP := fun w => Lib.hid (isDoublyPositive_pub p q w)
        have HQ := fun w => Lib.hid (s_isDoublyPositive p q w)
        generalize (R2 p q && Dp p q) = g1 at *
        generalize R2 p q = g2 at *
        go_wp2_with fail
        refine ((HP _).out).mono ?_
        rintro e w8 ⟨rfl, hx8⟩
        obtain ⟨hc8, hf8⟩ := hx8.cells
        have hz8 := hx8.size
        try simp at hz8
        have hs8_0 := sz1 (a := w7.heap.size) (b := w8.heap.size) (by omega)
        go_wp2_with fail
        refine ((HQ _).out).mono ?_
        rintro e w9 ⟨rfl, hx9⟩
        obtain ⟨hc9, hf9⟩ := hx9.cells
        have hz9 := hx9.size
        try simp at hz9
        have hs9_0 := sz1 (a := w7.heap.size) (b := w9.heap.size) (by omega)
        have XE : Ext w w9 := (((X6.trans hx7).alloc _).trans hx8).trans hx9
        cases g2
        all_goals
          cases g1
          all_goals
            go_wp2
            go_ret
            exact ⟨rfl, XE⟩
    case true =>
      obtain ⟨sv1, sv2⟩ := NF2.out rfl
      subst sv1
      have hcn : 0 < cn := by simpa using sv2
      clear sv2
      cases o1
      all_goals
        go_wp2_with fail
        refine (HD2 w6 X6).out.mono ?_
        rintro e w7 ⟨p, q, rfl, hx7⟩
        have HP := fun w => Lib.hid (isDoublyPositive_pub p q w)
        have HQ := fun w => Lib.hid (s_isDoublyPositive p q w)
        generalize (R2 p q && Dp p q) = g1 at *
        generalize R2 p q = g2 at *
        go_wp2_with fail
        refine ((HP _).out).mono ?_
        rintro e w8 ⟨rfl, hx8⟩
        obtain ⟨hc8, hf8⟩ := hx8.cells
        have hz8 := hx8.size
        try simp at hz8
        have hs8_0 := sz1 (a := w7.heap.size) (b := w8.heap.size) (by omega)
        go_wp2_with fail
        refine ((HQ _).out).mono ?_
        rintro e w9 ⟨rfl, hx9⟩
        obtain ⟨hc9, hf9⟩ := hx9.cells
        have hz9 := hx9.size
        try simp at hz9
        have hs9_0 := sz1 (a := w7.heap.size) (b := w9.heap.size) (by omega)
        have XE : Ext w w9 := (((X6.trans hx7).alloc _).trans hx8).trans hx9
        cases g2
        all_goals
          cases g1
          all_goals
            go_wp2
            go_ret
            exact ⟨rfl, XE⟩

theorem law_FnNormEquation_c (v1 v2 : Value) {k1 k2 : Nat} {w0 : World} (s1 : Shape Try.prog w0 k1 64 v1.cells.toList) (s2 : Shape Try.prog w0 k2 64 v2.cells.toList) (w : World) (hw : w0 = w := by rfl) (c1 : v1.cells = #[v1] := by rfl) (c2 : v2.cells = #[v2] := by rfl) :
    Calls Try.prog 12 #[v1, v2] w fun e w' => e = .returned (.bool true) ∧ Ext w w' := by
  subst hw
  rw [c1] at s1
  rw [c2] at s2
  obtain ⟨n1, h1⟩ := by_of_shape Try.underlying64 Try.underlying5 (by kernel_rfl) s1
  obtain ⟨n2, h2⟩ := by_of_shape Try.underlying64 Try.underlying5 (by kernel_rfl) s2
  exact law_FnNormEquation v1 v2 n1 n2 w0 h1 h2

end Go.Proofs.Ytkjamaacapaokaa
