/- The law FnFactors. -/
import Derived.Test.YtkjamaacapaokaaDrw
import Derived.Test.YtkjamaacapaokaaByt
import Derived.Test.YtkjamaacapaokaaFcs
import Derived.Test.YtkjamaacapaokaaSplW
namespace Go.Proofs.Ytkjamaacapaokaa
open Go.RowKit Go.Lib
set_option linter.unusedVariables false
set_option linter.unusedSimpArgs false

theorem big_any (v1 v2 : Value) (n1 n2 : Nat) (w : World) (h1 : ∃ a c, v1 = .slice a n1 c ∧ n1 ≤ maxLen) (h2 : ∃ a c, v2 = .slice a n2 c ∧ n2 ≤ maxLen) :
    Calls Try.prog 40 #[v1, v2] w fun e w' => e = .returned (.bool (decide (1048576 < (n1 : Int)) || decide (1048576 - (n1 : Int) < n2))) ∧ Ext w w' := by
  obtain ⟨a1, c1, rfl, k1⟩ := h1
  obtain ⟨a2, c2, rfl, k2⟩ := h2
  have m1 : n1 ≤ 9223372036854775807 := k1
  have m2 : n2 ≤ 9223372036854775807 := k2
  go_enter Try.func40, Try.ntmps40
  by_cases h : (1048576 : Int) < n1
  · go_wp2
    go_ret
    exact ⟨ret_bool (by simp [h]), (by repeat (first | exact Ext.refl _ | assumption | refine Ext.alloc ?_ _ | refine Ext.drew ?_ | refine Ext.drewN ?_ _ | refine Ext.setCell ?_ (by first | omega | (dsimp only; omega) | (simp; done) | (simp; omega)) _ | refine Ext.trans ?_ (by assumption)))⟩
  · go_wp2
    go_ret
    exact ⟨ret_bool (by simp [h]; omega), (by repeat (first | exact Ext.refl _ | assumption | refine Ext.alloc ?_ _ | refine Ext.drew ?_ | refine Ext.drewN ?_ _ | refine Ext.setCell ?_ (by first | omega | (dsimp only; omega) | (simp; done) | (simp; omega)) _ | refine Ext.trans ?_ (by assumption)))⟩

set_option maxRecDepth 20000 in
set_option maxHeartbeats 2000000 in
theorem law_FnFactors (v1 v2 : Value) (n1 n2 : Nat) (w : World) (h1 : BY w.heap.size w v1 n1) (h2 : BY w.heap.size w v2 n2) :
    Calls Try.prog 11 #[v1, v2] w fun e w' => e = .returned (.bool true) ∧ Ext w w' := by
  have hb := big_any v1 v2 n1 n2 w (by obtain ⟨a, c, h, h3, h4, _⟩ := h1; exact ⟨a, c, h, Nat.le_trans h3 h4⟩) (by obtain ⟨a, c, h, h3, h4, _⟩ := h2; exact ⟨a, c, h, Nat.le_trans h3 h4⟩)
  generalize (decide (1048576 < (n1 : Int)) || decide (1048576 - (n1 : Int) < n2)) = big at hb
  have HB := Lib.hid hb
  have HD1 := fun w' (hx : Ext w w') => Lib.hid (drawFactorInt_any v1 n1 w' (h1.later hx))
  have HD2 := fun w' (hx : Ext w w') => Lib.hid (drawSplitPrime_any v2 n2 w' (h2.later hx))
  have HI := fun n w' => Lib.hid (factorInt_any n w')
  have HS := fun n w' => Lib.hid (s_factorInt_any n w')
  have HP := fun p w' => Lib.hid (s_isPrimeInt_any p w')
  have HQ := fun p w' => Lib.hid (splitPrime_any p w')
  have HR := fun p w' => Lib.hid (s_splitPrime_any p w')
  have HN := fun p q w' => Lib.hid (normRoot2_any p q w')
  obtain ⟨a1, c1, rfl⟩ := h1.noarg
  obtain ⟨a2, c2, rfl⟩ := h2.noarg
  clear h1 h2 hb
  go_enter Try.func11, Try.ntmps11
  go_wp2_with fail
  refine HB.out.mono ?_
  rintro e w1 ⟨rfl, hx1⟩
  cases big
  case true =>
    go_wp2
    go_ret
    exact ⟨rfl, hx1⟩
  go_wp2_with fail
  refine (HD1 w1 hx1).out.mono ?_
  rintro e w2 ⟨n, rfl, hx2⟩
  have X2 : Hid (Ext w w2) := hx1.trans hx2
  clear hx1 hx2
  go_wp2_with fail
  refine (HI n w2).out.mono ?_
  rintro e w3 ⟨v, rfl, o3, hx3⟩
  have X3 : Hid (Ext w w3) := X2.out.trans hx3
  obtain ⟨a, cap, rfl, q1, q2, q3⟩ := own_shape o3
  have Q3 := Lib.hid q3
  clear q3 o3 hx3
  go_wp2_with fail
  refine (HS n w3).out.mono ?_
  rintro e w4 ⟨v', rfl, -, hx4⟩
  have X4 : Hid (Ext w w4) := X3.out.trans hx4
  cases hok : okF n
  · go_wp2_with fail
    refine (HD2 w4 X4.out).out.mono ?_
    rintro e w5 ⟨p, rfl, hx5⟩
    have X5 : Hid (Ext w w5) := X4.out.trans hx5
    clear hx5
    have HNN : Hid (okSP p = true → ∀ w', Calls Try.prog 44 #[.agg #[.int .i64 (spR p), .int .i64 (spK p)]] w' fun e w'' => e = .returned (.tuple #[.int .i64 p, .bool true]) ∧ Ext w' w'') := fun h w' => by
      have := (HN (spR p) (spK p) w').out
      rw [(sp_norm h).1, (sp_norm h).2] at this
      exact this
    have HQp := HQ p
    have HRp := HR p
    clear HQ HR HN
    generalize spR p = r at *
    generalize spK p = s at *
    generalize okSP p = o at *
    go_wp2_with fail
    refine ((HQp _).out).mono ?_
    rintro e w6 ⟨rfl, hx6⟩
    have X6 : Hid (Ext w w6) := X5.out.trans hx6
    clear hx6
    go_wp2_with fail
    refine ((HRp _).out).mono ?_
    rintro e w7 ⟨rfl, hx7⟩
    obtain ⟨hc7, hf7⟩ := hx7.cells
    have hz7 := hx7.size
    try simp at hz7
    have hs7_0 := sz1 (a := w6.heap.size) (b := w7.heap.size) (by omega)
    have X7 : Hid (Ext w w7) := (X6.out.alloc _).trans hx7
    cases o
    · go_wp2
      go_ret
      exact ⟨rfl, X7.out.alloc _⟩
    · go_wp2_with fail
      refine (HNN.out (by first | rfl | trivial) _).mono ?_
      rintro e w8 ⟨rfl, hx8⟩
      have X8 : Hid (Ext w w8) := (X7.out.alloc _).trans hx8
      clear hx8
      go_wp2
      go_ret
      exact ⟨rfl, X8.out⟩
  · have hn := Wn_iff.1 hok
    have HF := Lib.hid (fac_walk hok)
    have hN := facR_len n
    have hE34 := hx4
    clear hx4
    generalize facR n = L at *
    generalize hM : (fun j => prodL (L.take j)) = M at *
    clear hM
    go_wp2
    go_loopw [10, 11, 45] (fun um ul ui wr => ∃ (j : Nat) (l : Int), j ≤ L.length ∧ ui = .int .i64 j ∧ um = .int .i64 (M j) ∧ ul = .int .i64 l ∧ (∀ q, L[j]? = some q → l < q.1) ∧ Ext w4 wr) (fun _ _ ui _ => L.length - (intOf ui).toNat)
    case atStart =>
      refine ⟨0, 1, by omega, rfl, by rw [HF.out.m0], rfl, ?_, Ext.refl _⟩
      rintro ⟨p, e⟩ hq
      have := (HF.out.step 0 p e hq).1
      show 1 < p
      omega
    case round =>
      obtain ⟨j, l, hj, rfl, rfl, rfl, hlast, hE⟩ := hrel
      by_cases hlt : j < L.length
      · have hlt' : (j : Int) < L.length := by omega
        obtain ⟨⟨p, e⟩, hjp⟩ : ∃ x, L[j]? = some x := ⟨L[j], List.getElem?_eq_getElem hlt⟩
        have hl := hlast _ hjp
        simp only at hl
        obtain ⟨b1, b2, b3, b4, hprm, hnext, G, g0, gE, gS⟩ := HF.out.step j p e hjp
        have HX := Lib.hid hnext
        have HG := Lib.hid gS
        have HGE := Lib.hid gE
        have HG0 := Lib.hid g0
        obtain ⟨g, rfl, hgb, hgl, hcell, _⟩ := Q3.out (by omega)
        have hz := fl2_get L j (p, e) hjp
        have hgw : g < wr.heap.size := by have := hE.size; have := hE34.size; omega
        have z0 : wr.cell? ⟨g, j * 2, none⟩ = some (.int .i64 p) := (hE.cells.1 g (j * 2) (by have := hE34.size; omega)).trans ((hE34.cells.1 g (j * 2) hgl).trans (hcell _ _ hz.1))
        have z1 : wr.cell? ⟨g, j * 2 + 1, none⟩ = some (.int .i64 e) := (hE.cells.1 g (j * 2 + 1) (by have := hE34.size; omega)).trans ((hE34.cells.1 g (j * 2 + 1) hgl).trans (hcell _ _ hz.2))
        have i9 : In9 p = true := Wn_iff.2 (by omega)
        have HPp := HP p
        rw [hprm, i9] at HPp
        clear hcell hz hnext gS gE g0 hlast hprm i9
        go_wp2_with fail
        refine ((HPp _).out).mono ?_
        rintro en w5 ⟨rfl, hx5⟩
        obtain ⟨hc5, hf5⟩ := hx5.cells
        have hz5 := hx5.size
        try simp at hz5
        have hs5_0 := sz1 (a := wr.heap.size) (b := w5.heap.size) (by omega)
        have X5 : Ext w4 w5 := (hE.alloc _).trans hx5
        clear z0 z1
        go_wp2
        go_loop [10, 16] (fun um ui => ∃ k : Nat, k ≤ e.toNat ∧ ui = .int .i64 k ∧ um = .int .i64 (G k)) (fun _ ui => (e - intOf ui).toNat)
        case atStart => exact ⟨0, by omega, rfl, by rw [HG0.out]⟩
        case round =>
          obtain ⟨k, hk, rfl, rfl⟩ := hrel
          by_cases hke : (k : Int) < e
          · obtain ⟨m1, m2, m3, m4, m5⟩ := HG.out k (by omega)
            rw [m1] at m4 m5
            go_wp2
            go_round
            case rel => exact ⟨k + 1, by omega, by go_num, by rw [m1]⟩
            case measure => simp [intOf]; omega
          · have hke2 : e.toNat = k := by omega
            have hke3 : e.toNat - 1 + 1 = k := by omega
            have hle : 1 ≤ G k ∧ G k ≤ n := by
              obtain ⟨_, _, _, m4, m5⟩ := HG.out (e.toNat - 1) (by omega)
              rw [hke3] at m4 m5
              exact ⟨m5, m4⟩
            have hGE : Hid (G k = M (j + 1)) := by have := HGE.out; rw [hke2] at this; exact this
            clear hke2 hke3
            go_wp2
            go_roundw
            case rel => exact ⟨j + 1, p, by omega, by go_num, by rw [hGE.out], rfl, HX.out, X5⟩
            case measure => simp [intOf]; omega
      · obtain rfl : j = L.length := by omega
        have hMn := HF.out.mN
        have hMn' : (M L.length == n) = true := by rw [hMn]; simp
        have XR : Hid (Ext w wr) := X4.out.trans hE
        go_wp2_with fail
        refine (HD2 wr XR.out).out.mono ?_
        rintro e w5 ⟨p, rfl, hx5⟩
        have X5 : Hid (Ext w w5) := XR.out.trans hx5
        clear hx5
        have HNN : Hid (okSP p = true → ∀ w', Calls Try.prog 44 #[.agg #[.int .i64 (spR p), .int .i64 (spK p)]] w' fun e w'' => e = .returned (.tuple #[.int .i64 p, .bool true]) ∧ Ext w' w'') := fun h w' => by
          have := (HN (spR p) (spK p) w').out
          rw [(sp_norm h).1, (sp_norm h).2] at this
          exact this
        have HQp := HQ p
        have HRp := HR p
        clear HQ HR HN
        generalize spR p = r at *
        generalize spK p = s at *
        generalize okSP p = o at *
        go_wp2_with fail
        refine ((HQp _).out).mono ?_
        rintro e w6 ⟨rfl, hx6⟩
        have X6 : Hid (Ext w w6) := X5.out.trans hx6
        clear hx6
        go_wp2_with fail
        refine ((HRp _).out).mono ?_
        rintro e w7 ⟨rfl, hx7⟩
        obtain ⟨hc7, hf7⟩ := hx7.cells
        have hz7 := hx7.size
        try simp at hz7
        have hs7_0 := sz1 (a := w6.heap.size) (b := w7.heap.size) (by omega)
        have X7 : Hid (Ext w w7) := (X6.out.alloc _).trans hx7
        cases o
        · go_wp2
          go_ret
          exact ⟨rfl, X7.out.alloc _⟩
        · go_wp2_with fail
          refine (HNN.out (by first | rfl | trivial) _).mono ?_
          rintro e w8 ⟨rfl, hx8⟩
          have X8 : Hid (Ext w w8) := (X7.out.alloc _).trans hx8
          clear hx8
          go_wp2
          go_ret
          exact ⟨rfl, X8.out⟩

theorem law_FnFactors_c (v1 v2 : Value) {k1 k2 : Nat} {w0 : World} (s1 : Shape Try.prog w0 k1 64 v1.cells.toList) (s2 : Shape Try.prog w0 k2 64 v2.cells.toList) (w : World) (hw : w0 = w := by rfl) (c1 : v1.cells = #[v1] := by rfl) (c2 : v2.cells = #[v2] := by rfl) :
    Calls Try.prog 11 #[v1, v2] w fun e w' => e = .returned (.bool true) ∧ Ext w w' := by
  subst hw
  rw [c1] at s1
  rw [c2] at s2
  obtain ⟨n1, h1⟩ := by_of_shape Try.underlying64 Try.underlying5 (by kernel_rfl) s1
  obtain ⟨n2, h2⟩ := by_of_shape Try.underlying64 Try.underlying5 (by kernel_rfl) s2
  exact law_FnFactors v1 v2 n1 n2 w0 h1 h2

end Go.Proofs.Ytkjamaacapaokaa
