/- Draws: some number comes, nothing that was there is changed. -/
import Derived.Test.YtkjamaacapaokaaCur
import Derived.Test.YtkjamaacapaokaaArg
namespace Go.Proofs.Ytkjamaacapaokaa
open Go.RowKit Go.Lib
set_option linter.unusedVariables false
set_option linter.unusedSimpArgs false

theorem lit_cells {w : World} {t : TypeId} (xs : List Int) : ∀ i, i < xs.length → (w.alloc (.cells (xs.map (Value.int .i64)).toArray t)).cell? ⟨w.heap.size, i, none⟩ = some (.int .i64 (xs.getD i 0)) := by
  intro i hi
  rw [World.cell?_alloc_at _ _ _ _ rfl]
  simp [hi]
/-- a cursor that was made -/
theorem cu_new {w : World} {v : Value} {n : Nat} (h : BY w.heap.size w v n) : CU w.heap.size v n 0 (w.alloc (.cells #[v, .int .i64 0, .int .u64 0] 105)) :=
  ⟨h.gx (Nat.le_refl _) (GX.ofExt (S := []) ((Ext.refl w).alloc _)) (by simp), 0, heap_alloc_new _ _⟩
theorem BY.later {w w' : World} {v : Value} {n : Nat} (h : BY w.heap.size w v n) (hx : Ext w w') : BY w'.heap.size w' v n := by
  obtain ⟨a, cap, h1, h2, h3, h4⟩ := h.gx (Nat.le_refl _) (GX.ofExt (S := []) hx) (by simp)
  refine ⟨a, cap, h1, h2, h3, fun h0 => ?_⟩
  obtain ⟨b, off, e, hb, hc⟩ := h4 h0
  exact ⟨b, off, e, by have := hx.size; omega, hc⟩
theorem CU.keep {B : Nat} {v : Value} {n : Nat} {a : Int} {w w' : World} (h : CU B v n a w) (hx : Ext w w') : CU B v n a w' := by
  obtain ⟨h1, s, h2⟩ := h
  have hl := (Array.getElem?_eq_some_iff.1 h2).1
  exact ⟨h1.gx (by omega) (GX.ofExt (S := []) hx) (by simp), s, (hx.heap hl).trans h2⟩
theorem CU.lt {B : Nat} {v : Value} {n : Nat} {a : Int} {w : World} (h : CU B v n a w) : B < w.heap.size := by
  obtain ⟨_, s, h2⟩ := h
  exact (Array.getElem?_eq_some_iff.1 h2).1

set_option maxHeartbeats 1000000 in
theorem drawFactorInt_any (v : Value) (n : Nat) (w : World) (h : BY w.heap.size w v n) :
    Calls Try.prog 41 #[v] w fun e w' => ∃ y : Int, e = .returned (.int .i64 y) ∧ Ext w w' := by
  have HC := Lib.hid (cu_new h)
  have hP := fun a m w' (hc : CU w.heap.size v n a w') (hb : 0 ≤ a ∧ a ≤ 900000000) (hm : m ≤ 65536) => Lib.hid (pick_any w.heap.size v n a m w' hc hb hm)
  obtain ⟨ad, cap, rfl, -, -, -⟩ := h
  go_enter Try.func41, Try.ntmps41
  go_wp2_with fail
  refine ((hP _ _ _ HC.out (by omega) (by omega)).out).mono ?_
  rintro e w1 ⟨y, a1, rfl, hy1, hy2, hb1, hb2, hg1, hc1⟩
  have HC1 := Lib.hid hc1
  have HE1 : Hid (Ext w w1) := (((GX.refl [w.heap.size] w).alloc _).trans (GX.ofGrown hg1)).toExt (by simp)
  have hl1 := hc1.lt
  clear hg1 hc1 HC
  have hy3 : y < 10 := by omega
  clear hy2
  by_cases h0 : y = 0
  · have h0' : (y == 0) = true := by simpa using h0
    clear h0
    go_wp2_with fail
    refine (among_any w.heap.size _ n a1 _ (HC1.out.keep ((Ext.refl _).alloc _)) (by omega) w1.heap.size 7 7 [0, -1, 1, 2, 1000000000, 1000000001, 999999937] (by omega) (by omega) (by omega) (by simp) (fun i hi => lit_cells [0, -1, 1, 2, 1000000000, 1000000001, 999999937] i hi)).mono ?_
    rintro e w2 ⟨i, a2, hi, rfl, hb3, hb4, hg2, hc2⟩
    have HE2 : Hid (Ext w w2) := ((GX.ofExt (S := [w.heap.size]) (HE1.out.alloc _)).trans (GX.ofGrown hg2)).toExt (by simp)
    clear hg2 hc2
    go_wp2
    go_ret
    exact ⟨_, rfl, HE2.out⟩
  have h0' : (y == 0) = false := by simpa using h0
  by_cases h1 : y = 1 ∨ y = 2
  · rcases h1 with h1 | h1
    all_goals
      have h1' : (y == 1) = decide (y = 1) := by rw [Bool.eq_iff_iff]; simp
      have h2' : (y == 2) = decide (y = 2) := by rw [Bool.eq_iff_iff]; simp
      have h3' : decide (y = 1) = (y == 1) := h1'.symm
    · have k1 : (y == 1) = true := by simpa using h1
      clear h0 h1 h1' h2' h3'
      go_wp2_with fail
      refine ((hP _ _ _ HC1.out (by omega) (by omega)).out).mono ?_
      rintro e w2 ⟨z, a2, rfl, hz1, hz2, hb3, hb4, hg2, hc2⟩
      have HE2 : Hid (Ext w w2) := ((GX.ofExt (S := [w.heap.size]) HE1.out).trans (GX.ofGrown hg2)).toExt (by simp)
      have hz3 : z < 60000 := by omega
      clear hg2 hc2 hz2
      go_wp2
      go_ret
      exact ⟨_, rfl, HE2.out⟩
    · have k1 : (y == 1) = false := by rw [beq_eq_false_iff_ne]; omega
      have k2 : (y == 2) = true := by simpa using h1
      clear h0 h1 h1' h2' h3'
      go_wp2_with fail
      refine ((hP _ _ _ HC1.out (by omega) (by omega)).out).mono ?_
      rintro e w2 ⟨z, a2, rfl, hz1, hz2, hb3, hb4, hg2, hc2⟩
      have HE2 : Hid (Ext w w2) := ((GX.ofExt (S := [w.heap.size]) HE1.out).trans (GX.ofGrown hg2)).toExt (by simp)
      have hz3 : z < 60000 := by omega
      clear hg2 hc2 hz2
      go_wp2
      go_ret
      exact ⟨_, rfl, HE2.out⟩
  · have k1 : (y == 1) = false := by rw [beq_eq_false_iff_ne]; omega
    have k2 : (y == 2) = false := by rw [beq_eq_false_iff_ne]; omega
    clear h0 h1
    go_wp2_with fail
    refine ((hP _ _ _ HC1.out (by omega) (by omega)).out).mono ?_
    rintro e w2 ⟨z, a2, rfl, hz1, hz2, hb3, hb4, hg2, hc2⟩
    have HE2 : Hid (Ext w w2) := ((GX.ofExt (S := [w.heap.size]) HE1.out).trans (GX.ofGrown hg2)).toExt (by simp)
    have HC2 := Lib.hid hc2
    have hz3 : z < 5 := by omega
    clear hg2 hc2 hz2
    go_wp2
    go_loopw [4, 5] (fun nv kv wr => ∃ m k a : Int, nv = .int .i64 m ∧ kv = .int .i64 k ∧ 1 ≤ m ∧ m ≤ 30000000 ∧ 0 ≤ k ∧ k < 5 ∧ 0 ≤ a ∧ a + 2 * k ≤ 100 ∧ Ext w wr ∧ CU w.heap.size (.slice ad n cap) n a wr) (fun _ kv _ => (intOf kv).toNat)
    case atStart => exact ⟨1, z, a2, rfl, rfl, by omega, by omega, by omega, by omega, by omega, by omega, HE2.out, HC2.out⟩
    case round =>
      obtain ⟨m, k, a, rfl, rfl, q1, q2, q3, q4, q5, q6, hE, hC⟩ := hrel
      have HE := Lib.hid hE
      have HC := Lib.hid hC
      clear hE hC
      by_cases hk : 0 < k
      · by_cases hm : m < 1000000
        · go_wp2_with fail
          refine ((hP _ _ _ HC.out (by omega) (by omega)).out).mono ?_
          rintro e w3 ⟨x, a3, rfl, hx1, hx2, hb5, hb6, hg3, hc3⟩
          have HE3 : Hid (Ext w w3) := ((GX.ofExt (S := [w.heap.size]) HE.out).trans (GX.ofGrown hg3)).toExt (by simp)
          have HC3 := Lib.hid hc3
          have hx3 : x < 30 := by omega
          have hmul := mul_bd (a := m) (b := 1 + x) (A := 1000000) (B := 30) (by omega) (by omega) (by omega) (by omega)
          have hmp : 1 ≤ m * (1 + x) := by
            have := Int.mul_le_mul (a := 1) (b := 1) (c := m) (d := 1 + x) (by omega) (by omega) (by omega) (by omega)
            omega
          clear hg3 hc3 hx2
          go_wp2
          go_roundw
          case rel => exact ⟨m * (1 + x), k - 1, a3, rfl, rfl, by omega, by omega, by omega, by omega, by omega, by omega, HE3.out, HC3.out⟩
          case measure => simp [intOf]; omega
        · go_wp2
          go_ret
          exact ⟨⟨m, rfl⟩, HE.out⟩
      · go_wp2
        go_ret
        exact ⟨⟨m, rfl⟩, HE.out⟩

set_option maxHeartbeats 1000000 in
theorem drawSplitPrime_any (v : Value) (n : Nat) (w : World) (h : BY w.heap.size w v n) :
    Calls Try.prog 43 #[v] w fun e w' => ∃ y : Int, e = .returned (.int .i64 y) ∧ Ext w w' := by
  have HC := Lib.hid (cu_new h)
  have HB := Lib.hid h
  have hP := fun a m w' (hc : CU w.heap.size v n a w') (hb : 0 ≤ a ∧ a ≤ 900000000) (hm : m ≤ 65536) => Lib.hid (one_any w.heap.size v n a m w' hc hb hm)
  obtain ⟨ad, cap, rfl, -, -, -⟩ := h
  go_enter Try.func43, Try.ntmps43
  go_wp2_with fail
  refine ((hP _ _ _ HC.out (by omega) (by omega)).out).mono ?_
  rintro e w1 ⟨y, a1, rfl, hb1, hb2, hg1, hc1⟩
  have HC1 := Lib.hid hc1
  have HE1 : Hid (Ext w w1) := (((GX.refl [w.heap.size] w).alloc _).trans (GX.ofGrown hg1)).toExt (by simp)
  have hl1 := hc1.lt
  clear hg1 hc1 HC
  cases y
  · go_wp2_with fail
    refine (among_any w.heap.size _ n a1 _ (HC1.out.keep ((Ext.refl _).alloc _)) (by omega) w1.heap.size 24 24 [2, 7, 17, 23, 31, 41, 47, 71, 73, 79, 89, 97, 103, 113, 127, 137, 3, 5, 11, 13, 9967, 9973, 10009, 999983] (by omega) (by omega) (by omega) (by simp) (fun i hi => lit_cells [2, 7, 17, 23, 31, 41, 47, 71, 73, 79, 89, 97, 103, 113, 127, 137, 3, 5, 11, 13, 9967, 9973, 10009, 999983] i hi)).mono ?_
    rintro e w2 ⟨i, a2, hi, rfl, hb3, hb4, hg2, hc2⟩
    have HE2 : Hid (Ext w w2) := ((GX.ofExt (S := [w.heap.size]) (HE1.out.alloc _)).trans (GX.ofGrown hg2)).toExt (by simp)
    clear hg2 hc2
    go_wp2
    go_ret
    exact ⟨_, rfl, HE2.out⟩
  · have HD := Lib.hid (drawFactorInt_any _ n w1 (HB.out.later HE1.out))
    go_wp2_with fail
    refine HD.out.mono ?_
    rintro e w2 ⟨z, rfl, hx2⟩
    have HE2 : Hid (Ext w w2) := HE1.out.trans hx2
    clear hx2
    go_wp2
    go_ret
    exact ⟨_, rfl, HE2.out⟩

end Go.Proofs.Ytkjamaacapaokaa
