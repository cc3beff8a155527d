/- Products of numbers p + q sqrt 2. -/
import Derived.Test.YtojoljffaedpfaaRows
import Derived.Test.YtojoljffaedpfaaRoot2
import Derived.Test.YtojoljffaedpfaaMade
namespace Go.Proofs.Ytojoljffaedpfaa
open Go.RowKit

def okM (p q r s : Int) : Bool := R2 p q && R2 r s && R2 (p * r + 2 * q * s) (p * s + q * r)
def mulP (p q r s : Int) : Int := if okM p q r s then p * r + 2 * q * s else 0
def mulQ (p q r s : Int) : Int := if okM p q r s then p * s + q * r else 0
theorem okM_ways (p q r s : Int) : (R2 p q = false ∧ okM p q r s = false) ∨ (R2 p q = true ∧ R2 r s = false ∧ okM p q r s = false) ∨
    (R2 p q = true ∧ R2 r s = true ∧ okM p q r s = R2 (p * r + 2 * q * s) (p * s + q * r) ∧ (-1000000000000 ≤ p * r ∧ p * r ≤ 1000000000000) ∧ (-2000000000000 ≤ 2 * q * s ∧ 2 * q * s ≤ 2000000000000) ∧
      (-1000000000000 ≤ p * s ∧ p * s ≤ 1000000000000) ∧ (-1000000000000 ≤ q * r ∧ q * r ≤ 1000000000000) ∧ -1000000 ≤ q ∧ q ≤ 1000000) := by
  unfold okM
  cases h1 : R2 p q <;> cases h2 : R2 r s <;> simp
  have b1 := R2_bd h1
  have b2 := R2_bd h2
  refine ⟨mul_bd (A := 1000000) (B := 1000000) b1.1.1 b1.1.2 b2.1.1 b2.1.2, mul_bd (A := 2000000) (B := 1000000) (by omega) (by omega) b2.2.1 b2.2.2, mul_bd (A := 1000000) (B := 1000000) b1.1.1 b1.1.2 b2.2.1 b2.2.2,
    mul_bd (A := 1000000) (B := 1000000) b1.2.1 b1.2.2 b2.1.1 b2.1.2, b1.2⟩

theorem mulRoot2_any (p q r s : Int) (w : World) :
    Calls Try.prog 26 #[.agg #[.int .i64 p, .int .i64 q], .agg #[.int .i64 r, .int .i64 s]] w fun e w' => e = .returned (.tuple #[.agg #[.int .i64 (mulP p q r s), .int .i64 (mulQ p q r s)], .bool (okM p q r s)]) ∧ Ext w w' := by
  have HP : Hid (mulP p q r s = if okM p q r s then p * r + 2 * q * s else 0) := rfl
  have HQ : Hid (mulQ p q r s = if okM p q r s then p * s + q * r else 0) := rfl
  rcases okM_ways p q r s with ⟨h1, hr⟩ | ⟨h1, h2, hr⟩ | ⟨h1, h2, hr, b1, b2, b3, b4, b5, b6⟩
  · rw [HP.out, HQ.out, hr]
    clear hr HP HQ
    go_enter Try.func26, Try.ntmps26
    go_wp2_with fail
    refine (isRoot2_any _ _ _).mono ?_
    rintro e w1 ⟨rfl, hx1⟩
    obtain ⟨hc1, hf1⟩ := hx1.cells
    have hz1 := hx1.size
    try simp at hz1
    have hs1_0 := sz3 (a := w.heap.size) (b := w1.heap.size) (by omega)
    go_wp2
    refine bodyPost_ret (v := .tuple #[.agg #[.int .i64 0, .int .i64 0], .bool false]) (by simp [results, Try.results26, go_sem, *]) rfl ⟨rfl, ?_⟩
    exact (by repeat (first | exact Ext.refl _ | assumption | refine Ext.alloc ?_ _ | refine Ext.drew ?_ | refine Ext.drewN ?_ _ | refine Ext.setCell ?_ (by first | omega | (dsimp only; omega) | (simp; done) | (simp; omega)) _ | refine Ext.trans ?_ (by assumption)))
  · rw [HP.out, HQ.out, hr]
    clear hr HP HQ
    go_enter Try.func26, Try.ntmps26
    go_wp2_with fail
    refine (isRoot2_any _ _ _).mono ?_
    rintro e w1 ⟨rfl, hx1⟩
    obtain ⟨hc1, hf1⟩ := hx1.cells
    have hz1 := hx1.size
    try simp at hz1
    have hs1_0 := sz3 (a := w.heap.size) (b := w1.heap.size) (by omega)
    go_wp2_with fail
    refine (isRoot2_any _ _ _).mono ?_
    rintro e w2 ⟨rfl, hx2⟩
    obtain ⟨hc2, hf2⟩ := hx2.cells
    have hz2 := hx2.size
    try simp at hz2
    have hs2_0 := sz3 (a := w.heap.size) (b := w2.heap.size) (by omega)
    go_wp2
    refine bodyPost_ret (v := .tuple #[.agg #[.int .i64 0, .int .i64 0], .bool false]) (by simp [results, Try.results26, go_sem, *]) rfl ⟨rfl, ?_⟩
    exact (by repeat (first | exact Ext.refl _ | assumption | refine Ext.alloc ?_ _ | refine Ext.drew ?_ | refine Ext.drewN ?_ _ | refine Ext.setCell ?_ (by first | omega | (dsimp only; omega) | (simp; done) | (simp; omega)) _ | refine Ext.trans ?_ (by assumption)))
  · rw [HP.out, HQ.out, hr]
    clear hr HP HQ
    cases h3 : R2 (p * r + 2 * q * s) (p * s + q * r)
    all_goals
      go_enter Try.func26, Try.ntmps26
      go_wp2_with fail
      refine (isRoot2_any _ _ _).mono ?_
      rintro e w1 ⟨rfl, hx1⟩
      obtain ⟨hc1, hf1⟩ := hx1.cells
      have hz1 := hx1.size
      try simp at hz1
      have hs1_0 := sz3 (a := w.heap.size) (b := w1.heap.size) (by omega)
      go_wp2_with fail
      refine (isRoot2_any _ _ _).mono ?_
      rintro e w2 ⟨rfl, hx2⟩
      obtain ⟨hc2, hf2⟩ := hx2.cells
      have hz2 := hx2.size
      try simp at hz2
      have hs2_0 := sz3 (a := w.heap.size) (b := w2.heap.size) (by omega)
      go_wp2_with fail
      refine (isRoot2_any _ _ _).mono ?_
      rintro e w3 ⟨rfl, hx3⟩
      obtain ⟨hc3, hf3⟩ := hx3.cells
      have hz3 := hx3.size
      try simp at hz3
      have hs3_0 := sz3 (a := w.heap.size) (b := w3.heap.size) (by omega)
      have hs3_1 := sz1 (a := w2.heap.size) (b := w3.heap.size) (by omega)
      go_wp2
    · refine bodyPost_ret (v := .tuple #[.agg #[.int .i64 0, .int .i64 0], .bool false]) (by simp [results, Try.results26, go_sem, *]) rfl ⟨rfl, ?_⟩
      exact (by repeat (first | exact Ext.refl _ | assumption | refine Ext.alloc ?_ _ | refine Ext.drew ?_ | refine Ext.drewN ?_ _ | refine Ext.setCell ?_ (by first | omega | (dsimp only; omega) | (simp; done) | (simp; omega)) _ | refine Ext.trans ?_ (by assumption)))
    · refine bodyPost_ret (v := .tuple #[.agg #[.int .i64 (p * r + 2 * q * s), .int .i64 (p * s + q * r)], .bool true]) (by simp [results, Try.results26, go_sem, *]) rfl ⟨rfl, ?_⟩
      exact (by repeat (first | exact Ext.refl _ | assumption | refine Ext.alloc ?_ _ | refine Ext.drew ?_ | refine Ext.drewN ?_ _ | refine Ext.setCell ?_ (by first | omega | (dsimp only; omega) | (simp; done) | (simp; omega)) _ | refine Ext.trans ?_ (by assumption)))

theorem eqRoot2_same (a b : Int) (w : World) :
    Calls Try.prog 17 #[.agg #[.int .i64 a, .int .i64 b], .agg #[.int .i64 a, .int .i64 b]] w fun e w' => e = .returned (.bool true) ∧ Ext w w' := by
  go_enter Try.func17, Try.ntmps17
  go_wp2
  go_ret
  exact ⟨rfl, (by repeat (first | exact Ext.refl _ | assumption | refine Ext.alloc ?_ _ | refine Ext.drew ?_ | refine Ext.drewN ?_ _ | refine Ext.setCell ?_ (by first | omega | (dsimp only; omega) | (simp; done) | (simp; omega)) _ | refine Ext.trans ?_ (by assumption)))⟩

end Go.Proofs.Ytojoljffaedpfaa
