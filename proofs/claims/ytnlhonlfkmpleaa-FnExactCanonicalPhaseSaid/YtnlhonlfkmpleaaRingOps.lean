/- The program's ring operations that end in ringIf. -/
import Derived.Test.YtnlhonlfkmpleaaRows
import Derived.Test.YtnlhonlfkmpleaaRingIf
namespace Go.Proofs.Ytnlhonlfkmpleaa
open Go.RowKit

theorem allRgN2 (a b c d e f g h p q r s : Int) : AllRg ([a, b, c, d, e, f, g, h] ++ [p, q, r, s]) (2 + 1) = (Rg a b c d && Rg e f g h && Rg p q r s) := by
  simp [AllRg, RgAt, List.range_succ, Bool.and_assoc]
theorem allRgN1 (a b c d p q r s : Int) : AllRg ([a, b, c, d] ++ [p, q, r, s]) (1 + 1) = (Rg a b c d && Rg p q r s) := by
  simp [AllRg, RgAt, List.range_succ]

def okAddRing (a b c d e f g h : Int) : Bool := Rg a b c d && Rg e f g h && Rg (a + e) (b + f) (c + g) (d + h)
set_option maxHeartbeats 2000000 in
theorem addRing_any (a b c d e f g h : Int) (w : World) :
    Calls Try.prog 57 #[.agg #[.int .i64 a, .int .i64 b, .int .i64 c, .int .i64 d], .agg #[.int .i64 e, .int .i64 f, .int .i64 g, .int .i64 h]] w fun en w' => en = .returned (.tuple #[.agg #[.int .i64 (ifZ (okAddRing a b c d e f g h) (a + e)), .int .i64 (ifZ (okAddRing a b c d e f g h) (b + f)), .int .i64 (ifZ (okAddRing a b c d e f g h) (c + g)), .int .i64 (ifZ (okAddRing a b c d e f g h) (d + h))], .bool (okAddRing a b c d e f g h)]) ∧ Ext w w' := by
  cases h0 : Rg a b c d && Rg e f g h
  · have HO : Hid (okAddRing a b c d e f g h = false) := by unfold Hid okAddRing; rw [h0]; rfl
    have HB : ∀ p q r s : Int, AllRg ([a, b, c, d, e, f, g, h] ++ [p, q, r, s]) (2 + 1) = false := fun p q r s => (allRgN2 a b c d e f g h p q r s).trans (by rw [h0]; rfl)
    rw [HO.out]
    clear HO h0
    go_enter Try.func57, Try.ntmps57
    go_wp2_with fail
    refine (ringIf_any _ _ _ _ 2 (w.heap.size + 1 + 1 + 1) _ [a, b, c, d, e, f, g, h] (by decide) rfl _ (by simp) (own_lit2 (by simp) (by decide) rfl rfl)).mono ?_
    rintro en w1 ⟨rfl, hx1⟩
    obtain ⟨hc1, hf1⟩ := Below.facts hx1
    have hz1 := hx1.size
    try simp at hz1
    have hs1 := sz4 (a := w.heap.size) (b := w1.heap.size) (by omega)
    have hx1' : Ext w w1 := Below.trans (by repeat (first | exact Ext.refl _ | assumption | refine Ext.alloc ?_ _ | refine Ext.drew ?_ | refine Ext.drewN ?_ _ | refine Ext.setCell ?_ (by first | omega | (dsimp only; omega) | (simp; done) | (simp; omega)) _ | refine Ext.trans ?_ (by assumption))) (Below.mono hx1 (by omega))
    clear hx1
    simp only [HB, ifZ_false]
    go_wp2
    refine bodyPost_ret (v := .tuple #[.agg #[.int .i64 0, .int .i64 0, .int .i64 0, .int .i64 0], .bool false]) (by simp [results, Try.results57, go_sem, *]) rfl ⟨rfl, ?_⟩
    (repeat (refine Ext.setCell ?_ (by first | (simp; done) | (simp; omega)) _)); exact hx1'
  · simp only [Bool.and_eq_true] at h0
    obtain ⟨k1, k2⟩ := h0
    obtain ⟨ba, bb, bc, bd⟩ := Rg_bd k1
    obtain ⟨be, bf, bg, bh⟩ := Rg_bd k2
    have HB : Hid (AllRg ([a, b, c, d, e, f, g, h] ++ [a + e, b + f, c + g, d + h]) (2 + 1) = okAddRing a b c d e f g h) := allRgN2 a b c d e f g h _ _ _ _
    go_enter Try.func57, Try.ntmps57
    go_wp2_with fail
    have HT := Lib.hid (ringIf_any (a + e) (b + f) (c + g) (d + h) 2 (w.heap.size + 1 + 1 + 1) (.slice (some ⟨w.heap.size + 1 + 1 + 1, 0, none⟩) 2 2) [a, b, c, d, e, f, g, h] (by decide) rfl)
    unfold Hid at HT
    rw [HB.out] at HT
    refine (HT _ (by simp) (own_lit2 (by simp) (by decide) rfl rfl)).mono ?_
    rintro en w1 ⟨rfl, hx1⟩
    clear HT
    obtain ⟨hc1, hf1⟩ := Below.facts hx1
    have hz1 := hx1.size
    try simp at hz1
    have hs1 := sz4 (a := w.heap.size) (b := w1.heap.size) (by omega)
    have hx1' : Ext w w1 := Below.trans (by repeat (first | exact Ext.refl _ | assumption | refine Ext.alloc ?_ _ | refine Ext.drew ?_ | refine Ext.drewN ?_ _ | refine Ext.setCell ?_ (by first | omega | (dsimp only; omega) | (simp; done) | (simp; omega)) _ | refine Ext.trans ?_ (by assumption))) (Below.mono hx1 (by omega))
    clear hx1
    go_wp2
    refine bodyPost_ret (v := .tuple #[.agg #[.int .i64 (ifZ (okAddRing a b c d e f g h) (a + e)), .int .i64 (ifZ (okAddRing a b c d e f g h) (b + f)), .int .i64 (ifZ (okAddRing a b c d e f g h) (c + g)), .int .i64 (ifZ (okAddRing a b c d e f g h) (d + h))], .bool (okAddRing a b c d e f g h)]) (by simp [results, Try.results57, go_sem, *]) rfl ⟨rfl, ?_⟩
    (repeat (refine Ext.setCell ?_ (by first | (simp; done) | (simp; omega)) _)); exact hx1'

def okSubRing (a b c d e f g h : Int) : Bool := Rg a b c d && Rg e f g h && Rg (a - e) (b - f) (c - g) (d - h)
set_option maxHeartbeats 2000000 in
theorem subRing_any (a b c d e f g h : Int) (w : World) :
    Calls Try.prog 60 #[.agg #[.int .i64 a, .int .i64 b, .int .i64 c, .int .i64 d], .agg #[.int .i64 e, .int .i64 f, .int .i64 g, .int .i64 h]] w fun en w' => en = .returned (.tuple #[.agg #[.int .i64 (ifZ (okSubRing a b c d e f g h) (a - e)), .int .i64 (ifZ (okSubRing a b c d e f g h) (b - f)), .int .i64 (ifZ (okSubRing a b c d e f g h) (c - g)), .int .i64 (ifZ (okSubRing a b c d e f g h) (d - h))], .bool (okSubRing a b c d e f g h)]) ∧ Ext w w' := by
  cases h0 : Rg a b c d && Rg e f g h
  · have HO : Hid (okSubRing a b c d e f g h = false) := by unfold Hid okSubRing; rw [h0]; rfl
    have HB : ∀ p q r s : Int, AllRg ([a, b, c, d, e, f, g, h] ++ [p, q, r, s]) (2 + 1) = false := fun p q r s => (allRgN2 a b c d e f g h p q r s).trans (by rw [h0]; rfl)
    rw [HO.out]
    clear HO h0
    go_enter Try.func60, Try.ntmps60
    go_wp2_with fail
    refine (ringIf_any _ _ _ _ 2 (w.heap.size + 1 + 1 + 1) _ [a, b, c, d, e, f, g, h] (by decide) rfl _ (by simp) (own_lit2 (by simp) (by decide) rfl rfl)).mono ?_
    rintro en w1 ⟨rfl, hx1⟩
    obtain ⟨hc1, hf1⟩ := Below.facts hx1
    have hz1 := hx1.size
    try simp at hz1
    have hs1 := sz4 (a := w.heap.size) (b := w1.heap.size) (by omega)
    have hx1' : Ext w w1 := Below.trans (by repeat (first | exact Ext.refl _ | assumption | refine Ext.alloc ?_ _ | refine Ext.drew ?_ | refine Ext.drewN ?_ _ | refine Ext.setCell ?_ (by first | omega | (dsimp only; omega) | (simp; done) | (simp; omega)) _ | refine Ext.trans ?_ (by assumption))) (Below.mono hx1 (by omega))
    clear hx1
    simp only [HB, ifZ_false]
    go_wp2
    refine bodyPost_ret (v := .tuple #[.agg #[.int .i64 0, .int .i64 0, .int .i64 0, .int .i64 0], .bool false]) (by simp [results, Try.results60, go_sem, *]) rfl ⟨rfl, ?_⟩
    (repeat (refine Ext.setCell ?_ (by first | (simp; done) | (simp; omega)) _)); exact hx1'
  · simp only [Bool.and_eq_true] at h0
    obtain ⟨k1, k2⟩ := h0
    obtain ⟨ba, bb, bc, bd⟩ := Rg_bd k1
    obtain ⟨be, bf, bg, bh⟩ := Rg_bd k2
    have HB : Hid (AllRg ([a, b, c, d, e, f, g, h] ++ [a - e, b - f, c - g, d - h]) (2 + 1) = okSubRing a b c d e f g h) := allRgN2 a b c d e f g h _ _ _ _
    go_enter Try.func60, Try.ntmps60
    go_wp2_with fail
    have HT := Lib.hid (ringIf_any (a - e) (b - f) (c - g) (d - h) 2 (w.heap.size + 1 + 1 + 1) (.slice (some ⟨w.heap.size + 1 + 1 + 1, 0, none⟩) 2 2) [a, b, c, d, e, f, g, h] (by decide) rfl)
    unfold Hid at HT
    rw [HB.out] at HT
    refine (HT _ (by simp) (own_lit2 (by simp) (by decide) rfl rfl)).mono ?_
    rintro en w1 ⟨rfl, hx1⟩
    clear HT
    obtain ⟨hc1, hf1⟩ := Below.facts hx1
    have hz1 := hx1.size
    try simp at hz1
    have hs1 := sz4 (a := w.heap.size) (b := w1.heap.size) (by omega)
    have hx1' : Ext w w1 := Below.trans (by repeat (first | exact Ext.refl _ | assumption | refine Ext.alloc ?_ _ | refine Ext.drew ?_ | refine Ext.drewN ?_ _ | refine Ext.setCell ?_ (by first | omega | (dsimp only; omega) | (simp; done) | (simp; omega)) _ | refine Ext.trans ?_ (by assumption))) (Below.mono hx1 (by omega))
    clear hx1
    go_wp2
    refine bodyPost_ret (v := .tuple #[.agg #[.int .i64 (ifZ (okSubRing a b c d e f g h) (a - e)), .int .i64 (ifZ (okSubRing a b c d e f g h) (b - f)), .int .i64 (ifZ (okSubRing a b c d e f g h) (c - g)), .int .i64 (ifZ (okSubRing a b c d e f g h) (d - h))], .bool (okSubRing a b c d e f g h)]) (by simp [results, Try.results60, go_sem, *]) rfl ⟨rfl, ?_⟩
    (repeat (refine Ext.setCell ?_ (by first | (simp; done) | (simp; omega)) _)); exact hx1'

def okMulRootTwo (a b c d : Int) : Bool := Rg a b c d && Rg (b - d) (a + c) (b + d) (c - a)
set_option maxHeartbeats 2000000 in
theorem mulRootTwo_any (a b c d : Int) (w : World) :
    Calls Try.prog 139 #[.agg #[.int .i64 a, .int .i64 b, .int .i64 c, .int .i64 d]] w fun en w' => en = .returned (.tuple #[.agg #[.int .i64 (ifZ (okMulRootTwo a b c d) (b - d)), .int .i64 (ifZ (okMulRootTwo a b c d) (a + c)), .int .i64 (ifZ (okMulRootTwo a b c d) (b + d)), .int .i64 (ifZ (okMulRootTwo a b c d) (c - a))], .bool (okMulRootTwo a b c d)]) ∧ Ext w w' := by
  cases h0 : Rg a b c d
  · have HO : Hid (okMulRootTwo a b c d = false) := by unfold Hid okMulRootTwo; rw [h0]; rfl
    have HB : ∀ p q r s : Int, AllRg ([a, b, c, d] ++ [p, q, r, s]) (1 + 1) = false := fun p q r s => (allRgN1 a b c d p q r s).trans (by rw [h0]; rfl)
    rw [HO.out]
    clear HO h0
    go_enter Try.func139, Try.ntmps139
    go_wp2_with fail
    refine (ringIf_any _ _ _ _ 1 (w.heap.size + 1 + 1) _ [a, b, c, d] (by decide) rfl _ (by simp) (own_lit2 (by simp) (by decide) rfl rfl)).mono ?_
    rintro en w1 ⟨rfl, hx1⟩
    obtain ⟨hc1, hf1⟩ := Below.facts hx1
    have hz1 := hx1.size
    try simp at hz1
    have hs1 := sz3 (a := w.heap.size) (b := w1.heap.size) (by omega)
    have hx1' : Ext w w1 := Below.trans (by repeat (first | exact Ext.refl _ | assumption | refine Ext.alloc ?_ _ | refine Ext.drew ?_ | refine Ext.drewN ?_ _ | refine Ext.setCell ?_ (by first | omega | (dsimp only; omega) | (simp; done) | (simp; omega)) _ | refine Ext.trans ?_ (by assumption))) (Below.mono hx1 (by omega))
    clear hx1
    simp only [HB, ifZ_false]
    go_wp2
    refine bodyPost_ret (v := .tuple #[.agg #[.int .i64 0, .int .i64 0, .int .i64 0, .int .i64 0], .bool false]) (by simp [results, Try.results139, go_sem, *]) rfl ⟨rfl, ?_⟩
    (repeat (refine Ext.setCell ?_ (by first | (simp; done) | (simp; omega)) _)); exact hx1'
  · have k1 := h0
    obtain ⟨ba, bb, bc, bd⟩ := Rg_bd k1
    have HB : Hid (AllRg ([a, b, c, d] ++ [b - d, a + c, b + d, c - a]) (1 + 1) = okMulRootTwo a b c d) := allRgN1 a b c d _ _ _ _
    go_enter Try.func139, Try.ntmps139
    go_wp2_with fail
    have HT := Lib.hid (ringIf_any (b - d) (a + c) (b + d) (c - a) 1 (w.heap.size + 1 + 1) (.slice (some ⟨w.heap.size + 1 + 1, 0, none⟩) 1 1) [a, b, c, d] (by decide) rfl)
    unfold Hid at HT
    rw [HB.out] at HT
    refine (HT _ (by simp) (own_lit2 (by simp) (by decide) rfl rfl)).mono ?_
    rintro en w1 ⟨rfl, hx1⟩
    clear HT
    obtain ⟨hc1, hf1⟩ := Below.facts hx1
    have hz1 := hx1.size
    try simp at hz1
    have hs1 := sz3 (a := w.heap.size) (b := w1.heap.size) (by omega)
    have hx1' : Ext w w1 := Below.trans (by repeat (first | exact Ext.refl _ | assumption | refine Ext.alloc ?_ _ | refine Ext.drew ?_ | refine Ext.drewN ?_ _ | refine Ext.setCell ?_ (by first | omega | (dsimp only; omega) | (simp; done) | (simp; omega)) _ | refine Ext.trans ?_ (by assumption))) (Below.mono hx1 (by omega))
    clear hx1
    go_wp2
    refine bodyPost_ret (v := .tuple #[.agg #[.int .i64 (ifZ (okMulRootTwo a b c d) (b - d)), .int .i64 (ifZ (okMulRootTwo a b c d) (a + c)), .int .i64 (ifZ (okMulRootTwo a b c d) (b + d)), .int .i64 (ifZ (okMulRootTwo a b c d) (c - a))], .bool (okMulRootTwo a b c d)]) (by simp [results, Try.results139, go_sem, *]) rfl ⟨rfl, ?_⟩
    (repeat (refine Ext.setCell ?_ (by first | (simp; done) | (simp; omega)) _)); exact hx1'

def okConjugate (a b c d : Int) : Bool := Rg a b c d && Rg (a) (-d) (-c) (-b)
set_option maxHeartbeats 2000000 in
theorem conjugate_any (a b c d : Int) (w : World) :
    Calls Try.prog 125 #[.agg #[.int .i64 a, .int .i64 b, .int .i64 c, .int .i64 d]] w fun en w' => en = .returned (.tuple #[.agg #[.int .i64 (ifZ (okConjugate a b c d) (a)), .int .i64 (ifZ (okConjugate a b c d) (-d)), .int .i64 (ifZ (okConjugate a b c d) (-c)), .int .i64 (ifZ (okConjugate a b c d) (-b))], .bool (okConjugate a b c d)]) ∧ Ext w w' := by
  cases h0 : Rg a b c d
  · have HO : Hid (okConjugate a b c d = false) := by unfold Hid okConjugate; rw [h0]; rfl
    have HB : ∀ p q r s : Int, AllRg ([a, b, c, d] ++ [p, q, r, s]) (1 + 1) = false := fun p q r s => (allRgN1 a b c d p q r s).trans (by rw [h0]; rfl)
    rw [HO.out]
    clear HO h0
    go_enter Try.func125, Try.ntmps125
    go_wp2_with fail
    refine (ringIf_any _ _ _ _ 1 (w.heap.size + 1 + 1) _ [a, b, c, d] (by decide) rfl _ (by simp) (own_lit2 (by simp) (by decide) rfl rfl)).mono ?_
    rintro en w1 ⟨rfl, hx1⟩
    obtain ⟨hc1, hf1⟩ := Below.facts hx1
    have hz1 := hx1.size
    try simp at hz1
    have hs1 := sz3 (a := w.heap.size) (b := w1.heap.size) (by omega)
    have hx1' : Ext w w1 := Below.trans (by repeat (first | exact Ext.refl _ | assumption | refine Ext.alloc ?_ _ | refine Ext.drew ?_ | refine Ext.drewN ?_ _ | refine Ext.setCell ?_ (by first | omega | (dsimp only; omega) | (simp; done) | (simp; omega)) _ | refine Ext.trans ?_ (by assumption))) (Below.mono hx1 (by omega))
    clear hx1
    simp only [HB, ifZ_false]
    go_wp2
    refine bodyPost_ret (v := .tuple #[.agg #[.int .i64 0, .int .i64 0, .int .i64 0, .int .i64 0], .bool false]) (by simp [results, Try.results125, go_sem, *]) rfl ⟨rfl, ?_⟩
    (repeat (refine Ext.setCell ?_ (by first | (simp; done) | (simp; omega)) _)); exact hx1'
  · have k1 := h0
    obtain ⟨ba, bb, bc, bd⟩ := Rg_bd k1
    have HB : Hid (AllRg ([a, b, c, d] ++ [a, -d, -c, -b]) (1 + 1) = okConjugate a b c d) := allRgN1 a b c d _ _ _ _
    go_enter Try.func125, Try.ntmps125
    go_wp2_with fail
    have HT := Lib.hid (ringIf_any (a) (-d) (-c) (-b) 1 (w.heap.size + 1 + 1) (.slice (some ⟨w.heap.size + 1 + 1, 0, none⟩) 1 1) [a, b, c, d] (by decide) rfl)
    unfold Hid at HT
    rw [HB.out] at HT
    refine (HT _ (by simp) (own_lit2 (by simp) (by decide) rfl rfl)).mono ?_
    rintro en w1 ⟨rfl, hx1⟩
    clear HT
    obtain ⟨hc1, hf1⟩ := Below.facts hx1
    have hz1 := hx1.size
    try simp at hz1
    have hs1 := sz3 (a := w.heap.size) (b := w1.heap.size) (by omega)
    have hx1' : Ext w w1 := Below.trans (by repeat (first | exact Ext.refl _ | assumption | refine Ext.alloc ?_ _ | refine Ext.drew ?_ | refine Ext.drewN ?_ _ | refine Ext.setCell ?_ (by first | omega | (dsimp only; omega) | (simp; done) | (simp; omega)) _ | refine Ext.trans ?_ (by assumption))) (Below.mono hx1 (by omega))
    clear hx1
    go_wp2
    refine bodyPost_ret (v := .tuple #[.agg #[.int .i64 (ifZ (okConjugate a b c d) (a)), .int .i64 (ifZ (okConjugate a b c d) (-d)), .int .i64 (ifZ (okConjugate a b c d) (-c)), .int .i64 (ifZ (okConjugate a b c d) (-b))], .bool (okConjugate a b c d)]) (by simp [results, Try.results125, go_sem, *]) rfl ⟨rfl, ?_⟩
    (repeat (refine Ext.setCell ?_ (by first | (simp; done) | (simp; omega)) _)); exact hx1'

end Go.Proofs.Ytnlhonlfkmpleaa
