/- Products in the ring. -/
import Derived.Test.YtamiploliebplaaDoorRows
import Derived.Test.YtamiploliebplaaDoorRingIf
namespace Go.Proofs.YtamiploliebplaaDoor
open Go.RowKit

def mrA (a b c d e f g h : Int) : Int := a * e - b * h - c * g - d * f
def mrB (a b c d e f g h : Int) : Int := a * f + b * e - c * h - d * g
def mrC (a b c d e f g h : Int) : Int := a * g + b * f + c * e - d * h
def mrD (a b c d e f g h : Int) : Int := a * h + b * g + c * f + d * e
def okMr (a b c d e f g h : Int) : Bool := Rg a b c d && Rg e f g h && Rg (mrA a b c d e f g h) (mrB a b c d e f g h) (mrC a b c d e f g h) (mrD a b c d e f g h)
theorem allRg3 (a b c d e f g h p q r s : Int) : AllRg [a, b, c, d, e, f, g, h, p, q, r, s] 3 = (Rg a b c d && Rg e f g h && Rg p q r s) := by
  simp [AllRg, RgAt, List.range_succ, Bool.and_assoc]

/-- the sixteen products -/
structure P16 (a b c d e f g h : Int) : Prop where
  ae : -1000000000000000000 ≤ a * e ∧ a * e ≤ 1000000000000000000
  af : -1000000000000000000 ≤ a * f ∧ a * f ≤ 1000000000000000000
  ag : -1000000000000000000 ≤ a * g ∧ a * g ≤ 1000000000000000000
  ah : -1000000000000000000 ≤ a * h ∧ a * h ≤ 1000000000000000000
  be : -1000000000000000000 ≤ b * e ∧ b * e ≤ 1000000000000000000
  bf : -1000000000000000000 ≤ b * f ∧ b * f ≤ 1000000000000000000
  bg : -1000000000000000000 ≤ b * g ∧ b * g ≤ 1000000000000000000
  bh : -1000000000000000000 ≤ b * h ∧ b * h ≤ 1000000000000000000
  ce : -1000000000000000000 ≤ c * e ∧ c * e ≤ 1000000000000000000
  cf : -1000000000000000000 ≤ c * f ∧ c * f ≤ 1000000000000000000
  cg : -1000000000000000000 ≤ c * g ∧ c * g ≤ 1000000000000000000
  ch : -1000000000000000000 ≤ c * h ∧ c * h ≤ 1000000000000000000
  de : -1000000000000000000 ≤ d * e ∧ d * e ≤ 1000000000000000000
  df : -1000000000000000000 ≤ d * f ∧ d * f ≤ 1000000000000000000
  dg : -1000000000000000000 ≤ d * g ∧ d * g ≤ 1000000000000000000
  dh : -1000000000000000000 ≤ d * h ∧ d * h ≤ 1000000000000000000
theorem p16 {a b c d e f g h : Int} (h1 : Rg a b c d = true) (h2 : Rg e f g h = true) : P16 a b c d e f g h := by
  obtain ⟨ba, bb, bc, bd⟩ := Rg_bd h1
  obtain ⟨be, bf, bg, bh⟩ := Rg_bd h2
  exact ⟨prod_bd ba be, prod_bd ba bf, prod_bd ba bg, prod_bd ba bh, prod_bd bb be, prod_bd bb bf, prod_bd bb bg, prod_bd bb bh, prod_bd bc be, prod_bd bc bf, prod_bd bc bg, prod_bd bc bh, prod_bd bd be, prod_bd bd bf, prod_bd bd bg, prod_bd bd bh⟩

set_option maxHeartbeats 2000000 in
theorem mulRing_any (a b c d e f g h : Int) (w : World) :
    Calls Tryd.prog 88 #[.agg #[.int .i64 a, .int .i64 b, .int .i64 c, .int .i64 d], .agg #[.int .i64 e, .int .i64 f, .int .i64 g, .int .i64 h]] w fun en w' =>
      en = .returned (.tuple #[.agg #[.int .i64 (ifZ (okMr a b c d e f g h) (mrA a b c d e f g h)), .int .i64 (ifZ (okMr a b c d e f g h) (mrB a b c d e f g h)), .int .i64 (ifZ (okMr a b c d e f g h) (mrC a b c d e f g h)), .int .i64 (ifZ (okMr a b c d e f g h) (mrD a b c d e f g h))],
        .bool (okMr a b c d e f g h)]) ∧ Ext w w' := by
  cases h0 : Rg a b c d && Rg e f g h
  · have HO : Hid (okMr a b c d e f g h = false) := by unfold Hid okMr; rw [h0]; rfl
    have HB : ∀ p q r s : Int, AllRg ([a, b, c, d, e, f, g, h] ++ [p, q, r, s]) (2 + 1) = false := fun p q r s => (allRg3 a b c d e f g h p q r s).trans (by rw [h0]; rfl)
    rw [HO.out]
    clear HO h0
    go_enter Tryd.func88, Tryd.ntmps88
    go_wp2_with fail
    refine (ringIf_any _ _ _ _ 2 (w.heap.size + 1 + 1 + 1) _ [a, b, c, d, e, f, g, h] (by decide) rfl _ (by simp) (own_lit2 (by simp) (by decide) rfl rfl)).mono ?_
    rintro en w1 ⟨rfl, hx1⟩
    obtain ⟨hc1, hf1⟩ := Below.facts hx1
    have hz1 := hx1.size
    try simp at hz1
    have hs1 := sz4 (a := w.heap.size) (b := w1.heap.size) (by omega)
    have hx1' : Ext w w1 := Below.trans (by repeat (first | exact Ext.refl _ | assumption | refine Ext.alloc ?_ _ | refine Ext.drew ?_ | refine Ext.drewN ?_ _ | refine Ext.setCell ?_ (by first | omega | (dsimp only; omega) | (simp; done) | (simp; omega)) _ | refine Ext.trans ?_ (by assumption))) (Below.mono hx1 (by omega))
    clear hx1
    simp only [HB, ifZ_false]
    go_wp2
    refine bodyPost_ret (v := .tuple #[.agg #[.int .i64 0, .int .i64 0, .int .i64 0, .int .i64 0], .bool false]) (by simp [results, Tryd.results88, go_sem, *]) rfl ⟨rfl, ?_⟩
    (repeat (refine Ext.setCell ?_ (by simp; omega) _)); exact hx1'
  · simp only [Bool.and_eq_true] at h0
    obtain ⟨k1, k2⟩ := h0
    have HP := Lib.hid (p16 k1 k2)
    obtain ⟨p1, p2, p3, p4, p5, p6, p7, p8, p9, p10, p11, p12, p13, p14, p15, p16⟩ := HP.out
    have HB : Hid (AllRg ([a, b, c, d, e, f, g, h] ++ [mrA a b c d e f g h, mrB a b c d e f g h, mrC a b c d e f g h, mrD a b c d e f g h]) (2 + 1) = okMr a b c d e f g h) := allRg3 a b c d e f g h _ _ _ _
    clear HP k1 k2
    go_enter Tryd.func88, Tryd.ntmps88
    go_wp2_with fail
    have HT := Lib.hid (ringIf_any (mrA a b c d e f g h) (mrB a b c d e f g h) (mrC a b c d e f g h) (mrD a b c d e f g h) 2 (w.heap.size + 1 + 1 + 1) (.slice (some ⟨w.heap.size + 1 + 1 + 1, 0, none⟩) 2 2) [a, b, c, d, e, f, g, h] (by decide) rfl)
    unfold Hid at HT
    rw [HB.out] at HT
    refine (HT _ (by simp) (own_lit2 (by simp) (by decide) rfl rfl)).mono ?_
    rintro en w1 ⟨rfl, hx1⟩
    clear HT
    obtain ⟨hc1, hf1⟩ := Below.facts hx1
    have hz1 := hx1.size
    try simp at hz1
    have hs1 := sz4 (a := w.heap.size) (b := w1.heap.size) (by omega)
    have hx1' : Ext w w1 := Below.trans (by repeat (first | exact Ext.refl _ | assumption | refine Ext.alloc ?_ _ | refine Ext.drew ?_ | refine Ext.drewN ?_ _ | refine Ext.setCell ?_ (by first | omega | (dsimp only; omega) | (simp; done) | (simp; omega)) _ | refine Ext.trans ?_ (by assumption))) (Below.mono hx1 (by omega))
    clear hx1
    go_wp2
    refine bodyPost_ret (v := .tuple #[.agg #[.int .i64 (ifZ (okMr a b c d e f g h) (mrA a b c d e f g h)), .int .i64 (ifZ (okMr a b c d e f g h) (mrB a b c d e f g h)), .int .i64 (ifZ (okMr a b c d e f g h) (mrC a b c d e f g h)), .int .i64 (ifZ (okMr a b c d e f g h) (mrD a b c d e f g h))], .bool (okMr a b c d e f g h)]) (by simp [results, Tryd.results88, go_sem, *]) rfl ⟨rfl, ?_⟩
    (repeat (refine Ext.setCell ?_ (by simp; omega) _)); exact hx1'

end Go.Proofs.YtamiploliebplaaDoor
