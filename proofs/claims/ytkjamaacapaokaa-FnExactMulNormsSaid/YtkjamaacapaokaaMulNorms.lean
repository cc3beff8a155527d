/- Products of numbers and their norms. -/
import Derived.Test.YtkjamaacapaokaaRows
import Derived.Test.YtkjamaacapaokaaRingS
import Derived.Test.YtkjamaacapaokaaSlRing
import Derived.Test.YtkjamaacapaokaaMade
import Derived.Test.YtkjamaacapaokaaMul2
namespace Go.Proofs.Ytkjamaacapaokaa
open Go.RowKit

def nmU (a b c d e f g h : Int) : Int := absU (ifZ (okMr a b c d e f g h) (mrA a b c d e f g h)) (ifZ (okMr a b c d e f g h) (mrB a b c d e f g h)) (ifZ (okMr a b c d e f g h) (mrC a b c d e f g h)) (ifZ (okMr a b c d e f g h) (mrD a b c d e f g h))
def nmV (a b c d e f g h : Int) : Int := absV (ifZ (okMr a b c d e f g h) (mrA a b c d e f g h)) (ifZ (okMr a b c d e f g h) (mrB a b c d e f g h)) (ifZ (okMr a b c d e f g h) (mrC a b c d e f g h)) (ifZ (okMr a b c d e f g h) (mrD a b c d e f g h))
def okSN (a b c d e f g h : Int) : Bool := okSq (ifZ (okMr a b c d e f g h) (mrA a b c d e f g h)) (ifZ (okMr a b c d e f g h) (mrB a b c d e f g h)) (ifZ (okMr a b c d e f g h) (mrC a b c d e f g h)) (ifZ (okMr a b c d e f g h) (mrD a b c d e f g h))
def okMN (a b c d e f g h : Int) : Bool := okMr a b c d e f g h && okSN a b c d e f g h && R2 (nmU a b c d e f g h) (nmV a b c d e f g h)

set_option maxHeartbeats 2000000 in
theorem mulNorms_any (a b c d e f g h : Int) (w : World) :
    Calls Try.prog 27 #[.agg #[.int .i64 a, .int .i64 b, .int .i64 c, .int .i64 d], .agg #[.int .i64 e, .int .i64 f, .int .i64 g, .int .i64 h]] w fun en w' =>
      en = .returned (.tuple #[.agg #[.int .i64 (ifZ (okMN a b c d e f g h) (ifZ (okMr a b c d e f g h) (mrA a b c d e f g h))), .int .i64 (ifZ (okMN a b c d e f g h) (ifZ (okMr a b c d e f g h) (mrB a b c d e f g h))), .int .i64 (ifZ (okMN a b c d e f g h) (ifZ (okMr a b c d e f g h) (mrC a b c d e f g h))), .int .i64 (ifZ (okMN a b c d e f g h) (ifZ (okMr a b c d e f g h) (mrD a b c d e f g h)))], .agg #[.int .i64 (ifZ (okMN a b c d e f g h) (nmU a b c d e f g h)), .int .i64 (ifZ (okMN a b c d e f g h) (nmV a b c d e f g h))], .bool (okMN a b c d e f g h)]) ∧ Ext w w' := by
  have HM := Lib.hid (mulRing_any a b c d e f g h)
  have HS := Lib.hid (absSquare_any (ifZ (okMr a b c d e f g h) (mrA a b c d e f g h)) (ifZ (okMr a b c d e f g h) (mrB a b c d e f g h)) (ifZ (okMr a b c d e f g h) (mrC a b c d e f g h)) (ifZ (okMr a b c d e f g h) (mrD a b c d e f g h)))
  have HU : Hid (absU (ifZ (okMr a b c d e f g h) (mrA a b c d e f g h)) (ifZ (okMr a b c d e f g h) (mrB a b c d e f g h)) (ifZ (okMr a b c d e f g h) (mrC a b c d e f g h)) (ifZ (okMr a b c d e f g h) (mrD a b c d e f g h)) = nmU a b c d e f g h) := rfl
  have HV : Hid (absV (ifZ (okMr a b c d e f g h) (mrA a b c d e f g h)) (ifZ (okMr a b c d e f g h) (mrB a b c d e f g h)) (ifZ (okMr a b c d e f g h) (mrC a b c d e f g h)) (ifZ (okMr a b c d e f g h) (mrD a b c d e f g h)) = nmV a b c d e f g h) := rfl
  have HK : Hid (okSq (ifZ (okMr a b c d e f g h) (mrA a b c d e f g h)) (ifZ (okMr a b c d e f g h) (mrB a b c d e f g h)) (ifZ (okMr a b c d e f g h) (mrC a b c d e f g h)) (ifZ (okMr a b c d e f g h) (mrD a b c d e f g h)) = okSN a b c d e f g h) := rfl
  have HO : Hid (okMN a b c d e f g h = (okMr a b c d e f g h && okSN a b c d e f g h && R2 (nmU a b c d e f g h) (nmV a b c d e f g h))) := rfl
  unfold Hid at HS
  rw [HU.out, HV.out, HK.out] at HS
  have HS := Lib.hid HS
  clear HU HV HK
  generalize ifZ (okMr a b c d e f g h) (mrA a b c d e f g h) = zA at *
  generalize ifZ (okMr a b c d e f g h) (mrB a b c d e f g h) = zB at *
  generalize ifZ (okMr a b c d e f g h) (mrC a b c d e f g h) = zC at *
  generalize ifZ (okMr a b c d e f g h) (mrD a b c d e f g h) = zD at *
  generalize okMN a b c d e f g h = ok at *
  generalize okMr a b c d e f g h = ok1 at *
  generalize okSN a b c d e f g h = ok2 at *
  generalize nmU a b c d e f g h = U at *
  generalize nmV a b c d e f g h = V at *
  cases h1 : ok1
  · obtain rfl : ok = false := by rw [HO.out, h1]; rfl
    subst h1
    clear HO
    go_enter Try.func27, Try.ntmps27
    go_wp2_with fail
    refine (HM.out _).mono ?_
    rintro e w1 ⟨rfl, hx1⟩
    obtain ⟨hc1, hf1⟩ := hx1.cells
    have hz1 := hx1.size
    try simp at hz1
    have hs1_0 := sz4 (a := w.heap.size) (b := w1.heap.size) (by omega)
    go_wp2_with fail
    refine (HS.out _).mono ?_
    rintro e w2 ⟨rfl, hx2⟩
    obtain ⟨hc2, hf2⟩ := hx2.cells
    have hz2 := hx2.size
    try simp at hz2
    have hs2_0 := sz4 (a := w.heap.size) (b := w2.heap.size) (by omega)
    have hs2_1 := sz1 (a := w1.heap.size) (b := w2.heap.size) (by omega)
    go_wp2
    refine bodyPost_ret (v := .tuple #[.agg #[.int .i64 0, .int .i64 0, .int .i64 0, .int .i64 0], .agg #[.int .i64 0, .int .i64 0], .bool false]) (by simp [results, Try.results27, go_sem, *]) rfl ⟨rfl, ?_⟩
    exact (by repeat (first | (with_reducible refine Ext.setCell ?_ (by first | (simp; done) | (simp; omega)) _) | with_reducible refine Ext.alloc ?_ _ | with_reducible refine Ext.drew ?_ | with_reducible refine Ext.drewN ?_ _ | with_reducible assumption | with_reducible exact Ext.refl _ | with_reducible refine Ext.trans ?_ (by with_reducible assumption)))
  cases h2 : ok2
  · obtain rfl : ok = false := by rw [HO.out, h1, h2]; rfl
    subst h1
    subst h2
    clear HO
    go_enter Try.func27, Try.ntmps27
    go_wp2_with fail
    refine (HM.out _).mono ?_
    rintro e w1 ⟨rfl, hx1⟩
    obtain ⟨hc1, hf1⟩ := hx1.cells
    have hz1 := hx1.size
    try simp at hz1
    have hs1_0 := sz4 (a := w.heap.size) (b := w1.heap.size) (by omega)
    go_wp2_with fail
    refine (HS.out _).mono ?_
    rintro e w2 ⟨rfl, hx2⟩
    obtain ⟨hc2, hf2⟩ := hx2.cells
    have hz2 := hx2.size
    try simp at hz2
    have hs2_0 := sz4 (a := w.heap.size) (b := w2.heap.size) (by omega)
    have hs2_1 := sz1 (a := w1.heap.size) (b := w2.heap.size) (by omega)
    go_wp2
    refine bodyPost_ret (v := .tuple #[.agg #[.int .i64 0, .int .i64 0, .int .i64 0, .int .i64 0], .agg #[.int .i64 0, .int .i64 0], .bool false]) (by simp [results, Try.results27, go_sem, *]) rfl ⟨rfl, ?_⟩
    exact (by repeat (first | (with_reducible refine Ext.setCell ?_ (by first | (simp; done) | (simp; omega)) _) | with_reducible refine Ext.alloc ?_ _ | with_reducible refine Ext.drew ?_ | with_reducible refine Ext.drewN ?_ _ | with_reducible assumption | with_reducible exact Ext.refl _ | with_reducible refine Ext.trans ?_ (by with_reducible assumption)))
  cases h3 : R2 U V
  · obtain rfl : ok = false := by rw [HO.out, h1, h2, h3]; rfl
    subst h1
    subst h2
    clear HO
    go_enter Try.func27, Try.ntmps27
    go_wp2_with fail
    refine (HM.out _).mono ?_
    rintro e w1 ⟨rfl, hx1⟩
    obtain ⟨hc1, hf1⟩ := hx1.cells
    have hz1 := hx1.size
    try simp at hz1
    have hs1_0 := sz4 (a := w.heap.size) (b := w1.heap.size) (by omega)
    go_wp2_with fail
    refine (HS.out _).mono ?_
    rintro e w2 ⟨rfl, hx2⟩
    obtain ⟨hc2, hf2⟩ := hx2.cells
    have hz2 := hx2.size
    try simp at hz2
    have hs2_0 := sz4 (a := w.heap.size) (b := w2.heap.size) (by omega)
    have hs2_1 := sz1 (a := w1.heap.size) (b := w2.heap.size) (by omega)
    go_wp2_with fail
    refine (isRoot2_any _ _ _).mono ?_
    rintro e w3 ⟨rfl, hx3⟩
    obtain ⟨hc3, hf3⟩ := hx3.cells
    have hz3 := hx3.size
    try simp at hz3
    have hs3_0 := sz4 (a := w.heap.size) (b := w3.heap.size) (by omega)
    have hs3_1 := sz1 (a := w1.heap.size) (b := w3.heap.size) (by omega)
    have hs3_2 := sz1 (a := w2.heap.size) (b := w3.heap.size) (by omega)
    go_wp2
    refine bodyPost_ret (v := .tuple #[.agg #[.int .i64 0, .int .i64 0, .int .i64 0, .int .i64 0], .agg #[.int .i64 0, .int .i64 0], .bool false]) (by simp [results, Try.results27, go_sem, *]) rfl ⟨rfl, ?_⟩
    exact (by repeat (first | (with_reducible refine Ext.setCell ?_ (by first | (simp; done) | (simp; omega)) _) | with_reducible refine Ext.alloc ?_ _ | with_reducible refine Ext.drew ?_ | with_reducible refine Ext.drewN ?_ _ | with_reducible assumption | with_reducible exact Ext.refl _ | with_reducible refine Ext.trans ?_ (by with_reducible assumption)))
  · obtain rfl : ok = true := by rw [HO.out, h1, h2, h3]; rfl
    subst h1
    subst h2
    clear HO
    go_enter Try.func27, Try.ntmps27
    go_wp2_with fail
    refine (HM.out _).mono ?_
    rintro e w1 ⟨rfl, hx1⟩
    obtain ⟨hc1, hf1⟩ := hx1.cells
    have hz1 := hx1.size
    try simp at hz1
    have hs1_0 := sz4 (a := w.heap.size) (b := w1.heap.size) (by omega)
    go_wp2_with fail
    refine (HS.out _).mono ?_
    rintro e w2 ⟨rfl, hx2⟩
    obtain ⟨hc2, hf2⟩ := hx2.cells
    have hz2 := hx2.size
    try simp at hz2
    have hs2_0 := sz4 (a := w.heap.size) (b := w2.heap.size) (by omega)
    have hs2_1 := sz1 (a := w1.heap.size) (b := w2.heap.size) (by omega)
    go_wp2_with fail
    refine (isRoot2_any _ _ _).mono ?_
    rintro e w3 ⟨rfl, hx3⟩
    obtain ⟨hc3, hf3⟩ := hx3.cells
    have hz3 := hx3.size
    try simp at hz3
    have hs3_0 := sz4 (a := w.heap.size) (b := w3.heap.size) (by omega)
    have hs3_1 := sz1 (a := w1.heap.size) (b := w3.heap.size) (by omega)
    have hs3_2 := sz1 (a := w2.heap.size) (b := w3.heap.size) (by omega)
    go_wp2
    go_region
    all_goals
      go_wp2
      refine bodyPost_ret (v := .tuple #[.agg #[.int .i64 zA, .int .i64 zB, .int .i64 zC, .int .i64 zD], .agg #[.int .i64 U, .int .i64 V], .bool true]) (by simp [results, Try.results27, go_sem, *]) rfl ⟨rfl, ?_⟩
      exact (by repeat (first | (with_reducible refine Ext.setCell ?_ (by first | (simp; done) | (simp; omega)) _) | with_reducible refine Ext.alloc ?_ _ | with_reducible refine Ext.drew ?_ | with_reducible refine Ext.drewN ?_ _ | with_reducible assumption | with_reducible exact Ext.refl _ | with_reducible refine Ext.trans ?_ (by with_reducible assumption)))


set_option maxHeartbeats 2000000 in
theorem s_mulNorms_any (a b c d e f g h : Int) (w : World) :
    Calls Try.prog 25 #[.agg #[.int .i64 a, .int .i64 b, .int .i64 c, .int .i64 d], .agg #[.int .i64 e, .int .i64 f, .int .i64 g, .int .i64 h]] w fun en w' =>
      en = .returned (.tuple #[.agg #[.int .i64 (ifZ (okMN a b c d e f g h) (ifZ (okMr a b c d e f g h) (mrA a b c d e f g h))), .int .i64 (ifZ (okMN a b c d e f g h) (ifZ (okMr a b c d e f g h) (mrB a b c d e f g h))), .int .i64 (ifZ (okMN a b c d e f g h) (ifZ (okMr a b c d e f g h) (mrC a b c d e f g h))), .int .i64 (ifZ (okMN a b c d e f g h) (ifZ (okMr a b c d e f g h) (mrD a b c d e f g h)))], .agg #[.int .i64 (ifZ (okMN a b c d e f g h) (nmU a b c d e f g h)), .int .i64 (ifZ (okMN a b c d e f g h) (nmV a b c d e f g h))], .bool (okMN a b c d e f g h)]) ∧ Ext w w' := by
  have HM := Lib.hid (s_mulRing_any a b c d e f g h)
  have HS := Lib.hid (s_absSquare_any (ifZ (okMr a b c d e f g h) (mrA a b c d e f g h)) (ifZ (okMr a b c d e f g h) (mrB a b c d e f g h)) (ifZ (okMr a b c d e f g h) (mrC a b c d e f g h)) (ifZ (okMr a b c d e f g h) (mrD a b c d e f g h)))
  have HU : Hid (absU (ifZ (okMr a b c d e f g h) (mrA a b c d e f g h)) (ifZ (okMr a b c d e f g h) (mrB a b c d e f g h)) (ifZ (okMr a b c d e f g h) (mrC a b c d e f g h)) (ifZ (okMr a b c d e f g h) (mrD a b c d e f g h)) = nmU a b c d e f g h) := rfl
  have HV : Hid (absV (ifZ (okMr a b c d e f g h) (mrA a b c d e f g h)) (ifZ (okMr a b c d e f g h) (mrB a b c d e f g h)) (ifZ (okMr a b c d e f g h) (mrC a b c d e f g h)) (ifZ (okMr a b c d e f g h) (mrD a b c d e f g h)) = nmV a b c d e f g h) := rfl
  have HK : Hid (okSq (ifZ (okMr a b c d e f g h) (mrA a b c d e f g h)) (ifZ (okMr a b c d e f g h) (mrB a b c d e f g h)) (ifZ (okMr a b c d e f g h) (mrC a b c d e f g h)) (ifZ (okMr a b c d e f g h) (mrD a b c d e f g h)) = okSN a b c d e f g h) := rfl
  have HO : Hid (okMN a b c d e f g h = (okMr a b c d e f g h && okSN a b c d e f g h && R2 (nmU a b c d e f g h) (nmV a b c d e f g h))) := rfl
  unfold Hid at HS
  rw [HU.out, HV.out, HK.out] at HS
  have HS := Lib.hid HS
  clear HU HV HK
  generalize ifZ (okMr a b c d e f g h) (mrA a b c d e f g h) = zA at *
  generalize ifZ (okMr a b c d e f g h) (mrB a b c d e f g h) = zB at *
  generalize ifZ (okMr a b c d e f g h) (mrC a b c d e f g h) = zC at *
  generalize ifZ (okMr a b c d e f g h) (mrD a b c d e f g h) = zD at *
  generalize okMN a b c d e f g h = ok at *
  generalize okMr a b c d e f g h = ok1 at *
  generalize okSN a b c d e f g h = ok2 at *
  generalize nmU a b c d e f g h = U at *
  generalize nmV a b c d e f g h = V at *
  cases h1 : ok1
  · obtain rfl : ok = false := by rw [HO.out, h1]; rfl
    subst h1
    clear HO
    go_enter Try.func25, Try.ntmps25
    go_wp2_with fail
    refine (HM.out _).mono ?_
    rintro e w1 ⟨rfl, hx1⟩
    obtain ⟨hc1, hf1⟩ := hx1.cells
    have hz1 := hx1.size
    try simp at hz1
    have hs1_0 := sz4 (a := w.heap.size) (b := w1.heap.size) (by omega)
    go_wp2_with fail
    refine (HS.out _).mono ?_
    rintro e w2 ⟨rfl, hx2⟩
    obtain ⟨hc2, hf2⟩ := hx2.cells
    have hz2 := hx2.size
    try simp at hz2
    have hs2_0 := sz4 (a := w.heap.size) (b := w2.heap.size) (by omega)
    have hs2_1 := sz1 (a := w1.heap.size) (b := w2.heap.size) (by omega)
    go_wp2
    refine bodyPost_ret (v := .tuple #[.agg #[.int .i64 0, .int .i64 0, .int .i64 0, .int .i64 0], .agg #[.int .i64 0, .int .i64 0], .bool false]) (by simp [results, Try.results25, go_sem, *]) rfl ⟨rfl, ?_⟩
    exact (by repeat (first | (with_reducible refine Ext.setCell ?_ (by first | (simp; done) | (simp; omega)) _) | with_reducible refine Ext.alloc ?_ _ | with_reducible refine Ext.drew ?_ | with_reducible refine Ext.drewN ?_ _ | with_reducible assumption | with_reducible exact Ext.refl _ | with_reducible refine Ext.trans ?_ (by with_reducible assumption)))
  cases h2 : ok2
  · obtain rfl : ok = false := by rw [HO.out, h1, h2]; rfl
    subst h1
    subst h2
    clear HO
    go_enter Try.func25, Try.ntmps25
    go_wp2_with fail
    refine (HM.out _).mono ?_
    rintro e w1 ⟨rfl, hx1⟩
    obtain ⟨hc1, hf1⟩ := hx1.cells
    have hz1 := hx1.size
    try simp at hz1
    have hs1_0 := sz4 (a := w.heap.size) (b := w1.heap.size) (by omega)
    go_wp2_with fail
    refine (HS.out _).mono ?_
    rintro e w2 ⟨rfl, hx2⟩
    obtain ⟨hc2, hf2⟩ := hx2.cells
    have hz2 := hx2.size
    try simp at hz2
    have hs2_0 := sz4 (a := w.heap.size) (b := w2.heap.size) (by omega)
    have hs2_1 := sz1 (a := w1.heap.size) (b := w2.heap.size) (by omega)
    go_wp2
    refine bodyPost_ret (v := .tuple #[.agg #[.int .i64 0, .int .i64 0, .int .i64 0, .int .i64 0], .agg #[.int .i64 0, .int .i64 0], .bool false]) (by simp [results, Try.results25, go_sem, *]) rfl ⟨rfl, ?_⟩
    exact (by repeat (first | (with_reducible refine Ext.setCell ?_ (by first | (simp; done) | (simp; omega)) _) | with_reducible refine Ext.alloc ?_ _ | with_reducible refine Ext.drew ?_ | with_reducible refine Ext.drewN ?_ _ | with_reducible assumption | with_reducible exact Ext.refl _ | with_reducible refine Ext.trans ?_ (by with_reducible assumption)))
  cases h3 : R2 U V
  · obtain rfl : ok = false := by rw [HO.out, h1, h2, h3]; rfl
    subst h1
    subst h2
    clear HO
    go_enter Try.func25, Try.ntmps25
    go_wp2_with fail
    refine (HM.out _).mono ?_
    rintro e w1 ⟨rfl, hx1⟩
    obtain ⟨hc1, hf1⟩ := hx1.cells
    have hz1 := hx1.size
    try simp at hz1
    have hs1_0 := sz4 (a := w.heap.size) (b := w1.heap.size) (by omega)
    go_wp2_with fail
    refine (HS.out _).mono ?_
    rintro e w2 ⟨rfl, hx2⟩
    obtain ⟨hc2, hf2⟩ := hx2.cells
    have hz2 := hx2.size
    try simp at hz2
    have hs2_0 := sz4 (a := w.heap.size) (b := w2.heap.size) (by omega)
    have hs2_1 := sz1 (a := w1.heap.size) (b := w2.heap.size) (by omega)
    go_wp2_with fail
    refine (l25Good_any _ _ _).mono ?_
    rintro e w3 ⟨rfl, hx3⟩
    obtain ⟨hc3, hf3⟩ := hx3.cells
    have hz3 := hx3.size
    try simp at hz3
    have hs3_0 := sz4 (a := w.heap.size) (b := w3.heap.size) (by omega)
    have hs3_1 := sz1 (a := w1.heap.size) (b := w3.heap.size) (by omega)
    have hs3_2 := sz1 (a := w2.heap.size) (b := w3.heap.size) (by omega)
    go_wp2
    refine bodyPost_ret (v := .tuple #[.agg #[.int .i64 0, .int .i64 0, .int .i64 0, .int .i64 0], .agg #[.int .i64 0, .int .i64 0], .bool false]) (by simp [results, Try.results25, go_sem, *]) rfl ⟨rfl, ?_⟩
    exact (by repeat (first | (with_reducible refine Ext.setCell ?_ (by first | (simp; done) | (simp; omega)) _) | with_reducible refine Ext.alloc ?_ _ | with_reducible refine Ext.drew ?_ | with_reducible refine Ext.drewN ?_ _ | with_reducible assumption | with_reducible exact Ext.refl _ | with_reducible refine Ext.trans ?_ (by with_reducible assumption)))
  · obtain rfl : ok = true := by rw [HO.out, h1, h2, h3]; rfl
    subst h1
    subst h2
    clear HO
    go_enter Try.func25, Try.ntmps25
    go_wp2_with fail
    refine (HM.out _).mono ?_
    rintro e w1 ⟨rfl, hx1⟩
    obtain ⟨hc1, hf1⟩ := hx1.cells
    have hz1 := hx1.size
    try simp at hz1
    have hs1_0 := sz4 (a := w.heap.size) (b := w1.heap.size) (by omega)
    go_wp2_with fail
    refine (HS.out _).mono ?_
    rintro e w2 ⟨rfl, hx2⟩
    obtain ⟨hc2, hf2⟩ := hx2.cells
    have hz2 := hx2.size
    try simp at hz2
    have hs2_0 := sz4 (a := w.heap.size) (b := w2.heap.size) (by omega)
    have hs2_1 := sz1 (a := w1.heap.size) (b := w2.heap.size) (by omega)
    go_wp2_with fail
    refine (l25Good_any _ _ _).mono ?_
    rintro e w3 ⟨rfl, hx3⟩
    obtain ⟨hc3, hf3⟩ := hx3.cells
    have hz3 := hx3.size
    try simp at hz3
    have hs3_0 := sz4 (a := w.heap.size) (b := w3.heap.size) (by omega)
    have hs3_1 := sz1 (a := w1.heap.size) (b := w3.heap.size) (by omega)
    have hs3_2 := sz1 (a := w2.heap.size) (b := w3.heap.size) (by omega)
    go_wp2
    go_region
    all_goals
      go_wp2
      refine bodyPost_ret (v := .tuple #[.agg #[.int .i64 zA, .int .i64 zB, .int .i64 zC, .int .i64 zD], .agg #[.int .i64 U, .int .i64 V], .bool true]) (by simp [results, Try.results25, go_sem, *]) rfl ⟨rfl, ?_⟩
      exact (by repeat (first | (with_reducible refine Ext.setCell ?_ (by first | (simp; done) | (simp; omega)) _) | with_reducible refine Ext.alloc ?_ _ | with_reducible refine Ext.drew ?_ | with_reducible refine Ext.drewN ?_ _ | with_reducible assumption | with_reducible exact Ext.refl _ | with_reducible refine Ext.trans ?_ (by with_reducible assumption)))


theorem law_MulNorms (a b c d e f g h : Int) (w : World) :
    Calls Try.prog 5 #[.agg #[.int .i64 a, .int .i64 b, .int .i64 c, .int .i64 d], .agg #[.int .i64 e, .int .i64 f, .int .i64 g, .int .i64 h]] w fun en w' => en = .returned (.bool true) ∧ Ext w w' := by
  have HI := Lib.hid (mulNorms_any a b c d e f g h)
  have HS := Lib.hid (s_mulNorms_any a b c d e f g h)
  generalize ifZ (okMN a b c d e f g h) (ifZ (okMr a b c d e f g h) (mrA a b c d e f g h)) = zA at *
  generalize ifZ (okMN a b c d e f g h) (ifZ (okMr a b c d e f g h) (mrB a b c d e f g h)) = zB at *
  generalize ifZ (okMN a b c d e f g h) (ifZ (okMr a b c d e f g h) (mrC a b c d e f g h)) = zC at *
  generalize ifZ (okMN a b c d e f g h) (ifZ (okMr a b c d e f g h) (mrD a b c d e f g h)) = zD at *
  generalize ifZ (okMN a b c d e f g h) (nmU a b c d e f g h) = U at *
  generalize ifZ (okMN a b c d e f g h) (nmV a b c d e f g h) = V at *
  generalize okMN a b c d e f g h = ok at *
  go_enter Try.func5, Try.ntmps5
  go_wp2
  refine wp_region_madeC (m := 44) (by kernel_rfl) (by kernel_rfl) rfl (fun hxc => ?_)
  repeat (refine mw_quiet ?_; apply Exists.intro; refine ⟨fun σ => ?_, ?_⟩; (first | (go_simp; rfl) | (go_simp; intro x; first | (go_at_call 26; exact toRing_any _ _ _ _ _) | (go_at_call 25; exact HS.out _))); simp only [Act.put, List.setIfInBounds_toArray, List.set_cons_succ, List.set_cons_zero, List.nil_append, List.cons_append])
  refine mw_maker (fun n => .pointer (some ⟨n, 0, none⟩)) 40 #[.int .i64 0, .int .i64 0, .int .i64 0, .int .i64 0] 11 #[.int .i64 zA, .int .i64 zB, .int .i64 zC, .int .i64 zD] rfl (fun σ x => ?_) ?_
  · go_simp
  simp only [Act.put, List.setIfInBounds_toArray, List.set_cons_succ, List.set_cons_zero, List.nil_append, List.cons_append, List.length_cons, List.length_nil, Nat.reduceAdd]
  repeat (refine mw_quiet ?_; apply Exists.intro; refine ⟨fun σ => ?_, ?_⟩; (first | (go_simp; rfl) | (go_simp; intro x; first | (go_at_call 26; exact toRing_any _ _ _ _ _) | (go_at_call 25; exact HS.out _))); simp only [Act.put, List.setIfInBounds_toArray, List.set_cons_succ, List.set_cons_zero, List.nil_append, List.cons_append])
  refine mw_maker (fun n => .pointer (some ⟨n, 0, none⟩)) 35 #[.int .i64 0, .int .i64 0] 12 #[.int .i64 U, .int .i64 V] rfl (fun σ x => ?_) ?_
  · go_simp
  simp only [Act.put, List.setIfInBounds_toArray, List.set_cons_succ, List.set_cons_zero, List.nil_append, List.cons_append, List.length_cons, List.length_nil, Nat.reduceAdd]
  repeat (refine mw_quiet ?_; apply Exists.intro; refine ⟨fun σ => ?_, ?_⟩; (first | (go_simp; rfl) | (go_simp; intro x; first | (go_at_call 26; exact toRing_any _ _ _ _ _) | (go_at_call 25; exact HS.out _))); simp only [Act.put, List.setIfInBounds_toArray, List.set_cons_succ, List.set_cons_zero, List.nil_append, List.cons_append])
  refine mw_store 9 rfl rfl (fun σ x hb hc => ?_) ?_
  · have hcell : ∀ k, x.w.cell? ⟨σ 9, k, none⟩ = (#[.int .i64 0, .int .i64 0, .int .i64 0, .int .i64 0] : Array Value)[k]? := fun k => cell_of_row _ _ _ _ _ _ hc
    have hfr : ∀ k, x.w.frozen? ⟨σ 9, k, none⟩ = false := fun k => frozen_of_row _ _ _ _ _ hc
    apply Exists.intro
    refine ⟨?_, ?_⟩
    · go_simp
      rfl
    · exact ((((Fill.start hc).set 0 _).set 1 _).set 2 _).set 3 _
  simp only [Act.put, List.nil_append, List.cons_append]
  repeat (refine mw_quiet ?_; apply Exists.intro; refine ⟨fun σ => ?_, ?_⟩; (first | (go_simp; rfl) | (go_simp; intro x; first | (go_at_call 26; exact toRing_any _ _ _ _ _) | (go_at_call 25; exact HS.out _))); simp only [Act.put, List.setIfInBounds_toArray, List.set_cons_succ, List.set_cons_zero, List.nil_append, List.cons_append])
  refine mw_store 10 rfl rfl (fun σ x hb hc => ?_) ?_
  · have hcell : ∀ k, x.w.cell? ⟨σ 10, k, none⟩ = (#[.int .i64 0, .int .i64 0] : Array Value)[k]? := fun k => cell_of_row _ _ _ _ _ _ hc
    have hfr : ∀ k, x.w.frozen? ⟨σ 10, k, none⟩ = false := fun k => frozen_of_row _ _ _ _ _ hc
    apply Exists.intro
    refine ⟨?_, ?_⟩
    · go_simp
      rfl
    · exact ((Fill.start hc).set 0 _).set 1 _
  simp only [Act.put, List.nil_append, List.cons_append]
  repeat (refine mw_quiet ?_; apply Exists.intro; refine ⟨fun σ => ?_, ?_⟩; (first | (go_simp; rfl) | (go_simp; intro x; first | (go_at_call 26; exact toRing_any _ _ _ _ _) | (go_at_call 25; exact HS.out _))); simp only [Act.put, List.setIfInBounds_toArray, List.set_cons_succ, List.set_cons_zero, List.nil_append, List.cons_append])
  refine ⟨by kernel_rfl, fun σ w1 hF1 => ?_⟩
  have hx1 := hF1.ext
  obtain ⟨hm1_9, hl1_9, hq1_9, hr1_9⟩ := mfin_blk hF1 9 11 rfl (by decide) #[.int .i64 zA, .int .i64 zB, .int .i64 zC, .int .i64 zD] rfl
  obtain ⟨hm1_10, hl1_10, hq1_10, hr1_10⟩ := mfin_blk hF1 10 12 rfl (by decide) #[.int .i64 U, .int .i64 V] rfl
  dsimp only
  generalize σ 9 = B1_9 at *
  generalize σ 10 = B1_10 at *
  clear hF1 hxc
  obtain ⟨hc1, hf1⟩ := hx1.cells
  have hz1 := hx1.size
  try simp at hz1
  have hs1_0 := sz2 (a := w.heap.size) (b := w1.heap.size) (by omega)
  go_wp2
  refine wp_region_madeC (m := 44) (by kernel_rfl) (by kernel_rfl) rfl (fun hxc => ?_)
  repeat (refine mw_quiet ?_; apply Exists.intro; refine ⟨fun σ => ?_, ?_⟩; (first | (go_simp; rfl) | (go_simp; intro x; first | (go_at_call 26; exact toRing_any _ _ _ _ _) | (go_at_call 27; exact HI.out _))); simp only [Act.put, List.setIfInBounds_toArray, List.set_cons_succ, List.set_cons_zero, List.nil_append, List.cons_append])
  refine mw_maker (fun n => .pointer (some ⟨n, 0, none⟩)) 40 #[.int .i64 0, .int .i64 0, .int .i64 0, .int .i64 0] 11 #[.int .i64 zA, .int .i64 zB, .int .i64 zC, .int .i64 zD] rfl (fun σ x => ?_) ?_
  · go_simp
  simp only [Act.put, List.setIfInBounds_toArray, List.set_cons_succ, List.set_cons_zero, List.nil_append, List.cons_append, List.length_cons, List.length_nil, Nat.reduceAdd]
  repeat (refine mw_quiet ?_; apply Exists.intro; refine ⟨fun σ => ?_, ?_⟩; (first | (go_simp; rfl) | (go_simp; intro x; first | (go_at_call 26; exact toRing_any _ _ _ _ _) | (go_at_call 27; exact HI.out _))); simp only [Act.put, List.setIfInBounds_toArray, List.set_cons_succ, List.set_cons_zero, List.nil_append, List.cons_append])
  refine mw_maker (fun n => .pointer (some ⟨n, 0, none⟩)) 35 #[.int .i64 0, .int .i64 0] 12 #[.int .i64 U, .int .i64 V] rfl (fun σ x => ?_) ?_
  · go_simp
  simp only [Act.put, List.setIfInBounds_toArray, List.set_cons_succ, List.set_cons_zero, List.nil_append, List.cons_append, List.length_cons, List.length_nil, Nat.reduceAdd]
  repeat (refine mw_quiet ?_; apply Exists.intro; refine ⟨fun σ => ?_, ?_⟩; (first | (go_simp; rfl) | (go_simp; intro x; first | (go_at_call 26; exact toRing_any _ _ _ _ _) | (go_at_call 27; exact HI.out _))); simp only [Act.put, List.setIfInBounds_toArray, List.set_cons_succ, List.set_cons_zero, List.nil_append, List.cons_append])
  refine mw_store 9 rfl rfl (fun σ x hb hc => ?_) ?_
  · have hcell : ∀ k, x.w.cell? ⟨σ 9, k, none⟩ = (#[.int .i64 0, .int .i64 0, .int .i64 0, .int .i64 0] : Array Value)[k]? := fun k => cell_of_row _ _ _ _ _ _ hc
    have hfr : ∀ k, x.w.frozen? ⟨σ 9, k, none⟩ = false := fun k => frozen_of_row _ _ _ _ _ hc
    apply Exists.intro
    refine ⟨?_, ?_⟩
    · go_simp
      rfl
    · exact ((((Fill.start hc).set 0 _).set 1 _).set 2 _).set 3 _
  simp only [Act.put, List.nil_append, List.cons_append]
  repeat (refine mw_quiet ?_; apply Exists.intro; refine ⟨fun σ => ?_, ?_⟩; (first | (go_simp; rfl) | (go_simp; intro x; first | (go_at_call 26; exact toRing_any _ _ _ _ _) | (go_at_call 27; exact HI.out _))); simp only [Act.put, List.setIfInBounds_toArray, List.set_cons_succ, List.set_cons_zero, List.nil_append, List.cons_append])
  refine mw_store 10 rfl rfl (fun σ x hb hc => ?_) ?_
  · have hcell : ∀ k, x.w.cell? ⟨σ 10, k, none⟩ = (#[.int .i64 0, .int .i64 0] : Array Value)[k]? := fun k => cell_of_row _ _ _ _ _ _ hc
    have hfr : ∀ k, x.w.frozen? ⟨σ 10, k, none⟩ = false := fun k => frozen_of_row _ _ _ _ _ hc
    apply Exists.intro
    refine ⟨?_, ?_⟩
    · go_simp
      rfl
    · exact ((Fill.start hc).set 0 _).set 1 _
  simp only [Act.put, List.nil_append, List.cons_append]
  repeat (refine mw_quiet ?_; apply Exists.intro; refine ⟨fun σ => ?_, ?_⟩; (first | (go_simp; rfl) | (go_simp; intro x; first | (go_at_call 26; exact toRing_any _ _ _ _ _) | (go_at_call 27; exact HI.out _))); simp only [Act.put, List.setIfInBounds_toArray, List.set_cons_succ, List.set_cons_zero, List.nil_append, List.cons_append])
  refine ⟨by kernel_rfl, fun σ w2 hF2 => ?_⟩
  have hx2 := hF2.ext
  obtain ⟨hm2_9, hl2_9, hq2_9, hr2_9⟩ := mfin_blk hF2 9 11 rfl (by decide) #[.int .i64 zA, .int .i64 zB, .int .i64 zC, .int .i64 zD] rfl
  obtain ⟨hm2_10, hl2_10, hq2_10, hr2_10⟩ := mfin_blk hF2 10 12 rfl (by decide) #[.int .i64 U, .int .i64 V] rfl
  dsimp only
  generalize σ 9 = B2_9 at *
  generalize σ 10 = B2_10 at *
  clear hF2 hxc
  obtain ⟨hc2, hf2⟩ := hx2.cells
  have hz2 := hx2.size
  try simp at hz2
  have hs2_0 := sz2 (a := w.heap.size) (b := w2.heap.size) (by omega)
  have hb1 : B1_9 < w2.heap.size := by omega
  have hb2 : B1_10 < w2.heap.size := by omega
  go_wp2_with fail
  refine (eqRing_same _ _ _ _ _).mono ?_
  rintro e w3 ⟨rfl, hx3⟩
  obtain ⟨hc3, hf3⟩ := hx3.cells
  have hz3 := hx3.size
  try simp at hz3
  have hs3_0 := sz2 (a := w.heap.size) (b := w3.heap.size) (by omega)
  go_wp2_with fail
  refine (eqRoot2_same _ _ _).mono ?_
  rintro e w4 ⟨rfl, hx4⟩
  obtain ⟨hc4, hf4⟩ := hx4.cells
  have hz4 := hx4.size
  try simp at hz4
  have hs4_0 := sz2 (a := w.heap.size) (b := w4.heap.size) (by omega)
  go_wp2
  go_ret
  exact ⟨rfl, (by repeat (first | exact Ext.refl _ | assumption | refine Ext.alloc ?_ _ | refine Ext.drew ?_ | refine Ext.drewN ?_ _ | refine Ext.setCell ?_ (by first | omega | (dsimp only; omega) | (simp; done) | (simp; omega)) _ | refine Ext.trans ?_ (by assumption)))⟩

end Go.Proofs.Ytkjamaacapaokaa
