/- The reference's ring: validity, products, squares. -/
import Derived.Test.YtkjamaacapaokaaRows
import Derived.Test.YtkjamaacapaokaaMulRing
namespace Go.Proofs.Ytkjamaacapaokaa
open Go.RowKit

theorem allW4 (a b c d : Int) : AllW [a, b, c, d] (-1000000000) 1000000000 = Rg a b c d := by simp [AllW, Rg, Cf, Bool.and_assoc]
theorem l1Good_any (a b c d : Int) (w : World) :
    Calls Try.prog 98 #[.agg #[.int .i64 a, .int .i64 b, .int .i64 c, .int .i64 d]] w fun e w' => e = .returned (.bool (Rg a b c d)) ∧ Ext w w' := by
  go_enter Try.func98, Try.ntmps98
  go_wp2_with fail
  refine (l1All_any [a, b, c, d] _ _ _ _ _ _ rfl (by simp) (fun k hk => ?_)).mono ?_
  · rcases k with _ | _ | _ | _ | k
    · simp [go_sem]
    · simp [go_sem]
    · simp [go_sem]
    · simp [go_sem]
    · simp at hk
      omega
  rintro e w' ⟨rfl, rfl⟩
  go_wp2
  go_ret
  exact ⟨ret_bool (allW4 _ _ _ _), (by repeat (first | exact Ext.refl _ | assumption | refine Ext.alloc ?_ _ | refine Ext.drew ?_ | refine Ext.drewN ?_ _ | refine Ext.setCell ?_ (by first | omega | (dsimp only; omega) | (simp; done) | (simp; omega)) _ | refine Ext.trans ?_ (by assumption)))⟩

set_option maxHeartbeats 1000000 in
theorem l1Out_any (a b c d : Int) (w : World) :
    Calls Try.prog 112 #[.agg #[.int .i64 a, .int .i64 b, .int .i64 c, .int .i64 d]] w fun e w' => e = .returned (.tuple #[.agg #[.int .i64 (ifZ (Rg a b c d) a), .int .i64 (ifZ (Rg a b c d) b), .int .i64 (ifZ (Rg a b c d) c), .int .i64 (ifZ (Rg a b c d) d)], .bool (Rg a b c d)]) ∧ Ext w w' := by
  cases h : Rg a b c d
  · go_enter Try.func112, Try.ntmps112
    go_wp2_with fail
    refine (l1Good_any _ _ _ _ _).mono ?_
    rintro e w1 ⟨rfl, hx1⟩
    obtain ⟨hc1, hf1⟩ := hx1.cells
    have hz1 := hx1.size
    try simp at hz1
    have hs1_0 := sz2 (a := w.heap.size) (b := w1.heap.size) (by omega)
    go_wp2
    refine bodyPost_ret (v := .tuple #[.agg #[.int .i64 0, .int .i64 0, .int .i64 0, .int .i64 0], .bool false]) (by simp [results, Try.results112, go_sem, *]) rfl ⟨rfl, ?_⟩
    exact (by repeat (first | exact Ext.refl _ | assumption | refine Ext.alloc ?_ _ | refine Ext.drew ?_ | refine Ext.drewN ?_ _ | refine Ext.setCell ?_ (by first | omega | (dsimp only; omega) | (simp; done) | (simp; omega)) _ | refine Ext.trans ?_ (by assumption)))
  · go_enter Try.func112, Try.ntmps112
    go_wp2_with fail
    refine (l1Good_any _ _ _ _ _).mono ?_
    rintro e w1 ⟨rfl, hx1⟩
    obtain ⟨hc1, hf1⟩ := hx1.cells
    have hz1 := hx1.size
    try simp at hz1
    have hs1_0 := sz2 (a := w.heap.size) (b := w1.heap.size) (by omega)
    go_wp2
    refine bodyPost_ret (v := .tuple #[.agg #[.int .i64 a, .int .i64 b, .int .i64 c, .int .i64 d], .bool true]) (by simp [results, Try.results112, go_sem, *]) rfl ⟨rfl, ?_⟩
    (repeat (refine Ext.setCell ?_ (by first | (simp; done) | (simp; omega)) _)); exact Ext.trans (((Ext.refl w).alloc _).alloc _) hx1

set_option maxHeartbeats 1000000 in
theorem l1Mul_any (a b c d e f g h : Int) (h0 : P16 a b c d e f g h) (w : World) :
    Calls Try.prog 113 #[.agg #[.int .i64 a, .int .i64 b, .int .i64 c, .int .i64 d], .agg #[.int .i64 e, .int .i64 f, .int .i64 g, .int .i64 h]] w fun en w' =>
      en = .returned (.agg #[.int .i64 (mrA a b c d e f g h), .int .i64 (mrB a b c d e f g h), .int .i64 (mrC a b c d e f g h), .int .i64 (mrD a b c d e f g h)]) ∧ Ext w w' := by
  obtain ⟨p1, p2, p3, p4, p5, p6, p7, p8, p9, p10, p11, p12, p13, p14, p15, p16⟩ := h0
  go_enter Try.func113, Try.ntmps113
  go_wp2
  refine bodyPost_ret (v := .agg #[.int .i64 (a * e - b * h - c * g - d * f), .int .i64 (a * f + b * e - c * h - d * g), .int .i64 (a * g + b * f + c * e - d * h), .int .i64 (a * h + b * g + c * f + d * e)]) (by simp [results, Try.results113, go_sem, *]) rfl ⟨rfl, ?_⟩
  exact (by repeat (first | exact Ext.refl _ | assumption | refine Ext.alloc ?_ _ | refine Ext.drew ?_ | refine Ext.drewN ?_ _ | refine Ext.setCell ?_ (by first | omega | (dsimp only; omega) | (simp; done) | (simp; omega)) _ | refine Ext.trans ?_ (by assumption)))

set_option maxHeartbeats 1000000 in
theorem s_mulRing_any (a b c d e f g h : Int) (w : World) :
    Calls Try.prog 70 #[.agg #[.int .i64 a, .int .i64 b, .int .i64 c, .int .i64 d], .agg #[.int .i64 e, .int .i64 f, .int .i64 g, .int .i64 h]] w fun en w' =>
      en = .returned (.tuple #[.agg #[.int .i64 (ifZ (okMr a b c d e f g h) (mrA a b c d e f g h)), .int .i64 (ifZ (okMr a b c d e f g h) (mrB a b c d e f g h)), .int .i64 (ifZ (okMr a b c d e f g h) (mrC a b c d e f g h)), .int .i64 (ifZ (okMr a b c d e f g h) (mrD a b c d e f g h))],
        .bool (okMr a b c d e f g h)]) ∧ Ext w w' := by
  cases h1 : Rg a b c d
  · have HO : Hid (okMr a b c d e f g h = false) := by unfold Hid okMr; rw [h1]; rfl
    rw [HO.out]
    clear HO
    go_enter Try.func70, Try.ntmps70
    go_wp2_with fail
    refine (l1Good_any _ _ _ _ _).mono ?_
    rintro e w1 ⟨rfl, hx1⟩
    obtain ⟨hc1, hf1⟩ := hx1.cells
    have hz1 := hx1.size
    try simp at hz1
    have hs1_0 := sz3 (a := w.heap.size) (b := w1.heap.size) (by omega)
    go_wp2
    refine bodyPost_ret (v := .tuple #[.agg #[.int .i64 0, .int .i64 0, .int .i64 0, .int .i64 0], .bool false]) (by simp [results, Try.results70, go_sem, *]) rfl ⟨rfl, ?_⟩
    exact (by repeat (first | exact Ext.refl _ | assumption | refine Ext.alloc ?_ _ | refine Ext.drew ?_ | refine Ext.drewN ?_ _ | refine Ext.setCell ?_ (by first | omega | (dsimp only; omega) | (simp; done) | (simp; omega)) _ | refine Ext.trans ?_ (by assumption)))
  cases h2 : Rg e f g h
  · have HO : Hid (okMr a b c d e f g h = false) := by unfold Hid okMr; rw [h2, Bool.and_false]; rfl
    rw [HO.out]
    clear HO
    go_enter Try.func70, Try.ntmps70
    go_wp2_with fail
    refine (l1Good_any _ _ _ _ _).mono ?_
    rintro e w1 ⟨rfl, hx1⟩
    obtain ⟨hc1, hf1⟩ := hx1.cells
    have hz1 := hx1.size
    try simp at hz1
    have hs1_0 := sz3 (a := w.heap.size) (b := w1.heap.size) (by omega)
    go_wp2_with fail
    refine (l1Good_any _ _ _ _ _).mono ?_
    rintro e w2 ⟨rfl, hx2⟩
    obtain ⟨hc2, hf2⟩ := hx2.cells
    have hz2 := hx2.size
    try simp at hz2
    have hs2_0 := sz3 (a := w.heap.size) (b := w2.heap.size) (by omega)
    go_wp2
    refine bodyPost_ret (v := .tuple #[.agg #[.int .i64 0, .int .i64 0, .int .i64 0, .int .i64 0], .bool false]) (by simp [results, Try.results70, go_sem, *]) rfl ⟨rfl, ?_⟩
    exact (by repeat (first | exact Ext.refl _ | assumption | refine Ext.alloc ?_ _ | refine Ext.drew ?_ | refine Ext.drewN ?_ _ | refine Ext.setCell ?_ (by first | omega | (dsimp only; omega) | (simp; done) | (simp; omega)) _ | refine Ext.trans ?_ (by assumption)))
  have HO : Hid (okMr a b c d e f g h = Rg (mrA a b c d e f g h) (mrB a b c d e f g h) (mrC a b c d e f g h) (mrD a b c d e f g h)) := by unfold Hid okMr; rw [h1, h2]; rfl
  have HP := Lib.hid (p16 h1 h2)
  rw [HO.out]
  clear HO
  go_enter Try.func70, Try.ntmps70
  go_wp2_with fail
  refine (l1Good_any _ _ _ _ _).mono ?_
  rintro e w1 ⟨rfl, hx1⟩
  obtain ⟨hc1, hf1⟩ := hx1.cells
  have hz1 := hx1.size
  try simp at hz1
  have hs1_0 := sz3 (a := w.heap.size) (b := w1.heap.size) (by omega)
  go_wp2_with fail
  refine (l1Good_any _ _ _ _ _).mono ?_
  rintro e w2 ⟨rfl, hx2⟩
  obtain ⟨hc2, hf2⟩ := hx2.cells
  have hz2 := hx2.size
  try simp at hz2
  have hs2_0 := sz3 (a := w.heap.size) (b := w2.heap.size) (by omega)
  go_wp2_with fail
  refine (l1Mul_any _ _ _ _ _ _ _ _ HP.out _).mono ?_
  rintro e w3 ⟨rfl, hx3⟩
  obtain ⟨hc3, hf3⟩ := hx3.cells
  have hz3 := hx3.size
  try simp at hz3
  have hs3_0 := sz3 (a := w.heap.size) (b := w3.heap.size) (by omega)
  go_wp2_with fail
  refine (l1Out_any _ _ _ _ _).mono ?_
  rintro e w4 ⟨rfl, hx4⟩
  obtain ⟨hc4, hf4⟩ := hx4.cells
  have hz4 := hx4.size
  try simp at hz4
  have hs4_0 := sz3 (a := w.heap.size) (b := w4.heap.size) (by omega)
  go_wp2
  refine bodyPost_ret (v := .tuple #[.agg #[.int .i64 (ifZ (Rg (mrA a b c d e f g h) (mrB a b c d e f g h) (mrC a b c d e f g h) (mrD a b c d e f g h)) (mrA a b c d e f g h)), .int .i64 (ifZ (Rg (mrA a b c d e f g h) (mrB a b c d e f g h) (mrC a b c d e f g h) (mrD a b c d e f g h)) (mrB a b c d e f g h)), .int .i64 (ifZ (Rg (mrA a b c d e f g h) (mrB a b c d e f g h) (mrC a b c d e f g h) (mrD a b c d e f g h)) (mrC a b c d e f g h)), .int .i64 (ifZ (Rg (mrA a b c d e f g h) (mrB a b c d e f g h) (mrC a b c d e f g h) (mrD a b c d e f g h)) (mrD a b c d e f g h))], .bool (Rg (mrA a b c d e f g h) (mrB a b c d e f g h) (mrC a b c d e f g h) (mrD a b c d e f g h))]) (by simp [results, Try.results70, go_sem, *]) rfl ⟨rfl, ?_⟩
  exact (by repeat (first | exact Ext.refl _ | assumption | refine Ext.alloc ?_ _ | refine Ext.drew ?_ | refine Ext.drewN ?_ _ | refine Ext.setCell ?_ (by first | omega | (dsimp only; omega) | (simp; done) | (simp; omega)) _ | refine Ext.trans ?_ (by assumption)))

theorem l1AllC_any (p q : Int) (b cap : Nat) (w : World) (v : Bool) (hv : (Cf p && Cf q) = v) (h0 : w.cell? ⟨b, 0, none⟩ = some (.int .i64 p)) (h1 : w.cell? ⟨b, 1, none⟩ = some (.int .i64 q)) :
    Calls Try.prog 100 #[.slice (some ⟨b, 0, none⟩) 2 cap, .int .i64 (-1000000000), .int .i64 1000000000] w fun e w' => e = .returned (.bool v) ∧ w = w' :=
  (l1All2_any p q b cap _ _ w h0 h1).mono fun _ _ ⟨h, hw⟩ => ⟨h.trans (by rw [allW2]; exact congrArg _ (congrArg _ hv)), hw⟩

set_option maxHeartbeats 1000000 in
theorem s_absSquare_any (a b c d : Int) (w : World) :
    Calls Try.prog 46 #[.agg #[.int .i64 a, .int .i64 b, .int .i64 c, .int .i64 d]] w fun e w' => e = .returned (.tuple #[.int .i64 (absU a b c d), .int .i64 (absV a b c d), .bool (okSq a b c d)]) ∧ Ext w w' := by
  have HU : Hid (absU a b c d = ifZ (okSq a b c d) (sqU a b c d)) := rfl
  have HV : Hid (absV a b c d = ifZ (okSq a b c d) (sqV a b c d)) := rfl
  rw [HU.out, HV.out]
  clear HU HV
  cases h1 : Rg a b c d
  · have HO : Hid (okSq a b c d = false) := by unfold Hid okSq; rw [h1]; rfl
    rw [HO.out]
    clear HO
    go_enter Try.func46, Try.ntmps46
    go_wp2_with fail
    refine (l1Good_any _ _ _ _ _).mono ?_
    rintro e w1 ⟨rfl, hx1⟩
    obtain ⟨hc1, hf1⟩ := hx1.cells
    have hz1 := hx1.size
    try simp at hz1
    have hs1_0 := sz1 (a := w.heap.size) (b := w1.heap.size) (by omega)
    go_wp2
    go_ret3
    exact ⟨rfl, (by repeat (first | exact Ext.refl _ | assumption | refine Ext.alloc ?_ _ | refine Ext.drew ?_ | refine Ext.drewN ?_ _ | refine Ext.setCell ?_ (by first | omega | (dsimp only; omega) | (simp; done) | (simp; omega)) _ | refine Ext.trans ?_ (by assumption)))⟩
  cases h2 : Cf (sqU a b c d) && Cf (sqV a b c d)
  · have HO : Hid (okSq a b c d = false) := by unfold Hid okSq; rw [h1, Bool.true_and]; exact h2
    rw [HO.out]
    clear HO
    have HA := Lib.hid h2
    clear h2
    go_enter Try.func46, Try.ntmps46
    go_wp2_with fail
    refine (l1Good_any _ _ _ _ _).mono ?_
    rintro e w1 ⟨rfl, hx1⟩
    obtain ⟨hc1, hf1⟩ := hx1.cells
    have hz1 := hx1.size
    try simp at hz1
    have hs1_0 := sz1 (a := w.heap.size) (b := w1.heap.size) (by omega)
    go_wp2_with fail
    refine (l1Abs_any _ _ _ _ h1 _).mono ?_
    rintro e w2 ⟨rfl, hx2⟩
    obtain ⟨hc2, hf2⟩ := hx2.cells
    have hz2 := hx2.size
    try simp at hz2
    have hs2_0 := sz1 (a := w.heap.size) (b := w2.heap.size) (by omega)
    go_wp2_with (go_at_call 100; ((with_reducible refine (l1AllC_any _ _ _ _ _ _ HA.out (by simp [go_sem]) (by simp [go_sem])).mono ?_); rintro e w' ⟨rfl, rfl⟩))
    go_ret3
    exact ⟨rfl, (by repeat (first | exact Ext.refl _ | assumption | refine Ext.alloc ?_ _ | refine Ext.drew ?_ | refine Ext.drewN ?_ _ | refine Ext.setCell ?_ (by first | omega | (dsimp only; omega) | (simp; done) | (simp; omega)) _ | refine Ext.trans ?_ (by assumption)))⟩
  · have HO : Hid (okSq a b c d = true) := by unfold Hid okSq; rw [h1, Bool.true_and]; exact h2
    rw [HO.out]
    clear HO
    have HA := Lib.hid h2
    clear h2
    go_enter Try.func46, Try.ntmps46
    go_wp2_with fail
    refine (l1Good_any _ _ _ _ _).mono ?_
    rintro e w1 ⟨rfl, hx1⟩
    obtain ⟨hc1, hf1⟩ := hx1.cells
    have hz1 := hx1.size
    try simp at hz1
    have hs1_0 := sz1 (a := w.heap.size) (b := w1.heap.size) (by omega)
    go_wp2_with fail
    refine (l1Abs_any _ _ _ _ h1 _).mono ?_
    rintro e w2 ⟨rfl, hx2⟩
    obtain ⟨hc2, hf2⟩ := hx2.cells
    have hz2 := hx2.size
    try simp at hz2
    have hs2_0 := sz1 (a := w.heap.size) (b := w2.heap.size) (by omega)
    go_wp2_with (go_at_call 100; ((with_reducible refine (l1AllC_any _ _ _ _ _ _ HA.out (by simp [go_sem]) (by simp [go_sem])).mono ?_); rintro e w' ⟨rfl, rfl⟩))
    go_ret3
    exact ⟨rfl, (by repeat (first | exact Ext.refl _ | assumption | refine Ext.alloc ?_ _ | refine Ext.drew ?_ | refine Ext.drewN ?_ _ | refine Ext.setCell ?_ (by first | omega | (dsimp only; omega) | (simp; done) | (simp; omega)) _ | refine Ext.trans ?_ (by assumption)))⟩

end Go.Proofs.Ytkjamaacapaokaa
