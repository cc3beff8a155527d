/- Dyadic numbers: products, norms and comparisons on the program's side; the law on comparisons. -/
import Derived.Test.YtamiploliebplaaDoorDyM
import Derived.Test.YtamiploliebplaaDoorDyJ
namespace Go.Proofs.YtamiploliebplaaDoor
open Go.RowKit Go.Lib
set_option linter.unusedVariables false
set_option linter.unusedSimpArgs false

def muOk (X : R4) (e : Int) (Y : R4) (j : Int) : Bool := GD X e && GD Y j && !mvBad X e.toNat Y j.toNat
def muX (X : R4) (e : Int) (Y : R4) (j : Int) : R4 := if muOk X e Y j then mvX X e.toNat Y j.toNat else R4.zero
def muE (X : R4) (e : Int) (Y : R4) (j : Int) : Int := if muOk X e Y j then (mvE X e.toNat Y j.toNat : Int) else 0
theorem mu_false {X : R4} {e : Int} {Y : R4} {j : Int} (h : muOk X e Y j = false) : muX X e Y j = R4.zero ∧ muE X e Y j = 0 := by
  unfold muX muE
  rw [h]
  exact ⟨rfl, rfl⟩
theorem mu_true {X : R4} {e : Int} {Y : R4} {j : Int} (h : muOk X e Y j = true) : muX X e Y j = mvX X e.toNat Y j.toNat ∧ muE X e Y j = (mvE X e.toNat Y j.toNat : Int) := by
  unfold muX muE
  rw [h]
  exact ⟨rfl, rfl⟩
theorem conj_valid {Y : R4} {j : Int} (h : GD Y j = true) : GD Y.conj j = true := by
  obtain ⟨r1, r2, r3, r4⟩ := GD_rg h
  unfold GD
  rw [rg_conj r1]
  have e : Y.conj.ev = Y.ev := by
    unfold R4.ev R4.conj evR
    simp only
    rw [Bool.eq_iff_iff]
    simp only [Bool.and_eq_true, beq_iff_eq]
    have key : ∀ x : Int, Int.tmod x 2 = 0 ↔ x % 2 = 0 := fun x => by
      rw [Int.tmod_eq_emod]; split <;> omega
    simp only [key]
    omega
  rw [e]
  rcases r4 with r4 | r4
  · subst r4; rfl
  · rw [r4]; simp; omega

theorem dyadicOf_bad (X : R4) (hX : X.rg = true) (e : Int) (he : 60 < e) (w : World) :
    Calls Tryd.prog 89 #[.agg #[.int .i64 X.a, .int .i64 X.b, .int .i64 X.c, .int .i64 X.d], .int .i64 e] w fun en w' => en = .returned (.tuple #[.agg #[.int .i64 0, .int .i64 0, .int .i64 0, .int .i64 0, .int .i64 0], .bool false]) ∧ Ext w w' := by
  have HV : ∀ w', Hid (Calls Tryd.prog 61 #[.agg #[.int .i64 X.a, .int .i64 X.b, .int .i64 X.c, .int .i64 X.d]] w' fun e w'' => e = .returned (.bool true) ∧ Ext w' w'') := by
    rw [← hX]
    exact fun w' => isValidRing_any X.a X.b X.c X.d w'
  have hw : Wn e 0 60 = false := Wn_not.2 (by omega)
  have HW : ∀ w', Hid (Calls Tryd.prog 60 #[.int .i64 e, .int .i64 0, .int .i64 60] w' fun e w'' => e = .returned (.bool false) ∧ w' = w'') := by
    rw [← hw]
    exact fun w' => within_any _ _ _ w'
  clear hX hw
  go_enter Tryd.func89, Tryd.ntmps89
  go_wp2_with fail
  refine ((HV _).out).mono ?_
  rintro e w1 ⟨rfl, hx1⟩
  obtain ⟨hc1, hf1⟩ := hx1.cells
  have hz1 := hx1.size
  try simp at hz1
  have hs1_0 := sz2 (a := w.heap.size) (b := w1.heap.size) (by omega)
  go_wp2_with (go_at_call 60; ((with_reducible refine ((HW _).out).mono ?_); rintro e w' ⟨rfl, rfl⟩))
  refine bodyPost_ret (v := .tuple #[.agg #[.int .i64 0, .int .i64 0, .int .i64 0, .int .i64 0, .int .i64 0], .bool false]) (by simp [results, Tryd.results89, go_sem, *]) rfl ⟨rfl, ?_⟩
  exact (by repeat (first | (with_reducible refine Ext.setCell ?_ (by first | (simp; done) | (simp; omega)) _) | with_reducible refine Ext.alloc ?_ _ | with_reducible refine Ext.drew ?_ | with_reducible refine Ext.drewN ?_ _ | with_reducible assumption | with_reducible exact Ext.refl _ | with_reducible refine Ext.trans ?_ (by with_reducible assumption)))

set_option maxHeartbeats 1000000 in
theorem mulDyadic_any (X : R4) (e : Int) (Y : R4) (j : Int) (w : World) :
    Calls Tryd.prog 65 #[.agg #[.int .i64 X.a, .int .i64 X.b, .int .i64 X.c, .int .i64 X.d, .int .i64 e], .agg #[.int .i64 Y.a, .int .i64 Y.b, .int .i64 Y.c, .int .i64 Y.d, .int .i64 j]] w fun en w' =>
      en = .returned (.tuple #[.agg #[.int .i64 (muX X e Y j).a, .int .i64 (muX X e Y j).b, .int .i64 (muX X e Y j).c, .int .i64 (muX X e Y j).d, .int .i64 (muE X e Y j)], .bool (muOk X e Y j)]) ∧ Ext w w' := by
  have HG1 : ∀ w', Hid (Calls Tryd.prog 43 #[.agg #[.int .i64 X.a, .int .i64 X.b, .int .i64 X.c, .int .i64 X.d, .int .i64 e]] w' fun en w'' => en = .returned (.bool (GD X e)) ∧ Ext w' w'') := fun w' => isValidDyadic_any X.a X.b X.c X.d e w'
  have HG2 : ∀ w', Hid (Calls Tryd.prog 43 #[.agg #[.int .i64 Y.a, .int .i64 Y.b, .int .i64 Y.c, .int .i64 Y.d, .int .i64 j]] w' fun en w'' => en = .returned (.bool (GD Y j)) ∧ Ext w' w'') := fun w' => isValidDyadic_any Y.a Y.b Y.c Y.d j w'
  have HM := fun w' => Lib.hid (mulRing_any X.a X.b X.c X.d Y.a Y.b Y.c Y.d w')
  have HO : Hid (muOk X e Y j = (GD X e && GD Y j && !mvBad X e.toNat Y j.toNat)) := rfl
  have HZ : Hid (muOk X e Y j = false → muX X e Y j = R4.zero ∧ muE X e Y j = 0) := mu_false
  cases h1 : GD X e
  · rw [h1] at HG1 HO
    have HF := Lib.hid (HO.out.trans (show _ = false by simp))
    generalize okMr X.a X.b X.c X.d Y.a Y.b Y.c Y.d = o at *
    go_enter Tryd.func65, Tryd.ntmps65
    go_wp2_with fail
    refine ((HM _).out).mono ?_
    rintro e w1 ⟨rfl, hx1⟩
    obtain ⟨hc1, hf1⟩ := hx1.cells
    have hz1 := hx1.size
    try simp at hz1
    have hs1_0 := sz3 (a := w.heap.size) (b := w1.heap.size) (by omega)
    go_wp2_with fail
    refine ((HG1 _).out).mono ?_
    rintro e w2 ⟨rfl, hx2⟩
    obtain ⟨hc2, hf2⟩ := hx2.cells
    have hz2 := hx2.size
    try simp at hz2
    have hs2_0 := sz3 (a := w.heap.size) (b := w2.heap.size) (by omega)
    have hs2_1 := sz1 (a := w1.heap.size) (b := w2.heap.size) (by omega)
    go_wp2
    refine bodyPost_ret (v := .tuple #[.agg #[.int .i64 0, .int .i64 0, .int .i64 0, .int .i64 0, .int .i64 0], .bool false]) (by simp [results, Tryd.results65, go_sem, *]) rfl ?_
    exact ⟨by rw [(HZ.out HF.out).1, (HZ.out HF.out).2, HF.out]; rfl, (by repeat (first | (with_reducible refine Ext.setCell ?_ (by first | (simp; done) | (simp; omega)) _) | with_reducible refine Ext.alloc ?_ _ | with_reducible refine Ext.drew ?_ | with_reducible refine Ext.drewN ?_ _ | with_reducible assumption | with_reducible exact Ext.refl _ | with_reducible refine Ext.trans ?_ (by with_reducible assumption)))⟩
  cases h2 : GD Y j
  · rw [h1] at HG1 HO
    rw [h2] at HG2 HO
    have HF := Lib.hid (HO.out.trans (show _ = false by simp))
    generalize okMr X.a X.b X.c X.d Y.a Y.b Y.c Y.d = o at *
    go_enter Tryd.func65, Tryd.ntmps65
    go_wp2_with fail
    refine ((HM _).out).mono ?_
    rintro e w1 ⟨rfl, hx1⟩
    obtain ⟨hc1, hf1⟩ := hx1.cells
    have hz1 := hx1.size
    try simp at hz1
    have hs1_0 := sz3 (a := w.heap.size) (b := w1.heap.size) (by omega)
    go_wp2_with fail
    refine ((HG1 _).out).mono ?_
    rintro e w2 ⟨rfl, hx2⟩
    obtain ⟨hc2, hf2⟩ := hx2.cells
    have hz2 := hx2.size
    try simp at hz2
    have hs2_0 := sz3 (a := w.heap.size) (b := w2.heap.size) (by omega)
    have hs2_1 := sz1 (a := w1.heap.size) (b := w2.heap.size) (by omega)
    go_wp2_with fail
    refine ((HG2 _).out).mono ?_
    rintro e w3 ⟨rfl, hx3⟩
    obtain ⟨hc3, hf3⟩ := hx3.cells
    have hz3 := hx3.size
    try simp at hz3
    have hs3_0 := sz3 (a := w.heap.size) (b := w3.heap.size) (by omega)
    have hs3_1 := sz1 (a := w1.heap.size) (b := w3.heap.size) (by omega)
    go_wp2
    refine bodyPost_ret (v := .tuple #[.agg #[.int .i64 0, .int .i64 0, .int .i64 0, .int .i64 0, .int .i64 0], .bool false]) (by simp [results, Tryd.results65, go_sem, *]) rfl ?_
    exact ⟨by rw [(HZ.out HF.out).1, (HZ.out HF.out).2, HF.out]; rfl, (by repeat (first | (with_reducible refine Ext.setCell ?_ (by first | (simp; done) | (simp; omega)) _) | with_reducible refine Ext.alloc ?_ _ | with_reducible refine Ext.drew ?_ | with_reducible refine Ext.drewN ?_ _ | with_reducible assumption | with_reducible exact Ext.refl _ | with_reducible refine Ext.trans ?_ (by with_reducible assumption)))⟩
  obtain ⟨r1, r2, r3, -⟩ := GD_rg h1
  obtain ⟨s1, s2, s3, -⟩ := GD_rg h2
  have HT : Hid (muOk X e Y j = true → muX X e Y j = mvX X e.toNat Y j.toNat ∧ muE X e Y j = (mvE X e.toNat Y j.toNat : Int)) := mu_true
  have e1 : okMr X.a X.b X.c X.d Y.a Y.b Y.c Y.d = (X.mul Y).rg := by
    unfold okMr
    rw [show Rg X.a X.b X.c X.d = true from r1, show Rg Y.a Y.b Y.c Y.d = true from s1]
    rfl
  have HM2 : ∀ w', Hid (Calls Tryd.prog 88 #[.agg #[.int .i64 X.a, .int .i64 X.b, .int .i64 X.c, .int .i64 X.d], .agg #[.int .i64 Y.a, .int .i64 Y.b, .int .i64 Y.c, .int .i64 Y.d]] w' fun en w'' => en = .returned (.tuple #[.agg #[.int .i64 (X.mul Y).clip.a, .int .i64 (X.mul Y).clip.b, .int .i64 (X.mul Y).clip.c, .int .i64 (X.mul Y).clip.d], .bool (X.mul Y).rg]) ∧ Ext w' w'') := by
    intro w'
    have := (HM w').out
    rw [e1] at this
    obtain ⟨c1, c2, c3, c4⟩ := clip_ifZ (X.mul Y)
    rw [c1, c2, c3, c4]
    exact this
  have hB : mvBad X e.toNat Y j.toNat = (decide (60 < e.toNat + j.toNat) || !(X.mul Y).rg) := rfl
  have HX : Hid (¬ 60 < e.toNat + j.toNat → mvX X e.toNat Y j.toNat = lowX (e.toNat + j.toNat) (X.mul Y).clip ∧ mvE X e.toNat Y j.toNat = lowE (e.toNat + j.toNat) (X.mul Y).clip) := fun h => by
    unfold mvX mvE
    rw [if_neg h, if_neg h]
    exact ⟨rfl, rfl⟩
  rw [h1, h2, hB] at HO
  rw [h1] at HG1
  rw [h2] at HG2
  have HC := Lib.hid (rg_clip (X.mul Y))
  clear HM e1 hB r1 s1 h1 h2
  generalize (X.mul Y).rg = g at *
  generalize (X.mul Y).clip = C at *
  cases g
  · have HF := Lib.hid (HO.out.trans (show _ = false by simp))
    go_enter Tryd.func65, Tryd.ntmps65
    go_wp2_with fail
    refine ((HM2 _).out).mono ?_
    rintro e w1 ⟨rfl, hx1⟩
    obtain ⟨hc1, hf1⟩ := hx1.cells
    have hz1 := hx1.size
    try simp at hz1
    have hs1_0 := sz3 (a := w.heap.size) (b := w1.heap.size) (by omega)
    go_wp2_with fail
    refine ((HG1 _).out).mono ?_
    rintro e w2 ⟨rfl, hx2⟩
    obtain ⟨hc2, hf2⟩ := hx2.cells
    have hz2 := hx2.size
    try simp at hz2
    have hs2_0 := sz3 (a := w.heap.size) (b := w2.heap.size) (by omega)
    have hs2_1 := sz1 (a := w1.heap.size) (b := w2.heap.size) (by omega)
    go_wp2_with fail
    refine ((HG2 _).out).mono ?_
    rintro e w3 ⟨rfl, hx3⟩
    obtain ⟨hc3, hf3⟩ := hx3.cells
    have hz3 := hx3.size
    try simp at hz3
    have hs3_0 := sz3 (a := w.heap.size) (b := w3.heap.size) (by omega)
    have hs3_1 := sz1 (a := w1.heap.size) (b := w3.heap.size) (by omega)
    go_wp2
    refine bodyPost_ret (v := .tuple #[.agg #[.int .i64 0, .int .i64 0, .int .i64 0, .int .i64 0, .int .i64 0], .bool false]) (by simp [results, Tryd.results65, go_sem, *]) rfl ?_
    exact ⟨by rw [(HZ.out HF.out).1, (HZ.out HF.out).2, HF.out]; rfl, (by repeat (first | (with_reducible refine Ext.setCell ?_ (by first | (simp; done) | (simp; omega)) _) | with_reducible refine Ext.alloc ?_ _ | with_reducible refine Ext.drew ?_ | with_reducible refine Ext.drewN ?_ _ | with_reducible assumption | with_reducible exact Ext.refl _ | with_reducible refine Ext.trans ?_ (by with_reducible assumption)))⟩
  by_cases h0 : 60 < e.toNat + j.toNat
  · have HF := Lib.hid (HO.out.trans (show _ = false by simp [h0]))
    have HD := fun w' => Lib.hid (dyadicOf_bad C HC.out (e + j) (by omega) w')
    clear h0
    go_enter Tryd.func65, Tryd.ntmps65
    go_wp2_with fail
    refine ((HM2 _).out).mono ?_
    rintro e w1 ⟨rfl, hx1⟩
    obtain ⟨hc1, hf1⟩ := hx1.cells
    have hz1 := hx1.size
    try simp at hz1
    have hs1_0 := sz3 (a := w.heap.size) (b := w1.heap.size) (by omega)
    go_wp2_with fail
    refine ((HG1 _).out).mono ?_
    rintro e w2 ⟨rfl, hx2⟩
    obtain ⟨hc2, hf2⟩ := hx2.cells
    have hz2 := hx2.size
    try simp at hz2
    have hs2_0 := sz3 (a := w.heap.size) (b := w2.heap.size) (by omega)
    have hs2_1 := sz1 (a := w1.heap.size) (b := w2.heap.size) (by omega)
    go_wp2_with fail
    refine ((HG2 _).out).mono ?_
    rintro e w3 ⟨rfl, hx3⟩
    obtain ⟨hc3, hf3⟩ := hx3.cells
    have hz3 := hx3.size
    try simp at hz3
    have hs3_0 := sz3 (a := w.heap.size) (b := w3.heap.size) (by omega)
    have hs3_1 := sz1 (a := w1.heap.size) (b := w3.heap.size) (by omega)
    go_wp2_with fail
    refine ((HD _).out).mono ?_
    rintro e w4 ⟨rfl, hx4⟩
    obtain ⟨hc4, hf4⟩ := hx4.cells
    have hz4 := hx4.size
    try simp at hz4
    have hs4_0 := sz3 (a := w.heap.size) (b := w4.heap.size) (by omega)
    have hs4_1 := sz1 (a := w1.heap.size) (b := w4.heap.size) (by omega)
    go_wp2
    refine bodyPost_ret (v := .tuple #[.agg #[.int .i64 0, .int .i64 0, .int .i64 0, .int .i64 0, .int .i64 0], .bool false]) (by simp [results, Tryd.results65, go_sem, *]) rfl ?_
    exact ⟨by rw [(HZ.out HF.out).1, (HZ.out HF.out).2, HF.out]; rfl, (by repeat (first | (with_reducible refine Ext.setCell ?_ (by first | (simp; done) | (simp; omega)) _) | with_reducible refine Ext.alloc ?_ _ | with_reducible refine Ext.drew ?_ | with_reducible refine Ext.drewN ?_ _ | with_reducible assumption | with_reducible exact Ext.refl _ | with_reducible refine Ext.trans ?_ (by with_reducible assumption)))⟩
  · have HG := Lib.hid (HO.out.trans (show _ = true by simp [h0]))
    have HD := fun w' => Lib.hid (dyadicOf_any (e.toNat + j.toNat) (by omega) C HC.out w')
    have e2 : ((e.toNat + j.toNat : Nat) : Int) = e + j := by omega
    simp only [e2] at HD
    have HQ := Lib.hid ((HT.out HG.out).1.trans (HX.out h0).1)
    have Hq := Lib.hid ((HT.out HG.out).2.trans (congrArg Int.ofNat (HX.out h0).2))
    clear h0 e2 HX HT
    generalize lowX (e.toNat + j.toNat) C = Q at *
    generalize lowE (e.toNat + j.toNat) C = q at *
    go_enter Tryd.func65, Tryd.ntmps65
    go_wp2_with fail
    refine ((HM2 _).out).mono ?_
    rintro e w1 ⟨rfl, hx1⟩
    obtain ⟨hc1, hf1⟩ := hx1.cells
    have hz1 := hx1.size
    try simp at hz1
    have hs1_0 := sz3 (a := w.heap.size) (b := w1.heap.size) (by omega)
    go_wp2_with fail
    refine ((HG1 _).out).mono ?_
    rintro e w2 ⟨rfl, hx2⟩
    obtain ⟨hc2, hf2⟩ := hx2.cells
    have hz2 := hx2.size
    try simp at hz2
    have hs2_0 := sz3 (a := w.heap.size) (b := w2.heap.size) (by omega)
    have hs2_1 := sz1 (a := w1.heap.size) (b := w2.heap.size) (by omega)
    go_wp2_with fail
    refine ((HG2 _).out).mono ?_
    rintro e w3 ⟨rfl, hx3⟩
    obtain ⟨hc3, hf3⟩ := hx3.cells
    have hz3 := hx3.size
    try simp at hz3
    have hs3_0 := sz3 (a := w.heap.size) (b := w3.heap.size) (by omega)
    have hs3_1 := sz1 (a := w1.heap.size) (b := w3.heap.size) (by omega)
    go_wp2_with fail
    refine ((HD _).out).mono ?_
    rintro e w4 ⟨rfl, hx4⟩
    obtain ⟨hc4, hf4⟩ := hx4.cells
    have hz4 := hx4.size
    try simp at hz4
    have hs4_0 := sz3 (a := w.heap.size) (b := w4.heap.size) (by omega)
    have hs4_1 := sz1 (a := w1.heap.size) (b := w4.heap.size) (by omega)
    go_wp2
    refine bodyPost_ret (v := .tuple #[.agg #[.int .i64 Q.a, .int .i64 Q.b, .int .i64 Q.c, .int .i64 Q.d, .int .i64 q], .bool true]) (by simp [results, Tryd.results65, go_sem, *]) rfl ?_
    exact ⟨by rw [HQ.out, Hq.out, HG.out]; rfl, (by repeat (first | (with_reducible refine Ext.setCell ?_ (by first | (simp; done) | (simp; omega)) _) | with_reducible refine Ext.alloc ?_ _ | with_reducible refine Ext.drew ?_ | with_reducible refine Ext.drewN ?_ _ | with_reducible assumption | with_reducible exact Ext.refl _ | with_reducible refine Ext.trans ?_ (by with_reducible assumption)))⟩

end Go.Proofs.YtamiploliebplaaDoor
