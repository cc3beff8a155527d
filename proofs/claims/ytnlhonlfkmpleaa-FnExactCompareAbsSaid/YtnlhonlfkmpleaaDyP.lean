/- Dyadic numbers: the law on comparisons of absolute values. -/
import Derived.Test.YtnlhonlfkmpleaaDyO
namespace Go.Proofs.Ytnlhonlfkmpleaa
open Go.RowKit Go.Lib
set_option linter.unusedVariables false
set_option linter.unusedSimpArgs false

theorem mu_ns {X : R4} {e : Int} (h : GD X e = true) : muOk X e X.conj e = nsOk X e ∧ muX X e X.conj e = nsX X e ∧ muE X e X.conj e = nsE X e := by
  have e1 : muOk X e X.conj e = nsOk X e := by
    unfold muOk nsOk
    rw [conj_valid h]
    simp
  unfold muX muE nsX nsE
  rw [e1]
  exact ⟨rfl, rfl, rfl⟩

theorem normSquare_any (X : R4) (e : Int) (w : World) :
    Calls Try.prog 68 #[.agg #[.int .i64 X.a, .int .i64 X.b, .int .i64 X.c, .int .i64 X.d, .int .i64 e]] w fun en w' =>
      en = .returned (.tuple #[.agg #[.int .i64 (nsX X e).a, .int .i64 (nsX X e).b, .int .i64 (nsX X e).c, .int .i64 (nsX X e).d, .int .i64 (nsE X e)], .bool (nsOk X e)]) ∧ Ext w w' := by
  have HC := fun w' => Lib.hid (conjDyadic_any X e w')
  cases h1 : GD X e
  · have HO : Hid (nsOk X e = false) := by unfold Hid nsOk; rw [h1]; rfl
    have HZ := Lib.hid (ns_false HO.out)
    rw [h1] at HC
    simp only [ifZ_false] at HC
    clear h1
    go_enter Try.func68, Try.ntmps68
    go_wp2_with fail
    refine ((HC _).out).mono ?_
    rintro e w1 ⟨rfl, hx1⟩
    obtain ⟨hc1, hf1⟩ := hx1.cells
    have hz1 := hx1.size
    try simp at hz1
    have hs1_0 := sz2 (a := w.heap.size) (b := w1.heap.size) (by omega)
    go_wp2
    refine bodyPost_ret (v := .tuple #[.agg #[.int .i64 0, .int .i64 0, .int .i64 0, .int .i64 0, .int .i64 0], .bool false]) (by simp [results, Try.results68, go_sem, *]) rfl ?_
    exact ⟨by rw [HZ.out.1, HZ.out.2, HO.out]; rfl, (by repeat (first | (with_reducible refine Ext.setCell ?_ (by first | (simp; done) | (simp; omega)) _) | with_reducible refine Ext.alloc ?_ _ | with_reducible refine Ext.drew ?_ | with_reducible refine Ext.drewN ?_ _ | with_reducible assumption | with_reducible exact Ext.refl _ | with_reducible refine Ext.trans ?_ (by with_reducible assumption)))⟩
  · have HM := fun w' => Lib.hid (mulDyadic_any X e X.conj e w')
    obtain ⟨e1, e2, e3⟩ := mu_ns h1
    simp only [e1, e2, e3] at HM
    rw [h1] at HC
    simp only [ifZ_true] at HC
    clear e1 e2 e3 h1
    generalize X.conj = Z at *
    generalize nsX X e = Q at *
    generalize nsE X e = q at *
    generalize nsOk X e = o at *
    go_enter Try.func68, Try.ntmps68
    go_wp2_with fail
    refine ((HC _).out).mono ?_
    rintro e w1 ⟨rfl, hx1⟩
    obtain ⟨hc1, hf1⟩ := hx1.cells
    have hz1 := hx1.size
    try simp at hz1
    have hs1_0 := sz2 (a := w.heap.size) (b := w1.heap.size) (by omega)
    go_wp2_with fail
    refine ((HM _).out).mono ?_
    rintro e w2 ⟨rfl, hx2⟩
    obtain ⟨hc2, hf2⟩ := hx2.cells
    have hz2 := hx2.size
    try simp at hz2
    have hs2_0 := sz2 (a := w.heap.size) (b := w2.heap.size) (by omega)
    have hs2_1 := sz1 (a := w1.heap.size) (b := w2.heap.size) (by omega)
    go_wp2
    refine bodyPost_ret (v := .tuple #[.agg #[.int .i64 Q.a, .int .i64 Q.b, .int .i64 Q.c, .int .i64 Q.d, .int .i64 q], .bool o]) (by simp [results, Try.results68, go_sem, *]) rfl ⟨rfl, ?_⟩
    exact (by repeat (first | (with_reducible refine Ext.setCell ?_ (by first | (simp; done) | (simp; omega)) _) | with_reducible refine Ext.alloc ?_ _ | with_reducible refine Ext.drew ?_ | with_reducible refine Ext.drewN ?_ _ | with_reducible assumption | with_reducible exact Ext.refl _ | with_reducible refine Ext.trans ?_ (by with_reducible assumption)))

theorem sub_ok {A : R4} {α : Int} {B : R4} {β : Int} (h1 : GD A α = true) (h2 : GD B β = true) :
    adOk A α B.neg β = !dyBad A α.toNat B.neg β.toNat ∧ (dyBad A α.toNat B.neg β.toNat = false → adX A α B.neg β = dyX A α.toNat B.neg β.toNat) := by
  have e1 : adOk A α B.neg β = !dyBad A α.toNat B.neg β.toNat := by unfold adOk; rw [h1, neg_valid, h2]; rfl
  refine ⟨e1, fun h => ?_⟩
  unfold adX
  rw [e1, h]
  rfl

set_option maxRecDepth 20000 in
set_option maxHeartbeats 1000000 in
theorem compareAbs_any (X : R4) (e : Int) (Y : R4) (j : Int) (w : World) :
    Calls Try.prog 29 #[.agg #[.int .i64 X.a, .int .i64 X.b, .int .i64 X.c, .int .i64 X.d, .int .i64 e], .agg #[.int .i64 Y.a, .int .i64 Y.b, .int .i64 Y.c, .int .i64 Y.d, .int .i64 j]] w fun en w' =>
      en = .returned (.tuple #[.int .i64 (caV X e Y j), .bool (caOk X e Y j)]) ∧ Ext w w' := by
  have HN1 := fun w' => Lib.hid (normSquare_any X e w')
  have HN2 := fun w' => Lib.hid (normSquare_any Y j w')
  have HO : Hid (caOk X e Y j = (nsOk X e && nsOk Y j && !dyBad (nsX X e) (nsE X e).toNat (nsX Y j).neg (nsE Y j).toNat)) := rfl
  have HV : Hid (caV X e Y j = if caOk X e Y j then S2 (caD X e Y j).a (caD X e Y j).b else 0) := rfl
  have HDD : Hid (caD X e Y j = dyX (nsX X e) (nsE X e).toNat (nsX Y j).neg (nsE Y j).toNat) := rfl
  obtain ⟨r1, r2, r3, -⟩ := GD_rg (ns_gd (X := X) (e := e))
  obtain ⟨s1, s2, s3, -⟩ := GD_rg (ns_gd (X := Y) (e := j))
  have HS := fun w' => Lib.hid (subDyadic_any (nsX X e) (nsE X e) (nsX Y j) (nsE Y j) w')
  obtain ⟨k1, k2⟩ := sub_ok (ns_gd (X := X) (e := e)) (ns_gd (X := Y) (e := j))
  have HK2 := Lib.hid k2
  have HDG := Lib.hid (GD_rg (ad_gd (X := nsX X e) (m := (nsE X e).toNat) (Y := (nsX Y j).neg) (n := (nsE Y j).toNat) (by omega) (by omega))).1
  rw [k1] at HS
  clear r1 s1 r2 r3 s2 s3 k1 k2
  generalize adX (nsX X e) (nsE X e) (nsX Y j).neg (nsE Y j) = D at *
  generalize adE (nsX X e) (nsE X e) (nsX Y j).neg (nsE Y j) = d at *
  obtain ⟨Q, hQ⟩ : ∃ Q, dyX (nsX X e) (nsE X e).toNat (nsX Y j).neg (nsE Y j).toNat = Q := ⟨_, rfl⟩
  obtain ⟨γ, hγ⟩ : ∃ γ, dyBad (nsX X e) (nsE X e).toNat (nsX Y j).neg (nsE Y j).toNat = γ := ⟨_, rfl⟩
  simp only [hQ, hγ] at HO HDD HK2 HDG HS
  clear hQ hγ
  obtain ⟨o1, ho1⟩ : ∃ o, nsOk X e = o := ⟨_, rfl⟩
  obtain ⟨o2, ho2⟩ : ∃ o, nsOk Y j = o := ⟨_, rfl⟩
  simp only [ho1, ho2] at HN1 HN2 HO
  clear ho1 ho2
  generalize nsX X e = A at *
  generalize nsX Y j = B at *
  generalize nsE X e = α at *
  generalize nsE Y j = β at *
  cases o1
  · have HF := Lib.hid (HO.out.trans (show _ = false by simp))
    go_enter Try.func29, Try.ntmps29
    go_wp2_with fail
    refine ((HN1 _).out).mono ?_
    rintro e w1 ⟨rfl, hx1⟩
    obtain ⟨hc1, hf1⟩ := hx1.cells
    have hz1 := hx1.size
    try simp at hz1
    have hs1_0 := sz2 (a := w.heap.size) (b := w1.heap.size) (by omega)
    go_wp2_with fail
    refine ((HN2 _).out).mono ?_
    rintro e w2 ⟨rfl, hx2⟩
    obtain ⟨hc2, hf2⟩ := hx2.cells
    have hz2 := hx2.size
    try simp at hz2
    have hs2_0 := sz2 (a := w.heap.size) (b := w2.heap.size) (by omega)
    have hs2_1 := sz1 (a := w1.heap.size) (b := w2.heap.size) (by omega)
    go_wp2_with fail
    refine ((HS _).out).mono ?_
    rintro e w3 ⟨rfl, hx3⟩
    obtain ⟨hc3, hf3⟩ := hx3.cells
    have hz3 := hx3.size
    try simp at hz3
    have hs3_0 := sz2 (a := w.heap.size) (b := w3.heap.size) (by omega)
    have hs3_1 := sz1 (a := w1.heap.size) (b := w3.heap.size) (by omega)
    have hs3_2 := sz1 (a := w2.heap.size) (b := w3.heap.size) (by omega)
    go_wp2
    go_ret2
    exact ⟨by rw [HV.out, HF.out]; rfl, (by repeat (first | (with_reducible refine Ext.setCell ?_ (by first | (simp; done) | (simp; omega)) _) | with_reducible refine Ext.alloc ?_ _ | with_reducible refine Ext.drew ?_ | with_reducible refine Ext.drewN ?_ _ | with_reducible assumption | with_reducible exact Ext.refl _ | with_reducible refine Ext.trans ?_ (by with_reducible assumption)))⟩
  cases o2
  · have HF := Lib.hid (HO.out.trans (show _ = false by simp))
    go_enter Try.func29, Try.ntmps29
    go_wp2_with fail
    refine ((HN1 _).out).mono ?_
    rintro e w1 ⟨rfl, hx1⟩
    obtain ⟨hc1, hf1⟩ := hx1.cells
    have hz1 := hx1.size
    try simp at hz1
    have hs1_0 := sz2 (a := w.heap.size) (b := w1.heap.size) (by omega)
    go_wp2_with fail
    refine ((HN2 _).out).mono ?_
    rintro e w2 ⟨rfl, hx2⟩
    obtain ⟨hc2, hf2⟩ := hx2.cells
    have hz2 := hx2.size
    try simp at hz2
    have hs2_0 := sz2 (a := w.heap.size) (b := w2.heap.size) (by omega)
    have hs2_1 := sz1 (a := w1.heap.size) (b := w2.heap.size) (by omega)
    go_wp2_with fail
    refine ((HS _).out).mono ?_
    rintro e w3 ⟨rfl, hx3⟩
    obtain ⟨hc3, hf3⟩ := hx3.cells
    have hz3 := hx3.size
    try simp at hz3
    have hs3_0 := sz2 (a := w.heap.size) (b := w3.heap.size) (by omega)
    have hs3_1 := sz1 (a := w1.heap.size) (b := w3.heap.size) (by omega)
    have hs3_2 := sz1 (a := w2.heap.size) (b := w3.heap.size) (by omega)
    go_wp2
    go_ret2
    exact ⟨by rw [HV.out, HF.out]; rfl, (by repeat (first | (with_reducible refine Ext.setCell ?_ (by first | (simp; done) | (simp; omega)) _) | with_reducible refine Ext.alloc ?_ _ | with_reducible refine Ext.drew ?_ | with_reducible refine Ext.drewN ?_ _ | with_reducible assumption | with_reducible exact Ext.refl _ | with_reducible refine Ext.trans ?_ (by with_reducible assumption)))⟩
  cases γ
  · have HF := Lib.hid (HO.out.trans (show _ = true by simp))
    have HE := Lib.hid (HK2.out rfl)
    obtain ⟨c1, c2, -, -⟩ := (show Cf Q.a = true ∧ Cf Q.b = true ∧ Cf Q.c = true ∧ Cf Q.d = true by have := HDG.out; simpa [R4.rg, Rg, Bool.and_eq_true, and_assoc] using this)
    have HR : ∀ w', Hid (Calls Try.prog 69 #[.int .i64 Q.a, .int .i64 Q.b] w' fun e w'' => e = .returned (.tuple #[.int .i64 (S2 Q.a Q.b), .bool true]) ∧ w' = w'') := by
      intro w'
      have := realSign_any Q.a Q.b w'
      unfold rsV at this
      rw [c1, c2] at this
      exact this
    rw [HE.out] at HS
    clear c1 c2
    go_enter Try.func29, Try.ntmps29
    go_wp2_with fail
    refine ((HN1 _).out).mono ?_
    rintro e w1 ⟨rfl, hx1⟩
    obtain ⟨hc1, hf1⟩ := hx1.cells
    have hz1 := hx1.size
    try simp at hz1
    have hs1_0 := sz2 (a := w.heap.size) (b := w1.heap.size) (by omega)
    go_wp2_with fail
    refine ((HN2 _).out).mono ?_
    rintro e w2 ⟨rfl, hx2⟩
    obtain ⟨hc2, hf2⟩ := hx2.cells
    have hz2 := hx2.size
    try simp at hz2
    have hs2_0 := sz2 (a := w.heap.size) (b := w2.heap.size) (by omega)
    have hs2_1 := sz1 (a := w1.heap.size) (b := w2.heap.size) (by omega)
    go_wp2_with fail
    refine ((HS _).out).mono ?_
    rintro e w3 ⟨rfl, hx3⟩
    obtain ⟨hc3, hf3⟩ := hx3.cells
    have hz3 := hx3.size
    try simp at hz3
    have hs3_0 := sz2 (a := w.heap.size) (b := w3.heap.size) (by omega)
    have hs3_1 := sz1 (a := w1.heap.size) (b := w3.heap.size) (by omega)
    have hs3_2 := sz1 (a := w2.heap.size) (b := w3.heap.size) (by omega)
    go_wp2_with (go_at_call 69; ((with_reducible refine ((HR _).out).mono ?_); rintro e w' ⟨rfl, rfl⟩))
    go_ret2
    exact ⟨by rw [HV.out, HF.out, if_pos rfl, HDD.out]; rfl, (by repeat (first | (with_reducible refine Ext.setCell ?_ (by first | (simp; done) | (simp; omega)) _) | with_reducible refine Ext.alloc ?_ _ | with_reducible refine Ext.drew ?_ | with_reducible refine Ext.drewN ?_ _ | with_reducible assumption | with_reducible exact Ext.refl _ | with_reducible refine Ext.trans ?_ (by with_reducible assumption)))⟩
  · have HF := Lib.hid (HO.out.trans (show _ = false by simp))
    go_enter Try.func29, Try.ntmps29
    go_wp2_with fail
    refine ((HN1 _).out).mono ?_
    rintro e w1 ⟨rfl, hx1⟩
    obtain ⟨hc1, hf1⟩ := hx1.cells
    have hz1 := hx1.size
    try simp at hz1
    have hs1_0 := sz2 (a := w.heap.size) (b := w1.heap.size) (by omega)
    go_wp2_with fail
    refine ((HN2 _).out).mono ?_
    rintro e w2 ⟨rfl, hx2⟩
    obtain ⟨hc2, hf2⟩ := hx2.cells
    have hz2 := hx2.size
    try simp at hz2
    have hs2_0 := sz2 (a := w.heap.size) (b := w2.heap.size) (by omega)
    have hs2_1 := sz1 (a := w1.heap.size) (b := w2.heap.size) (by omega)
    go_wp2_with fail
    refine ((HS _).out).mono ?_
    rintro e w3 ⟨rfl, hx3⟩
    obtain ⟨hc3, hf3⟩ := hx3.cells
    have hz3 := hx3.size
    try simp at hz3
    have hs3_0 := sz2 (a := w.heap.size) (b := w3.heap.size) (by omega)
    have hs3_1 := sz1 (a := w1.heap.size) (b := w3.heap.size) (by omega)
    have hs3_2 := sz1 (a := w2.heap.size) (b := w3.heap.size) (by omega)
    go_wp2
    go_ret2
    exact ⟨by rw [HV.out, HF.out]; rfl, (by repeat (first | (with_reducible refine Ext.setCell ?_ (by first | (simp; done) | (simp; omega)) _) | with_reducible refine Ext.alloc ?_ _ | with_reducible refine Ext.drew ?_ | with_reducible refine Ext.drewN ?_ _ | with_reducible assumption | with_reducible exact Ext.refl _ | with_reducible refine Ext.trans ?_ (by with_reducible assumption)))⟩

theorem law_CompareAbs (a b c d e f g h i j : Int) (w : World) :
    Calls Try.prog 7 #[.agg #[.int .i64 a, .int .i64 b, .int .i64 c, .int .i64 d, .int .i64 e], .agg #[.int .i64 f, .int .i64 g, .int .i64 h, .int .i64 i, .int .i64 j]] w fun e w' => e = .returned (.bool true) ∧ Ext w w' := by
  have HS := fun w' => Lib.hid (s_compareAbs_any ⟨a, b, c, d⟩ e ⟨f, g, h, i⟩ j w')
  have HI := fun w' => Lib.hid (compareAbs_any ⟨a, b, c, d⟩ e ⟨f, g, h, i⟩ j w')
  simp only at HS HI
  generalize caV ⟨a, b, c, d⟩ e ⟨f, g, h, i⟩ j = v at *
  generalize caOk ⟨a, b, c, d⟩ e ⟨f, g, h, i⟩ j = o at *
  go_enter Try.func7, Try.ntmps7
  go_wp2
  refine wp_region_xt (by kernel_rfl) (by kernel_rfl) (fun hxc => ?_)
  repeat (first | go_big_quiet_step ((first | (go_at_call 19; exact calls_xt (toDyadic_any _ _ _ _ _ _)) | (go_at_call 28; exact calls_xt ((HS _).out)))) | quiet_step ((first | (go_at_call 19; exact calls_xt (toDyadic_any _ _ _ _ _ _)) | (go_at_call 28; exact calls_xt ((HS _).out)))))
  refine wpQuiet_nil (forall_xt ?_)
  clear hxc
  intro w1 hx1
  obtain ⟨hc1, hf1⟩ := hx1.cells
  have hz1 := hx1.size
  try simp at hz1
  have hs1_0 := sz2 (a := w.heap.size) (b := w1.heap.size) (by omega)
  go_wp2
  refine wp_region_xt (by kernel_rfl) (by kernel_rfl) (fun hxc => ?_)
  repeat (first | go_big_quiet_step ((first | (go_at_call 19; exact calls_xt (toDyadic_any _ _ _ _ _ _)) | (go_at_call 29; exact calls_xt ((HI _).out)))) | quiet_step ((first | (go_at_call 19; exact calls_xt (toDyadic_any _ _ _ _ _ _)) | (go_at_call 29; exact calls_xt ((HI _).out)))))
  refine wpQuiet_nil (forall_xt ?_)
  clear hxc
  intro w2 hx2
  obtain ⟨hc2, hf2⟩ := hx2.cells
  have hz2 := hx2.size
  try simp at hz2
  have hs2_0 := sz2 (a := w.heap.size) (b := w2.heap.size) (by omega)
  go_wp2
  go_ret
  exact ⟨rfl, (by repeat (first | exact Ext.refl _ | assumption | refine Ext.alloc ?_ _ | refine Ext.drew ?_ | refine Ext.drewN ?_ _ | refine Ext.setCell ?_ (by first | omega | (dsimp only; omega) | (simp; done) | (simp; omega)) _ | refine Ext.trans ?_ (by assumption)))⟩

end Go.Proofs.Ytnlhonlfkmpleaa
