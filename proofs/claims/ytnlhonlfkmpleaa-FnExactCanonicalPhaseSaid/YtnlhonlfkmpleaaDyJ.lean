/- Dyadic numbers: the program's sum and difference. -/
import Derived.Test.YtnlhonlfkmpleaaDyI
import Derived.Test.YtnlhonlfkmpleaaDyD
namespace Go.Proofs.Ytnlhonlfkmpleaa
open Go.RowKit Go.Lib
set_option linter.unusedVariables false
set_option linter.unusedSimpArgs false

def cbS (op : R4 → R4 → R4) (X : R4) (m : Nat) (Y : R4) (n : Nat) : R4 := op (raiseV (n - m) X) (raiseV (m - n) Y)
def cbBad (op : R4 → R4 → R4) (X : R4) (m : Nat) (Y : R4) (n : Nat) : Bool := raiseB (n - m) X || raiseB (m - n) Y || !(cbS op X m Y n).rg
/-- what an operation on rings returns -/
def OpC (f : FuncId) (op : R4 → R4 → R4) : Prop := ∀ (A B : R4) (w : World), A.rg = true → B.rg = true →
  Calls Try.prog f #[.agg #[.int .i64 A.a, .int .i64 A.b, .int .i64 A.c, .int .i64 A.d], .agg #[.int .i64 B.a, .int .i64 B.b, .int .i64 B.c, .int .i64 B.d]] w fun e w' =>
    e = .returned (.tuple #[.agg #[.int .i64 (op A B).clip.a, .int .i64 (op A B).clip.b, .int .i64 (op A B).clip.c, .int .i64 (op A B).clip.d], .bool (op A B).rg]) ∧ Ext w w'

theorem clip_ifZ (S : R4) : S.clip.a = ifZ S.rg S.a ∧ S.clip.b = ifZ S.rg S.b ∧ S.clip.c = ifZ S.rg S.c ∧ S.clip.d = ifZ S.rg S.d := by
  unfold R4.clip
  cases S.rg
  · exact ⟨rfl, rfl, rfl, rfl⟩
  · exact ⟨rfl, rfl, rfl, rfl⟩

theorem addRing_op : OpC 57 R4.add := by
  intro A B w hA hB
  refine (addRing_any A.a A.b A.c A.d B.a B.b B.c B.d w).mono ?_
  rintro e w' ⟨rfl, hx⟩
  have e1 : okAddRing A.a A.b A.c A.d B.a B.b B.c B.d = (A.add B).rg := by
    unfold okAddRing
    rw [show Rg A.a A.b A.c A.d = true from hA, show Rg B.a B.b B.c B.d = true from hB]
    rfl
  obtain ⟨c1, c2, c3, c4⟩ := clip_ifZ (A.add B)
  rw [e1, c1, c2, c3, c4]
  exact ⟨rfl, hx⟩
theorem subRing_op : OpC 60 R4.sub := by
  intro A B w hA hB
  refine (subRing_any A.a A.b A.c A.d B.a B.b B.c B.d w).mono ?_
  rintro e w' ⟨rfl, hx⟩
  have e1 : okSubRing A.a A.b A.c A.d B.a B.b B.c B.d = (A.sub B).rg := by
    unfold okSubRing
    rw [show Rg A.a A.b A.c A.d = true from hA, show Rg B.a B.b B.c B.d = true from hB]
    rfl
  obtain ⟨c1, c2, c3, c4⟩ := clip_ifZ (A.sub B)
  rw [e1, c1, c2, c3, c4]
  exact ⟨rfl, hx⟩

/-- the program's result of an operation -/
def cbOk (op : R4 → R4 → R4) (X : R4) (e : Int) (Y : R4) (j : Int) : Bool := GD X e && GD Y j && !cbBad op X e.toNat Y j.toNat
def cbX (op : R4 → R4 → R4) (X : R4) (e : Int) (Y : R4) (j : Int) : R4 := if cbOk op X e Y j then lowX (max e.toNat j.toNat) (cbS op X e.toNat Y j.toNat).clip else R4.zero
def cbE (op : R4 → R4 → R4) (X : R4) (e : Int) (Y : R4) (j : Int) : Int := if cbOk op X e Y j then (lowE (max e.toNat j.toNat) (cbS op X e.toNat Y j.toNat).clip : Int) else 0
theorem cb_false {op : R4 → R4 → R4} {X : R4} {e : Int} {Y : R4} {j : Int} (h : cbOk op X e Y j = false) : cbX op X e Y j = R4.zero ∧ cbE op X e Y j = 0 := by
  unfold cbX cbE
  rw [h]
  exact ⟨rfl, rfl⟩
theorem cb_true {op : R4 → R4 → R4} {X : R4} {e : Int} {Y : R4} {j : Int} (h : cbOk op X e Y j = true) : cbX op X e Y j = lowX (max e.toNat j.toNat) (cbS op X e.toNat Y j.toNat).clip ∧ cbE op X e Y j = (lowE (max e.toNat j.toNat) (cbS op X e.toNat Y j.toNat).clip : Int) := by
  unfold cbX cbE
  rw [h]
  exact ⟨rfl, rfl⟩

set_option maxRecDepth 20000 in
set_option maxHeartbeats 2000000 in
theorem combined_add (X : R4) (e : Int) (Y : R4) (j : Int) (w : World) :
    Calls Try.prog 56 #[.agg #[.int .i64 X.a, .int .i64 X.b, .int .i64 X.c, .int .i64 X.d, .int .i64 e], .agg #[.int .i64 Y.a, .int .i64 Y.b, .int .i64 Y.c, .int .i64 Y.d, .int .i64 j], .func (.func 57) #[] #[]] w fun en w' =>
      en = .returned (.tuple #[.agg #[.int .i64 (cbX R4.add X e Y j).a, .int .i64 (cbX R4.add X e Y j).b, .int .i64 (cbX R4.add X e Y j).c, .int .i64 (cbX R4.add X e Y j).d, .int .i64 (cbE R4.add X e Y j)], .bool (cbOk R4.add X e Y j)]) ∧ Ext w w' := by
  have HG1 : ∀ w', Hid (Calls Try.prog 64 #[.agg #[.int .i64 X.a, .int .i64 X.b, .int .i64 X.c, .int .i64 X.d, .int .i64 e]] w' fun en w'' => en = .returned (.bool (GD X e)) ∧ Ext w' w'') := fun w' => isValidDyadic_any X.a X.b X.c X.d e w'
  have HG2 : ∀ w', Hid (Calls Try.prog 64 #[.agg #[.int .i64 Y.a, .int .i64 Y.b, .int .i64 Y.c, .int .i64 Y.d, .int .i64 j]] w' fun en w'' => en = .returned (.bool (GD Y j)) ∧ Ext w' w'') := fun w' => isValidDyadic_any Y.a Y.b Y.c Y.d j w'
  cases h1 : GD X e
  · have HO : Hid (cbOk R4.add X e Y j = false) := by unfold Hid cbOk; rw [h1]; rfl
    have HZ := Lib.hid (cb_false HO.out)
    rw [h1] at HG1
    go_enter Try.func56, Try.ntmps56
    go_wp2_with fail
    refine ((HG1 _).out).mono ?_
    rintro e w1 ⟨rfl, hx1⟩
    obtain ⟨hc1, hf1⟩ := hx1.cells
    have hz1 := hx1.size
    try simp at hz1
    have hs1_0 := sz3 (a := w.heap.size) (b := w1.heap.size) (by omega)
    go_wp2
    refine bodyPost_ret (v := .tuple #[.agg #[.int .i64 0, .int .i64 0, .int .i64 0, .int .i64 0, .int .i64 0], .bool false]) (by simp [results, Try.results56, go_sem, *]) rfl ?_
    exact ⟨by rw [HZ.out.1, HZ.out.2, HO.out]; rfl, (by repeat (first | (with_reducible refine Ext.setCell ?_ (by first | (simp; done) | (simp; omega)) _) | with_reducible refine Ext.alloc ?_ _ | with_reducible refine Ext.drew ?_ | with_reducible refine Ext.drewN ?_ _ | with_reducible assumption | with_reducible exact Ext.refl _ | with_reducible refine Ext.trans ?_ (by with_reducible assumption)))⟩
  cases h2 : GD Y j
  · have HO : Hid (cbOk R4.add X e Y j = false) := by unfold Hid cbOk; rw [h2, Bool.and_false]; rfl
    have HZ := Lib.hid (cb_false HO.out)
    rw [h1] at HG1
    rw [h2] at HG2
    go_enter Try.func56, Try.ntmps56
    go_wp2_with fail
    refine ((HG1 _).out).mono ?_
    rintro e w1 ⟨rfl, hx1⟩
    obtain ⟨hc1, hf1⟩ := hx1.cells
    have hz1 := hx1.size
    try simp at hz1
    have hs1_0 := sz3 (a := w.heap.size) (b := w1.heap.size) (by omega)
    go_wp2_with fail
    refine ((HG2 _).out).mono ?_
    rintro e w2 ⟨rfl, hx2⟩
    obtain ⟨hc2, hf2⟩ := hx2.cells
    have hz2 := hx2.size
    try simp at hz2
    have hs2_0 := sz3 (a := w.heap.size) (b := w2.heap.size) (by omega)
    go_wp2
    refine bodyPost_ret (v := .tuple #[.agg #[.int .i64 0, .int .i64 0, .int .i64 0, .int .i64 0, .int .i64 0], .bool false]) (by simp [results, Try.results56, go_sem, *]) rfl ?_
    exact ⟨by rw [HZ.out.1, HZ.out.2, HO.out]; rfl, (by repeat (first | (with_reducible refine Ext.setCell ?_ (by first | (simp; done) | (simp; omega)) _) | with_reducible refine Ext.alloc ?_ _ | with_reducible refine Ext.drew ?_ | with_reducible refine Ext.drewN ?_ _ | with_reducible assumption | with_reducible exact Ext.refl _ | with_reducible refine Ext.trans ?_ (by with_reducible assumption)))⟩
  have HO : Hid (cbOk R4.add X e Y j = !cbBad R4.add X e.toNat Y j.toNat) := by unfold Hid cbOk; rw [h1, h2]; rfl
  rw [h1] at HG1
  rw [h2] at HG2
  obtain ⟨r1, r2, r3, -⟩ := GD_rg h1
  obtain ⟨s1, s2, s3, -⟩ := GD_rg h2
  obtain ⟨m, rfl⟩ : ∃ m : Nat, e = m := ⟨e.toNat, by omega⟩
  obtain ⟨n, rfl⟩ : ∃ n : Nat, j = n := ⟨j.toNat, by omega⟩
  simp only [Int.toNat_natCast] at HO
  obtain ⟨M, hM⟩ : ∃ M : Nat, M = max m n := ⟨_, rfl⟩
  have hMb : M ≤ 60 := by omega
  have HR1 := fun w' => Lib.hid (raised_any X m M r1 (by omega) hMb w')
  have HR2 := fun w' => Lib.hid (raised_any Y n M s1 (by omega) hMb w')
  have e1 : M - m = n - m := by omega
  have e2 : M - n = m - n := by omega
  simp only [e1, e2] at HR1 HR2
  have HF := fun w' => Lib.hid (addRing_op (raiseV (n - m) X) (raiseV (m - n) Y) w' (rg_raise _ _ r1) (rg_raise _ _ s1))
  have HS : Hid (cbS R4.add X m Y n = R4.add (raiseV (n - m) X) (raiseV (m - n) Y)) := rfl
  have HD := fun w' => Lib.hid (dyadicOf_any M hMb (cbS R4.add X m Y n).clip (rg_clip _) w')
  have HB : Hid (cbBad R4.add X m Y n = (raiseB (n - m) X || raiseB (m - n) Y || !(cbS R4.add X m Y n).rg)) := rfl
  have HT : Hid (cbBad R4.add X m Y n = false → cbX R4.add X m Y n = lowX M (cbS R4.add X m Y n).clip ∧ cbE R4.add X m Y n = (lowE M (cbS R4.add X m Y n).clip : Int)) := fun h => by
    have := cb_true (op := R4.add) (X := X) (e := m) (Y := Y) (j := n) (by rw [HO.out, h]; rfl)
    simp only [Int.toNat_natCast] at this
    rw [hM]
    exact this
  have HZ : Hid (cbBad R4.add X m Y n = true → cbX R4.add X m Y n = R4.zero ∧ cbE R4.add X m Y n = 0) := fun h => cb_false (by rw [HO.out, h]; rfl)
  rw [← HS.out] at HF
  clear r1 s1 h1 h2 HS e1 e2
  obtain ⟨S, hS⟩ : ∃ S, cbS R4.add X m Y n = S := ⟨_, rfl⟩
  obtain ⟨A, hA⟩ : ∃ A, raiseV (n - m) X = A := ⟨_, rfl⟩
  obtain ⟨B, hB⟩ : ∃ B, raiseV (m - n) Y = B := ⟨_, rfl⟩
  obtain ⟨a', ha⟩ : ∃ o, raiseB (n - m) X = o := ⟨_, rfl⟩
  obtain ⟨b', hb⟩ : ∃ o, raiseB (m - n) Y = o := ⟨_, rfl⟩
  simp only [hS, hA, hB, ha, hb] at HF HD HB HT HZ HR1 HR2
  clear hS hA hB ha hb
  by_cases hmn : m < n
  · have hmn' : (m : Int) < n := by omega
    obtain rfl : M = n := by omega
    clear hM
    go_enter Try.func56, Try.ntmps56
    go_wp2_with fail
    refine ((HG1 _).out).mono ?_
    rintro e w1 ⟨rfl, hx1⟩
    obtain ⟨hc1, hf1⟩ := hx1.cells
    have hz1 := hx1.size
    try simp at hz1
    have hs1_0 := sz3 (a := w.heap.size) (b := w1.heap.size) (by omega)
    go_wp2_with fail
    refine ((HG2 _).out).mono ?_
    rintro e w2 ⟨rfl, hx2⟩
    obtain ⟨hc2, hf2⟩ := hx2.cells
    have hz2 := hx2.size
    try simp at hz2
    have hs2_0 := sz3 (a := w.heap.size) (b := w2.heap.size) (by omega)
    go_wp2_with fail
    refine ((HR1 _).out).mono ?_
    rintro e w3 ⟨rfl, hx3⟩
    obtain ⟨hc3, hf3⟩ := hx3.cells
    have hz3 := hx3.size
    try simp at hz3
    have hs3_0 := sz3 (a := w.heap.size) (b := w3.heap.size) (by omega)
    go_wp2_with fail
    refine ((HR2 _).out).mono ?_
    rintro e w4 ⟨rfl, hx4⟩
    obtain ⟨hc4, hf4⟩ := hx4.cells
    have hz4 := hx4.size
    try simp at hz4
    have hs4_0 := sz3 (a := w.heap.size) (b := w4.heap.size) (by omega)
    have hs4_1 := sz1 (a := w3.heap.size) (b := w4.heap.size) (by omega)
    go_wp2_with fail
    refine ((HF _).out).mono ?_
    rintro e w5 ⟨rfl, hx5⟩
    obtain ⟨hc5, hf5⟩ := hx5.cells
    have hz5 := hx5.size
    try simp at hz5
    have hs5_0 := sz3 (a := w.heap.size) (b := w5.heap.size) (by omega)
    have hs5_1 := sz1 (a := w3.heap.size) (b := w5.heap.size) (by omega)
    have hs5_2 := sz1 (a := w4.heap.size) (b := w5.heap.size) (by omega)
    cases a'
    · cases b'
      · cases hg : S.rg
        · rw [hg] at HB
          go_wp2
          refine bodyPost_ret (v := .tuple #[.agg #[.int .i64 0, .int .i64 0, .int .i64 0, .int .i64 0, .int .i64 0], .bool false]) (by simp [results, Try.results56, go_sem, *]) rfl ?_
          have hbad := HB.out.trans (show _ = true by simp)
          exact ⟨by rw [HO.out, (HZ.out hbad).1, (HZ.out hbad).2, hbad]; rfl, (by repeat (first | (with_reducible refine Ext.setCell ?_ (by first | (simp; done) | (simp; omega)) _) | with_reducible refine Ext.alloc ?_ _ | with_reducible refine Ext.drew ?_ | with_reducible refine Ext.drewN ?_ _ | with_reducible assumption | with_reducible exact Ext.refl _ | with_reducible refine Ext.trans ?_ (by with_reducible assumption)))⟩
        · rw [hg] at HB
          have HT' := Lib.hid (HT.out (by rw [HB.out]; rfl))
          go_wp2_with fail
          refine ((HD _).out).mono ?_
          rintro e w6 ⟨rfl, hx6⟩
          obtain ⟨hc6, hf6⟩ := hx6.cells
          have hz6 := hx6.size
          try simp at hz6
          have hs6_0 := sz3 (a := w.heap.size) (b := w6.heap.size) (by omega)
          have hs6_1 := sz1 (a := w3.heap.size) (b := w6.heap.size) (by omega)
          have hs6_2 := sz1 (a := w4.heap.size) (b := w6.heap.size) (by omega)
          have hs6_3 := sz1 (a := w5.heap.size) (b := w6.heap.size) (by omega)
          go_wp2
          refine bodyPost_ret (v := .tuple #[.agg #[.int .i64 (lowX M S.clip).a, .int .i64 (lowX M S.clip).b, .int .i64 (lowX M S.clip).c, .int .i64 (lowX M S.clip).d, .int .i64 (lowE M S.clip)], .bool true]) (by simp [results, Try.results56, go_sem, *]) rfl ?_
          have hgood := HB.out.trans (show _ = false by rfl)
          exact ⟨by rw [HO.out, HT'.out.1, HT'.out.2, hgood]; rfl, (by repeat (first | (with_reducible refine Ext.setCell ?_ (by first | (simp; done) | (simp; omega)) _) | with_reducible refine Ext.alloc ?_ _ | with_reducible refine Ext.drew ?_ | with_reducible refine Ext.drewN ?_ _ | with_reducible assumption | with_reducible exact Ext.refl _ | with_reducible refine Ext.trans ?_ (by with_reducible assumption)))⟩
      · go_wp2
        refine bodyPost_ret (v := .tuple #[.agg #[.int .i64 0, .int .i64 0, .int .i64 0, .int .i64 0, .int .i64 0], .bool false]) (by simp [results, Try.results56, go_sem, *]) rfl ?_
        have hbad := HB.out.trans (show _ = true by simp)
        exact ⟨by rw [HO.out, (HZ.out hbad).1, (HZ.out hbad).2, hbad]; rfl, (by repeat (first | (with_reducible refine Ext.setCell ?_ (by first | (simp; done) | (simp; omega)) _) | with_reducible refine Ext.alloc ?_ _ | with_reducible refine Ext.drew ?_ | with_reducible refine Ext.drewN ?_ _ | with_reducible assumption | with_reducible exact Ext.refl _ | with_reducible refine Ext.trans ?_ (by with_reducible assumption)))⟩
    · go_wp2
      refine bodyPost_ret (v := .tuple #[.agg #[.int .i64 0, .int .i64 0, .int .i64 0, .int .i64 0, .int .i64 0], .bool false]) (by simp [results, Try.results56, go_sem, *]) rfl ?_
      have hbad := HB.out.trans (show _ = true by simp)
      exact ⟨by rw [HO.out, (HZ.out hbad).1, (HZ.out hbad).2, hbad]; rfl, (by repeat (first | (with_reducible refine Ext.setCell ?_ (by first | (simp; done) | (simp; omega)) _) | with_reducible refine Ext.alloc ?_ _ | with_reducible refine Ext.drew ?_ | with_reducible refine Ext.drewN ?_ _ | with_reducible assumption | with_reducible exact Ext.refl _ | with_reducible refine Ext.trans ?_ (by with_reducible assumption)))⟩
  · have hmn' : ¬ (m : Int) < n := by omega
    obtain rfl : M = m := by omega
    clear hM
    go_enter Try.func56, Try.ntmps56
    go_wp2_with fail
    refine ((HG1 _).out).mono ?_
    rintro e w1 ⟨rfl, hx1⟩
    obtain ⟨hc1, hf1⟩ := hx1.cells
    have hz1 := hx1.size
    try simp at hz1
    have hs1_0 := sz3 (a := w.heap.size) (b := w1.heap.size) (by omega)
    go_wp2_with fail
    refine ((HG2 _).out).mono ?_
    rintro e w2 ⟨rfl, hx2⟩
    obtain ⟨hc2, hf2⟩ := hx2.cells
    have hz2 := hx2.size
    try simp at hz2
    have hs2_0 := sz3 (a := w.heap.size) (b := w2.heap.size) (by omega)
    go_wp2_with fail
    refine ((HR1 _).out).mono ?_
    rintro e w3 ⟨rfl, hx3⟩
    obtain ⟨hc3, hf3⟩ := hx3.cells
    have hz3 := hx3.size
    try simp at hz3
    have hs3_0 := sz3 (a := w.heap.size) (b := w3.heap.size) (by omega)
    go_wp2_with fail
    refine ((HR2 _).out).mono ?_
    rintro e w4 ⟨rfl, hx4⟩
    obtain ⟨hc4, hf4⟩ := hx4.cells
    have hz4 := hx4.size
    try simp at hz4
    have hs4_0 := sz3 (a := w.heap.size) (b := w4.heap.size) (by omega)
    have hs4_1 := sz1 (a := w3.heap.size) (b := w4.heap.size) (by omega)
    go_wp2_with fail
    refine ((HF _).out).mono ?_
    rintro e w5 ⟨rfl, hx5⟩
    obtain ⟨hc5, hf5⟩ := hx5.cells
    have hz5 := hx5.size
    try simp at hz5
    have hs5_0 := sz3 (a := w.heap.size) (b := w5.heap.size) (by omega)
    have hs5_1 := sz1 (a := w3.heap.size) (b := w5.heap.size) (by omega)
    have hs5_2 := sz1 (a := w4.heap.size) (b := w5.heap.size) (by omega)
    cases a'
    · cases b'
      · cases hg : S.rg
        · rw [hg] at HB
          go_wp2
          refine bodyPost_ret (v := .tuple #[.agg #[.int .i64 0, .int .i64 0, .int .i64 0, .int .i64 0, .int .i64 0], .bool false]) (by simp [results, Try.results56, go_sem, *]) rfl ?_
          have hbad := HB.out.trans (show _ = true by simp)
          exact ⟨by rw [HO.out, (HZ.out hbad).1, (HZ.out hbad).2, hbad]; rfl, (by repeat (first | (with_reducible refine Ext.setCell ?_ (by first | (simp; done) | (simp; omega)) _) | with_reducible refine Ext.alloc ?_ _ | with_reducible refine Ext.drew ?_ | with_reducible refine Ext.drewN ?_ _ | with_reducible assumption | with_reducible exact Ext.refl _ | with_reducible refine Ext.trans ?_ (by with_reducible assumption)))⟩
        · rw [hg] at HB
          have HT' := Lib.hid (HT.out (by rw [HB.out]; rfl))
          go_wp2_with fail
          refine ((HD _).out).mono ?_
          rintro e w6 ⟨rfl, hx6⟩
          obtain ⟨hc6, hf6⟩ := hx6.cells
          have hz6 := hx6.size
          try simp at hz6
          have hs6_0 := sz3 (a := w.heap.size) (b := w6.heap.size) (by omega)
          have hs6_1 := sz1 (a := w3.heap.size) (b := w6.heap.size) (by omega)
          have hs6_2 := sz1 (a := w4.heap.size) (b := w6.heap.size) (by omega)
          have hs6_3 := sz1 (a := w5.heap.size) (b := w6.heap.size) (by omega)
          go_wp2
          refine bodyPost_ret (v := .tuple #[.agg #[.int .i64 (lowX M S.clip).a, .int .i64 (lowX M S.clip).b, .int .i64 (lowX M S.clip).c, .int .i64 (lowX M S.clip).d, .int .i64 (lowE M S.clip)], .bool true]) (by simp [results, Try.results56, go_sem, *]) rfl ?_
          have hgood := HB.out.trans (show _ = false by rfl)
          exact ⟨by rw [HO.out, HT'.out.1, HT'.out.2, hgood]; rfl, (by repeat (first | (with_reducible refine Ext.setCell ?_ (by first | (simp; done) | (simp; omega)) _) | with_reducible refine Ext.alloc ?_ _ | with_reducible refine Ext.drew ?_ | with_reducible refine Ext.drewN ?_ _ | with_reducible assumption | with_reducible exact Ext.refl _ | with_reducible refine Ext.trans ?_ (by with_reducible assumption)))⟩
      · go_wp2
        refine bodyPost_ret (v := .tuple #[.agg #[.int .i64 0, .int .i64 0, .int .i64 0, .int .i64 0, .int .i64 0], .bool false]) (by simp [results, Try.results56, go_sem, *]) rfl ?_
        have hbad := HB.out.trans (show _ = true by simp)
        exact ⟨by rw [HO.out, (HZ.out hbad).1, (HZ.out hbad).2, hbad]; rfl, (by repeat (first | (with_reducible refine Ext.setCell ?_ (by first | (simp; done) | (simp; omega)) _) | with_reducible refine Ext.alloc ?_ _ | with_reducible refine Ext.drew ?_ | with_reducible refine Ext.drewN ?_ _ | with_reducible assumption | with_reducible exact Ext.refl _ | with_reducible refine Ext.trans ?_ (by with_reducible assumption)))⟩
    · go_wp2
      refine bodyPost_ret (v := .tuple #[.agg #[.int .i64 0, .int .i64 0, .int .i64 0, .int .i64 0, .int .i64 0], .bool false]) (by simp [results, Try.results56, go_sem, *]) rfl ?_
      have hbad := HB.out.trans (show _ = true by simp)
      exact ⟨by rw [HO.out, (HZ.out hbad).1, (HZ.out hbad).2, hbad]; rfl, (by repeat (first | (with_reducible refine Ext.setCell ?_ (by first | (simp; done) | (simp; omega)) _) | with_reducible refine Ext.alloc ?_ _ | with_reducible refine Ext.drew ?_ | with_reducible refine Ext.drewN ?_ _ | with_reducible assumption | with_reducible exact Ext.refl _ | with_reducible refine Ext.trans ?_ (by with_reducible assumption)))⟩

set_option maxRecDepth 20000 in
set_option maxHeartbeats 2000000 in
theorem combined_sub (X : R4) (e : Int) (Y : R4) (j : Int) (w : World) :
    Calls Try.prog 56 #[.agg #[.int .i64 X.a, .int .i64 X.b, .int .i64 X.c, .int .i64 X.d, .int .i64 e], .agg #[.int .i64 Y.a, .int .i64 Y.b, .int .i64 Y.c, .int .i64 Y.d, .int .i64 j], .func (.func 60) #[] #[]] w fun en w' =>
      en = .returned (.tuple #[.agg #[.int .i64 (cbX R4.sub X e Y j).a, .int .i64 (cbX R4.sub X e Y j).b, .int .i64 (cbX R4.sub X e Y j).c, .int .i64 (cbX R4.sub X e Y j).d, .int .i64 (cbE R4.sub X e Y j)], .bool (cbOk R4.sub X e Y j)]) ∧ Ext w w' := by
  have HG1 : ∀ w', Hid (Calls Try.prog 64 #[.agg #[.int .i64 X.a, .int .i64 X.b, .int .i64 X.c, .int .i64 X.d, .int .i64 e]] w' fun en w'' => en = .returned (.bool (GD X e)) ∧ Ext w' w'') := fun w' => isValidDyadic_any X.a X.b X.c X.d e w'
  have HG2 : ∀ w', Hid (Calls Try.prog 64 #[.agg #[.int .i64 Y.a, .int .i64 Y.b, .int .i64 Y.c, .int .i64 Y.d, .int .i64 j]] w' fun en w'' => en = .returned (.bool (GD Y j)) ∧ Ext w' w'') := fun w' => isValidDyadic_any Y.a Y.b Y.c Y.d j w'
  cases h1 : GD X e
  · have HO : Hid (cbOk R4.sub X e Y j = false) := by unfold Hid cbOk; rw [h1]; rfl
    have HZ := Lib.hid (cb_false HO.out)
    rw [h1] at HG1
    go_enter Try.func56, Try.ntmps56
    go_wp2_with fail
    refine ((HG1 _).out).mono ?_
    rintro e w1 ⟨rfl, hx1⟩
    obtain ⟨hc1, hf1⟩ := hx1.cells
    have hz1 := hx1.size
    try simp at hz1
    have hs1_0 := sz3 (a := w.heap.size) (b := w1.heap.size) (by omega)
    go_wp2
    refine bodyPost_ret (v := .tuple #[.agg #[.int .i64 0, .int .i64 0, .int .i64 0, .int .i64 0, .int .i64 0], .bool false]) (by simp [results, Try.results56, go_sem, *]) rfl ?_
    exact ⟨by rw [HZ.out.1, HZ.out.2, HO.out]; rfl, (by repeat (first | (with_reducible refine Ext.setCell ?_ (by first | (simp; done) | (simp; omega)) _) | with_reducible refine Ext.alloc ?_ _ | with_reducible refine Ext.drew ?_ | with_reducible refine Ext.drewN ?_ _ | with_reducible assumption | with_reducible exact Ext.refl _ | with_reducible refine Ext.trans ?_ (by with_reducible assumption)))⟩
  cases h2 : GD Y j
  · have HO : Hid (cbOk R4.sub X e Y j = false) := by unfold Hid cbOk; rw [h2, Bool.and_false]; rfl
    have HZ := Lib.hid (cb_false HO.out)
    rw [h1] at HG1
    rw [h2] at HG2
    go_enter Try.func56, Try.ntmps56
    go_wp2_with fail
    refine ((HG1 _).out).mono ?_
    rintro e w1 ⟨rfl, hx1⟩
    obtain ⟨hc1, hf1⟩ := hx1.cells
    have hz1 := hx1.size
    try simp at hz1
    have hs1_0 := sz3 (a := w.heap.size) (b := w1.heap.size) (by omega)
    go_wp2_with fail
    refine ((HG2 _).out).mono ?_
    rintro e w2 ⟨rfl, hx2⟩
    obtain ⟨hc2, hf2⟩ := hx2.cells
    have hz2 := hx2.size
    try simp at hz2
    have hs2_0 := sz3 (a := w.heap.size) (b := w2.heap.size) (by omega)
    go_wp2
    refine bodyPost_ret (v := .tuple #[.agg #[.int .i64 0, .int .i64 0, .int .i64 0, .int .i64 0, .int .i64 0], .bool false]) (by simp [results, Try.results56, go_sem, *]) rfl ?_
    exact ⟨by rw [HZ.out.1, HZ.out.2, HO.out]; rfl, (by repeat (first | (with_reducible refine Ext.setCell ?_ (by first | (simp; done) | (simp; omega)) _) | with_reducible refine Ext.alloc ?_ _ | with_reducible refine Ext.drew ?_ | with_reducible refine Ext.drewN ?_ _ | with_reducible assumption | with_reducible exact Ext.refl _ | with_reducible refine Ext.trans ?_ (by with_reducible assumption)))⟩
  have HO : Hid (cbOk R4.sub X e Y j = !cbBad R4.sub X e.toNat Y j.toNat) := by unfold Hid cbOk; rw [h1, h2]; rfl
  rw [h1] at HG1
  rw [h2] at HG2
  obtain ⟨r1, r2, r3, -⟩ := GD_rg h1
  obtain ⟨s1, s2, s3, -⟩ := GD_rg h2
  obtain ⟨m, rfl⟩ : ∃ m : Nat, e = m := ⟨e.toNat, by omega⟩
  obtain ⟨n, rfl⟩ : ∃ n : Nat, j = n := ⟨j.toNat, by omega⟩
  simp only [Int.toNat_natCast] at HO
  obtain ⟨M, hM⟩ : ∃ M : Nat, M = max m n := ⟨_, rfl⟩
  have hMb : M ≤ 60 := by omega
  have HR1 := fun w' => Lib.hid (raised_any X m M r1 (by omega) hMb w')
  have HR2 := fun w' => Lib.hid (raised_any Y n M s1 (by omega) hMb w')
  have e1 : M - m = n - m := by omega
  have e2 : M - n = m - n := by omega
  simp only [e1, e2] at HR1 HR2
  have HF := fun w' => Lib.hid (subRing_op (raiseV (n - m) X) (raiseV (m - n) Y) w' (rg_raise _ _ r1) (rg_raise _ _ s1))
  have HS : Hid (cbS R4.sub X m Y n = R4.sub (raiseV (n - m) X) (raiseV (m - n) Y)) := rfl
  have HD := fun w' => Lib.hid (dyadicOf_any M hMb (cbS R4.sub X m Y n).clip (rg_clip _) w')
  have HB : Hid (cbBad R4.sub X m Y n = (raiseB (n - m) X || raiseB (m - n) Y || !(cbS R4.sub X m Y n).rg)) := rfl
  have HT : Hid (cbBad R4.sub X m Y n = false → cbX R4.sub X m Y n = lowX M (cbS R4.sub X m Y n).clip ∧ cbE R4.sub X m Y n = (lowE M (cbS R4.sub X m Y n).clip : Int)) := fun h => by
    have := cb_true (op := R4.sub) (X := X) (e := m) (Y := Y) (j := n) (by rw [HO.out, h]; rfl)
    simp only [Int.toNat_natCast] at this
    rw [hM]
    exact this
  have HZ : Hid (cbBad R4.sub X m Y n = true → cbX R4.sub X m Y n = R4.zero ∧ cbE R4.sub X m Y n = 0) := fun h => cb_false (by rw [HO.out, h]; rfl)
  rw [← HS.out] at HF
  clear r1 s1 h1 h2 HS e1 e2
  obtain ⟨S, hS⟩ : ∃ S, cbS R4.sub X m Y n = S := ⟨_, rfl⟩
  obtain ⟨A, hA⟩ : ∃ A, raiseV (n - m) X = A := ⟨_, rfl⟩
  obtain ⟨B, hB⟩ : ∃ B, raiseV (m - n) Y = B := ⟨_, rfl⟩
  obtain ⟨a', ha⟩ : ∃ o, raiseB (n - m) X = o := ⟨_, rfl⟩
  obtain ⟨b', hb⟩ : ∃ o, raiseB (m - n) Y = o := ⟨_, rfl⟩
  simp only [hS, hA, hB, ha, hb] at HF HD HB HT HZ HR1 HR2
  clear hS hA hB ha hb
  by_cases hmn : m < n
  · have hmn' : (m : Int) < n := by omega
    obtain rfl : M = n := by omega
    clear hM
    go_enter Try.func56, Try.ntmps56
    go_wp2_with fail
    refine ((HG1 _).out).mono ?_
    rintro e w1 ⟨rfl, hx1⟩
    obtain ⟨hc1, hf1⟩ := hx1.cells
    have hz1 := hx1.size
    try simp at hz1
    have hs1_0 := sz3 (a := w.heap.size) (b := w1.heap.size) (by omega)
    go_wp2_with fail
    refine ((HG2 _).out).mono ?_
    rintro e w2 ⟨rfl, hx2⟩
    obtain ⟨hc2, hf2⟩ := hx2.cells
    have hz2 := hx2.size
    try simp at hz2
    have hs2_0 := sz3 (a := w.heap.size) (b := w2.heap.size) (by omega)
    go_wp2_with fail
    refine ((HR1 _).out).mono ?_
    rintro e w3 ⟨rfl, hx3⟩
    obtain ⟨hc3, hf3⟩ := hx3.cells
    have hz3 := hx3.size
    try simp at hz3
    have hs3_0 := sz3 (a := w.heap.size) (b := w3.heap.size) (by omega)
    go_wp2_with fail
    refine ((HR2 _).out).mono ?_
    rintro e w4 ⟨rfl, hx4⟩
    obtain ⟨hc4, hf4⟩ := hx4.cells
    have hz4 := hx4.size
    try simp at hz4
    have hs4_0 := sz3 (a := w.heap.size) (b := w4.heap.size) (by omega)
    have hs4_1 := sz1 (a := w3.heap.size) (b := w4.heap.size) (by omega)
    go_wp2_with fail
    refine ((HF _).out).mono ?_
    rintro e w5 ⟨rfl, hx5⟩
    obtain ⟨hc5, hf5⟩ := hx5.cells
    have hz5 := hx5.size
    try simp at hz5
    have hs5_0 := sz3 (a := w.heap.size) (b := w5.heap.size) (by omega)
    have hs5_1 := sz1 (a := w3.heap.size) (b := w5.heap.size) (by omega)
    have hs5_2 := sz1 (a := w4.heap.size) (b := w5.heap.size) (by omega)
    cases a'
    · cases b'
      · cases hg : S.rg
        · rw [hg] at HB
          go_wp2
          refine bodyPost_ret (v := .tuple #[.agg #[.int .i64 0, .int .i64 0, .int .i64 0, .int .i64 0, .int .i64 0], .bool false]) (by simp [results, Try.results56, go_sem, *]) rfl ?_
          have hbad := HB.out.trans (show _ = true by simp)
          exact ⟨by rw [HO.out, (HZ.out hbad).1, (HZ.out hbad).2, hbad]; rfl, (by repeat (first | (with_reducible refine Ext.setCell ?_ (by first | (simp; done) | (simp; omega)) _) | with_reducible refine Ext.alloc ?_ _ | with_reducible refine Ext.drew ?_ | with_reducible refine Ext.drewN ?_ _ | with_reducible assumption | with_reducible exact Ext.refl _ | with_reducible refine Ext.trans ?_ (by with_reducible assumption)))⟩
        · rw [hg] at HB
          have HT' := Lib.hid (HT.out (by rw [HB.out]; rfl))
          go_wp2_with fail
          refine ((HD _).out).mono ?_
          rintro e w6 ⟨rfl, hx6⟩
          obtain ⟨hc6, hf6⟩ := hx6.cells
          have hz6 := hx6.size
          try simp at hz6
          have hs6_0 := sz3 (a := w.heap.size) (b := w6.heap.size) (by omega)
          have hs6_1 := sz1 (a := w3.heap.size) (b := w6.heap.size) (by omega)
          have hs6_2 := sz1 (a := w4.heap.size) (b := w6.heap.size) (by omega)
          have hs6_3 := sz1 (a := w5.heap.size) (b := w6.heap.size) (by omega)
          go_wp2
          refine bodyPost_ret (v := .tuple #[.agg #[.int .i64 (lowX M S.clip).a, .int .i64 (lowX M S.clip).b, .int .i64 (lowX M S.clip).c, .int .i64 (lowX M S.clip).d, .int .i64 (lowE M S.clip)], .bool true]) (by simp [results, Try.results56, go_sem, *]) rfl ?_
          have hgood := HB.out.trans (show _ = false by rfl)
          exact ⟨by rw [HO.out, HT'.out.1, HT'.out.2, hgood]; rfl, (by repeat (first | (with_reducible refine Ext.setCell ?_ (by first | (simp; done) | (simp; omega)) _) | with_reducible refine Ext.alloc ?_ _ | with_reducible refine Ext.drew ?_ | with_reducible refine Ext.drewN ?_ _ | with_reducible assumption | with_reducible exact Ext.refl _ | with_reducible refine Ext.trans ?_ (by with_reducible assumption)))⟩
      · go_wp2
        refine bodyPost_ret (v := .tuple #[.agg #[.int .i64 0, .int .i64 0, .int .i64 0, .int .i64 0, .int .i64 0], .bool false]) (by simp [results, Try.results56, go_sem, *]) rfl ?_
        have hbad := HB.out.trans (show _ = true by simp)
        exact ⟨by rw [HO.out, (HZ.out hbad).1, (HZ.out hbad).2, hbad]; rfl, (by repeat (first | (with_reducible refine Ext.setCell ?_ (by first | (simp; done) | (simp; omega)) _) | with_reducible refine Ext.alloc ?_ _ | with_reducible refine Ext.drew ?_ | with_reducible refine Ext.drewN ?_ _ | with_reducible assumption | with_reducible exact Ext.refl _ | with_reducible refine Ext.trans ?_ (by with_reducible assumption)))⟩
    · go_wp2
      refine bodyPost_ret (v := .tuple #[.agg #[.int .i64 0, .int .i64 0, .int .i64 0, .int .i64 0, .int .i64 0], .bool false]) (by simp [results, Try.results56, go_sem, *]) rfl ?_
      have hbad := HB.out.trans (show _ = true by simp)
      exact ⟨by rw [HO.out, (HZ.out hbad).1, (HZ.out hbad).2, hbad]; rfl, (by repeat (first | (with_reducible refine Ext.setCell ?_ (by first | (simp; done) | (simp; omega)) _) | with_reducible refine Ext.alloc ?_ _ | with_reducible refine Ext.drew ?_ | with_reducible refine Ext.drewN ?_ _ | with_reducible assumption | with_reducible exact Ext.refl _ | with_reducible refine Ext.trans ?_ (by with_reducible assumption)))⟩
  · have hmn' : ¬ (m : Int) < n := by omega
    obtain rfl : M = m := by omega
    clear hM
    go_enter Try.func56, Try.ntmps56
    go_wp2_with fail
    refine ((HG1 _).out).mono ?_
    rintro e w1 ⟨rfl, hx1⟩
    obtain ⟨hc1, hf1⟩ := hx1.cells
    have hz1 := hx1.size
    try simp at hz1
    have hs1_0 := sz3 (a := w.heap.size) (b := w1.heap.size) (by omega)
    go_wp2_with fail
    refine ((HG2 _).out).mono ?_
    rintro e w2 ⟨rfl, hx2⟩
    obtain ⟨hc2, hf2⟩ := hx2.cells
    have hz2 := hx2.size
    try simp at hz2
    have hs2_0 := sz3 (a := w.heap.size) (b := w2.heap.size) (by omega)
    go_wp2_with fail
    refine ((HR1 _).out).mono ?_
    rintro e w3 ⟨rfl, hx3⟩
    obtain ⟨hc3, hf3⟩ := hx3.cells
    have hz3 := hx3.size
    try simp at hz3
    have hs3_0 := sz3 (a := w.heap.size) (b := w3.heap.size) (by omega)
    go_wp2_with fail
    refine ((HR2 _).out).mono ?_
    rintro e w4 ⟨rfl, hx4⟩
    obtain ⟨hc4, hf4⟩ := hx4.cells
    have hz4 := hx4.size
    try simp at hz4
    have hs4_0 := sz3 (a := w.heap.size) (b := w4.heap.size) (by omega)
    have hs4_1 := sz1 (a := w3.heap.size) (b := w4.heap.size) (by omega)
    go_wp2_with fail
    refine ((HF _).out).mono ?_
    rintro e w5 ⟨rfl, hx5⟩
    obtain ⟨hc5, hf5⟩ := hx5.cells
    have hz5 := hx5.size
    try simp at hz5
    have hs5_0 := sz3 (a := w.heap.size) (b := w5.heap.size) (by omega)
    have hs5_1 := sz1 (a := w3.heap.size) (b := w5.heap.size) (by omega)
    have hs5_2 := sz1 (a := w4.heap.size) (b := w5.heap.size) (by omega)
    cases a'
    · cases b'
      · cases hg : S.rg
        · rw [hg] at HB
          go_wp2
          refine bodyPost_ret (v := .tuple #[.agg #[.int .i64 0, .int .i64 0, .int .i64 0, .int .i64 0, .int .i64 0], .bool false]) (by simp [results, Try.results56, go_sem, *]) rfl ?_
          have hbad := HB.out.trans (show _ = true by simp)
          exact ⟨by rw [HO.out, (HZ.out hbad).1, (HZ.out hbad).2, hbad]; rfl, (by repeat (first | (with_reducible refine Ext.setCell ?_ (by first | (simp; done) | (simp; omega)) _) | with_reducible refine Ext.alloc ?_ _ | with_reducible refine Ext.drew ?_ | with_reducible refine Ext.drewN ?_ _ | with_reducible assumption | with_reducible exact Ext.refl _ | with_reducible refine Ext.trans ?_ (by with_reducible assumption)))⟩
        · rw [hg] at HB
          have HT' := Lib.hid (HT.out (by rw [HB.out]; rfl))
          go_wp2_with fail
          refine ((HD _).out).mono ?_
          rintro e w6 ⟨rfl, hx6⟩
          obtain ⟨hc6, hf6⟩ := hx6.cells
          have hz6 := hx6.size
          try simp at hz6
          have hs6_0 := sz3 (a := w.heap.size) (b := w6.heap.size) (by omega)
          have hs6_1 := sz1 (a := w3.heap.size) (b := w6.heap.size) (by omega)
          have hs6_2 := sz1 (a := w4.heap.size) (b := w6.heap.size) (by omega)
          have hs6_3 := sz1 (a := w5.heap.size) (b := w6.heap.size) (by omega)
          go_wp2
          refine bodyPost_ret (v := .tuple #[.agg #[.int .i64 (lowX M S.clip).a, .int .i64 (lowX M S.clip).b, .int .i64 (lowX M S.clip).c, .int .i64 (lowX M S.clip).d, .int .i64 (lowE M S.clip)], .bool true]) (by simp [results, Try.results56, go_sem, *]) rfl ?_
          have hgood := HB.out.trans (show _ = false by rfl)
          exact ⟨by rw [HO.out, HT'.out.1, HT'.out.2, hgood]; rfl, (by repeat (first | (with_reducible refine Ext.setCell ?_ (by first | (simp; done) | (simp; omega)) _) | with_reducible refine Ext.alloc ?_ _ | with_reducible refine Ext.drew ?_ | with_reducible refine Ext.drewN ?_ _ | with_reducible assumption | with_reducible exact Ext.refl _ | with_reducible refine Ext.trans ?_ (by with_reducible assumption)))⟩
      · go_wp2
        refine bodyPost_ret (v := .tuple #[.agg #[.int .i64 0, .int .i64 0, .int .i64 0, .int .i64 0, .int .i64 0], .bool false]) (by simp [results, Try.results56, go_sem, *]) rfl ?_
        have hbad := HB.out.trans (show _ = true by simp)
        exact ⟨by rw [HO.out, (HZ.out hbad).1, (HZ.out hbad).2, hbad]; rfl, (by repeat (first | (with_reducible refine Ext.setCell ?_ (by first | (simp; done) | (simp; omega)) _) | with_reducible refine Ext.alloc ?_ _ | with_reducible refine Ext.drew ?_ | with_reducible refine Ext.drewN ?_ _ | with_reducible assumption | with_reducible exact Ext.refl _ | with_reducible refine Ext.trans ?_ (by with_reducible assumption)))⟩
    · go_wp2
      refine bodyPost_ret (v := .tuple #[.agg #[.int .i64 0, .int .i64 0, .int .i64 0, .int .i64 0, .int .i64 0], .bool false]) (by simp [results, Try.results56, go_sem, *]) rfl ?_
      have hbad := HB.out.trans (show _ = true by simp)
      exact ⟨by rw [HO.out, (HZ.out hbad).1, (HZ.out hbad).2, hbad]; rfl, (by repeat (first | (with_reducible refine Ext.setCell ?_ (by first | (simp; done) | (simp; omega)) _) | with_reducible refine Ext.alloc ?_ _ | with_reducible refine Ext.drew ?_ | with_reducible refine Ext.drewN ?_ _ | with_reducible assumption | with_reducible exact Ext.refl _ | with_reducible refine Ext.trans ?_ (by with_reducible assumption)))⟩

end Go.Proofs.Ytnlhonlfkmpleaa
