/- Dyadic numbers: the program's sum and difference. -/
import Derived.Test.YtbddgeoaaklgpaaDyL
namespace Go.Proofs.Ytbddgeoaaklgpaa
open Go.RowKit Go.Lib
set_option linter.unusedVariables false
set_option linter.unusedSimpArgs false

def cbS (op : R4 → R4 → R4) (X : R4) (m : Nat) (Y : R4) (n : Nat) : R4 := op (raiseV (n - m) X) (raiseV (m - n) Y)
def cbBad (op : R4 → R4 → R4) (X : R4) (m : Nat) (Y : R4) (n : Nat) : Bool := raiseB (n - m) X || raiseB (m - n) Y || !(cbS op X m Y n).rg
/-- what an operation on rings returns -/
def OpC (f : FuncId) (op : R4 → R4 → R4) : Prop := ∀ (A B : R4) (w : World), A.rg = true → B.rg = true →
  Calls Try.prog f #[.agg #[.int .i64 A.a, .int .i64 A.b, .int .i64 A.c, .int .i64 A.d], .agg #[.int .i64 B.a, .int .i64 B.b, .int .i64 B.c, .int .i64 B.d]] w fun e w' =>
    e = .returned (.tuple #[.agg #[.int .i64 (op A B).clip.a, .int .i64 (op A B).clip.b, .int .i64 (op A B).clip.c, .int .i64 (op A B).clip.d], .bool (op A B).rg]) ∧ Ext w w'

theorem clip_ifZ (S : R4) : S.clip.a = ifZ S.rg S.a ∧ S.clip.b = ifZ S.rg S.b ∧ S.clip.c = ifZ S.rg S.c ∧ S.clip.d = ifZ S.rg S.d := by
  unfold R4.clip
  cases S.rg
  · exact ⟨rfl, rfl, rfl, rfl⟩
  · exact ⟨rfl, rfl, rfl, rfl⟩

theorem addRing_op : OpC 114 R4.add := by
  intro A B w hA hB
  refine (addRing_any A.a A.b A.c A.d B.a B.b B.c B.d w).mono ?_
  rintro e w' ⟨rfl, hx⟩
  have e1 : okAddRing A.a A.b A.c A.d B.a B.b B.c B.d = (A.add B).rg := by
    unfold okAddRing
    rw [show Rg A.a A.b A.c A.d = true from hA, show Rg B.a B.b B.c B.d = true from hB]
    rfl
  obtain ⟨c1, c2, c3, c4⟩ := clip_ifZ (A.add B)
  rw [e1, c1, c2, c3, c4]
  exact ⟨rfl, hx⟩

/-- the program's result of an operation -/
def cbOk (op : R4 → R4 → R4) (X : R4) (e : Int) (Y : R4) (j : Int) : Bool := GD X e && GD Y j && !cbBad op X e.toNat Y j.toNat
def cbX (op : R4 → R4 → R4) (X : R4) (e : Int) (Y : R4) (j : Int) : R4 := if cbOk op X e Y j then lowX (max e.toNat j.toNat) (cbS op X e.toNat Y j.toNat).clip else R4.zero
def cbE (op : R4 → R4 → R4) (X : R4) (e : Int) (Y : R4) (j : Int) : Int := if cbOk op X e Y j then (lowE (max e.toNat j.toNat) (cbS op X e.toNat Y j.toNat).clip : Int) else 0
theorem cb_false {op : R4 → R4 → R4} {X : R4} {e : Int} {Y : R4} {j : Int} (h : cbOk op X e Y j = false) : cbX op X e Y j = R4.zero ∧ cbE op X e Y j = 0 := by
  unfold cbX cbE
  rw [h]
  exact ⟨rfl, rfl⟩
theorem cb_true {op : R4 → R4 → R4} {X : R4} {e : Int} {Y : R4} {j : Int} (h : cbOk op X e Y j = true) : cbX op X e Y j = lowX (max e.toNat j.toNat) (cbS op X e.toNat Y j.toNat).clip ∧ cbE op X e Y j = (lowE (max e.toNat j.toNat) (cbS op X e.toNat Y j.toNat).clip : Int) := by
  unfold cbX cbE
  rw [h]
  exact ⟨rfl, rfl⟩

set_option maxRecDepth 20000 in
set_option maxHeartbeats 2000000 in
theorem combined_add (X : R4) (e : Int) (Y : R4) (j : Int) (w : World) :
    Calls Try.prog 113 #[.agg #[.int .i64 X.a, .int .i64 X.b, .int .i64 X.c, .int .i64 X.d, .int .i64 e], .agg #[.int .i64 Y.a, .int .i64 Y.b, .int .i64 Y.c, .int .i64 Y.d, .int .i64 j], .func (.func 114) #[] #[]] w fun en w' =>
      en = .returned (.tuple #[.agg #[.int .i64 (cbX R4.add X e Y j).a, .int .i64 (cbX R4.add X e Y j).b, .int .i64 (cbX R4.add X e Y j).c, .int .i64 (cbX R4.add X e Y j).d, .int .i64 (cbE R4.add X e Y j)], .bool (cbOk R4.add X e Y j)]) ∧ Ext w w' := by
  have HG1 : ∀ w', Hid (Calls Try.prog 110 #[.agg #[.int .i64 X.a, .int .i64 X.b, .int .i64 X.c, .int .i64 X.d, .int .i64 e]] w' fun en w'' => en = .returned (.bool (GD X e)) ∧ Ext w' w'') := fun w' => isValidDyadic_any X.a X.b X.c X.d e w'
  have HG2 : ∀ w', Hid (Calls Try.prog 110 #[.agg #[.int .i64 Y.a, .int .i64 Y.b, .int .i64 Y.c, .int .i64 Y.d, .int .i64 j]] w' fun en w'' => en = .returned (.bool (GD Y j)) ∧ Ext w' w'') := fun w' => isValidDyadic_any Y.a Y.b Y.c Y.d j w'
  cases h1 : GD X e
  · have HO : Hid (cbOk R4.add X e Y j = false) := by unfold Hid cbOk; rw [h1]; rfl
    have HZ := Lib.hid (cb_false HO.out)
    rw [h1] at HG1
    go_enter Try.func113, Try.ntmps113
    go_wp2_with fail
    refine ((HG1 _).out).mono ?_
    rintro e w1 ⟨rfl, hx1⟩
    obtain ⟨hc1, hf1⟩ := hx1.cells
    have hz1 := hx1.size
    try simp at hz1
    have hs1_0 := sz3 (a := w.heap.size) (b := w1.heap.size) (by omega)
    go_wp2
    refine bodyPost_ret (v := .tuple #[.agg #[.int .i64 0, .int .i64 0, .int .i64 0, .int .i64 0, .int .i64 0], .bool false]) (by simp [results, Try.results113, go_sem, *]) rfl ?_
    exact ⟨by rw [HZ.out.1, HZ.out.2, HO.out]; rfl, (by repeat (first | (with_reducible refine Ext.setCell ?_ (by first | (simp; done) | (simp; omega)) _) | with_reducible refine Ext.alloc ?_ _ | with_reducible refine Ext.drew ?_ | with_reducible refine Ext.drewN ?_ _ | with_reducible assumption | with_reducible exact Ext.refl _ | with_reducible refine Ext.trans ?_ (by with_reducible assumption)))⟩
  cases h2 : GD Y j
  · have HO : Hid (cbOk R4.add X e Y j = false) := by unfold Hid cbOk; rw [h2, Bool.and_false]; rfl
    have HZ := Lib.hid (cb_false HO.out)
    rw [h1] at HG1
    rw [h2] at HG2
    go_enter Try.func113, Try.ntmps113
    go_wp2_with fail
    refine ((HG1 _).out).mono ?_
    rintro e w1 ⟨rfl, hx1⟩
    obtain ⟨hc1, hf1⟩ := hx1.cells
    have hz1 := hx1.size
    try simp at hz1
    have hs1_0 := sz3 (a := w.heap.size) (b := w1.heap.size) (by omega)
    go_wp2_with fail
    refine ((HG2 _).out).mono ?_
    rintro e w2 ⟨rfl, hx2⟩
    obtain ⟨hc2, hf2⟩ := hx2.cells
    have hz2 := hx2.size
    try simp at hz2
    have hs2_0 := sz3 (a := w.heap.size) (b := w2.heap.size) (by omega)
    go_wp2
    refine bodyPost_ret (v := .tuple #[.agg #[.int .i64 0, .int .i64 0, .int .i64 0, .int .i64 0, .int .i64 0], .bool false]) (by simp [results, Try.results113, go_sem, *]) rfl ?_
    exact ⟨by rw [HZ.out.1, HZ.out.2, HO.out]; rfl, (by repeat (first | (with_reducible refine Ext.setCell ?_ (by first | (simp; done) | (simp; omega)) _) | with_reducible refine Ext.alloc ?_ _ | with_reducible refine Ext.drew ?_ | with_reducible refine Ext.drewN ?_ _ | with_reducible assumption | with_reducible exact Ext.refl _ | with_reducible refine Ext.trans ?_ (by with_reducible assumption)))⟩
  have HO : Hid (cbOk R4.add X e Y j = !cbBad R4.add X e.toNat Y j.toNat) := by unfold Hid cbOk; rw [h1, h2]; rfl
  rw [h1] at HG1
  rw [h2] at HG2
  obtain ⟨r1, r2, r3, -⟩ := GD_rg h1
  obtain ⟨s1, s2, s3, -⟩ := GD_rg h2
  obtain ⟨m, rfl⟩ : ∃ m : Nat, e = m := ⟨e.toNat, by omega⟩
  obtain ⟨n, rfl⟩ : ∃ n : Nat, j = n := ⟨j.toNat, by omega⟩
  simp only [Int.toNat_natCast] at HO
  obtain ⟨M, hM⟩ : ∃ M : Nat, M = max m n := ⟨_, rfl⟩
  have hMb : M ≤ 60 := by omega
  have HR1 := fun w' => Lib.hid (raised_any X m M r1 (by omega) hMb w')
  have HR2 := fun w' => Lib.hid (raised_any Y n M s1 (by omega) hMb w')
  have e1 : M - m = n - m := by omega
  have e2 : M - n = m - n := by omega
  simp only [e1, e2] at HR1 HR2
  have HF := fun w' => Lib.hid (addRing_op (raiseV (n - m) X) (raiseV (m - n) Y) w' (rg_raise _ _ r1) (rg_raise _ _ s1))
  have HS : Hid (cbS R4.add X m Y n = R4.add (raiseV (n - m) X) (raiseV (m - n) Y)) := rfl
  have HD := fun w' => Lib.hid (dyadicOf_any M hMb (cbS R4.add X m Y n).clip (rg_clip _) w')
  have HB : Hid (cbBad R4.add X m Y n = (raiseB (n - m) X || raiseB (m - n) Y || !(cbS R4.add X m Y n).rg)) := rfl
  have HT : Hid (cbBad R4.add X m Y n = false → cbX R4.add X m Y n = lowX M (cbS R4.add X m Y n).clip ∧ cbE R4.add X m Y n = (lowE M (cbS R4.add X m Y n).clip : Int)) := fun h => by
    have := cb_true (op := R4.add) (X := X) (e := m) (Y := Y) (j := n) (by rw [HO.out, h]; rfl)
    simp only [Int.toNat_natCast] at this
    rw [hM]
    exact this
  have HZ : Hid (cbBad R4.add X m Y n = true → cbX R4.add X m Y n = R4.zero ∧ cbE R4.add X m Y n = 0) := fun h => cb_false (by rw [HO.out, h]; rfl)
  rw [← HS.out] at HF
  clear r1 s1 h1 h2 HS e1 e2
  obtain ⟨S, hS⟩ : ∃ S, cbS R4.add X m Y n = S := ⟨_, rfl⟩
  obtain ⟨A, hA⟩ : ∃ A, raiseV (n - m) X = A := ⟨_, rfl⟩
  obtain ⟨B, hB⟩ : ∃ B, raiseV (m - n) Y = B := ⟨_, rfl⟩
  obtain ⟨a', ha⟩ : ∃ o, raiseB (n - m) X = o := ⟨_, rfl⟩
  obtain ⟨b', hb⟩ : ∃ o, raiseB (m - n) Y = o := ⟨_, rfl⟩
  simp only [hS, hA, hB, ha, hb] at HF HD HB HT HZ HR1 HR2
  clear hS hA hB ha hb
  by_cases hmn : m < n
  · have hmn' : (m : Int) < n := by omega
    obtain rfl : M = n := by omega
    clear hM
    go_enter Try.func113, Try.ntmps113
    go_wp2_with fail
    refine ((HG1 _).out).mono ?_
    rintro e w1 ⟨rfl, hx1⟩
    obtain ⟨hc1, hf1⟩ := hx1.cells
    have hz1 := hx1.size
    try simp at hz1
    have hs1_0 := sz3 (a := w.heap.size) (b := w1.heap.size) (by omega)
    go_wp2_with fail
    refine ((HG2 _).out).mono ?_
    rintro e w2 ⟨rfl, hx2⟩
    obtain ⟨hc2, hf2⟩ := hx2.cells
    have hz2 := hx2.size
    try simp at hz2
    have hs2_0 := sz3 (a := w.heap.size) (b := w2.heap.size) (by omega)
    go_wp2_with fail
    refine ((HR1 _).out).mono ?_
    rintro e w3 ⟨rfl, hx3⟩
    obtain ⟨hc3, hf3⟩ := hx3.cells
    have hz3 := hx3.size
    try simp at hz3
    have hs3_0 := sz3 (a := w.heap.size) (b := w3.heap.size) (by omega)
    go_wp2_with fail
    refine ((HR2 _).out).mono ?_
    rintro e w4 ⟨rfl, hx4⟩
    obtain ⟨hc4, hf4⟩ := hx4.cells
    have hz4 := hx4.size
    try simp at hz4
    have hs4_0 := sz3 (a := w.heap.size) (b := w4.heap.size) (by omega)
    have hs4_1 := sz1 (a := w3.heap.size) (b := w4.heap.size) (by omega)
    go_wp2_with fail
    refine ((HF _).out).mono ?_
    rintro e w5 ⟨rfl, hx5⟩
    obtain ⟨hc5, hf5⟩ := hx5.cells
    have hz5 := hx5.size
    try simp at hz5
    have hs5_0 := sz3 (a := w.heap.size) (b := w5.heap.size) (by omega)
    have hs5_1 := sz1 (a := w3.heap.size) (b := w5.heap.size) (by omega)
    have hs5_2 := sz1 (a := w4.heap.size) (b := w5.heap.size) (by omega)
    cases a'
    · cases b'
      · cases hg : S.rg
        · rw [hg] at HB
          go_wp2
          refine bodyPost_ret (v := .tuple #[.agg #[.int .i64 0, .int .i64 0, .int .i64 0, .int .i64 0, .int .i64 0], .bool false]) (by simp [results, Try.results113, go_sem, *]) rfl ?_
          have hbad := HB.out.trans (show _ = true by simp)
          exact ⟨by rw [HO.out, (HZ.out hbad).1, (HZ.out hbad).2, hbad]; rfl, (by repeat (first | (with_reducible refine Ext.setCell ?_ (by first | (simp; done) | (simp; omega)) _) | with_reducible refine Ext.alloc ?_ _ | with_reducible refine Ext.drew ?_ | with_reducible refine Ext.drewN ?_ _ | with_reducible assumption | with_reducible exact Ext.refl _ | with_reducible refine Ext.trans ?_ (by with_reducible assumption)))⟩
        · rw [hg] at HB
          have HT' := Lib.hid (HT.out (by rw [HB.out]; rfl))
          go_wp2_with fail
          refine ((HD _).out).mono ?_
          rintro e w6 ⟨rfl, hx6⟩
          obtain ⟨hc6, hf6⟩ := hx6.cells
          have hz6 := hx6.size
          try simp at hz6
          have hs6_0 := sz3 (a := w.heap.size) (b := w6.heap.size) (by omega)
          have hs6_1 := sz1 (a := w3.heap.size) (b := w6.heap.size) (by omega)
          have hs6_2 := sz1 (a := w4.heap.size) (b := w6.heap.size) (by omega)
          have hs6_3 := sz1 (a := w5.heap.size) (b := w6.heap.size) (by omega)
          go_wp2
          refine bodyPost_ret (v := .tuple #[.agg #[.int .i64 (lowX M S.clip).a, .int .i64 (lowX M S.clip).b, .int .i64 (lowX M S.clip).c, .int .i64 (lowX M S.clip).d, .int .i64 (lowE M S.clip)], .bool true]) (by simp [results, Try.results113, go_sem, *]) rfl ?_
          have hgood := HB.out.trans (show _ = false by rfl)
          exact ⟨by rw [HO.out, HT'.out.1, HT'.out.2, hgood]; rfl, (by repeat (first | (with_reducible refine Ext.setCell ?_ (by first | (simp; done) | (simp; omega)) _) | with_reducible refine Ext.alloc ?_ _ | with_reducible refine Ext.drew ?_ | with_reducible refine Ext.drewN ?_ _ | with_reducible assumption | with_reducible exact Ext.refl _ | with_reducible refine Ext.trans ?_ (by with_reducible assumption)))⟩
      · go_wp2
        refine bodyPost_ret (v := .tuple #[.agg #[.int .i64 0, .int .i64 0, .int .i64 0, .int .i64 0, .int .i64 0], .bool false]) (by simp [results, Try.results113, go_sem, *]) rfl ?_
        have hbad := HB.out.trans (show _ = true by simp)
        exact ⟨by rw [HO.out, (HZ.out hbad).1, (HZ.out hbad).2, hbad]; rfl, (by repeat (first | (with_reducible refine Ext.setCell ?_ (by first | (simp; done) | (simp; omega)) _) | with_reducible refine Ext.alloc ?_ _ | with_reducible refine Ext.drew ?_ | with_reducible refine Ext.drewN ?_ _ | with_reducible assumption | with_reducible exact Ext.refl _ | with_reducible refine Ext.trans ?_ (by with_reducible assumption)))⟩
    · go_wp2
      refine bodyPost_ret (v := .tuple #[.agg #[.int .i64 0, .int .i64 0, .int .i64 0, .int .i64 0, .int .i64 0], .bool false]) (by simp [results, Try.results113, go_sem, *]) rfl ?_
      have hbad := HB.out.trans (show _ = true by simp)
      exact ⟨by rw [HO.out, (HZ.out hbad).1, (HZ.out hbad).2, hbad]; rfl, (by repeat (first | (with_reducible refine Ext.setCell ?_ (by first | (simp; done) | (simp; omega)) _) | with_reducible refine Ext.alloc ?_ _ | with_reducible refine Ext.drew ?_ | with_reducible refine Ext.drewN ?_ _ | with_reducible assumption | with_reducible exact Ext.refl _ | with_reducible refine Ext.trans ?_ (by with_reducible assumption)))⟩
  · have hmn' : ¬ (m : Int) < n := by omega
    obtain rfl : M = m := by omega
    clear hM
    go_enter Try.func113, Try.ntmps113
    go_wp2_with fail
    refine ((HG1 _).out).mono ?_
    rintro e w1 ⟨rfl, hx1⟩
    obtain ⟨hc1, hf1⟩ := hx1.cells
    have hz1 := hx1.size
    try simp at hz1
    have hs1_0 := sz3 (a := w.heap.size) (b := w1.heap.size) (by omega)
    go_wp2_with fail
    refine ((HG2 _).out).mono ?_
    rintro e w2 ⟨rfl, hx2⟩
    obtain ⟨hc2, hf2⟩ := hx2.cells
    have hz2 := hx2.size
    try simp at hz2
    have hs2_0 := sz3 (a := w.heap.size) (b := w2.heap.size) (by omega)
    go_wp2_with fail
    refine ((HR1 _).out).mono ?_
    rintro e w3 ⟨rfl, hx3⟩
    obtain ⟨hc3, hf3⟩ := hx3.cells
    have hz3 := hx3.size
    try simp at hz3
    have hs3_0 := sz3 (a := w.heap.size) (b := w3.heap.size) (by omega)
    go_wp2_with fail
    refine ((HR2 _).out).mono ?_
    rintro e w4 ⟨rfl, hx4⟩
    obtain ⟨hc4, hf4⟩ := hx4.cells
    have hz4 := hx4.size
    try simp at hz4
    have hs4_0 := sz3 (a := w.heap.size) (b := w4.heap.size) (by omega)
    have hs4_1 := sz1 (a := w3.heap.size) (b := w4.heap.size) (by omega)
    go_wp2_with fail
    refine ((HF _).out).mono ?_
    rintro e w5 ⟨rfl, hx5⟩
    obtain ⟨hc5, hf5⟩ := hx5.cells
    have hz5 := hx5.size
    try simp at hz5
    have hs5_0 := sz3 (a := w.heap.size) (b := w5.heap.size) (by omega)
    have hs5_1 := sz1 (a := w3.heap.size) (b := w5.heap.size) (by omega)
    have hs5_2 := sz1 (a := w4.heap.size) (b := w5.heap.size) (by omega)
    cases a'
    · cases b'
      · cases hg : S.rg
        · rw [hg] at HB
          go_wp2
          refine bodyPost_ret (v := .tuple #[.agg #[.int .i64 0, .int .i64 0, .int .i64 0, .int .i64 0, .int .i64 0], .bool false]) (by simp [results, Try.results113, go_sem, *]) rfl ?_
          have hbad := HB.out.trans (show _ = true by simp)
          exact ⟨by rw [HO.out, (HZ.out hbad).1, (HZ.out hbad).2, hbad]; rfl, (by repeat (first | (with_reducible refine Ext.setCell ?_ (by first | (simp; done) | (simp; omega)) _) | with_reducible refine Ext.alloc ?_ _ | with_reducible refine Ext.drew ?_ | with_reducible refine Ext.drewN ?_ _ | with_reducible assumption | with_reducible exact Ext.refl _ | with_reducible refine Ext.trans ?_ (by with_reducible assumption)))⟩
        · rw [hg] at HB
          have HT' := Lib.hid (HT.out (by rw [HB.out]; rfl))
          go_wp2_with fail
          refine ((HD _).out).mono ?_
          rintro e w6 ⟨rfl, hx6⟩
          obtain ⟨hc6, hf6⟩ := hx6.cells
          have hz6 := hx6.size
          try simp at hz6
          have hs6_0 := sz3 (a := w.heap.size) (b := w6.heap.size) (by omega)
          have hs6_1 := sz1 (a := w3.heap.size) (b := w6.heap.size) (by omega)
          have hs6_2 := sz1 (a := w4.heap.size) (b := w6.heap.size) (by omega)
          have hs6_3 := sz1 (a := w5.heap.size) (b := w6.heap.size) (by omega)
          go_wp2
          refine bodyPost_ret (v := .tuple #[.agg #[.int .i64 (lowX M S.clip).a, .int .i64 (lowX M S.clip).b, .int .i64 (lowX M S.clip).c, .int .i64 (lowX M S.clip).d, .int .i64 (lowE M S.clip)], .bool true]) (by simp [results, Try.results113, go_sem, *]) rfl ?_
          have hgood := HB.out.trans (show _ = false by rfl)
          exact ⟨by rw [HO.out, HT'.out.1, HT'.out.2, hgood]; rfl, (by repeat (first | (with_reducible refine Ext.setCell ?_ (by first | (simp; done) | (simp; omega)) _) | with_reducible refine Ext.alloc ?_ _ | with_reducible refine Ext.drew ?_ | with_reducible refine Ext.drewN ?_ _ | with_reducible assumption | with_reducible exact Ext.refl _ | with_reducible refine Ext.trans ?_ (by with_reducible assumption)))⟩
      · go_wp2
        refine bodyPost_ret (v := .tuple #[.agg #[.int .i64 0, .int .i64 0, .int .i64 0, .int .i64 0, .int .i64 0], .bool false]) (by simp [results, Try.results113, go_sem, *]) rfl ?_
        have hbad := HB.out.trans (show _ = true by simp)
        exact ⟨by rw [HO.out, (HZ.out hbad).1, (HZ.out hbad).2, hbad]; rfl, (by repeat (first | (with_reducible refine Ext.setCell ?_ (by first | (simp; done) | (simp; omega)) _) | with_reducible refine Ext.alloc ?_ _ | with_reducible refine Ext.drew ?_ | with_reducible refine Ext.drewN ?_ _ | with_reducible assumption | with_reducible exact Ext.refl _ | with_reducible refine Ext.trans ?_ (by with_reducible assumption)))⟩
    · go_wp2
      refine bodyPost_ret (v := .tuple #[.agg #[.int .i64 0, .int .i64 0, .int .i64 0, .int .i64 0, .int .i64 0], .bool false]) (by simp [results, Try.results113, go_sem, *]) rfl ?_
      have hbad := HB.out.trans (show _ = true by simp)
      exact ⟨by rw [HO.out, (HZ.out hbad).1, (HZ.out hbad).2, hbad]; rfl, (by repeat (first | (with_reducible refine Ext.setCell ?_ (by first | (simp; done) | (simp; omega)) _) | with_reducible refine Ext.alloc ?_ _ | with_reducible refine Ext.drew ?_ | with_reducible refine Ext.drewN ?_ _ | with_reducible assumption | with_reducible exact Ext.refl _ | with_reducible refine Ext.trans ?_ (by with_reducible assumption)))⟩


open Go.RowKit Go.Lib
set_option linter.unusedVariables false
set_option linter.unusedSimpArgs false

theorem raise_neg : ∀ (k : Nat) (Y : R4), raiseV k Y.neg = (raiseV k Y).neg ∧ raiseB k Y.neg = raiseB k Y
  | 0, _ => ⟨rfl, rfl⟩
  | k + 1, Y => by
    have e1 : Y.neg.root = Y.root.neg := by
      simp only [R4.neg, R4.root, R4.mk.injEq]
      omega
    have e2 : Y.root.neg.rg = Y.root.rg := by
      cases h : Y.root.rg
      · cases h2 : Y.root.neg.rg
        · rfl
        · have := rg_neg h2
          simp only [R4.neg, Int.neg_neg] at this
          rw [← h]
          exact this.symm
      · exact rg_neg h
    have e3 : Y.root.neg.clip = Y.root.clip.neg := by
      cases h : Y.root.rg
      · rw [clip_false (e2.trans h), clip_false h]; rfl
      · rw [clip_true (e2.trans h), clip_true h]
    obtain ⟨h1, h2⟩ := raise_neg k Y.root.clip
    have f1 : raiseV (k + 1) Y.neg = raiseV k Y.neg.root.clip := rfl
    have f2 : raiseB (k + 1) Y.neg = (!Y.neg.root.rg || raiseB k Y.neg.root.clip) := rfl
    have f3 : raiseV (k + 1) Y = raiseV k Y.root.clip := rfl
    have f4 : raiseB (k + 1) Y = (!Y.root.rg || raiseB k Y.root.clip) := rfl
    rw [f1, f2, f3, f4, e1, e3, e2, h1, h2]
    exact ⟨rfl, rfl⟩
theorem sub_eq (A B : R4) : A.sub B = A.add B.neg := by
  simp only [R4.sub, R4.add, R4.neg, R4.mk.injEq]
  omega
theorem cbS_sub (X : R4) (m : Nat) (Y : R4) (n : Nat) : cbS R4.sub X m Y n = dyS X m Y.neg n := by
  unfold cbS dyS
  rw [sub_eq, (raise_neg _ _).1]
theorem cbBad_sub (X : R4) (m : Nat) (Y : R4) (n : Nat) : cbBad R4.sub X m Y n = dyBad X m Y.neg n := by
  unfold cbBad dyBad
  rw [cbS_sub, (raise_neg _ _).2]
theorem cbOk_sub (X : R4) (e : Int) (Y : R4) (j : Int) : cbOk R4.sub X e Y j = adOk X e Y.neg j := by
  unfold cbOk adOk
  rw [cbBad_sub, neg_valid]
theorem cbX_sub (X : R4) (e : Int) (Y : R4) (j : Int) : cbX R4.sub X e Y j = adX X e Y.neg j ∧ cbE R4.sub X e Y j = adE X e Y.neg j := by
  unfold cbX adX cbE adE dyX dyE
  rw [cbOk_sub, cbS_sub]
  exact ⟨rfl, rfl⟩
theorem cb_add (X : R4) (e : Int) (Y : R4) (j : Int) : cbOk R4.add X e Y j = adOk X e Y j ∧ cbX R4.add X e Y j = adX X e Y j ∧ cbE R4.add X e Y j = adE X e Y j := ⟨rfl, rfl, rfl⟩

theorem addDyadic_any (X : R4) (e : Int) (Y : R4) (j : Int) (w : World) :
    Calls Try.prog 104 #[.agg #[.int .i64 X.a, .int .i64 X.b, .int .i64 X.c, .int .i64 X.d, .int .i64 e], .agg #[.int .i64 Y.a, .int .i64 Y.b, .int .i64 Y.c, .int .i64 Y.d, .int .i64 j]] w fun en w' =>
      en = .returned (.tuple #[.agg #[.int .i64 (adX X e Y j).a, .int .i64 (adX X e Y j).b, .int .i64 (adX X e Y j).c, .int .i64 (adX X e Y j).d, .int .i64 (adE X e Y j)], .bool (adOk X e Y j)]) ∧ Ext w w' := by
  have H := fun w' => Lib.hid (combined_add X e Y j w')
  obtain ⟨e1, e2, e3⟩ := cb_add X e Y j
  simp only [e1, e2, e3] at H
  clear e1 e2 e3
  generalize adX X e Y j = Q at *
  generalize adE X e Y j = q at *
  generalize adOk X e Y j = o at *
  go_enter Try.func104, Try.ntmps104
  go_wp2_with fail
  refine ((H _).out).mono ?_
  rintro e w1 ⟨rfl, hx1⟩
  obtain ⟨hc1, hf1⟩ := hx1.cells
  have hz1 := hx1.size
  try simp at hz1
  have hs1_0 := sz3 (a := w.heap.size) (b := w1.heap.size) (by omega)
  go_wp2
  refine bodyPost_ret (v := .tuple #[.agg #[.int .i64 Q.a, .int .i64 Q.b, .int .i64 Q.c, .int .i64 Q.d, .int .i64 q], .bool o]) (by simp [results, Try.results104, go_sem, *]) rfl ⟨rfl, ?_⟩
  exact (by repeat (first | (with_reducible refine Ext.setCell ?_ (by first | (simp; done) | (simp; omega)) _) | with_reducible refine Ext.alloc ?_ _ | with_reducible refine Ext.drew ?_ | with_reducible refine Ext.drewN ?_ _ | with_reducible assumption | with_reducible exact Ext.refl _ | with_reducible refine Ext.trans ?_ (by with_reducible assumption)))


open Go.RowKit Go.Lib
set_option linter.unusedVariables false
set_option linter.unusedSimpArgs false

def muOk (X : R4) (e : Int) (Y : R4) (j : Int) : Bool := GD X e && GD Y j && !mvBad X e.toNat Y j.toNat
def muX (X : R4) (e : Int) (Y : R4) (j : Int) : R4 := if muOk X e Y j then mvX X e.toNat Y j.toNat else R4.zero
def muE (X : R4) (e : Int) (Y : R4) (j : Int) : Int := if muOk X e Y j then (mvE X e.toNat Y j.toNat : Int) else 0
theorem mu_false {X : R4} {e : Int} {Y : R4} {j : Int} (h : muOk X e Y j = false) : muX X e Y j = R4.zero ∧ muE X e Y j = 0 := by
  unfold muX muE
  rw [h]
  exact ⟨rfl, rfl⟩
theorem mu_true {X : R4} {e : Int} {Y : R4} {j : Int} (h : muOk X e Y j = true) : muX X e Y j = mvX X e.toNat Y j.toNat ∧ muE X e Y j = (mvE X e.toNat Y j.toNat : Int) := by
  unfold muX muE
  rw [h]
  exact ⟨rfl, rfl⟩
theorem conj_valid {Y : R4} {j : Int} (h : GD Y j = true) : GD Y.conj j = true := by
  obtain ⟨r1, r2, r3, r4⟩ := GD_rg h
  unfold GD
  rw [rg_conj r1]
  have e : Y.conj.ev = Y.ev := by
    unfold R4.ev R4.conj evR
    simp only
    rw [Bool.eq_iff_iff]
    simp only [Bool.and_eq_true, beq_iff_eq]
    have key : ∀ x : Int, Int.tmod x 2 = 0 ↔ x % 2 = 0 := fun x => by
      rw [Int.tmod_eq_emod]; split <;> omega
    simp only [key]
    omega
  rw [e]
  rcases r4 with r4 | r4
  · subst r4; rfl
  · rw [r4]; simp; omega

theorem dyadicOf_bad (X : R4) (hX : X.rg = true) (e : Int) (he : 60 < e) (w : World) :
    Calls Try.prog 112 #[.agg #[.int .i64 X.a, .int .i64 X.b, .int .i64 X.c, .int .i64 X.d], .int .i64 e] w fun en w' => en = .returned (.tuple #[.agg #[.int .i64 0, .int .i64 0, .int .i64 0, .int .i64 0, .int .i64 0], .bool false]) ∧ Ext w w' := by
  have HV : ∀ w', Hid (Calls Try.prog 116 #[.agg #[.int .i64 X.a, .int .i64 X.b, .int .i64 X.c, .int .i64 X.d]] w' fun e w'' => e = .returned (.bool true) ∧ Ext w' w'') := by
    rw [← hX]
    exact fun w' => isValidRing_any X.a X.b X.c X.d w'
  have hw : Wn e 0 60 = false := Wn_not.2 (by omega)
  have HW : ∀ w', Hid (Calls Try.prog 68 #[.int .i64 e, .int .i64 0, .int .i64 60] w' fun e w'' => e = .returned (.bool false) ∧ w' = w'') := by
    rw [← hw]
    exact fun w' => within_any _ _ _ w'
  clear hX hw
  go_enter Try.func112, Try.ntmps112
  go_wp2_with fail
  refine ((HV _).out).mono ?_
  rintro e w1 ⟨rfl, hx1⟩
  obtain ⟨hc1, hf1⟩ := hx1.cells
  have hz1 := hx1.size
  try simp at hz1
  have hs1_0 := sz2 (a := w.heap.size) (b := w1.heap.size) (by omega)
  go_wp2_with (go_at_call 68; ((with_reducible refine ((HW _).out).mono ?_); rintro e w' ⟨rfl, rfl⟩))
  refine bodyPost_ret (v := .tuple #[.agg #[.int .i64 0, .int .i64 0, .int .i64 0, .int .i64 0, .int .i64 0], .bool false]) (by simp [results, Try.results112, go_sem, *]) rfl ⟨rfl, ?_⟩
  exact (by repeat (first | (with_reducible refine Ext.setCell ?_ (by first | (simp; done) | (simp; omega)) _) | with_reducible refine Ext.alloc ?_ _ | with_reducible refine Ext.drew ?_ | with_reducible refine Ext.drewN ?_ _ | with_reducible assumption | with_reducible exact Ext.refl _ | with_reducible refine Ext.trans ?_ (by with_reducible assumption)))

set_option maxHeartbeats 1000000 in
theorem mulDyadic_any (X : R4) (e : Int) (Y : R4) (j : Int) (w : World) :
    Calls Try.prog 102 #[.agg #[.int .i64 X.a, .int .i64 X.b, .int .i64 X.c, .int .i64 X.d, .int .i64 e], .agg #[.int .i64 Y.a, .int .i64 Y.b, .int .i64 Y.c, .int .i64 Y.d, .int .i64 j]] w fun en w' =>
      en = .returned (.tuple #[.agg #[.int .i64 (muX X e Y j).a, .int .i64 (muX X e Y j).b, .int .i64 (muX X e Y j).c, .int .i64 (muX X e Y j).d, .int .i64 (muE X e Y j)], .bool (muOk X e Y j)]) ∧ Ext w w' := by
  have HG1 : ∀ w', Hid (Calls Try.prog 110 #[.agg #[.int .i64 X.a, .int .i64 X.b, .int .i64 X.c, .int .i64 X.d, .int .i64 e]] w' fun en w'' => en = .returned (.bool (GD X e)) ∧ Ext w' w'') := fun w' => isValidDyadic_any X.a X.b X.c X.d e w'
  have HG2 : ∀ w', Hid (Calls Try.prog 110 #[.agg #[.int .i64 Y.a, .int .i64 Y.b, .int .i64 Y.c, .int .i64 Y.d, .int .i64 j]] w' fun en w'' => en = .returned (.bool (GD Y j)) ∧ Ext w' w'') := fun w' => isValidDyadic_any Y.a Y.b Y.c Y.d j w'
  have HM := fun w' => Lib.hid (mulRing_any X.a X.b X.c X.d Y.a Y.b Y.c Y.d w')
  have HO : Hid (muOk X e Y j = (GD X e && GD Y j && !mvBad X e.toNat Y j.toNat)) := rfl
  have HZ : Hid (muOk X e Y j = false → muX X e Y j = R4.zero ∧ muE X e Y j = 0) := mu_false
  cases h1 : GD X e
  · rw [h1] at HG1 HO
    have HF := Lib.hid (HO.out.trans (show _ = false by simp))
    generalize okMr X.a X.b X.c X.d Y.a Y.b Y.c Y.d = o at *
    go_enter Try.func102, Try.ntmps102
    go_wp2_with fail
    refine ((HM _).out).mono ?_
    rintro e w1 ⟨rfl, hx1⟩
    obtain ⟨hc1, hf1⟩ := hx1.cells
    have hz1 := hx1.size
    try simp at hz1
    have hs1_0 := sz3 (a := w.heap.size) (b := w1.heap.size) (by omega)
    go_wp2_with fail
    refine ((HG1 _).out).mono ?_
    rintro e w2 ⟨rfl, hx2⟩
    obtain ⟨hc2, hf2⟩ := hx2.cells
    have hz2 := hx2.size
    try simp at hz2
    have hs2_0 := sz3 (a := w.heap.size) (b := w2.heap.size) (by omega)
    have hs2_1 := sz1 (a := w1.heap.size) (b := w2.heap.size) (by omega)
    go_wp2
    refine bodyPost_ret (v := .tuple #[.agg #[.int .i64 0, .int .i64 0, .int .i64 0, .int .i64 0, .int .i64 0], .bool false]) (by simp [results, Try.results102, go_sem, *]) rfl ?_
    exact ⟨by rw [(HZ.out HF.out).1, (HZ.out HF.out).2, HF.out]; rfl, (by repeat (first | (with_reducible refine Ext.setCell ?_ (by first | (simp; done) | (simp; omega)) _) | with_reducible refine Ext.alloc ?_ _ | with_reducible refine Ext.drew ?_ | with_reducible refine Ext.drewN ?_ _ | with_reducible assumption | with_reducible exact Ext.refl _ | with_reducible refine Ext.trans ?_ (by with_reducible assumption)))⟩
  cases h2 : GD Y j
  · rw [h1] at HG1 HO
    rw [h2] at HG2 HO
    have HF := Lib.hid (HO.out.trans (show _ = false by simp))
    generalize okMr X.a X.b X.c X.d Y.a Y.b Y.c Y.d = o at *
    go_enter Try.func102, Try.ntmps102
    go_wp2_with fail
    refine ((HM _).out).mono ?_
    rintro e w1 ⟨rfl, hx1⟩
    obtain ⟨hc1, hf1⟩ := hx1.cells
    have hz1 := hx1.size
    try simp at hz1
    have hs1_0 := sz3 (a := w.heap.size) (b := w1.heap.size) (by omega)
    go_wp2_with fail
    refine ((HG1 _).out).mono ?_
    rintro e w2 ⟨rfl, hx2⟩
    obtain ⟨hc2, hf2⟩ := hx2.cells
    have hz2 := hx2.size
    try simp at hz2
    have hs2_0 := sz3 (a := w.heap.size) (b := w2.heap.size) (by omega)
    have hs2_1 := sz1 (a := w1.heap.size) (b := w2.heap.size) (by omega)
    go_wp2_with fail
    refine ((HG2 _).out).mono ?_
    rintro e w3 ⟨rfl, hx3⟩
    obtain ⟨hc3, hf3⟩ := hx3.cells
    have hz3 := hx3.size
    try simp at hz3
    have hs3_0 := sz3 (a := w.heap.size) (b := w3.heap.size) (by omega)
    have hs3_1 := sz1 (a := w1.heap.size) (b := w3.heap.size) (by omega)
    go_wp2
    refine bodyPost_ret (v := .tuple #[.agg #[.int .i64 0, .int .i64 0, .int .i64 0, .int .i64 0, .int .i64 0], .bool false]) (by simp [results, Try.results102, go_sem, *]) rfl ?_
    exact ⟨by rw [(HZ.out HF.out).1, (HZ.out HF.out).2, HF.out]; rfl, (by repeat (first | (with_reducible refine Ext.setCell ?_ (by first | (simp; done) | (simp; omega)) _) | with_reducible refine Ext.alloc ?_ _ | with_reducible refine Ext.drew ?_ | with_reducible refine Ext.drewN ?_ _ | with_reducible assumption | with_reducible exact Ext.refl _ | with_reducible refine Ext.trans ?_ (by with_reducible assumption)))⟩
  obtain ⟨r1, r2, r3, -⟩ := GD_rg h1
  obtain ⟨s1, s2, s3, -⟩ := GD_rg h2
  have HT : Hid (muOk X e Y j = true → muX X e Y j = mvX X e.toNat Y j.toNat ∧ muE X e Y j = (mvE X e.toNat Y j.toNat : Int)) := mu_true
  have e1 : okMr X.a X.b X.c X.d Y.a Y.b Y.c Y.d = (X.mul Y).rg := by
    unfold okMr
    rw [show Rg X.a X.b X.c X.d = true from r1, show Rg Y.a Y.b Y.c Y.d = true from s1]
    rfl
  have HM2 : ∀ w', Hid (Calls Try.prog 111 #[.agg #[.int .i64 X.a, .int .i64 X.b, .int .i64 X.c, .int .i64 X.d], .agg #[.int .i64 Y.a, .int .i64 Y.b, .int .i64 Y.c, .int .i64 Y.d]] w' fun en w'' => en = .returned (.tuple #[.agg #[.int .i64 (X.mul Y).clip.a, .int .i64 (X.mul Y).clip.b, .int .i64 (X.mul Y).clip.c, .int .i64 (X.mul Y).clip.d], .bool (X.mul Y).rg]) ∧ Ext w' w'') := by
    intro w'
    have := (HM w').out
    rw [e1] at this
    obtain ⟨c1, c2, c3, c4⟩ := clip_ifZ (X.mul Y)
    rw [c1, c2, c3, c4]
    exact this
  have hB : mvBad X e.toNat Y j.toNat = (decide (60 < e.toNat + j.toNat) || !(X.mul Y).rg) := rfl
  have HX : Hid (¬ 60 < e.toNat + j.toNat → mvX X e.toNat Y j.toNat = lowX (e.toNat + j.toNat) (X.mul Y).clip ∧ mvE X e.toNat Y j.toNat = lowE (e.toNat + j.toNat) (X.mul Y).clip) := fun h => by
    unfold mvX mvE
    rw [if_neg h, if_neg h]
    exact ⟨rfl, rfl⟩
  rw [h1, h2, hB] at HO
  rw [h1] at HG1
  rw [h2] at HG2
  have HC := Lib.hid (rg_clip (X.mul Y))
  clear HM e1 hB r1 s1 h1 h2
  generalize (X.mul Y).rg = g at *
  generalize (X.mul Y).clip = C at *
  cases g
  · have HF := Lib.hid (HO.out.trans (show _ = false by simp))
    go_enter Try.func102, Try.ntmps102
    go_wp2_with fail
    refine ((HM2 _).out).mono ?_
    rintro e w1 ⟨rfl, hx1⟩
    obtain ⟨hc1, hf1⟩ := hx1.cells
    have hz1 := hx1.size
    try simp at hz1
    have hs1_0 := sz3 (a := w.heap.size) (b := w1.heap.size) (by omega)
    go_wp2_with fail
    refine ((HG1 _).out).mono ?_
    rintro e w2 ⟨rfl, hx2⟩
    obtain ⟨hc2, hf2⟩ := hx2.cells
    have hz2 := hx2.size
    try simp at hz2
    have hs2_0 := sz3 (a := w.heap.size) (b := w2.heap.size) (by omega)
    have hs2_1 := sz1 (a := w1.heap.size) (b := w2.heap.size) (by omega)
    go_wp2_with fail
    refine ((HG2 _).out).mono ?_
    rintro e w3 ⟨rfl, hx3⟩
    obtain ⟨hc3, hf3⟩ := hx3.cells
    have hz3 := hx3.size
    try simp at hz3
    have hs3_0 := sz3 (a := w.heap.size) (b := w3.heap.size) (by omega)
    have hs3_1 := sz1 (a := w1.heap.size) (b := w3.heap.size) (by omega)
    go_wp2
    refine bodyPost_ret (v := .tuple #[.agg #[.int .i64 0, .int .i64 0, .int .i64 0, .int .i64 0, .int .i64 0], .bool false]) (by simp [results, Try.results102, go_sem, *]) rfl ?_
    exact ⟨by rw [(HZ.out HF.out).1, (HZ.out HF.out).2, HF.out]; rfl, (by repeat (first | (with_reducible refine Ext.setCell ?_ (by first | (simp; done) | (simp; omega)) _) | with_reducible refine Ext.alloc ?_ _ | with_reducible refine Ext.drew ?_ | with_reducible refine Ext.drewN ?_ _ | with_reducible assumption | with_reducible exact Ext.refl _ | with_reducible refine Ext.trans ?_ (by with_reducible assumption)))⟩
  by_cases h0 : 60 < e.toNat + j.toNat
  · have HF := Lib.hid (HO.out.trans (show _ = false by simp [h0]))
    have HD := fun w' => Lib.hid (dyadicOf_bad C HC.out (e + j) (by omega) w')
    clear h0
    go_enter Try.func102, Try.ntmps102
    go_wp2_with fail
    refine ((HM2 _).out).mono ?_
    rintro e w1 ⟨rfl, hx1⟩
    obtain ⟨hc1, hf1⟩ := hx1.cells
    have hz1 := hx1.size
    try simp at hz1
    have hs1_0 := sz3 (a := w.heap.size) (b := w1.heap.size) (by omega)
    go_wp2_with fail
    refine ((HG1 _).out).mono ?_
    rintro e w2 ⟨rfl, hx2⟩
    obtain ⟨hc2, hf2⟩ := hx2.cells
    have hz2 := hx2.size
    try simp at hz2
    have hs2_0 := sz3 (a := w.heap.size) (b := w2.heap.size) (by omega)
    have hs2_1 := sz1 (a := w1.heap.size) (b := w2.heap.size) (by omega)
    go_wp2_with fail
    refine ((HG2 _).out).mono ?_
    rintro e w3 ⟨rfl, hx3⟩
    obtain ⟨hc3, hf3⟩ := hx3.cells
    have hz3 := hx3.size
    try simp at hz3
    have hs3_0 := sz3 (a := w.heap.size) (b := w3.heap.size) (by omega)
    have hs3_1 := sz1 (a := w1.heap.size) (b := w3.heap.size) (by omega)
    go_wp2_with fail
    refine ((HD _).out).mono ?_
    rintro e w4 ⟨rfl, hx4⟩
    obtain ⟨hc4, hf4⟩ := hx4.cells
    have hz4 := hx4.size
    try simp at hz4
    have hs4_0 := sz3 (a := w.heap.size) (b := w4.heap.size) (by omega)
    have hs4_1 := sz1 (a := w1.heap.size) (b := w4.heap.size) (by omega)
    go_wp2
    refine bodyPost_ret (v := .tuple #[.agg #[.int .i64 0, .int .i64 0, .int .i64 0, .int .i64 0, .int .i64 0], .bool false]) (by simp [results, Try.results102, go_sem, *]) rfl ?_
    exact ⟨by rw [(HZ.out HF.out).1, (HZ.out HF.out).2, HF.out]; rfl, (by repeat (first | (with_reducible refine Ext.setCell ?_ (by first | (simp; done) | (simp; omega)) _) | with_reducible refine Ext.alloc ?_ _ | with_reducible refine Ext.drew ?_ | with_reducible refine Ext.drewN ?_ _ | with_reducible assumption | with_reducible exact Ext.refl _ | with_reducible refine Ext.trans ?_ (by with_reducible assumption)))⟩
  · have HG := Lib.hid (HO.out.trans (show _ = true by simp [h0]))
    have HD := fun w' => Lib.hid (dyadicOf_any (e.toNat + j.toNat) (by omega) C HC.out w')
    have e2 : ((e.toNat + j.toNat : Nat) : Int) = e + j := by omega
    simp only [e2] at HD
    have HQ := Lib.hid ((HT.out HG.out).1.trans (HX.out h0).1)
    have Hq := Lib.hid ((HT.out HG.out).2.trans (congrArg Int.ofNat (HX.out h0).2))
    clear h0 e2 HX HT
    generalize lowX (e.toNat + j.toNat) C = Q at *
    generalize lowE (e.toNat + j.toNat) C = q at *
    go_enter Try.func102, Try.ntmps102
    go_wp2_with fail
    refine ((HM2 _).out).mono ?_
    rintro e w1 ⟨rfl, hx1⟩
    obtain ⟨hc1, hf1⟩ := hx1.cells
    have hz1 := hx1.size
    try simp at hz1
    have hs1_0 := sz3 (a := w.heap.size) (b := w1.heap.size) (by omega)
    go_wp2_with fail
    refine ((HG1 _).out).mono ?_
    rintro e w2 ⟨rfl, hx2⟩
    obtain ⟨hc2, hf2⟩ := hx2.cells
    have hz2 := hx2.size
    try simp at hz2
    have hs2_0 := sz3 (a := w.heap.size) (b := w2.heap.size) (by omega)
    have hs2_1 := sz1 (a := w1.heap.size) (b := w2.heap.size) (by omega)
    go_wp2_with fail
    refine ((HG2 _).out).mono ?_
    rintro e w3 ⟨rfl, hx3⟩
    obtain ⟨hc3, hf3⟩ := hx3.cells
    have hz3 := hx3.size
    try simp at hz3
    have hs3_0 := sz3 (a := w.heap.size) (b := w3.heap.size) (by omega)
    have hs3_1 := sz1 (a := w1.heap.size) (b := w3.heap.size) (by omega)
    go_wp2_with fail
    refine ((HD _).out).mono ?_
    rintro e w4 ⟨rfl, hx4⟩
    obtain ⟨hc4, hf4⟩ := hx4.cells
    have hz4 := hx4.size
    try simp at hz4
    have hs4_0 := sz3 (a := w.heap.size) (b := w4.heap.size) (by omega)
    have hs4_1 := sz1 (a := w1.heap.size) (b := w4.heap.size) (by omega)
    go_wp2
    refine bodyPost_ret (v := .tuple #[.agg #[.int .i64 Q.a, .int .i64 Q.b, .int .i64 Q.c, .int .i64 Q.d, .int .i64 q], .bool true]) (by simp [results, Try.results102, go_sem, *]) rfl ?_
    exact ⟨by rw [HQ.out, Hq.out, HG.out]; rfl, (by repeat (first | (with_reducible refine Ext.setCell ?_ (by first | (simp; done) | (simp; omega)) _) | with_reducible refine Ext.alloc ?_ _ | with_reducible refine Ext.drew ?_ | with_reducible refine Ext.drewN ?_ _ | with_reducible assumption | with_reducible exact Ext.refl _ | with_reducible refine Ext.trans ?_ (by with_reducible assumption)))⟩


open Go.RowKit
set_option linter.unusedVariables false

/-- times a power of the root of two -/
def rt : Nat → R4 → R4
  | 0, x => x
  | n + 1, x => (rt n x).root
theorem R4.eq {x y : R4} (h1 : x.a = y.a) (h2 : x.b = y.b) (h3 : x.c = y.c) (h4 : x.d = y.d) : x = y := by
  cases x; cases y; simp_all
theorem root_add (x y : R4) : (x.add y).root = x.root.add y.root := by
  refine R4.eq ?_ ?_ ?_ ?_ <;> simp only [R4.root, R4.add] <;> omega
theorem root_inj {x y : R4} (h : x.root = y.root) : x = y := by
  simp only [R4.root, R4.mk.injEq] at h
  refine R4.eq ?_ ?_ ?_ ?_ <;> omega
theorem root_mul (x y : R4) : (x.mul y).root = x.root.mul y := by
  refine R4.eq ?_ ?_ ?_ ?_ <;> simp only [R4.root, R4.mul, mrA, mrB, mrC, mrD] <;> grind
theorem add_mul4 (x y z : R4) : (x.add y).mul z = (x.mul z).add (y.mul z) := by
  refine R4.eq ?_ ?_ ?_ ?_ <;> simp only [R4.add, R4.mul, mrA, mrB, mrC, mrD] <;> grind
theorem mul_comm4 (x y : R4) : x.mul y = y.mul x := by
  refine R4.eq ?_ ?_ ?_ ?_ <;> simp only [R4.mul, mrA, mrB, mrC, mrD] <;> grind
theorem add_comm4 (x y : R4) : x.add y = y.add x := by
  refine R4.eq ?_ ?_ ?_ ?_ <;> simp only [R4.add] <;> omega
theorem add_neg4 (x y : R4) : (x.add y).add y.neg = x := by
  refine R4.eq ?_ ?_ ?_ ?_ <;> simp only [R4.add, R4.neg] <;> omega
theorem rt_add : ∀ n (x y : R4), rt n (x.add y) = (rt n x).add (rt n y)
  | 0, _, _ => rfl
  | n + 1, x, y => by unfold rt; rw [rt_add n, root_add]
theorem rt_neg : ∀ n (x : R4), rt n x.neg = (rt n x).neg
  | 0, _ => rfl
  | n + 1, x => by
    unfold rt; rw [rt_neg n]
    refine R4.eq ?_ ?_ ?_ ?_ <;> simp only [R4.root, R4.neg] <;> omega
theorem rt_mul : ∀ n (x y : R4), rt n (x.mul y) = (rt n x).mul y
  | 0, _, _ => rfl
  | n + 1, x, y => by unfold rt; rw [rt_mul n, root_mul]
theorem rt_rt : ∀ m n (x : R4), rt m (rt n x) = rt (m + n) x
  | 0, n, x => by rw [Nat.zero_add]; rfl
  | m + 1, n, x => by
    rw [show m + 1 + n = (m + n) + 1 by omega]
    unfold rt
    rw [rt_rt m]
theorem rt_inj : ∀ n {x y : R4}, rt n x = rt n y → x = y
  | 0, _, _, h => h
  | n + 1, _, _, h => rt_inj n (root_inj h)
theorem ev_root (x : R4) : x.root.ev = true := by
  unfold R4.ev evR R4.root
  rw [show x.b - x.d + (x.b + x.d) = 2 * x.b by omega, show x.a + x.c + (x.c - x.a) = 2 * x.c by omega]
  simp
theorem root_half {x : R4} (h : x.ev = true) : x.half.root = x := by
  simp only [R4.ev, evR, Bool.and_eq_true, beq_iff_eq] at h
  have d1 : (2 : Int) ∣ x.a + x.c := Int.dvd_of_tmod_eq_zero h.1
  have d2 : (2 : Int) ∣ x.b + x.d := Int.dvd_of_tmod_eq_zero h.2
  have d3 : (2 : Int) ∣ x.b - x.d := by omega
  have d4 : (2 : Int) ∣ x.c - x.a := by omega
  refine R4.eq ?_ ?_ ?_ ?_ <;> simp only [R4.half, R4.root, Int.tdiv_eq_ediv_of_dvd d1, Int.tdiv_eq_ediv_of_dvd d2, Int.tdiv_eq_ediv_of_dvd d3, Int.tdiv_eq_ediv_of_dvd d4] <;> omega
theorem low_rt : ∀ n (x : R4), rt (n - lowE n x) (lowX n x) = x
  | 0, x => rfl
  | n + 1, x => by
    unfold lowX lowE
    split
    · rename_i h
      have hle := lowE_le n x.half
      rw [show n + 1 - lowE n x.half = (n - lowE n x.half) + 1 by omega]
      show (rt (n - lowE n x.half) (lowX n x.half)).root = x
      rw [low_rt n x.half, root_half h]
    · rw [Nat.sub_self]; rfl
theorem uniq1 {A B : R4} {E F N : Nat} (hEN : E ≤ N) (hFN : F ≤ N) (hB : F = 0 ∨ B.ev = false) (h : rt (N - E) A = rt (N - F) B) : F ≤ E := by
  rcases Nat.lt_or_ge E F with g | g
  · exfalso
    rw [show N - E = (N - F) + (F - E) by omega, ← rt_rt] at h
    have h2 := rt_inj _ h
    rw [show F - E = (F - E - 1) + 1 by omega] at h2
    have h3 : B.ev = true := by rw [← h2]; exact ev_root _
    rcases hB with h4 | h4
    · omega
    · rw [h3] at h4; cases h4
  · exact g
/-- low forms are unique -/
theorem uniq {A B : R4} {E F N : Nat} (hEN : E ≤ N) (hFN : F ≤ N) (hA : E = 0 ∨ A.ev = false) (hB : F = 0 ∨ B.ev = false) (h : rt (N - E) A = rt (N - F) B) : A = B ∧ E = F := by
  have h1 := uniq1 hEN hFN hB h
  have h2 := uniq1 hFN hEN hA h.symm
  have h3 : E = F := by omega
  subst h3
  exact ⟨rt_inj _ h, rfl⟩
theorem raise_rt : ∀ n (x : R4), raiseB n x = false → raiseV n x = rt n x
  | 0, _, _ => rfl
  | n + 1, x, h => by
    unfold raiseB at h
    rw [Bool.or_eq_false_iff, Bool.not_eq_false'] at h
    rw [clip_true h.1] at h
    unfold raiseV
    rw [clip_true h.1, raise_rt n _ h.2]
    have : ∀ n (x : R4), rt n x.root = (rt n x).root := by
      intro n
      induction n with
      | zero => intro x; rfl
      | succ n ih => intro x; unfold rt; rw [ih]
    rw [this]
    rfl

theorem ad_spec {X : R4} {e : Int} {Y : R4} {j : Int} (h : adOk X e Y j = true) : ∃ s m n : Nat, e = m ∧ j = n ∧ adE X e Y j = s ∧ s ≤ max m n ∧ (s = 0 ∨ (adX X e Y j).ev = false) ∧ (m = 0 ∨ X.ev = false) ∧ (n = 0 ∨ Y.ev = false) ∧
    rt (max m n - s) (adX X e Y j) = (rt (max m n - m) X).add (rt (max m n - n) Y) := by
  have hx : adX X e Y j = dyX X e.toNat Y j.toNat := if_pos h
  have he : adE X e Y j = (dyE X e.toNat Y j.toNat : Int) := if_pos h
  have h' := h
  simp only [adOk, Bool.and_eq_true, Bool.not_eq_true'] at h'
  obtain ⟨⟨g1, g2⟩, g3⟩ := h'
  obtain ⟨_, a1, a2, a3⟩ := GD_rg g1
  obtain ⟨_, b1, b2, b3⟩ := GD_rg g2
  rw [hx, he]
  unfold dyBad at g3
  rw [Bool.or_eq_false_iff, Bool.or_eq_false_iff, Bool.not_eq_false'] at g3
  obtain ⟨⟨c1, c2⟩, c3⟩ := g3
  refine ⟨dyE X e.toNat Y j.toNat, e.toNat, j.toNat, by omega, by omega, rfl, lowE_le _ _, ?_, ?_, ?_, ?_⟩
  · exact low_nev _ _
  · rcases a3 with h | h
    · exact .inl (by omega)
    · exact .inr h
  · rcases b3 with h | h
    · exact .inl (by omega)
    · exact .inr h
  · unfold dyX dyE
    rw [low_rt, clip_true c3]
    unfold dyS
    rw [raise_rt _ _ c1, raise_rt _ _ c2]
    rw [show max e.toNat j.toNat - e.toNat = j.toNat - e.toNat by omega, show max e.toNat j.toNat - j.toNat = e.toNat - j.toNat by omega]
theorem mu_spec {X : R4} {e : Int} {Y : R4} {j : Int} (h : muOk X e Y j = true) : ∃ s m n : Nat, e = m ∧ j = n ∧ muE X e Y j = s ∧ s ≤ m + n ∧ (s = 0 ∨ (muX X e Y j).ev = false) ∧
    rt (m + n - s) (muX X e Y j) = X.mul Y := by
  have hx : muX X e Y j = mvX X e.toNat Y j.toNat := if_pos h
  have he : muE X e Y j = (mvE X e.toNat Y j.toNat : Int) := if_pos h
  have h' := h
  simp only [muOk, Bool.and_eq_true, Bool.not_eq_true'] at h'
  obtain ⟨⟨g1, g2⟩, g3⟩ := h'
  obtain ⟨_, a1, a2, a3⟩ := GD_rg g1
  obtain ⟨_, b1, b2, b3⟩ := GD_rg g2
  rw [hx, he]
  unfold mvBad at g3
  rw [Bool.or_eq_false_iff, Bool.not_eq_false', decide_eq_false_iff_not] at g3
  obtain ⟨c1, c2⟩ := g3
  have e1 : mvX X e.toNat Y j.toNat = lowX (e.toNat + j.toNat) (X.mul Y).clip := if_neg c1
  have e2 : mvE X e.toNat Y j.toNat = lowE (e.toNat + j.toNat) (X.mul Y).clip := if_neg c1
  rw [e1, e2, clip_true c2]
  exact ⟨_, e.toNat, j.toNat, by omega, by omega, rfl, lowE_le _ _, low_nev _ _, low_rt _ _⟩
theorem max_comm' (m n : Nat) : max m n = max n m := by omega
theorem ad_comm (X : R4) (e : Int) (Y : R4) (j : Int) : adOk X e Y j = adOk Y j X e ∧ adX X e Y j = adX Y j X e ∧ adE X e Y j = adE Y j X e := by
  have hS : ∀ m n, dyS X m Y n = dyS Y n X m := fun m n => add_comm4 _ _
  have hB : ∀ m n, dyBad X m Y n = dyBad Y n X m := fun m n => by
    unfold dyBad
    rw [hS, Bool.or_comm (raiseB (n - m) X)]
  have hO : adOk X e Y j = adOk Y j X e := by
    unfold adOk
    rw [hB, Bool.and_comm (GD X e)]
  refine ⟨hO, ?_, ?_⟩
  · unfold adX
    rw [hO]
    unfold dyX
    rw [hS, max_comm']
  · unfold adE
    rw [hO]
    unfold dyE
    rw [hS, max_comm']
theorem mu_comm (X : R4) (e : Int) (Y : R4) (j : Int) : muOk X e Y j = muOk Y j X e ∧ muX X e Y j = muX Y j X e ∧ muE X e Y j = muE Y j X e := by
  have hB : ∀ m n, mvBad X m Y n = mvBad Y n X m := fun m n => by
    unfold mvBad
    rw [mul_comm4, Nat.add_comm]
  have hO : muOk X e Y j = muOk Y j X e := by
    unfold muOk
    rw [hB, Bool.and_comm (GD X e)]
  refine ⟨hO, ?_, ?_⟩
  · unfold muX
    rw [hO]
    unfold mvX
    rw [mul_comm4 X, Nat.add_comm]
  · unfold muE
    rw [hO]
    unfold mvE
    rw [mul_comm4 X, Nat.add_comm]
theorem ad_back {X : R4} {e : Int} {Y : R4} {j : Int} (h : adOk X e Y j = true) (h2 : adOk (adX X e Y j) (adE X e Y j) Y.neg j = true) :
    adX (adX X e Y j) (adE X e Y j) Y.neg j = X ∧ adE (adX X e Y j) (adE X e Y j) Y.neg j = e := by
  obtain ⟨s, m, n, hm, hn, hs, h3, h4, h5, h6, h7⟩ := ad_spec h
  obtain ⟨s', m', n', hm', hn', hs', k3, k4, k5, k6, k7⟩ := ad_spec h2
  generalize adX (adX X e Y j) (adE X e Y j) Y.neg j = Q at *
  generalize adE (adX X e Y j) (adE X e Y j) Y.neg j = q at *
  generalize adX X e Y j = T at *
  obtain rfl : m' = s := by omega
  obtain rfl : n' = n := by omega
  have key : rt (max m n' - s') Q = rt (max m n' - m) X := by
    have e1 : rt (max m n' - s') Q = rt (max m n' - max m' n') (rt (max m' n' - s') Q) := by rw [rt_rt]; congr 1; omega
    rw [e1, k7, rt_add, rt_rt, rt_rt]
    rw [show max m n' - max m' n' + (max m' n' - m') = max m n' - m' by omega, show max m n' - max m' n' + (max m' n' - n') = max m n' - n' by omega]
    rw [h7, rt_neg, add_neg4]
  have := uniq (N := max m n') (by omega) (by omega) k4 h5 key
  exact ⟨this.1, by omega⟩
theorem ad_mul {X : R4} {e : Int} {Y : R4} {j : Int} {Z : R4} {l : Int} (h : adOk X e Y j = true) (h1 : muOk X e Z l = true) (h2 : muOk Y j Z l = true) (h3 : muOk (adX X e Y j) (adE X e Y j) Z l = true)
    (h4 : adOk (muX X e Z l) (muE X e Z l) (muX Y j Z l) (muE Y j Z l) = true) :
    muX (adX X e Y j) (adE X e Y j) Z l = adX (muX X e Z l) (muE X e Z l) (muX Y j Z l) (muE Y j Z l) ∧ muE (adX X e Y j) (adE X e Y j) Z l = adE (muX X e Z l) (muE X e Z l) (muX Y j Z l) (muE Y j Z l) := by
  obtain ⟨s, m, n, hm, hn, hs, a3, a4, a5, a6, a7⟩ := ad_spec h
  obtain ⟨u, m1, l1, b1, b2, b3, b4, b5, b6⟩ := mu_spec h1
  obtain ⟨v, n1, l2, c1, c2, c3, c4, c5, c6⟩ := mu_spec h2
  obtain ⟨p, s1, l3, d1, d2, d3, d4, d5, d6⟩ := mu_spec h3
  obtain ⟨q, u1, v1, e1, e2, e3, e4, e5, e6, e7, e8⟩ := ad_spec h4
  generalize muX (adX X e Y j) (adE X e Y j) Z l = P at *
  generalize muE (adX X e Y j) (adE X e Y j) Z l = pe at *
  generalize adX (muX X e Z l) (muE X e Z l) (muX Y j Z l) (muE Y j Z l) = Q at *
  generalize adE (muX X e Z l) (muE X e Z l) (muX Y j Z l) (muE Y j Z l) = qe at *
  generalize muX X e Z l = U at *
  generalize muX Y j Z l = V at *
  generalize adX X e Y j = T at *
  obtain rfl : m1 = m := by omega
  obtain rfl : n1 = n := by omega
  obtain rfl : l2 = l1 := by omega
  obtain rfl : l3 = l2 := by omega
  obtain rfl : s1 = s := by omega
  obtain rfl : u1 = u := by omega
  obtain rfl : v1 = v := by omega
  have d3' := d3
  have e3' := e3
  clear h h1 h2 h3 h4 hm hn hs b1 b2 b3 c1 c2 c3 d1 d2 d3 e1 e2 e3
  obtain ⟨M, hM⟩ : ∃ M, max m1 n1 = M := ⟨_, rfl⟩
  obtain ⟨K, hK⟩ : ∃ K, max u1 v1 = K := ⟨_, rfl⟩
  have g1 : m1 ≤ M ∧ n1 ≤ M := by omega
  have g2 : u1 ≤ K ∧ v1 ≤ K ∧ K ≤ M + l3 := by omega
  rw [hM] at a3 a7
  rw [hK] at e4 e8
  clear hM hK
  have n1' : M + l3 - p = M - s1 + (s1 + l3 - p) := by omega
  have n2' : M + l3 - q = M + l3 - K + (K - q) := by omega
  have n3' : M + l3 - u1 = M - m1 + (m1 + l3 - u1) := by omega
  have n4' : M + l3 - v1 = M - n1 + (n1 + l3 - v1) := by omega
  have n5' : M + l3 - K + (K - u1) = M + l3 - u1 := by omega
  have n6' : M + l3 - K + (K - v1) = M + l3 - v1 := by omega
  have w1 : rt (M + l3 - p) P = rt (M - s1) (T.mul Z) := by rw [n1', ← rt_rt, d6]
  have w2 : rt (M + l3 - q) Q = rt (M + l3 - K) (rt (K - q) Q) := by rw [n2', ← rt_rt]
  have w3 : rt (M - m1) (X.mul Z) = rt (M + l3 - u1) U := by rw [n3', ← rt_rt, b6]
  have w4 : rt (M - n1) (Y.mul Z) = rt (M + l3 - v1) V := by rw [n4', ← rt_rt, c6]
  have w5 : rt (M - s1) (T.mul Z) = (rt (M - m1) (X.mul Z)).add (rt (M - n1) (Y.mul Z)) := by rw [rt_mul, a7, add_mul4, rt_mul, rt_mul]
  have w6 : rt (M + l3 - K) (rt (K - q) Q) = (rt (M + l3 - u1) U).add (rt (M + l3 - v1) V) := by rw [e8, rt_add, rt_rt, rt_rt, n5', n6']
  have key : rt (M + l3 - p) P = rt (M + l3 - q) Q := by rw [w1, w5, w3, w4, ← w6, w2]
  have := uniq (N := M + l3) (by omega) (by omega) d5 e5 key
  exact ⟨this.1, by rw [d3', e3', this.2]⟩

end Go.Proofs.Ytbddgeoaaklgpaa
