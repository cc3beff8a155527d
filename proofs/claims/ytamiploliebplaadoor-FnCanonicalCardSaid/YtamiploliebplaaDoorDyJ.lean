/- Dyadic numbers: the program's sum and difference. -/
import Derived.Test.YtamiploliebplaaDoorDyI
import Derived.Test.YtamiploliebplaaDoorDyA
namespace Go.Proofs.YtamiploliebplaaDoor
open Go.RowKit Go.Lib
set_option linter.unusedVariables false
set_option linter.unusedSimpArgs false

def cbS (op : R4 → R4 → R4) (X : R4) (m : Nat) (Y : R4) (n : Nat) : R4 := op (raiseV (n - m) X) (raiseV (m - n) Y)
def cbBad (op : R4 → R4 → R4) (X : R4) (m : Nat) (Y : R4) (n : Nat) : Bool := raiseB (n - m) X || raiseB (m - n) Y || !(cbS op X m Y n).rg
/-- what an operation on rings returns -/
def OpC (f : FuncId) (op : R4 → R4 → R4) : Prop := ∀ (A B : R4) (w : World), A.rg = true → B.rg = true →
  Calls Tryd.prog f #[.agg #[.int .i64 A.a, .int .i64 A.b, .int .i64 A.c, .int .i64 A.d], .agg #[.int .i64 B.a, .int .i64 B.b, .int .i64 B.c, .int .i64 B.d]] w fun e w' =>
    e = .returned (.tuple #[.agg #[.int .i64 (op A B).clip.a, .int .i64 (op A B).clip.b, .int .i64 (op A B).clip.c, .int .i64 (op A B).clip.d], .bool (op A B).rg]) ∧ Ext w w'

theorem clip_ifZ (S : R4) : S.clip.a = ifZ S.rg S.a ∧ S.clip.b = ifZ S.rg S.b ∧ S.clip.c = ifZ S.rg S.c ∧ S.clip.d = ifZ S.rg S.d := by
  unfold R4.clip
  cases S.rg
  · exact ⟨rfl, rfl, rfl, rfl⟩
  · exact ⟨rfl, rfl, rfl, rfl⟩

/-- the program's result of an operation -/
def cbOk (op : R4 → R4 → R4) (X : R4) (e : Int) (Y : R4) (j : Int) : Bool := GD X e && GD Y j && !cbBad op X e.toNat Y j.toNat
def cbX (op : R4 → R4 → R4) (X : R4) (e : Int) (Y : R4) (j : Int) : R4 := if cbOk op X e Y j then lowX (max e.toNat j.toNat) (cbS op X e.toNat Y j.toNat).clip else R4.zero
def cbE (op : R4 → R4 → R4) (X : R4) (e : Int) (Y : R4) (j : Int) : Int := if cbOk op X e Y j then (lowE (max e.toNat j.toNat) (cbS op X e.toNat Y j.toNat).clip : Int) else 0
theorem cb_false {op : R4 → R4 → R4} {X : R4} {e : Int} {Y : R4} {j : Int} (h : cbOk op X e Y j = false) : cbX op X e Y j = R4.zero ∧ cbE op X e Y j = 0 := by
  unfold cbX cbE
  rw [h]
  exact ⟨rfl, rfl⟩
theorem cb_true {op : R4 → R4 → R4} {X : R4} {e : Int} {Y : R4} {j : Int} (h : cbOk op X e Y j = true) : cbX op X e Y j = lowX (max e.toNat j.toNat) (cbS op X e.toNat Y j.toNat).clip ∧ cbE op X e Y j = (lowE (max e.toNat j.toNat) (cbS op X e.toNat Y j.toNat).clip : Int) := by
  unfold cbX cbE
  rw [h]
  exact ⟨rfl, rfl⟩


open Go.RowKit Go.Lib
set_option linter.unusedVariables false
set_option linter.unusedSimpArgs false

theorem raise_neg : ∀ (k : Nat) (Y : R4), raiseV k Y.neg = (raiseV k Y).neg ∧ raiseB k Y.neg = raiseB k Y
  | 0, _ => ⟨rfl, rfl⟩
  | k + 1, Y => by
    have e1 : Y.neg.root = Y.root.neg := by
      simp only [R4.neg, R4.root, R4.mk.injEq]
      omega
    have e2 : Y.root.neg.rg = Y.root.rg := by
      cases h : Y.root.rg
      · cases h2 : Y.root.neg.rg
        · rfl
        · have := rg_neg h2
          simp only [R4.neg, Int.neg_neg] at this
          rw [← h]
          exact this.symm
      · exact rg_neg h
    have e3 : Y.root.neg.clip = Y.root.clip.neg := by
      cases h : Y.root.rg
      · rw [clip_false (e2.trans h), clip_false h]; rfl
      · rw [clip_true (e2.trans h), clip_true h]
    obtain ⟨h1, h2⟩ := raise_neg k Y.root.clip
    have f1 : raiseV (k + 1) Y.neg = raiseV k Y.neg.root.clip := rfl
    have f2 : raiseB (k + 1) Y.neg = (!Y.neg.root.rg || raiseB k Y.neg.root.clip) := rfl
    have f3 : raiseV (k + 1) Y = raiseV k Y.root.clip := rfl
    have f4 : raiseB (k + 1) Y = (!Y.root.rg || raiseB k Y.root.clip) := rfl
    rw [f1, f2, f3, f4, e1, e3, e2, h1, h2]
    exact ⟨rfl, rfl⟩
theorem sub_eq (A B : R4) : A.sub B = A.add B.neg := by
  simp only [R4.sub, R4.add, R4.neg, R4.mk.injEq]
  omega
theorem cbS_sub (X : R4) (m : Nat) (Y : R4) (n : Nat) : cbS R4.sub X m Y n = dyS X m Y.neg n := by
  unfold cbS dyS
  rw [sub_eq, (raise_neg _ _).1]
theorem cbBad_sub (X : R4) (m : Nat) (Y : R4) (n : Nat) : cbBad R4.sub X m Y n = dyBad X m Y.neg n := by
  unfold cbBad dyBad
  rw [cbS_sub, (raise_neg _ _).2]
theorem cbOk_sub (X : R4) (e : Int) (Y : R4) (j : Int) : cbOk R4.sub X e Y j = adOk X e Y.neg j := by
  unfold cbOk adOk
  rw [cbBad_sub, neg_valid]
theorem cbX_sub (X : R4) (e : Int) (Y : R4) (j : Int) : cbX R4.sub X e Y j = adX X e Y.neg j ∧ cbE R4.sub X e Y j = adE X e Y.neg j := by
  unfold cbX adX cbE adE dyX dyE
  rw [cbOk_sub, cbS_sub]
  exact ⟨rfl, rfl⟩
theorem cb_add (X : R4) (e : Int) (Y : R4) (j : Int) : cbOk R4.add X e Y j = adOk X e Y j ∧ cbX R4.add X e Y j = adX X e Y j ∧ cbE R4.add X e Y j = adE X e Y j := ⟨rfl, rfl, rfl⟩

end Go.Proofs.YtamiploliebplaaDoor
