/- Dyadic numbers: the program's sum and difference. -/
import Derived.Test.YtlaajkdhegkpdaaDyI
import Derived.Test.YtlaajkdhegkpdaaDyD
namespace Go.Proofs.Ytlaajkdhegkpdaa
open Go.RowKit Go.Lib
set_option linter.unusedVariables false
set_option linter.unusedSimpArgs false

def cbS (op : R4 → R4 → R4) (X : R4) (m : Nat) (Y : R4) (n : Nat) : R4 := op (raiseV (n - m) X) (raiseV (m - n) Y)
def cbBad (op : R4 → R4 → R4) (X : R4) (m : Nat) (Y : R4) (n : Nat) : Bool := raiseB (n - m) X || raiseB (m - n) Y || !(cbS op X m Y n).rg
/-- what an operation on rings returns -/
def OpC (f : FuncId) (op : R4 → R4 → R4) : Prop := ∀ (A B : R4) (w : World), A.rg = true → B.rg = true →
  Calls Try.prog f #[.agg #[.int .i64 A.a, .int .i64 A.b, .int .i64 A.c, .int .i64 A.d], .agg #[.int .i64 B.a, .int .i64 B.b, .int .i64 B.c, .int .i64 B.d]] w fun e w' =>
    e = .returned (.tuple #[.agg #[.int .i64 (op A B).clip.a, .int .i64 (op A B).clip.b, .int .i64 (op A B).clip.c, .int .i64 (op A B).clip.d], .bool (op A B).rg]) ∧ Ext w w'

theorem clip_ifZ (S : R4) : S.clip.a = ifZ S.rg S.a ∧ S.clip.b = ifZ S.rg S.b ∧ S.clip.c = ifZ S.rg S.c ∧ S.clip.d = ifZ S.rg S.d := by
  unfold R4.clip
  cases S.rg
  · exact ⟨rfl, rfl, rfl, rfl⟩
  · exact ⟨rfl, rfl, rfl, rfl⟩

/-- the program's result of an operation -/
def cbOk (op : R4 → R4 → R4) (X : R4) (e : Int) (Y : R4) (j : Int) : Bool := GD X e && GD Y j && !cbBad op X e.toNat Y j.toNat
def cbX (op : R4 → R4 → R4) (X : R4) (e : Int) (Y : R4) (j : Int) : R4 := if cbOk op X e Y j then lowX (max e.toNat j.toNat) (cbS op X e.toNat Y j.toNat).clip else R4.zero
def cbE (op : R4 → R4 → R4) (X : R4) (e : Int) (Y : R4) (j : Int) : Int := if cbOk op X e Y j then (lowE (max e.toNat j.toNat) (cbS op X e.toNat Y j.toNat).clip : Int) else 0
theorem cb_false {op : R4 → R4 → R4} {X : R4} {e : Int} {Y : R4} {j : Int} (h : cbOk op X e Y j = false) : cbX op X e Y j = R4.zero ∧ cbE op X e Y j = 0 := by
  unfold cbX cbE
  rw [h]
  exact ⟨rfl, rfl⟩
theorem cb_true {op : R4 → R4 → R4} {X : R4} {e : Int} {Y : R4} {j : Int} (h : cbOk op X e Y j = true) : cbX op X e Y j = lowX (max e.toNat j.toNat) (cbS op X e.toNat Y j.toNat).clip ∧ cbE op X e Y j = (lowE (max e.toNat j.toNat) (cbS op X e.toNat Y j.toNat).clip : Int) := by
  unfold cbX cbE
  rw [h]
  exact ⟨rfl, rfl⟩

end Go.Proofs.Ytlaajkdhegkpdaa
