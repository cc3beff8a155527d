/- Dyadic numbers: products on the reference's side. -/
import Derived.Test.YtolpmoicinijdaaDyD
namespace Go.Proofs.Ytolpmoicinijdaa
open Go.RowKit Go.Lib
set_option linter.unusedVariables false
set_option linter.unusedSimpArgs false

theorem rg_conj {X : R4} (h : X.rg = true) : X.conj.rg = true := by
  obtain ⟨a, b, c, d⟩ := Rg_bd h
  exact Rg_mk (by simp only [R4.conj]; omega)
def mvBad (X : R4) (m : Nat) (Y : R4) (n : Nat) : Bool := decide (60 < m + n) || !(X.mul Y).rg
def mvX (X : R4) (m : Nat) (Y : R4) (n : Nat) : R4 := if 60 < m + n then R4.zero else lowX (m + n) (X.mul Y).clip
def mvE (X : R4) (m : Nat) (Y : R4) (n : Nat) : Nat := if 60 < m + n then 0 else lowE (m + n) (X.mul Y).clip

def nsOk (X : R4) (e : Int) : Bool := GD X e && !mvBad X e.toNat X.conj e.toNat
def nsX (X : R4) (e : Int) : R4 := if nsOk X e then mvX X e.toNat X.conj e.toNat else R4.zero
def nsE (X : R4) (e : Int) : Int := if nsOk X e then (mvE X e.toNat X.conj e.toNat : Int) else 0
theorem ns_false {X : R4} {e : Int} (h : nsOk X e = false) : nsX X e = R4.zero ∧ nsE X e = 0 := by
  unfold nsX nsE
  rw [h]
  exact ⟨rfl, rfl⟩
theorem ns_true {X : R4} {e : Int} (h : GD X e = true) :
    nsOk X e = !mvBad X e.toNat X.conj e.toNat ∧ (nsX X e).a = ifZ (!mvBad X e.toNat X.conj e.toNat) (mvX X e.toNat X.conj e.toNat).a ∧ (nsX X e).b = ifZ (!mvBad X e.toNat X.conj e.toNat) (mvX X e.toNat X.conj e.toNat).b ∧
    (nsX X e).c = ifZ (!mvBad X e.toNat X.conj e.toNat) (mvX X e.toNat X.conj e.toNat).c ∧ (nsX X e).d = ifZ (!mvBad X e.toNat X.conj e.toNat) (mvX X e.toNat X.conj e.toNat).d ∧ nsE X e = ifZ (!mvBad X e.toNat X.conj e.toNat) (mvE X e.toNat X.conj e.toNat : Int) := by
  have e1 : nsOk X e = !mvBad X e.toNat X.conj e.toNat := by unfold nsOk; rw [h]; rfl
  unfold nsX nsE
  rw [e1]
  cases mvBad X e.toNat X.conj e.toNat
  · exact ⟨rfl, rfl, rfl, rfl, rfl, rfl⟩
  · exact ⟨rfl, rfl, rfl, rfl, rfl, rfl⟩

end Go.Proofs.Ytolpmoicinijdaa
