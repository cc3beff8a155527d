/- Products of numbers p + q sqrt 2. -/
import Derived.Test.YtbffcpnpdpgfeaaRows
import Derived.Test.YtbffcpnpdpgfeaaRoot2
import Derived.Test.YtbffcpnpdpgfeaaMade
namespace Go.Proofs.Ytbffcpnpdpgfeaa
open Go.RowKit

def okM (p q r s : Int) : Bool := R2 p q && R2 r s && R2 (p * r + 2 * q * s) (p * s + q * r)
def mulP (p q r s : Int) : Int := if okM p q r s then p * r + 2 * q * s else 0
def mulQ (p q r s : Int) : Int := if okM p q r s then p * s + q * r else 0
theorem okM_ways (p q r s : Int) : (R2 p q = false ∧ okM p q r s = false) ∨ (R2 p q = true ∧ R2 r s = false ∧ okM p q r s = false) ∨
    (R2 p q = true ∧ R2 r s = true ∧ okM p q r s = R2 (p * r + 2 * q * s) (p * s + q * r) ∧ (-1000000000000 ≤ p * r ∧ p * r ≤ 1000000000000) ∧ (-2000000000000 ≤ 2 * q * s ∧ 2 * q * s ≤ 2000000000000) ∧
      (-1000000000000 ≤ p * s ∧ p * s ≤ 1000000000000) ∧ (-1000000000000 ≤ q * r ∧ q * r ≤ 1000000000000) ∧ -1000000 ≤ q ∧ q ≤ 1000000) := by
  unfold okM
  cases h1 : R2 p q <;> cases h2 : R2 r s <;> simp
  have b1 := R2_bd h1
  have b2 := R2_bd h2
  refine ⟨mul_bd (A := 1000000) (B := 1000000) b1.1.1 b1.1.2 b2.1.1 b2.1.2, mul_bd (A := 2000000) (B := 1000000) (by omega) (by omega) b2.2.1 b2.2.2, mul_bd (A := 1000000) (B := 1000000) b1.1.1 b1.1.2 b2.2.1 b2.2.2,
    mul_bd (A := 1000000) (B := 1000000) b1.2.1 b1.2.2 b2.1.1 b2.1.2, b1.2⟩

end Go.Proofs.Ytbffcpnpdpgfeaa
