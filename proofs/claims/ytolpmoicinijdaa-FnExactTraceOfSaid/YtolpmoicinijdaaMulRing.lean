/- Products in the ring. -/
import Derived.Test.YtolpmoicinijdaaRows
import Derived.Test.YtolpmoicinijdaaRingIf
namespace Go.Proofs.Ytolpmoicinijdaa
open Go.RowKit

def mrA (a b c d e f g h : Int) : Int := a * e - b * h - c * g - d * f
def mrB (a b c d e f g h : Int) : Int := a * f + b * e - c * h - d * g
def mrC (a b c d e f g h : Int) : Int := a * g + b * f + c * e - d * h
def mrD (a b c d e f g h : Int) : Int := a * h + b * g + c * f + d * e
def okMr (a b c d e f g h : Int) : Bool := Rg a b c d && Rg e f g h && Rg (mrA a b c d e f g h) (mrB a b c d e f g h) (mrC a b c d e f g h) (mrD a b c d e f g h)
theorem allRg3 (a b c d e f g h p q r s : Int) : AllRg [a, b, c, d, e, f, g, h, p, q, r, s] 3 = (Rg a b c d && Rg e f g h && Rg p q r s) := by
  simp [AllRg, RgAt, List.range_succ, Bool.and_assoc]

/-- the sixteen products -/
structure P16 (a b c d e f g h : Int) : Prop where
  ae : -1000000000000000000 ≤ a * e ∧ a * e ≤ 1000000000000000000
  af : -1000000000000000000 ≤ a * f ∧ a * f ≤ 1000000000000000000
  ag : -1000000000000000000 ≤ a * g ∧ a * g ≤ 1000000000000000000
  ah : -1000000000000000000 ≤ a * h ∧ a * h ≤ 1000000000000000000
  be : -1000000000000000000 ≤ b * e ∧ b * e ≤ 1000000000000000000
  bf : -1000000000000000000 ≤ b * f ∧ b * f ≤ 1000000000000000000
  bg : -1000000000000000000 ≤ b * g ∧ b * g ≤ 1000000000000000000
  bh : -1000000000000000000 ≤ b * h ∧ b * h ≤ 1000000000000000000
  ce : -1000000000000000000 ≤ c * e ∧ c * e ≤ 1000000000000000000
  cf : -1000000000000000000 ≤ c * f ∧ c * f ≤ 1000000000000000000
  cg : -1000000000000000000 ≤ c * g ∧ c * g ≤ 1000000000000000000
  ch : -1000000000000000000 ≤ c * h ∧ c * h ≤ 1000000000000000000
  de : -1000000000000000000 ≤ d * e ∧ d * e ≤ 1000000000000000000
  df : -1000000000000000000 ≤ d * f ∧ d * f ≤ 1000000000000000000
  dg : -1000000000000000000 ≤ d * g ∧ d * g ≤ 1000000000000000000
  dh : -1000000000000000000 ≤ d * h ∧ d * h ≤ 1000000000000000000
theorem p16 {a b c d e f g h : Int} (h1 : Rg a b c d = true) (h2 : Rg e f g h = true) : P16 a b c d e f g h := by
  obtain ⟨ba, bb, bc, bd⟩ := Rg_bd h1
  obtain ⟨be, bf, bg, bh⟩ := Rg_bd h2
  exact ⟨prod_bd ba be, prod_bd ba bf, prod_bd ba bg, prod_bd ba bh, prod_bd bb be, prod_bd bb bf, prod_bd bb bg, prod_bd bb bh, prod_bd bc be, prod_bd bc bf, prod_bd bc bg, prod_bd bc bh, prod_bd bd be, prod_bd bd bf, prod_bd bd bg, prod_bd bd bh⟩

end Go.Proofs.Ytolpmoicinijdaa
