/- The program's ring operations that end in ringIf. -/
import Derived.Test.YtlaajkdhegkpdaaRows
import Derived.Test.YtlaajkdhegkpdaaRingIf
namespace Go.Proofs.Ytlaajkdhegkpdaa
open Go.RowKit

theorem allRgN2 (a b c d e f g h p q r s : Int) : AllRg ([a, b, c, d, e, f, g, h] ++ [p, q, r, s]) (2 + 1) = (Rg a b c d && Rg e f g h && Rg p q r s) := by
  simp [AllRg, RgAt, List.range_succ, Bool.and_assoc]
theorem allRgN1 (a b c d p q r s : Int) : AllRg ([a, b, c, d] ++ [p, q, r, s]) (1 + 1) = (Rg a b c d && Rg p q r s) := by
  simp [AllRg, RgAt, List.range_succ]

def okAddRing (a b c d e f g h : Int) : Bool := Rg a b c d && Rg e f g h && Rg (a + e) (b + f) (c + g) (d + h)

def okSubRing (a b c d e f g h : Int) : Bool := Rg a b c d && Rg e f g h && Rg (a - e) (b - f) (c - g) (d - h)

def okMulRootTwo (a b c d : Int) : Bool := Rg a b c d && Rg (b - d) (a + c) (b + d) (c - a)

def okConjugate (a b c d : Int) : Bool := Rg a b c d && Rg (a) (-d) (-c) (-b)

end Go.Proofs.Ytlaajkdhegkpdaa
