/- Certificates: sizes, copies, equality. -/
import Derived.Test.YtchaanppoklapaaCert
namespace Go.Proofs.Ytchaanppoklapaa
open Go.RowKit

/-- what a size check says: it fails, or all is small -/
def Small (rs : List Rp) : Prop := rs.length ≤ 1048576 ∧ ∀ (j : Nat) (h : j < rs.length), rs[j].m1 ≤ 1048576 ∧ rs[j].m2 ≤ 1048576 ∧ rs[j].xs.length = rs[j].m1 * 3 ∧ rs[j].ys.length = rs[j].m2 * 3

end Go.Proofs.Ytchaanppoklapaa
