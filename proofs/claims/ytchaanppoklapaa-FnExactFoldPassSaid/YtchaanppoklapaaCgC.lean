/- Certificates: sizes, exactly. -/
import Derived.Test.YtchaanppoklapaaCgL
namespace Go.Proofs.Ytchaanppoklapaa
open Go.RowKit
set_option linter.unusedVariables false

end Go.Proofs.Ytchaanppoklapaa
