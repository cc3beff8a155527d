/- Slices of ints: copies, equality, marks. -/
import Derived.Test.YtchaanppoklapaaCopy
import Derived.Test.YtchaanppoklapaaMade
namespace Go.Proofs.Ytchaanppoklapaa
open Go.RowKit
set_option linter.unusedVariables false
set_option linter.unusedSimpArgs false

theorem info_int : (Try.prog.info? 3).map (fun i => (i.zero, i.size, i.bytes)) = some (some (.int .i64 0), 1, 8) := by kernel_rfl

end Go.Proofs.Ytchaanppoklapaa
