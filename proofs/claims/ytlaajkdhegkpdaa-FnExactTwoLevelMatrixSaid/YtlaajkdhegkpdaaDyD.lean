/- Dyadic numbers: the reference's difference. -/
import Derived.Test.YtlaajkdhegkpdaaDyC
namespace Go.Proofs.Ytlaajkdhegkpdaa
open Go.RowKit Go.Lib
set_option linter.unusedVariables false
set_option linter.unusedSimpArgs false

theorem rg_neg {Y : R4} (h : Y.rg = true) : Y.neg.rg = true := by
  obtain ⟨a, b, c, d⟩ := Rg_bd h
  exact Rg_mk (by simp only [R4.neg]; omega)

end Go.Proofs.Ytlaajkdhegkpdaa
