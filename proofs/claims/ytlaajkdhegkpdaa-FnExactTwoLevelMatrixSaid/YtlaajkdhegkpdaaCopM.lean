/- Slices of dyadic numbers and matrices: sizes and copies. -/
import Derived.Test.YtlaajkdhegkpdaaArgM
import Derived.Test.YtlaajkdhegkpdaaDyS
import Derived.Test.YtlaajkdhegkpdaaGateL
namespace Go.Proofs.Ytlaajkdhegkpdaa
open Go.RowKit
set_option linter.unusedVariables false
set_option linter.unusedSimpArgs false

/-- the first k cells are copied -/
def CP5 (zs ys : List Value) (k : Nat) : Prop := ∀ j, j < k → zs[j]? = ys[j]?
theorem CP5.snoc {zs ys : List Value} {k k' i : Nat} {u : Value} (h : CP5 zs ys k) (hk : k < zs.length) (hi : i = k) (hu : ys[k]? = some u) (hk' : k' = k + 1) : CP5 (zs.set i u) ys k' := by
  subst hi; subst hk'
  intro j hj
  rw [List.getElem?_set]
  split
  · rename_i e; subst e; first | rw [if_pos hk, hu] | rw [hu]
  · exact h j (by omega)
theorem CP5.full {zs ys : List Value} {k : Nat} (h : CP5 zs ys k) (h1 : zs.length = k) (h2 : ys.length = k) : zs = ys := by
  apply List.ext_getElem?
  intro j
  by_cases hj : j < k
  · exact h j hj
  · rw [List.getElem?_eq_none (by omega), List.getElem?_eq_none (by omega)]

theorem info_dyadic : (Try.prog.info? 44).map (fun i => (i.zero, i.size, i.bytes)) = some (some (.agg #[.int .i64 0, .int .i64 0, .int .i64 0, .int .i64 0, .int .i64 0]), 5, 40) := by kernel_rfl

end Go.Proofs.Ytlaajkdhegkpdaa
