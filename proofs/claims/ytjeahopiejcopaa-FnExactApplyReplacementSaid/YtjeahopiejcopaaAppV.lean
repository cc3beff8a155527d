/- Replacements applied: lengths (plain). -/
import Derived.Test.YtjeahopiejcopaaAppL
namespace Go.Proofs.Ytjeahopiejcopaa
open Go.RowKit
set_option linter.unusedVariables false

theorem ap_leN (q : Int) (xs : List Int) (n : Nat) (t : Int) (ys : List Int) (m : Nat) (zs : List Int) (l : Nat) : apN q xs n t ys m zs l ≤ 400 := by
  unfold apN
  split
  · rename_i h
    unfold apOk at h
    simp only [Bool.and_eq_true, decide_eq_true_eq] at h
    have := rOk_facts h.2.1
    omega
  · omega
theorem ap_lenN {q t : Int} {xs ys zs : List Int} {n m l : Nat} (h1 : xs.length = n * 3) (h2 : zs.length = l * 3) : (apL q xs n t ys m zs l).length = apN q xs n t ys m zs l * 3 := by
  unfold apL apN
  split
  · rename_i h
    unfold apOk at h
    simp only [Bool.and_eq_true, decide_eq_true_eq] at h
    have := rOk_facts h.2.1
    exact apX_len h1 h2 (by omega)
  · rfl

end Go.Proofs.Ytjeahopiejcopaa
