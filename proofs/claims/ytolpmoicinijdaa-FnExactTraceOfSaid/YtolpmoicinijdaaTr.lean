/- TraceOf: both sides. -/
import Derived.Test.YtolpmoicinijdaaValM
import Derived.Test.YtolpmoicinijdaaDyK
import Derived.Test.YtolpmoicinijdaaDyN
import Derived.Test.YtolpmoicinijdaaWro
namespace Go.Proofs.Ytolpmoicinijdaa
open Go.RowKit Go.Lib
set_option linter.unusedVariables false
set_option linter.unusedSimpArgs false

/-- the sum of the first k cells on the diagonal -/
def trA (xs : List Int) (C : Nat) : Nat → R4 × Int
  | 0 => (R4.zero, 0)
  | k + 1 => (adX (trA xs C k).1 (trA xs C k).2 (dyAt xs (k * C + k)) (exAt xs (k * C + k)), adE (trA xs C k).1 (trA xs C k).2 (dyAt xs (k * C + k)) (exAt xs (k * C + k)))
def trO (xs : List Int) (C n : Nat) : Bool := allTo (fun k => adOk (trA xs C k).1 (trA xs C k).2 (dyAt xs (k * C + k)) (exAt xs (k * C + k))) n
theorem trO_succ (xs : List Int) (C n : Nat) : trO xs C (n + 1) = (trO xs C n && adOk (trA xs C n).1 (trA xs C n).2 (dyAt xs (n * C + n)) (exAt xs (n * C + n))) := rfl
theorem trO_bad {xs : List Int} {C k n : Nat} (h : adOk (trA xs C k).1 (trA xs C k).2 (dyAt xs (k * C + k)) (exAt xs (k * C + k)) = false) (hk : k < n) : trO xs C n = false := allTo_false (k := k) h hk
theorem ad_zero {X : R4} {e : Int} {Y : R4} {j : Int} (h : adOk X e Y j = false) : adX X e Y j = R4.zero ∧ adE X e Y j = 0 := by
  unfold adX adE
  rw [h]
  exact ⟨rfl, rfl⟩
theorem ad_good {X : R4} {e : Int} {Y : R4} {j : Int} (h : adOk X e Y j = true) : GD (adX X e Y j) (adE X e Y j) = true := by
  have h2 := h
  unfold adOk at h2
  rw [Bool.and_eq_true, Bool.and_eq_true] at h2
  obtain ⟨_, b1, b2, _⟩ := GD_rg h2.1.1
  obtain ⟨_, b3, b4, _⟩ := GD_rg h2.1.2
  unfold adX adE
  rw [if_pos h, if_pos h]
  exact low_gd (by omega) (rg_clip _)
theorem trA_good (xs : List Int) (C : Nat) : ∀ k, trO xs C k = true → GD (trA xs C k).1 (trA xs C k).2 = true
  | 0, _ => by show GD R4.zero 0 = true; decide
  | k + 1, h => by
    rw [trO_succ, Bool.and_eq_true] at h
    exact ad_good h.2
def trG (r c : Int) (n : Nat) (xs : List Int) : Bool := mGood r c n xs && ((r == c) && trO xs r.toNat r.toNat)
def trV (r c : Int) (n : Nat) (xs : List Int) : R4 × Int := if trG r c n xs then trA xs r.toNat r.toNat else (R4.zero, 0)
theorem trV_no {r c : Int} {n : Nat} {xs : List Int} (h : trG r c n xs = false) : trV r c n xs = (R4.zero, 0) := by unfold trV; rw [h]; rfl
theorem trV_yes {r c : Int} {n : Nat} {xs : List Int} (h : trG r c n xs = true) : trV r c n xs = trA xs r.toNat r.toNat := by unfold trV; rw [h]; rfl

end Go.Proofs.Ytolpmoicinijdaa
