/- Dyadic numbers: comparing absolute values, the reference's side. -/
import Derived.Test.YtlaajkdhegkpdaaDyM
import Derived.Test.YtlaajkdhegkpdaaSgn
namespace Go.Proofs.Ytlaajkdhegkpdaa
open Go.RowKit Go.Lib
set_option linter.unusedVariables false
set_option linter.unusedSimpArgs false

theorem low_nev : ∀ n x, lowE n x = 0 ∨ (lowX n x).ev = false
  | 0, _ => .inl rfl
  | n + 1, x => by
    unfold lowE lowX
    cases h : x.ev
    · exact .inr (by simpa using h)
    · simpa using low_nev n x.half
theorem low_gd {n : Nat} {x : R4} (hn : n ≤ 60) (h : x.rg = true) : GD (lowX n x) (lowE n x) = true := by
  have h1 := rg_low n x h
  have h2 := lowE_le n x
  unfold GD
  rw [h1]
  rcases low_nev n x with h3 | h3
  · rw [h3]; rfl
  · rw [h3]; simp; omega
theorem mv_gd {X : R4} {m : Nat} {Y : R4} {n : Nat} : GD (mvX X m Y n) (mvE X m Y n) = true := by
  unfold mvX mvE
  split
  · decide
  · exact low_gd (by omega) (rg_clip _)
theorem ns_gd {X : R4} {e : Int} : GD (nsX X e) (nsE X e) = true := by
  unfold nsX nsE
  split
  · exact mv_gd
  · decide
theorem ad_gd {X : R4} {m : Nat} {Y : R4} {n : Nat} (hm : m ≤ 60) (hn : n ≤ 60) : GD (dyX X m Y n) (dyE X m Y n) = true := low_gd (by omega) (rg_clip _)

def caOk (X : R4) (e : Int) (Y : R4) (j : Int) : Bool := nsOk X e && nsOk Y j && !dyBad (nsX X e) (nsE X e).toNat (nsX Y j).neg (nsE Y j).toNat
def caD (X : R4) (e : Int) (Y : R4) (j : Int) : R4 := dyX (nsX X e) (nsE X e).toNat (nsX Y j).neg (nsE Y j).toNat
def caV (X : R4) (e : Int) (Y : R4) (j : Int) : Int := if caOk X e Y j then S2 (caD X e Y j).a (caD X e Y j).b else 0

end Go.Proofs.Ytlaajkdhegkpdaa
