/- Dyadic numbers: the plain functions that both sides compute. -/
import Derived.Test.YtamiploliebplaaDoorRingOps
import Derived.Test.YtamiploliebplaaDoorMulRing
namespace Go.Proofs.YtamiploliebplaaDoor
open Go.RowKit
set_option linter.unusedVariables false

/-- a number of the ring -/
structure R4 where
  a : Int
  b : Int
  c : Int
  d : Int
def R4.rg (x : R4) : Bool := Rg x.a x.b x.c x.d
def R4.ev (x : R4) : Bool := evR x.a x.b x.c x.d
def R4.zero : R4 := ⟨0, 0, 0, 0⟩
def R4.root (x : R4) : R4 := ⟨x.b - x.d, x.a + x.c, x.b + x.d, x.c - x.a⟩
def R4.add (x y : R4) : R4 := ⟨x.a + y.a, x.b + y.b, x.c + y.c, x.d + y.d⟩
def R4.sub (x y : R4) : R4 := ⟨x.a - y.a, x.b - y.b, x.c - y.c, x.d - y.d⟩
def R4.neg (x : R4) : R4 := ⟨-x.a, -x.b, -x.c, -x.d⟩
def R4.conj (x : R4) : R4 := ⟨x.a, -x.d, -x.c, -x.b⟩
def R4.mul (x y : R4) : R4 := ⟨mrA x.a x.b x.c x.d y.a y.b y.c y.d, mrB x.a x.b x.c x.d y.a y.b y.c y.d, mrC x.a x.b x.c x.d y.a y.b y.c y.d, mrD x.a x.b x.c x.d y.a y.b y.c y.d⟩
def R4.half (x : R4) : R4 := ⟨Int.tdiv (x.b - x.d) 2, Int.tdiv (x.a + x.c) 2, Int.tdiv (x.b + x.d) 2, Int.tdiv (x.c - x.a) 2⟩
/-- a number if it is valid, else zero -/
def R4.clip (x : R4) : R4 := if x.rg then x else R4.zero
def R4.val (x : R4) : Value := .agg #[.int .i64 x.a, .int .i64 x.b, .int .i64 x.c, .int .i64 x.d]
theorem rg_zero : R4.zero.rg = true := by decide
theorem rg_clip (x : R4) : x.clip.rg = true := by
  unfold R4.clip
  cases h : x.rg
  · exact rg_zero
  · exact h
theorem clip_true {x : R4} (h : x.rg = true) : x.clip = x := by unfold R4.clip; rw [h]; rfl
theorem clip_false {x : R4} (h : x.rg = false) : x.clip = R4.zero := by unfold R4.clip; rw [h]; rfl
/-- n times the root of two; zero where a step is not valid -/
def raiseV : Nat → R4 → R4
  | 0, x => x
  | n + 1, x => raiseV n x.root.clip
def raiseB : Nat → R4 → Bool
  | 0, _ => false
  | n + 1, x => !x.root.rg || raiseB n x.root.clip
theorem rg_raise : ∀ n x, x.rg = true → (raiseV n x).rg = true
  | 0, _, h => h
  | n + 1, x, _ => rg_raise n _ (rg_clip _)
theorem raise_zero : ∀ n, raiseV n R4.zero = R4.zero ∧ raiseB n R4.zero = false
  | 0 => ⟨rfl, rfl⟩
  | n + 1 => by
    have h : R4.zero.root.rg = true := by decide
    have h2 : R4.zero.root.clip = R4.zero := by rw [clip_true h]; rfl
    obtain ⟨h3, h4⟩ := raise_zero n
    unfold raiseV raiseB
    rw [h2, h, h3, h4]
    exact ⟨rfl, rfl⟩
/-- the lowest form -/
def lowX : Nat → R4 → R4
  | 0, x => x
  | n + 1, x => if x.ev then lowX n x.half else x
def lowE : Nat → R4 → Nat
  | 0, _ => 0
  | n + 1, x => if x.ev then lowE n x.half else n + 1
theorem rg_half {x : R4} (h : x.rg = true) : x.half.rg = true := by
  obtain ⟨ba, bb, bc, bd⟩ := Rg_bd h
  have h1 := half_bd bb bd
  have h2 := half_bd ba bc
  have h3 := half_bd bc ba
  exact Rg_mk ⟨h1.1, h2.2, h1.2, h3.1⟩
theorem rg_low : ∀ n x, x.rg = true → (lowX n x).rg = true
  | 0, _, h => h
  | n + 1, x, h => by
    unfold lowX
    split
    · exact rg_low n _ (rg_half h)
    · exact h
theorem lowE_le : ∀ n x, lowE n x ≤ n
  | 0, _ => Nat.le_refl _
  | n + 1, x => by
    unfold lowE
    split
    · exact Nat.le_succ_of_le (lowE_le n _)
    · exact Nat.le_refl _
theorem low_step {k : Nat} {x : R4} (h : 0 < k) (he : x.ev = true) : lowX (k - 1) x.half = lowX k x ∧ lowE (k - 1) x.half = lowE k x := by
  obtain ⟨m, rfl⟩ : ∃ m, k = m + 1 := ⟨k - 1, by omega⟩
  have e1 : lowX (m + 1) x = if x.ev then lowX m x.half else x := rfl
  have e2 : lowE (m + 1) x = if x.ev then lowE m x.half else m + 1 := rfl
  rw [e1, e2, if_pos he, if_pos he]
  exact ⟨rfl, rfl⟩
theorem low_end {k : Nat} {x : R4} (h : k = 0 ∨ x.ev = false) : lowX k x = x ∧ lowE k x = k := by
  cases k with
  | zero => exact ⟨rfl, rfl⟩
  | succ m =>
    rcases h with h | h
    · omega
    · unfold lowX lowE
      simp [h]
/-- a valid dyadic number -/
def GD (x : R4) (e : Int) : Bool := x.rg && (decide (0 ≤ e) && decide (e ≤ 60)) && (e == 0 || !x.ev)
theorem GD_rg {x : R4} {e : Int} (h : GD x e = true) : x.rg = true ∧ 0 ≤ e ∧ e ≤ 60 ∧ (e = 0 ∨ x.ev = false) := by
  simp only [GD, Bool.and_eq_true, Bool.or_eq_true, decide_eq_true_eq, beq_iff_eq, Bool.not_eq_true'] at h
  exact ⟨h.1.1, h.1.2.1, h.1.2.2, h.2⟩
/-- the sum -/
def dyS (x : R4) (m : Nat) (y : R4) (n : Nat) : R4 := (raiseV (n - m) x).add (raiseV (m - n) y)
def dyBad (x : R4) (m : Nat) (y : R4) (n : Nat) : Bool := raiseB (n - m) x || raiseB (m - n) y || !(dyS x m y n).rg
def dyX (x : R4) (m : Nat) (y : R4) (n : Nat) : R4 := lowX (max m n) (dyS x m y n).clip
def dyE (x : R4) (m : Nat) (y : R4) (n : Nat) : Nat := lowE (max m n) (dyS x m y n).clip

end Go.Proofs.YtamiploliebplaaDoor
