/- The prime factors of a number. -/
import Derived.Test.YtojoljffaedpfaaRows
import Derived.Test.YtojoljffaedpfaaRoot2
import Derived.Test.YtojoljffaedpfaaOwn
namespace Go.Proofs.Ytojoljffaedpfaa
open Go.RowKit

def strip : Nat → Int → Int → Int × Int
  | 0, n, _ => (n, 0)
  | g + 1, n, p => if n % p = 0 then ((strip g (n / p) p).1, (strip g (n / p) p).2 + 1) else (n, 0)
def facL : Nat → Int → Int → List (Int × Int)
  | 0, n, _ => if 1 < n then [(n, 1)] else []
  | f + 1, n, p => if p * p ≤ n then (if n % p = 0 then (p, (strip 64 n p).2) :: facL f (strip 64 n p).1 (p + 1) else facL f n (p + 1)) else if 1 < n then [(n, 1)] else []
/-- the prime factorisation -/
def facs (n : Int) : List (Int × Int) := facL 40000 n 2
theorem div_half {n p : Int} (h1 : 1 ≤ n) (hp : 2 ≤ p) (hd : n % p = 0) : 1 ≤ n / p ∧ 2 * (n / p) ≤ n ∧ n / p < n := by
  have h2 := Int.emod_add_mul_ediv n p
  rw [hd] at h2
  have h3 : 1 ≤ n / p := by
    by_cases h : 0 < n / p
    · omega
    · have := Int.mul_nonneg (a := p) (b := -(n / p)) (by omega) (by omega)
      rw [Int.mul_neg] at this
      omega
  have h4 := Int.mul_le_mul_of_nonneg_right (a := 2) (b := p) (c := n / p) hp (by omega)
  omega
theorem strip_bd : ∀ (g : Nat) (n p : Int), 1 ≤ n → 2 ≤ p → 1 ≤ (strip g n p).1 ∧ (strip g n p).1 ≤ n ∧ 0 ≤ (strip g n p).2 ∧ (strip g n p).2 ≤ g := by
  intro g
  induction g with
  | zero => intro n p h1 _; simp [strip]; omega
  | succ g ih =>
    intro n p h1 hp
    unfold strip
    split
    · rename_i hd
      have := div_half h1 hp hd
      have := ih (n / p) p (by omega) hp
      simp only []
      omega
    · simp only []
      omega
theorem strip_pos {n p : Int} (h1 : 1 ≤ n) (hp : 2 ≤ p) (hd : n % p = 0) : 1 ≤ (strip 64 n p).2 := by
  unfold strip
  rw [if_pos hd]
  have := strip_bd 63 (n / p) p (by have := div_half h1 hp hd; omega) hp
  simp only []
  omega
theorem strip_end {g : Nat} {n p : Int} (hd : n % p ≠ 0) : strip g n p = (n, 0) := by
  cases g with
  | zero => rfl
  | succ g => unfold strip; rw [if_neg hd]
theorem strip_step {g : Nat} {n p : Int} (hd : n % p = 0) : strip (g + 1) n p = ((strip g (n / p) p).1, (strip g (n / p) p).2 + 1) := by
  conv => lhs; unfold strip
  rw [if_pos hd]
theorem facL_hit {f : Nat} {n p : Int} (h : p * p ≤ n) (hd : n % p = 0) : facL (f + 1) n p = (p, (strip 64 n p).2) :: facL f (strip 64 n p).1 (p + 1) := by
  conv => lhs; unfold facL
  rw [if_pos h, if_pos hd]
theorem facL_miss {f : Nat} {n p : Int} (h : p * p ≤ n) (hd : n % p ≠ 0) : facL (f + 1) n p = facL f n (p + 1) := by
  conv => lhs; unfold facL
  rw [if_pos h, if_neg hd]
theorem facL_end {f : Nat} {n p : Int} (h : ¬ p * p ≤ n) : facL (f + 1) n p = if 1 < n then [(n, 1)] else [] := by
  conv => lhs; unfold facL
  rw [if_neg h]

/-- what the inner loop says: n0 is being divided by p -/
def SRel (n0 p : Int) (un ue : Value) : Prop :=
  ∃ (n e : Int) (g : Nat), un = .int .i64 n ∧ ue = .int .i64 e ∧ 1 ≤ n ∧ n ≤ n0 ∧ n < 2 ^ g ∧ 0 ≤ e ∧ e + g = 64 ∧ (strip 64 n0 p).1 = (strip g n p).1 ∧ (strip 64 n0 p).2 = e + (strip g n p).2
/-- what the outer loop says -/
def FRel (n0 : Int) (t : TypeId) (w : World) (un uo up : Value) (wr : World) : Prop :=
  ∃ (n p : Int) (f : Nat) (L : List (Int × Int)), un = .int .i64 n ∧ up = .int .i64 p ∧ 1 ≤ n ∧ n ≤ 1000000000 ∧ 2 ≤ p ∧ p ≤ 31623 ∧ f + p = 40002 ∧ (L.length : Int) + 2 ≤ p ∧
    wr.ownsRow w.heap.size t 2 uo L.length (flat2 L) ∧ Ext w wr ∧ facs n0 = L ++ facL f n p

/-! ### Primes -/
def prm (n : Int) : Bool := match facs n with
  | [x] => x.2 == 1
  | _ => false
theorem prm_one {n : Int} {x : Int × Int} (h : facs n = [x]) : prm n = (x.2 == 1) := by unfold prm; rw [h]
theorem prm_not {n : Int} (h : (facs n).length ≠ 1) : prm n = false := by
  unfold prm
  split
  · rename_i x hx; rw [hx] at h; exact absurd rfl h
  · rfl
theorem facL_len : ∀ (f : Nat) (n p : Int), (facL f n p).length ≤ f + 1 := by
  intro f
  induction f with
  | zero => intro n p; unfold facL; split <;> simp
  | succ f ih =>
    intro n p
    unfold facL
    split
    · split
      · have := ih (strip 64 n p).1 (p + 1); simp; omega
      · have := ih n (p + 1); omega
    · split <;> simp

def In9 (n : Int) : Bool := Wn n 1 1000000000

end Go.Proofs.Ytojoljffaedpfaa
