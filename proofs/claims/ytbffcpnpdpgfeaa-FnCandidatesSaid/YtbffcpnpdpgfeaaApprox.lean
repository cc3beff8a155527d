/- Approximations: pairs of numbers of the ring on a sphere. -/
import Derived.Test.YtbffcpnpdpgfeaaRows
import Derived.Test.YtbffcpnpdpgfeaaRing
namespace Go.Proofs.Ytbffcpnpdpgfeaa
open Go.RowKit

def S16 (a : Int) : Bool := Wn a (-16) 16
def Apx (a b c d e f g h k : Int) : Bool :=
  Wn k 0 8 && (S16 a && S16 b && S16 c && S16 d && S16 e && S16 f && S16 g && S16 h) && (sqU a b c d + sqU e f g h == 2 ^ k.toNat) && (sqV a b c d + sqV e f g h == 0)
theorem sq_pos (a : Int) : 0 ≤ a * a := (sq_bd (a := a) (A := if a < 0 then -a else a) (by split <;> omega) (by split <;> omega)).1
theorem small_of_sq {a : Int} (h : a * a ≤ 256) : -16 ≤ a ∧ a ≤ 16 := by
  by_cases h1 : 16 < a
  · have := Int.mul_le_mul (a := 17) (b := 17) (c := a) (d := a) (by omega) (by omega) (by omega) (by omega)
    omega
  · by_cases h2 : a < -16
    · have := Int.mul_le_mul (a := 17) (b := 17) (c := -a) (d := -a) (by omega) (by omega) (by omega) (by omega)
      rw [Int.neg_mul_neg] at this
      omega
    · omega
theorem pow_le {k : Int} (h : 0 ≤ k ∧ k ≤ 8) : 1 ≤ (2 : Int) ^ k.toNat ∧ (2 : Int) ^ k.toNat ≤ 256 := by
  have : k = 0 ∨ k = 1 ∨ k = 2 ∨ k = 3 ∨ k = 4 ∨ k = 5 ∨ k = 6 ∨ k = 7 ∨ k = 8 := by omega
  rcases this with rfl | rfl | rfl | rfl | rfl | rfl | rfl | rfl | rfl <;> decide
theorem sqU_small {a b c d : Int} (h : sqU a b c d ≤ 256) : (-16 ≤ a ∧ a ≤ 16) ∧ (-16 ≤ b ∧ b ≤ 16) ∧ (-16 ≤ c ∧ c ≤ 16) ∧ (-16 ≤ d ∧ d ≤ 16) := by
  unfold sqU at h
  have := sq_pos a
  have := sq_pos b
  have := sq_pos c
  have := sq_pos d
  exact ⟨small_of_sq (by omega), small_of_sq (by omega), small_of_sq (by omega), small_of_sq (by omega)⟩
theorem sqU_pos (a b c d : Int) : 0 ≤ sqU a b c d := by
  unfold sqU
  have := sq_pos a
  have := sq_pos b
  have := sq_pos c
  have := sq_pos d
  omega
theorem sq16 {a b : Int} (ha : -16 ≤ a ∧ a ≤ 16) (hb : -16 ≤ b ∧ b ≤ 16) : -256 ≤ a * b ∧ a * b ≤ 256 := mul_bd ha.1 ha.2 hb.1 hb.2
theorem okSq_small {a b c d : Int} (h : (-16 ≤ a ∧ a ≤ 16) ∧ (-16 ≤ b ∧ b ≤ 16) ∧ (-16 ≤ c ∧ c ≤ 16) ∧ (-16 ≤ d ∧ d ≤ 16)) : okSq a b c d = true := by
  have h1 := sq16 h.1 h.1
  have h2 := sq16 h.2.1 h.2.1
  have h3 := sq16 h.2.2.1 h.2.2.1
  have h4 := sq16 h.2.2.2 h.2.2.2
  have h5 := sq16 h.1 h.2.1
  have h6 := sq16 h.2.1 h.2.2.1
  have h7 := sq16 h.2.2.1 h.2.2.2
  have h8 := sq16 h.2.2.2 h.1
  unfold okSq
  rw [Rg_mk (by omega), Cf_mk (by unfold sqU; omega), Cf_mk (by unfold sqV; omega)]
  rfl
theorem Apx_eq (a b c d e f g h k : Int) : Apx a b c d e f g h k = (okSq a b c d && okSq e f g h && Wn k 0 8 && (absU a b c d + absU e f g h == 2 ^ k.toNat) && (absV a b c d + absV e f g h == 0)) := by
  rw [Bool.eq_iff_iff]
  unfold Apx
  simp only [Bool.and_eq_true, beq_iff_eq, S16, Wn_iff]
  constructor
  · rintro ⟨⟨⟨hk, ⟨⟨⟨⟨⟨⟨⟨h1, h2⟩, h3⟩, h4⟩, h5⟩, h6⟩, h7⟩, h8⟩⟩, hu⟩, hv⟩
    have o1 := okSq_small ⟨h1, h2, h3, h4⟩
    have o2 := okSq_small ⟨h5, h6, h7, h8⟩
    refine ⟨⟨⟨⟨o1, o2⟩, hk⟩, ?_⟩, ?_⟩
    · unfold absU; rw [if_pos o1, if_pos o2]; exact hu
    · unfold absV; rw [if_pos o1, if_pos o2]; exact hv
  · rintro ⟨⟨⟨⟨o1, o2⟩, hk⟩, hu⟩, hv⟩
    unfold absU at hu
    unfold absV at hv
    rw [if_pos o1, if_pos o2] at hu hv
    have hp := pow_le hk
    have p1 := sqU_pos a b c d
    have p2 := sqU_pos e f g h
    obtain ⟨h1, h2, h3, h4⟩ := sqU_small (a := a) (b := b) (c := c) (d := d) (by omega)
    obtain ⟨h5, h6, h7, h8⟩ := sqU_small (a := e) (b := f) (c := g) (d := h) (by omega)
    exact ⟨⟨⟨hk, ⟨⟨⟨⟨⟨⟨⟨h1, h2⟩, h3⟩, h4⟩, h5⟩, h6⟩, h7⟩, h8⟩⟩, hu⟩, hv⟩

def All16 (l : List Int) : Bool := AllW l (-16) 16
theorem all16_8 (a b c d e f g h : Int) : All16 [a, b, c, d, e, f, g, h] = (S16 a && S16 b && S16 c && S16 d && S16 e && S16 f && S16 g && S16 h) := by
  simp [All16, AllW, S16, Bool.and_assoc]
theorem cells_of {w : World} {b : Nat} {t : TypeId} {xs : List Int} (h : w.heap[b]? = some (.cells (xs.map (Value.int .i64)).toArray t (0, 0))) : ∀ k, (hk : k < xs.length) → w.cell? ⟨b, k, none⟩ = some (.int .i64 xs[k]) := by
  intro k hk
  rw [cell_of_row w b k _ t (0, 0) h]
  simp [hk]

end Go.Proofs.Ytbffcpnpdpgfeaa
