/- Dimensions of matrices. -/
import Derived.Test.YtnlhonlfkmpleaaCopM
import Derived.Test.YtnlhonlfkmpleaaRoot2
import Derived.Laws.AppendOwnNone
namespace Go.Proofs.Ytnlhonlfkmpleaa
open Go.RowKit
set_option linter.unusedVariables false
set_option linter.unusedSimpArgs false

/-- is x among the first n -/
def hasTo (xs : List Int) (x : Int) (n : Nat) : Bool := !(allTo (fun j => !(at3 xs j == x)) n)
theorem hasTo_succ (xs : List Int) (x : Int) (n : Nat) : hasTo xs x (n + 1) = (hasTo xs x n || at3 xs n == x) := by
  unfold hasTo; rw [allTo_succ]; simp
theorem hasTo_at {xs : List Int} {x : Int} {n k : Nat} (h : (at3 xs k == x) = true) (hk : k < n) : hasTo xs x n = true := by
  unfold hasTo; rw [allTo_false (k := k) (by rw [h]; rfl) hk]; rfl

set_option maxHeartbeats 1000000 in
theorem l1Has_any (x : Int) {v : Value} {m : Nat} {xs : List Int} (hm : m ≤ 2000000) (w : World) (h : RV w 1 v m xs) :
    Calls Try.prog 145 #[v, .int .i64 x] w fun e w' => e = .returned (.bool (hasTo xs x m)) ∧ w = w' := by
  obtain ⟨hl, a, cap, rfl, c1, c2, H⟩ := h
  have HH := Lib.hid H
  have HL := Lib.hid hl
  clear H hl
  go_enter Try.func145, Try.ntmps145
  go_wp2
  go_loop [6, 9] (fun _ i => ∃ j : Nat, j ≤ m ∧ i = .int .i64 j ∧ hasTo xs x j = false) (fun _ i => m - (intOf i).toNat)
  case atStart => exact ⟨0, by omega, rfl, rfl⟩
  case round =>
    obtain ⟨j, hj, rfl, hno⟩ := hrel
    have HA := Lib.hid hno
    clear hno
    by_cases hlt : j < m
    · have hlt' : (j : Int) < m := by omega
      have HS : Hid (hasTo xs x (j + 1) = (hasTo xs x j || at3 xs j == x)) := hasTo_succ xs x j
      have HF : Hid ((at3 xs j == x) = true → hasTo xs x m = true) := fun h => hasTo_at h hlt
      have hE := Ext.refl w
      obtain ⟨b, off, rfl, hbk, hcell⟩ := HH.out (by omega)
      have hbr : b < w.heap.size := by have := hE.size; omega
      have z0 : w.cell? ⟨b, off + j, none⟩ = some (.int .i64 (at3 xs (j))) := (hE.cells.1 b (off + (j)) hbk).trans (hcell _ _ (at3_get (by have := HL.out; omega)))
      clear hcell
      generalize at3 xs j = k0 at *
      cases hk : (k0 == x)
      · go_wp2
        go_round
        case rel => exact ⟨j + 1, by omega, by go_num, by rw [HS.out, HA.out, hk]; rfl⟩
        case measure => simp [intOf]; omega
      · go_wp2
        go_ret
        exact ⟨ret_bool (by rw [HF.out hk]), rfl⟩
    · obtain rfl : j = m := by omega
      go_wp2
      go_ret
      exact ⟨ret_bool (by rw [HA.out]), rfl⟩

def dimB (n : Int) : Bool := hasTo [1, 2, 4, 8, 16, 32] n 6
theorem dimB_iff (n : Int) : dimB n = true ↔ n = 1 ∨ n = 2 ∨ n = 4 ∨ n = 8 ∨ n = 16 ∨ n = 32 := by
  simp [dimB, hasTo, allTo, at3]
  omega
theorem dimB_not (n : Int) : dimB n = false ↔ ¬ (n = 1 ∨ n = 2 ∨ n = 4 ∨ n = 8 ∨ n = 16 ∨ n = 32) := by
  rw [← dimB_iff]; simp

theorem l3Dim_any (n : Int) (w : World) : Calls Try.prog 126 #[.int .i64 n] w fun e w' => e = .returned (.bool (dimB n)) ∧ Ext w w' := by
  have HH := fun (v : Value) (w' : World) (h : RV w' 1 v 6 [1, 2, 4, 8, 16, 32]) => Lib.hid (l1Has_any n (by omega) w' h)
  have HD : Hid (hasTo [1, 2, 4, 8, 16, 32] n 6 = dimB n) := rfl
  rw [HD.out] at HH
  generalize dimB n = o at *
  clear HD
  go_enter Try.func126, Try.ntmps126
  go_wp2_with fail
  refine (HH _ _ (RV.own (own_lit2 (N := w.heap.size) (by simp) (by decide) (by rfl) (by rfl)) rfl)).out.mono ?_
  rintro e w1 ⟨rfl, rfl⟩
  go_wp2
  go_ret
  exact ⟨rfl, (by repeat (first | exact Ext.refl _ | assumption | refine Ext.alloc ?_ _ | refine Ext.drew ?_ | refine Ext.drewN ?_ _ | refine Ext.setCell ?_ (by first | omega | (dsimp only; omega) | (simp; done) | (simp; omega)) _ | refine Ext.trans ?_ (by assumption)))⟩

theorem isDim_any (n : Int) (w : World) : Calls Try.prog 127 #[.int .i64 n] w fun e w' => e = .returned (.bool (dimB n)) ∧ w = w' := by
  cases h : Wn n 1 32
  · have HD : Hid (dimB n = false) := by
      have := Wn_not.1 h
      exact (dimB_not n).2 (by omega)
    rw [HD.out]
    go_enter Try.func127, Try.ntmps127
    go_wp2_with (go_at_call 49; ((with_reducible refine (within_any _ _ _ _).mono ?_); rintro e w' ⟨rfl, rfl⟩))
    go_ret
    exact ⟨rfl, rfl⟩
  · have hb := Wn_iff.1 h
    have hc : n = 1 ∨ n = 2 ∨ n = 3 ∨ n = 4 ∨ n = 5 ∨ n = 6 ∨ n = 7 ∨ n = 8 ∨ n = 9 ∨ n = 10 ∨ n = 11 ∨ n = 12 ∨ n = 13 ∨ n = 14 ∨ n = 15 ∨ n = 16 ∨ n = 17 ∨ n = 18 ∨ n = 19 ∨ n = 20 ∨ n = 21 ∨ n = 22 ∨ n = 23 ∨ n = 24 ∨ n = 25 ∨ n = 26 ∨ n = 27 ∨ n = 28 ∨ n = 29 ∨ n = 30 ∨ n = 31 ∨ n = 32 := by omega
    clear hb
    rcases hc with rfl | rfl | rfl | rfl | rfl | rfl | rfl | rfl | rfl | rfl | rfl | rfl | rfl | rfl | rfl | rfl | rfl | rfl | rfl | rfl | rfl | rfl | rfl | rfl | rfl | rfl | rfl | rfl | rfl | rfl | rfl | rfl
    all_goals
      go_enter Try.func127, Try.ntmps127
      go_wp2_with (go_at_call 49; ((with_reducible refine (within_any _ _ _ _).mono ?_); rintro e w' ⟨rfl, rfl⟩))
      go_ret
      exact ⟨rfl, rfl⟩

end Go.Proofs.Ytnlhonlfkmpleaa
