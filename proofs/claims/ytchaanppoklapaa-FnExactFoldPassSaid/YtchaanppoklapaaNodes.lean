/- Slices of ints: members, copies, lists of different nodes. -/
import Derived.Test.YtchaanppoklapaaIntS
import Derived.Test.YtchaanppoklapaaRoot2
import Derived.Laws.AppendOwnNone
namespace Go.Proofs.Ytchaanppoklapaa
open Go.RowKit
set_option linter.unusedVariables false
set_option linter.unusedSimpArgs false

/-- is x among the first n -/
def hasTo (xs : List Int) (x : Int) (n : Nat) : Bool := !(allTo (fun j => !(at3 xs j == x)) n)
theorem hasTo_succ (xs : List Int) (x : Int) (n : Nat) : hasTo xs x (n + 1) = (hasTo xs x n || at3 xs n == x) := by
  unfold hasTo; rw [allTo_succ]; simp
theorem hasTo_at {xs : List Int} {x : Int} {n k : Nat} (h : (at3 xs k == x) = true) (hk : k < n) : hasTo xs x n = true := by
  unfold hasTo; rw [allTo_false (k := k) (by rw [h]; rfl) hk]; rfl
theorem hasTo_take {xs : List Int} {x : Int} {n k : Nat} (h : n ≤ k) : hasTo (xs.take k) x n = hasTo xs x n := by
  unfold hasTo
  rw [allTo_congr (g := fun j => !(at3 xs j == x))]
  intro j hj
  have : at3 (xs.take k) j = at3 xs j := by simp [at3, List.getD_eq_getElem?_getD, List.getElem?_take, show j < k by omega]
  rw [this]

set_option maxHeartbeats 1000000 in
theorem index_any (x : Int) {v : Value} {m : Nat} {xs : List Int} (hm : m ≤ 2000000) (w : World) (h : RV w 1 v m xs) :
    Calls Try.prog 53 #[v, .int .i64 x] w fun e w' => (∃ r : Int, e = .returned (.int .i64 r) ∧ ((r = -1 ∧ hasTo xs x m = false) ∨ ∃ j : Nat, r = j ∧ j < m ∧ at3 xs j = x ∧ hasTo xs x j = false)) ∧ w = w' := by
  obtain ⟨hl, a, cap, rfl, c1, c2, H⟩ := h
  have HH := Lib.hid H
  have HL := Lib.hid hl
  clear H hl
  go_enter Try.func53, Try.ntmps53
  go_wp2
  go_loop [5, 8] (fun _ i => ∃ j : Nat, j ≤ m ∧ i = .int .i64 j ∧ hasTo xs x j = false) (fun _ i => m - (intOf i).toNat)
  case atStart => exact ⟨0, by omega, rfl, rfl⟩
  case round =>
    obtain ⟨j, hj, rfl, hno⟩ := hrel
    have HA := Lib.hid hno
    clear hno
    by_cases hlt : j < m
    · have hlt' : (j : Int) < m := by omega
      have HS : Hid (hasTo xs x (j + 1) = (hasTo xs x j || at3 xs j == x)) := hasTo_succ xs x j
      have hE := Ext.refl w
      obtain ⟨b, off, rfl, hbk, hcell⟩ := HH.out (by omega)
      have hbr : b < w.heap.size := by have := hE.size; omega
      have z0 : w.cell? ⟨b, off + j, none⟩ = some (.int .i64 (at3 xs (j))) := (hE.cells.1 b (off + (j)) hbk).trans (hcell _ _ (at3_get (by have := HL.out; omega)))
      clear hcell
      generalize hk0 : at3 xs j = k0 at *
      have HK := Lib.hid hk0
      clear hk0
      cases hk : (x == k0)
      · have hk' : (k0 == x) = false := by rw [beq_eq_false_iff_ne] at hk ⊢; exact fun e => hk e.symm
        go_wp2
        go_round
        case rel => exact ⟨j + 1, by omega, by go_num, by rw [HS.out, HA.out, hk']; rfl⟩
        case measure => simp [intOf]; omega
      · have hk2 : x = k0 := by simpa using hk
        have hk' : Hid (at3 xs j = x) := by unfold Hid; rw [HK.out, hk2]
        clear hk2
        go_wp2
        go_ret
        exact ⟨⟨_, rfl, .inr ⟨j, rfl, hlt, hk'.out, HA.out⟩⟩, rfl⟩
    · obtain rfl : j = m := by omega
      go_wp2
      go_ret
      exact ⟨⟨_, rfl, .inl ⟨rfl, HA.out⟩⟩, rfl⟩

theorem contains_any (x : Int) {v : Value} {m : Nat} {xs : List Int} (hm : m ≤ 2000000) (w : World) (h : RV w 1 v m xs) :
    Calls Try.prog 34 #[v, .int .i64 x] w fun e w' => e = .returned (.bool (hasTo xs x m)) ∧ w = w' := by
  have HI := Lib.hid (index_any x hm w h)
  obtain ⟨_, a, cap, rfl, _⟩ := h
  have HF : Hid (∀ j : Nat, j < m → at3 xs j = x → hasTo xs x m = true) := fun j h1 h2 => hasTo_at (by rw [h2]; simp) h1
  go_enter Try.func34, Try.ntmps34
  go_wp2_with fail
  refine (HI.out).mono ?_
  rintro e w1 ⟨⟨r, rfl, hr⟩, rfl⟩
  rcases hr with ⟨rfl, h1⟩ | ⟨j, rfl, h1, h2, h3⟩
  · go_wp2
    go_ret
    exact ⟨ret_bool (by rw [h1]), rfl⟩
  · have h4 := Lib.hid (HF.out j h1 h2)
    clear h2 h3
    go_wp2
    go_ret
    exact ⟨ret_bool (by rw [h4.out]), rfl⟩

/-- a part from the beginning -/
theorem RV.take {w : World} {b off cap n : Nat} {xs : List Int} (h : RV w 1 (.slice (some ⟨b, off, none⟩) n cap) n xs) (i : Nat) (hi : i ≤ n) : RV w 1 (.slice (some ⟨b, off, none⟩) i cap) i (xs.take i) := by
  obtain ⟨hl, a, c, hv, c1, c2, H⟩ := h
  simp only [Value.slice.injEq] at hv
  obtain ⟨rfl, _, rfl⟩ := hv
  refine ⟨by simp; omega, _, cap, rfl, by omega, c2, fun hp => ?_⟩
  obtain ⟨b', off', e1, e2, e3⟩ := H (by omega)
  refine ⟨b', off', e1, e2, fun j u hu => e3 j u ?_⟩
  simp only [IL, List.map_take] at hu ⊢
  rw [List.getElem?_take] at hu
  split at hu
  · exact hu
  · cases hu
/-- different nodes below 5 -/
def nOk (xs : List Int) (m : Nat) : Bool := allTo (fun i => Wn (at3 xs i) 0 4 && !(hasTo xs (at3 xs i) i)) m

end Go.Proofs.Ytchaanppoklapaa
