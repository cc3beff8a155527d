/- Used qubits: the reference's UsedQubits; the program's loop. -/
import Derived.Test.YtjeahopiejcopaaUsd
import Derived.Test.YtjeahopiejcopaaQub
namespace Go.Proofs.Ytjeahopiejcopaa
open Go.RowKit Go.Lib
set_option linter.unusedVariables false
set_option linter.unusedSimpArgs false

/-- what is returned -/
def uqO (xs : List Int) (m : Nat) : Bool := gAll 5 xs m && decide ((m : Int) ≤ 400)
def uqV (xs : List Int) (m : Nat) : List Int := if uqO xs m then useJ xs m else []

set_option maxRecDepth 20000 in
set_option maxHeartbeats 2000000 in
theorem s_usedQubits_any {v : Value} {m : Nat} {xs : List Int} (hm : m ≤ 2000000) (w : World) (h : RV w 3 v m xs) :
    Calls Try.prog 56 #[v] w fun e w' => ∃ v', e = .returned (.tuple #[v', .bool (uqO xs m)]) ∧ w'.ownsRow w.heap.size 3 1 v' (uqV xs m).length (IL (uqV xs m)) ∧ Ext w w' := by
  have HG := fun w' (hx : Ext w w') => Lib.hid (l30Gates_any 5 400 (by omega) hm w' (h.ext hx))
  have HU := fun (hm : m ≤ 400) w' (hx : Ext w w') => Lib.hid (l30Used_any hm w' (h.ext hx))
  have HV : Hid (uqV xs m = if uqO xs m then useJ xs m else []) := rfl
  have HLE : Hid (uqO xs m = true → m ≤ 400) := fun h => by
    unfold uqO at h
    simp only [Bool.and_eq_true, decide_eq_true_eq] at h
    omega
  have HO : Hid (uqO xs m = (gAll 5 xs m && decide ((m : Int) ≤ 400))) := rfl
  obtain ⟨hl, a, cap, rfl, c1, c2, H⟩ := h
  clear H hl
  generalize uqV xs m = V at *
  rw [← HO.out] at HG
  clear HO
  generalize uqO xs m = o at *
  go_enter Try.func56, Try.ntmps56
  go_wp2_with fail
  refine (HG w (Ext.refl _)).out.mono ?_
  rintro e w1 ⟨rfl, hx1⟩
  cases o
  · have HV2 : Hid (V = []) := HV.out.trans (by simp)
    go_wp2
    go_ret2
    rw [HV2.out]
    exact ⟨_, rfl, own_nil _ _ _ _, hx1⟩
  · have HV2 : Hid (V = useJ xs m) := HV.out.trans (by simp)
    go_wp2_with fail
    refine (HU (HLE.out (by first | rfl | trivial)) w1 hx1).out.mono ?_
    rintro e w2 ⟨v2, rfl, o2, hx2⟩
    have O2 := Lib.hid o2
    clear o2
    go_wp2
    go_ret2
    rw [HV2.out]
    exact ⟨_, rfl, own_base O2.out hx1.size, hx1.trans hx2⟩

/-- all the gates' qubits in their order -/
def cqJ (xs : List Int) : Nat → List Int
  | 0 => []
  | j + 1 => cqJ xs j ++ qL (at3 xs (j * 3)) (at3 xs (j * 3 + 1)) (at3 xs (j * 3 + 2))
theorem cqJ_len (xs : List Int) : ∀ j, (cqJ xs j).length ≤ 2 * j
  | 0 => Nat.le_refl _
  | j + 1 => by
    have h := cqJ_len xs j
    have e : cqJ xs (j + 1) = cqJ xs j ++ qL (at3 xs (j * 3)) (at3 xs (j * 3 + 1)) (at3 xs (j * 3 + 2)) := rfl
    have h2 := qL_len (at3 xs (j * 3)) (at3 xs (j * 3 + 1)) (at3 xs (j * 3 + 2))
    rw [e, List.length_append]
    omega

end Go.Proofs.Ytjeahopiejcopaa
