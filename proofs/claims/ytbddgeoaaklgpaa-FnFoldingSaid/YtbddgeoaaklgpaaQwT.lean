/- T counts. -/
import Derived.Test.YtbddgeoaaklgpaaGate
import Derived.Test.YtbddgeoaaklgpaaQuR
namespace Go.Proofs.Ytbddgeoaaklgpaa
open Go.RowKit Go.Lib
set_option linter.unusedVariables false
set_option linter.unusedSimpArgs false

set_option maxHeartbeats 1000000 in
theorem countedT_any (q : Int) {v : Value} {m : Nat} {xs : List Int} (hm : m ≤ 2000000) (w : World) (h : RV w 3 v m xs) :
    Calls Try.prog 56 #[.agg #[.int .i64 q, v], .func (.func 57) #[] #[]] w fun e w' => e = .returned (.tuple #[.int .i64 (if cOk q xs m then cntTo (kAny 7 8 xs) m else 0), .bool (cOk q xs m)]) ∧ Ext w w' := by
  have HV := fun w' (hx : Ext w w') => Lib.hid (isValidCircuit_any q hm w' (h.ext hx))
  obtain ⟨hl, a, cap, rfl, c1, c2, H⟩ := h
  have HH := Lib.hid H
  have HL := Lib.hid hl
  clear H hl
  cases hok : cOk q xs m
  · rw [hok] at HV
    go_enter Try.func56, Try.ntmps56
    go_wp2_with fail
    refine (HV _ (by repeat (first | exact Ext.refl _ | assumption | refine Ext.alloc ?_ _ | refine Ext.drew ?_ | refine Ext.drewN ?_ _ | refine Ext.setCell ?_ (by first | omega | (dsimp only; omega) | (simp; done) | (simp; omega)) _ | refine Ext.trans ?_ (by assumption)))).out.mono ?_
    rintro e w1 ⟨rfl, hx1⟩
    go_wp2
    go_ret2
    exact ⟨rfl, (by repeat (first | exact Ext.refl _ | assumption | refine Ext.alloc ?_ _ | refine Ext.drew ?_ | refine Ext.drewN ?_ _ | refine Ext.setCell ?_ (by first | omega | (dsimp only; omega) | (simp; done) | (simp; omega)) _ | refine Ext.trans ?_ (by assumption)))⟩
  rw [hok] at HV
  go_enter Try.func56, Try.ntmps56
  go_wp2_with fail
  refine (HV _ (by repeat (first | exact Ext.refl _ | assumption | refine Ext.alloc ?_ _ | refine Ext.drew ?_ | refine Ext.drewN ?_ _ | refine Ext.setCell ?_ (by first | omega | (dsimp only; omega) | (simp; done) | (simp; omega)) _ | refine Ext.trans ?_ (by assumption)))).out.mono ?_
  rintro e w1 ⟨rfl, hx1⟩
  obtain ⟨hc1, hf1⟩ := hx1.cells
  have hz1 := hx1.size
  try simp at hz1
  have hs1_0 := sz1 (a := w.heap.size) (b := w1.heap.size) (by omega)
  have hE1 : Ext w w1 := (by repeat (first | exact Ext.refl _ | assumption | refine Ext.alloc ?_ _ | refine Ext.drew ?_ | refine Ext.drewN ?_ _ | refine Ext.setCell ?_ (by first | omega | (dsimp only; omega) | (simp; done) | (simp; omega)) _ | refine Ext.trans ?_ (by assumption)))
  go_wp2
  go_loopw [6, 8, 15] (fun n _ i wr => ∃ j : Nat, j ≤ m ∧ i = .int .i64 j ∧ Ext w wr ∧ n = .int .i64 (cntTo (kAny 7 8 xs) j)) (fun _ _ i _ => m - (RowKit.intOf i).toNat)
  case atStart => exact ⟨0, by omega, rfl, hE1, rfl⟩
  case round =>
    obtain ⟨j, hj, rfl, hE, rfl⟩ := hrel
    by_cases hlt : j < m
    · have hlt' : (j : Int) < m := by omega
      have HS : Hid (cntTo (kAny 7 8 xs) (j + 1) = cntTo (kAny 7 8 xs) j + (if Wn (at3 xs (j * 3)) 7 8 then 1 else 0)) := rfl
      have hcb := cntTo_bd (kAny 7 8 xs) j
      obtain ⟨b, off, rfl, hbk, hcell⟩ := HH.out (by omega)
      have hbr : b < wr.heap.size := by have := hE.size; omega
      have z0 : wr.cell? ⟨b, off + j * 3, none⟩ = some (.int .i64 (at3 xs (j * 3))) := (hE.cells.1 b (off + (j * 3)) hbk).trans (hcell _ _ (at3_get (by have := HL.out; omega)))
      have z1 : wr.cell? ⟨b, off + j * 3 + 1, none⟩ = some (.int .i64 (at3 xs (j * 3 + 1))) := (hE.cells.1 b (off + (j * 3 + 1)) hbk).trans (hcell _ _ (at3_get (by have := HL.out; omega)))
      have z2 : wr.cell? ⟨b, off + j * 3 + 2, none⟩ = some (.int .i64 (at3 xs (j * 3 + 2))) := (hE.cells.1 b (off + (j * 3 + 2)) hbk).trans (hcell _ _ (at3_get (by have := HL.out; omega)))
      clear hcell
      generalize at3 xs (j * 3) = k0 at *
      generalize at3 xs (j * 3 + 1) = a0 at *
      generalize at3 xs (j * 3 + 2) = b0 at *
      generalize cntTo (kAny 7 8 xs) j = c0 at *
      cases hg : Wn k0 7 8
      all_goals
        go_wp2_with (go_at_call 57; ((with_reducible refine (isT_any _ _).mono ?_); rintro e w' ⟨rfl, rfl⟩))
        go_roundw
        case rel => exact ⟨j + 1, by omega, by go_num, (by repeat (first | exact Ext.refl _ | assumption | refine Ext.alloc ?_ _ | refine Ext.drew ?_ | refine Ext.drewN ?_ _ | refine Ext.setCell ?_ (by first | omega | (dsimp only; omega) | (simp; done) | (simp; omega)) _ | refine Ext.trans ?_ (by assumption))), by rw [HS.out, hg]; simp⟩
        case measure => simp [RowKit.intOf]; omega
    · obtain rfl : j = m := by omega
      go_wp2
      go_ret2
      exact ⟨rfl, hE⟩

theorem countT_any (q : Int) {v : Value} {m : Nat} {xs : List Int} (hm : m ≤ 2000000) (w : World) (h : RV w 3 v m xs) :
    Calls Try.prog 32 #[.agg #[.int .i64 q, v]] w fun e w' => e = .returned (.tuple #[.int .i64 (if cOk q xs m then cntTo (kAny 7 8 xs) m else 0), .bool (cOk q xs m)]) ∧ Ext w w' := by
  have HV := fun w' (hx : Ext w w') => Lib.hid (countedT_any q hm w' (h.ext hx))
  generalize cOk q xs m = ok at *
  generalize (if ok = true then cntTo (kAny 7 8 xs) m else 0) = c at *
  obtain ⟨hl, a, cap, rfl, c1, c2, H⟩ := h
  clear H
  go_enter Try.func32, Try.ntmps32
  go_wp2_with fail
  refine (HV _ (by repeat (first | exact Ext.refl _ | assumption | refine Ext.alloc ?_ _ | refine Ext.drew ?_ | refine Ext.drewN ?_ _ | refine Ext.setCell ?_ (by first | omega | (dsimp only; omega) | (simp; done) | (simp; omega)) _ | refine Ext.trans ?_ (by assumption)))).out.mono ?_
  rintro e w1 ⟨rfl, hx1⟩
  go_wp2
  go_ret2
  exact ⟨rfl, (by repeat (first | exact Ext.refl _ | assumption | refine Ext.alloc ?_ _ | refine Ext.drew ?_ | refine Ext.drewN ?_ _ | refine Ext.setCell ?_ (by first | omega | (dsimp only; omega) | (simp; done) | (simp; omega)) _ | refine Ext.trans ?_ (by assumption)))⟩

/-- a circuit's T gates, counted -/
theorem cT_cnt (xs : List Int) : ∀ n, (∀ j, j < n → 0 ≤ at3 xs (j * 3)) → cntTo (kAny 7 8 xs) n = (cT (clG xs n) : Int)
  | 0, _ => rfl
  | n + 1, h => by
    have h1 := h n (by omega)
    have e : cT [gN xs n] = if Wn (at3 xs (n * 3)) 7 8 = true then 1 else 0 := by
      by_cases hk : Wn (at3 xs (n * 3)) 7 8 = true
      · rw [if_pos hk]
        have := Wn_iff.1 hk
        have h7 : (at3 xs (n * 3)).toNat = 7 ∨ (at3 xs (n * 3)).toNat = 8 := by omega
        unfold gN
        simp [cT, isTk, h7]
      · rw [if_neg hk]
        have hn := mt Wn_iff.2 hk
        have h7 : ¬ ((at3 xs (n * 3)).toNat = 7 ∨ (at3 xs (n * 3)).toNat = 8) := by omega
        unfold gN
        simp [cT, isTk, h7]
    show cntTo (kAny 7 8 xs) n + (if Wn (at3 xs (n * 3)) 7 8 then 1 else 0) = (cT (clG xs n ++ [gN xs n]) : Int)
    rw [cT_cnt xs n (fun j hj => h j (by omega)), cT_app, e]
    split <;> simp
theorem cOk_pos {q : Nat} {xs : List Int} {n : Nat} (hc : cOk q xs n = true) : ∀ j, j < n → 0 ≤ at3 xs (j * 3) := fun j hj => by
  have := gOk_facts (cOk_gate hc hj) (cOk_q1 hc).1
  omega
theorem qT_any (q : Nat) {v : Value} {m : Nat} {xs : List Int} (hc : cOk q xs m = true) (w : World) (h : RV w 3 v m xs) :
    Calls Try.prog 11 #[.agg #[.int .i64 q, v]] w fun e w' => e = .returned (.int .i64 (cT (clG xs m) : Nat)) ∧ Ext w w' := by
  have HV := fun w' (hx : Ext w w') => Lib.hid (countT_any (q : Int) (by have := (cOk_q1 hc).2.2; omega) w' (h.ext hx))
  rw [hc, if_pos rfl, cT_cnt xs m (cOk_pos hc)] at HV
  generalize cT (clG xs m) = c at *
  obtain ⟨hl, a, cap, rfl, c1, c2, H⟩ := h
  clear H
  go_enter Try.func11, Try.ntmps11
  go_wp2_with fail
  refine (HV _ (by repeat (first | exact Ext.refl _ | assumption | refine Ext.alloc ?_ _ | refine Ext.drew ?_ | refine Ext.drewN ?_ _ | refine Ext.setCell ?_ (by first | omega | (dsimp only; omega) | (simp; done) | (simp; omega)) _ | refine Ext.trans ?_ (by assumption)))).out.mono ?_
  rintro e w1 ⟨rfl, hx1⟩
  go_wp2
  go_ret
  exact ⟨rfl, (by repeat (first | exact Ext.refl _ | assumption | refine Ext.alloc ?_ _ | refine Ext.drew ?_ | refine Ext.drewN ?_ _ | refine Ext.setCell ?_ (by first | omega | (dsimp only; omega) | (simp; done) | (simp; omega)) _ | refine Ext.trans ?_ (by assumption)))⟩

end Go.Proofs.Ytbddgeoaaklgpaa
