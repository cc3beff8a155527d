/- Used qubits: the program's loop, given a contract of union. -/
import Derived.Test.YtjeahopiejcopaaUse
namespace Go.Proofs.Ytjeahopiejcopaa
open Go.RowKit Go.Lib
set_option linter.unusedVariables false
set_option linter.unusedSimpArgs false

set_option maxRecDepth 20000 in
set_option maxHeartbeats 2000000 in
theorem usedBy_of (F : List Int → List Int)
    (HU : ∀ (v : Value) (n : Nat) (ys : List Int) (w : World), n ≤ 800 → RV w 1 v n ys → Calls Try.prog 132 #[v, .slice none 0 0] w fun e w' => ∃ v', e = .returned v' ∧ w'.ownsRow w.heap.size 3 1 v' (F ys).length (IL (F ys)) ∧ Ext w w')
    {v : Value} {m : Nat} {xs : List Int} (hm : m ≤ 400) (w : World) (h : RV w 3 v m xs) :
    Calls Try.prog 109 #[v] w fun e w' => ∃ v', e = .returned v' ∧ w'.ownsRow w.heap.size 3 1 v' (F (cqJ xs m)).length (IL (F (cqJ xs m))) ∧ Ext w w' := by
  have HUU := fun v n ys w h1 h2 => Lib.hid (HU v n ys w h1 h2)
  obtain ⟨hl, a, cap, rfl, c1, c2, H⟩ := h
  have HH := Lib.hid H
  have HL := Lib.hid hl
  clear H hl HU
  go_enter Try.func109, Try.ntmps109
  go_wp2
  go_loopw [3, 9] (fun ov i wr => ∃ j : Nat, j ≤ m ∧ i = .int .i64 j ∧ (∃ (ao : Option Addr) (no co : Nat), ov = .slice ao no co ∧ Hid ((cqJ xs j).length = no ∧ wr.ownsRow w.heap.size 3 1 (.slice ao no co) no (IL (cqJ xs j)))) ∧ Ext w wr) (fun _ i _ => m - (intOf i).toNat)
  case atStart => exact ⟨0, by omega, rfl, ⟨_, _, _, rfl, rfl, own_zeroU (Nat.le_refl _) (heap_alloc_new _ _)⟩, (Ext.refl _).alloc _⟩
  case round =>
    obtain ⟨j, hj, rfl, ⟨ao, no, co, rfl, HO⟩, hE⟩ := hrel
    have hno : no ≤ 2 * j := by rw [← HO.out.1]; exact cqJ_len xs j
    have HE := Lib.hid hE
    have hsz := hE.size
    by_cases hlt : j < m
    · have hlt' : (j : Int) < m := by omega
      have HS : Hid (cqJ xs (j + 1) = cqJ xs j ++ qL (at3 xs (j * 3)) (at3 xs (j * 3 + 1)) (at3 xs (j * 3 + 2))) := rfl
      obtain ⟨b, off, rfl, hbk, hcell⟩ := HH.out (by omega)
      have hbr : b < wr.heap.size := by have := hE.size; omega
      have z0 : wr.cell? ⟨b, off + j * 3, none⟩ = some (.int .i64 (at3 xs (j * 3))) := (hE.cells.1 b (off + (j * 3)) hbk).trans (hcell _ _ (at3_get (by have := HL.out; omega)))
      have z1 : wr.cell? ⟨b, off + j * 3 + 1, none⟩ = some (.int .i64 (at3 xs (j * 3 + 1))) := (hE.cells.1 b (off + (j * 3 + 1)) hbk).trans (hcell _ _ (at3_get (by have := HL.out; omega)))
      have z2 : wr.cell? ⟨b, off + j * 3 + 2, none⟩ = some (.int .i64 (at3 xs (j * 3 + 2))) := (hE.cells.1 b (off + (j * 3 + 2)) hbk).trans (hcell _ _ (at3_get (by have := HL.out; omega)))
      clear hcell
      generalize at3 xs (j * 3) = k0 at *
      generalize at3 xs (j * 3 + 1) = a0 at *
      generalize at3 xs (j * 3 + 2) = b0 at *
      have HQ := fun w' => Lib.hid (qubitsOf_any k0 a0 b0 w')
      have hq := qL_len k0 a0 b0
      generalize qL k0 a0 b0 = q at *
      generalize cqJ xs j = L at *
      go_wp2_with fail
      refine (HQ _).out.mono ?_
      rintro e w1 ⟨v1, rfl, o1, hx1⟩
      have R1 := Lib.hid (RV.own o1 (by omega))
      have HE1 : Hid (Ext w w1) := (HE.out.alloc _).trans hx1
      have O1 := Lib.hid (own_ext HO.out.2 (((Ext.refl _).alloc _).trans hx1))
      obtain ⟨a1, cc1, rfl, _, _, _⟩ := own_shape o1
      have hsz1 := HE1.out.size
      clear o1 hx1
      go_wp2_with (at_builtin; go_loud (refine wpList_append_rvt (base := w.heap.size) rfl elt_CI rfl (.slice ao no co) no _ rfl O1.out _ _ _ rfl R1.out (by omega) (by omega) ?_); intro v6 w6 hown6 hgrow6 hiff6 hloc6)
      have hx6 : Ext w w6 := ext_grownB HE1.out hgrow6 O1.out (Nat.le_refl _)
      have O7 := Lib.hid hown6
      obtain ⟨a6, cc6, rfl, _, _, _⟩ := own_shape hown6
      have HX6 := Lib.hid hx6
      clear hown6 hgrow6 hiff6 hloc6 hx6
      go_wp2
      go_roundw
      case rel => exact ⟨j + 1, by omega, by go_num, ⟨_, _, _, rfl, by rw [HS.out, List.length_append, HO.out.1], by rw [HS.out]; exact O7.out⟩, HX6.out⟩
      case measure => simp [intOf]; omega
    · obtain rfl : j = m := by omega
      have hlen := HO.out.1
      have R1 := Lib.hid (RV.own HO.out.2 (by omega))
      go_wp2_with fail
      refine (HUU _ _ _ _ (by omega) R1.out).out.mono ?_
      rintro e w1 ⟨v1, rfl, o1, hx1⟩
      have O1 := Lib.hid o1
      clear o1
      go_wp2
      go_ret
      exact ⟨_, rfl, own_base O1.out hE.size, hE.trans hx1⟩

end Go.Proofs.Ytjeahopiejcopaa
