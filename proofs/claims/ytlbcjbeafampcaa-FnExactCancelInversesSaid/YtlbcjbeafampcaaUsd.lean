/- Used qubits: the reference. -/
import Derived.Test.YtlbcjbeafampcaaPut
import Derived.Test.YtlbcjbeafampcaaRepl
namespace Go.Proofs.Ytlbcjbeafampcaa
open Go.RowKit Go.Lib
set_option linter.unusedVariables false
set_option linter.unusedSimpArgs false

/-- the qubits of one more gate -/
def useS (L : List Int) (k a b : Int) : List Int := if k = 12 then L else if Wn k 9 11 then putI (putI L a) b else putI L a
/-- after j gates -/
def useJ (xs : List Int) : Nat → List Int
  | 0 => []
  | j + 1 => useS (useJ xs j) (at3 xs (j * 3)) (at3 xs (j * 3 + 1)) (at3 xs (j * 3 + 2))
theorem putI_len : ∀ (L : List Int) (x : Int), (putI L x).length ≤ L.length + 1
  | [], _ => Nat.le_refl _
  | y :: l, x => by
    have := putI_len l x
    unfold putI
    split
    · simp only [List.length_cons]; omega
    · split
      · simp
      · simp
theorem useJ_len (xs : List Int) : ∀ j, (useJ xs j).length ≤ 2 * j
  | 0 => Nat.le_refl _
  | j + 1 => by
    have h := useJ_len xs j
    have e : useJ xs (j + 1) = useS (useJ xs j) (at3 xs (j * 3)) (at3 xs (j * 3 + 1)) (at3 xs (j * 3 + 2)) := rfl
    rw [e]
    unfold useS
    split
    · omega
    · have h1 := putI_len (useJ xs j) (at3 xs (j * 3 + 1))
      split
      · have h2 := putI_len (putI (useJ xs j) (at3 xs (j * 3 + 1))) (at3 xs (j * 3 + 2))
        omega
      · omega

set_option maxRecDepth 20000 in
set_option maxHeartbeats 2000000 in
theorem l30Used_any {v : Value} {m : Nat} {xs : List Int} (hm : m ≤ 400) (w : World) (h : RV w 3 v m xs) :
    Calls Try.prog 87 #[v] w fun e w' => ∃ v', e = .returned v' ∧ w'.ownsRow w.heap.size 3 1 v' (useJ xs m).length (IL (useJ xs m)) ∧ Ext w w' := by
  have HPUT := fun (v : Value) (n : Nat) (L : List Int) (hn : L.length = n) (hn2 : n ≤ 2000000) (x : Int) (w' : World) (hbs : w.heap.size ≤ w'.heap.size) (ho : w'.ownsRow w.heap.size 3 1 v n (IL L)) => Lib.hid (l1Put_any hn hn2 x w' hbs ho)
  obtain ⟨hl, a, cap, rfl, c1, c2, H⟩ := h
  have HH := Lib.hid H
  have HL := Lib.hid hl
  clear H hl
  go_enter Try.func87, Try.ntmps87
  go_wp2
  go_loopw [3, 8] (fun ov i wr => ∃ j : Nat, j ≤ m ∧ i = .int .i64 j ∧ (∃ (ao : Option Addr) (no co : Nat), ov = .slice ao no co ∧ Hid ((useJ xs j).length = no ∧ wr.ownsRow w.heap.size 3 1 (.slice ao no co) no (IL (useJ xs j)))) ∧ Ext w wr) (fun _ i _ => m - (intOf i).toNat)
  case atStart => exact ⟨0, by omega, rfl, ⟨none, 0, 0, rfl, rfl, own_nil _ _ _ _⟩, (by repeat (first | exact Ext.refl _ | assumption | refine Ext.alloc ?_ _ | refine Ext.drew ?_ | refine Ext.drewN ?_ _ | refine Ext.setCell ?_ (by first | omega | (dsimp only; omega) | (simp; done) | (simp; omega)) _ | refine Ext.trans ?_ (by assumption)))⟩
  case round =>
    obtain ⟨j, hj, rfl, ⟨ao, no, co, rfl, HO⟩, hE⟩ := hrel
    have hno : no ≤ 2 * j := by rw [← HO.out.1]; exact useJ_len xs j
    by_cases hlt : j < m
    · have hlt' : (j : Int) < m := by omega
      have HS : Hid (useJ xs (j + 1) = useS (useJ xs j) (at3 xs (j * 3)) (at3 xs (j * 3 + 1)) (at3 xs (j * 3 + 2))) := rfl
      obtain ⟨b, off, rfl, hbk, hcell⟩ := HH.out (by omega)
      have hbr : b < wr.heap.size := by have := hE.size; omega
      have z0 : wr.cell? ⟨b, off + j * 3, none⟩ = some (.int .i64 (at3 xs (j * 3))) := (hE.cells.1 b (off + (j * 3)) hbk).trans (hcell _ _ (at3_get (by have := HL.out; omega)))
      have z1 : wr.cell? ⟨b, off + j * 3 + 1, none⟩ = some (.int .i64 (at3 xs (j * 3 + 1))) := (hE.cells.1 b (off + (j * 3 + 1)) hbk).trans (hcell _ _ (at3_get (by have := HL.out; omega)))
      have z2 : wr.cell? ⟨b, off + j * 3 + 2, none⟩ = some (.int .i64 (at3 xs (j * 3 + 2))) := (hE.cells.1 b (off + (j * 3 + 2)) hbk).trans (hcell _ _ (at3_get (by have := HL.out; omega)))
      clear hcell
      generalize at3 xs (j * 3) = k0 at *
      generalize at3 xs (j * 3 + 1) = a0 at *
      generalize at3 xs (j * 3 + 2) = b0 at *
      have hsz := hE.size
      have HE := Lib.hid hE
      by_cases hk : k0 = 12
      · have HS2 : Hid (useJ xs (j + 1) = useJ xs j) := by rw [Hid, HS.out]; unfold useS; rw [if_pos hk]
        go_wp2
        go_roundw
        case rel => exact ⟨j + 1, by omega, by go_num, ⟨_, _, _, rfl, by rw [HS2.out]; exact HO.out.1, by rw [HS2.out]; exact own_ext HO.out.2 ((Ext.refl _).alloc _)⟩, HE.out.alloc _⟩
        case measure => simp [intOf]; omega
      have HS3 : Hid (useJ xs (j + 1) = if Wn k0 9 11 then putI (putI (useJ xs j) a0) b0 else putI (useJ xs j) a0) := by rw [Hid, HS.out]; unfold useS; rw [if_neg hk]
      generalize useJ xs j = L at *
      have HP1 := putI_len L a0
      have HLn := HO.out.1
      go_wp2_with fail
      refine (HPUT _ no L HO.out.1 (by omega) a0 _ (by simp; omega) (own_ext HO.out.2 ((Ext.refl _).alloc _))).out.mono ?_
      rintro e w1 ⟨v1, rfl, o1, hx1⟩
      have O1 := Lib.hid o1
      obtain ⟨a1, cc1, rfl, _, _, _⟩ := own_shape o1
      clear o1
      have HE1 : Hid (Ext w w1) := (HE.out.alloc _).trans hx1
      have hsz1 := HE1.out.size
      obtain ⟨hc1, hf1⟩ := hx1.cells
      have hz1 := hx1.size
      try simp at hz1
      have hs1_0 := sz1 (a := wr.heap.size) (b := w1.heap.size) (by omega)
      go_wp2_with fail
      refine (l1In_any _ _ _ _).mono ?_
      rintro e w' ⟨rfl, rfl⟩
      cases hw : Wn k0 9 11
      · have HS4 : Hid (useJ xs (j + 1) = putI L a0) := by rw [Hid, HS3.out, hw]; rfl
        go_wp2
        go_roundw
        case rel => exact ⟨j + 1, by omega, by go_num, ⟨_, _, _, rfl, by rw [HS4.out], by rw [HS4.out]; exact O1.out⟩, HE1.out⟩
        case measure => simp [intOf]; omega
      · have HS4 : Hid (useJ xs (j + 1) = putI (putI L a0) b0) := by rw [Hid, HS3.out, hw]; rfl
        go_wp2_with fail
        refine (HPUT _ _ (putI L a0) rfl (by omega) b0 _ (by omega) O1.out).out.mono ?_
        rintro e w3 ⟨v3, rfl, o3, hx3⟩
        have O3 := Lib.hid o3
        obtain ⟨a3, cc3, rfl, _, _, _⟩ := own_shape o3
        clear o3
        have HE3 : Hid (Ext w w3) := HE1.out.trans hx3
        clear hx3
        go_wp2
        go_roundw
        case rel => exact ⟨j + 1, by omega, by go_num, ⟨_, _, _, rfl, by rw [HS4.out], by rw [HS4.out]; exact O3.out⟩, HE3.out⟩
        case measure => simp [intOf]; omega
    · obtain rfl : j = m := by omega
      go_wp2
      go_ret
      have e := HO.out.1
      rw [e]
      exact ⟨_, rfl, HO.out.2, hE⟩

end Go.Proofs.Ytlbcjbeafampcaa
