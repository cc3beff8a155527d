/- The reference's layers (l24Layers). -/
import Derived.Test.YtbddgeoaaklgpaaTrN
namespace Go.Proofs.Ytbddgeoaaklgpaa
open Go.RowKit Go.Lib
set_option linter.unusedVariables false
set_option linter.unusedSimpArgs false

theorem elt_iT : Elt Try.prog 53 3 1 8 := elt_of (z := .int .i64 0) Try.underlying53 (by kernel_rfl) rfl (by decide) (by decide)

set_option maxRecDepth 20000 in
set_option maxHeartbeats 4000000 in
theorem l24Layers_any (q : Nat) {v : Value} {m : Nat} {xs : List Int} (hc : cOk q xs m = true) (w : World) (h : RV w 3 v m xs) :
    Calls Try.prog 66 #[.agg #[.int .i64 q, v]] w fun e w' => ∃ v', e = .returned v' ∧ w'.ownsRow w.heap.size 3 1 v' m (IL (lyL xs m)) ∧ Ext w w' := by
  have HC := fun k a b k' a' b' w' => Lib.hid (l24Common_any k a b k' a' b' w')
  have HM := fun x y w' => Lib.hid (l1Most_any x y w')
  have HCM : Hid (∀ i j, i < m → j < m → cmQ (qL (at3 xs (i * 3)) (at3 xs (i * 3 + 1)) (at3 xs (i * 3 + 2))) (qL (at3 xs (j * 3)) (at3 xs (j * 3 + 1)) (at3 xs (j * 3 + 2))) = cmG (gN xs i) (gN xs j)) := Lib.hid (fun i j hi hj => cmQ_gN hc hi hj)
  have HLY : Hid (∀ i, i < m → (lyA xs i : Int) = if at3 xs (i * 3) = 12 then (mxA xs i i : Int) else (mxA xs i i : Int) + 1) := Lib.hid (fun i hi => by
    have f := gOk_facts (cOk_gate hc hi) (cOk_q1 hc).1
    rw [lyA_mx]
    have e : (gN xs i).1 = (at3 xs (i * 3)).toNat := rfl
    by_cases h12 : at3 xs (i * 3) = 12
    · rw [if_pos (by rw [e, h12]; rfl), if_pos h12, mxA_eq]; unfold mqq; rw [if_pos (by rw [e, h12]; rfl)]
    · rw [if_neg (by rw [e]; omega), if_neg h12]; push_cast; rfl)
  have hm := (cOk_q1 hc).2.2
  obtain ⟨hl, a, cap, rfl, c1, c2, H⟩ := h
  have HH := Lib.hid H
  have HL := Lib.hid hl
  clear H hl hc
  obtain ⟨W0, hW0⟩ : ∃ W0, W0 = w.alloc (.cells #[.int .i64 q, .slice a m cap] 25 (0, 0)) := ⟨_, rfl⟩
  have HB0 : Hid (W0.heap[w.heap.size]? = some (.cells #[.int .i64 q, .slice a m cap] 25 (0, 0))) := by rw [hW0]; exact heap_alloc_new _ _
  have HE0 : Hid (Ext w W0) := by rw [hW0]; exact (Ext.refl w).alloc _
  have hs0 : w.heap.size < W0.heap.size := by rw [hW0]; simp
  have z0 := fun k => cell_of_row _ _ k _ _ _ HB0.out
  go_enter Try.func66, Try.ntmps66
  go_upto_region 1 with fail
  rw [← hW0]
  clear hW0
  go_wp2
  go_loopw [3, 12] (fun s3 i wr => ∃ j : Nat, j ≤ m ∧ i = .int .i64 j ∧ Hid (wr.ownsRow W0.heap.size 3 1 s3 j (IL (lyL xs j))) ∧ Hid (Ext W0 wr)) (fun _ i _ => m - (intOf i).toNat)
  case atStart => exact ⟨0, by omega, rfl, own_nil _ _ _ _, Ext.refl _⟩
  case round =>
    clear z0
    rename World => wA
    obtain ⟨i, hi, rfl, HO, HX⟩ := hrel
    have hbx := (HX.out.heap hs0).trans HB0.out
    have z0 := fun k => cell_of_row _ _ k _ _ _ hbx
    have l0 := (Array.getElem?_eq_some_iff.1 hbx).1
    clear hbx
    obtain ⟨ao, co, rfl, _, _, _⟩ := own_shape HO.out
    by_cases hlt : i < m
    · have hlt' : (i : Int) < m := by omega
      have HE : Hid (Ext w wA) := HE0.out.trans HX.out
      have R1 := RV.own HO.out (by rw [lyL_len]; omega : (lyL xs i).length = i * 1)
      obtain ⟨hrl, _, _, ee, c3, c4, HHo⟩ := R1
      cases ee
      have HR := Lib.hid HHo
      have HRL := Lib.hid hrl
      have HLi := Lib.hid (HLY.out i hlt)
      have HCi := Lib.hid (fun j (hj : j < m) => HCM.out i j hlt hj)
      have hmb := mxA_bd xs i i
      have HSL : Hid (lyL xs (i + 1) = lyL xs i ++ [(lyA xs i : Int)]) := rfl
      clear hrl HHo
      obtain ⟨b, off, rfl, hbk, hcell⟩ := HH.out (by omega)
      have HCELL := Lib.hid hcell
      clear hcell
      have hbr : b < wA.heap.size := by have := HE.out.size; omega
      have z0 : wA.cell? ⟨b, off + i * 3, none⟩ = some (.int .i64 (at3 xs (i * 3))) := (HE.out.cells.1 b (off + (i * 3)) hbk).trans (HCELL.out _ _ (at3_get (by have := HL.out; omega)))
      have z1 : wA.cell? ⟨b, off + i * 3 + 1, none⟩ = some (.int .i64 (at3 xs (i * 3 + 1))) := (HE.out.cells.1 b (off + (i * 3 + 1)) hbk).trans (HCELL.out _ _ (at3_get (by have := HL.out; omega)))
      have z2 : wA.cell? ⟨b, off + i * 3 + 2, none⟩ = some (.int .i64 (at3 xs (i * 3 + 2))) := (HE.out.cells.1 b (off + (i * 3 + 2)) hbk).trans (HCELL.out _ _ (at3_get (by have := HL.out; omega)))
      generalize at3 xs (i * 3) = k0 at *
      generalize at3 xs (i * 3 + 1) = a0 at *
      generalize at3 xs (i * 3 + 2) = b0 at *
      obtain ⟨w1, hw1⟩ : ∃ w1, w1 = wA.alloc (.cells #[.int .i64 k0, .int .i64 a0, .int .i64 b0] 47) := ⟨_, rfl⟩
      have HB1 : Hid (w1.heap[wA.heap.size]? = some (.cells #[.int .i64 k0, .int .i64 a0, .int .i64 b0] 47 (0, 0))) := by rw [hw1]; exact heap_alloc_new _ _
      have HX1 : Hid (Ext wA w1) := by rw [hw1]; exact (Ext.refl wA).alloc _
      go_upto_region 7 with fail
      rw [← hw1]
      clear hw1 z0 z1 z2 l0
      go_loopw [6, 7, 22] (fun s6 _ j wq => ∃ j' : Nat, j' ≤ i ∧ j = .int .i64 j' ∧ s6 = .int .i64 (mxA xs i j') ∧ Hid (Ext w1 wq)) (fun _ _ j _ => i - (intOf j).toNat)
      case atStart => exact ⟨0, by omega, rfl, rfl, Ext.refl _⟩
      case round =>
        obtain ⟨j, hj, rfl, rfl, HQ⟩ := hrel
        have hjb := mxA_bd xs i j
        have HEq : Hid (Ext wA wr) := HX1.out.trans HQ.out
        have hby := (HQ.out.heap (Array.getElem?_eq_some_iff.1 HB1.out).1).trans HB1.out
        have z5 := fun k => cell_of_row _ _ k _ _ _ hby
        have l5 := (Array.getElem?_eq_some_iff.1 hby).1
        by_cases hlj : j < i
        · have hlj' : (j : Int) < i := by omega
          have HEw : Hid (Ext w wr) := HE.out.trans HEq.out
          have hcm := HCi.out j (by omega)
          have HST : Hid (mxA xs i (j + 1) = if cmG (gN xs i) (gN xs j) then max (mxA xs i j) (lyA xs j) else mxA xs i j) := rfl
          have hlb := lyA_bd xs j
          have hbrv : b < wr.heap.size := by have := HEw.out.size; omega
          have zv0 : wr.cell? ⟨b, off + j * 3, none⟩ = some (.int .i64 (at3 xs (j * 3))) := (HEw.out.cells.1 b (off + (j * 3)) hbk).trans (HCELL.out _ _ (at3_get (by have := HL.out; omega)))
          have zv1 : wr.cell? ⟨b, off + j * 3 + 1, none⟩ = some (.int .i64 (at3 xs (j * 3 + 1))) := (HEw.out.cells.1 b (off + (j * 3 + 1)) hbk).trans (HCELL.out _ _ (at3_get (by have := HL.out; omega)))
          have zv2 : wr.cell? ⟨b, off + j * 3 + 2, none⟩ = some (.int .i64 (at3 xs (j * 3 + 2))) := (HEw.out.cells.1 b (off + (j * 3 + 2)) hbk).trans (HCELL.out _ _ (at3_get (by have := HL.out; omega)))
          obtain ⟨bu, offu, rfl, hbku, hcellu⟩ := HR.out (by omega)
          have hbru : bu < wr.heap.size := by have := HEq.out.size; omega
          have zu0 : wr.cell? ⟨bu, offu + j, none⟩ = some (.int .i64 (at3 (lyL xs i) (j))) := (HEq.out.cells.1 bu (offu + (j)) hbku).trans (hcellu _ _ (at3_get (by have := HRL.out; omega)))
          clear hcellu
          rw [lyL_at hlj] at zu0
          generalize at3 xs (j * 3) = k1 at *
          generalize at3 xs (j * 3 + 1) = a1 at *
          generalize at3 xs (j * 3 + 2) = b1 at *
          have HCj := fun w' => HC k0 a0 b0 k1 a1 b1 w'
          rw [hcm] at HCj
          clear hcm
          generalize cmG (gN xs i) (gN xs j) = g at *
          generalize lyA xs j = y at *
          generalize mxA xs i j = x at *
          go_wp2_with fail
          refine (HCj _).out.mono ?_
          rintro e w3 ⟨rfl, hx3⟩
          have zu3 := (hx3.cells.1 bu (offu + j) (by simp; omega)).trans ((((Ext.refl wr).alloc _).cells.1 bu (offu + j) (by omega)).trans zu0)
          have HX3 : Hid (Ext w1 w3) := (HQ.out.alloc _).trans hx3
          have hs3 : bu < w3.heap.size := by have := hx3.size; simp at this; omega
          cases g
          · go_wp2
            go_roundw
            case rel => exact ⟨j + 1, by omega, by go_num, by rw [HST.out]; rfl, HX3.out⟩
            case measure => simp [intOf]; omega
          · go_wp2_with fail
            refine (HM _ _ _).out.mono ?_
            rintro e w4 ⟨rfl, rfl⟩
            go_wp2
            go_roundw
            case rel => exact ⟨j + 1, by omega, by go_num, by rw [HST.out]; simp; omega, HX3.out⟩
            case measure => simp [intOf]; omega
        · obtain rfl : j = i := by omega
          have HOq := Lib.hid (own_ext HO.out HEq.out)
          have HWX := Lib.hid (HX.out.trans HEq.out)
          have hlyb := lyA_bd xs j
          generalize mxA xs j j = x at *
          generalize lyA xs j = y at *
          clear HCi HR HRL hmb hjb
          by_cases h12 : k0 = 12
          · subst h12
            have hy : (y : Int) = x := by rw [HLi.out]; simp
            obtain rfl : y = x := by omega
            clear HLi hy
            go_wp2_with (at_builtin; refine wpList_append_rvt (base := W0.heap.size) rfl elt_iT rfl (.slice ao j co) j (lyL xs j) rfl (own_ext HOq.out ((Ext.refl _).alloc _)) (.slice (some ⟨wr.heap.size, 0, none⟩) 1 1) 1 [(y : Int)] rfl (rv_heap (heap_alloc_new _ _) rfl rfl (by omega) (by decide)) (by omega) (by have := HWX.out.size; simp; omega) ?_; intro v5 w5 hown5 hgrow5 hiff5 hloc5; obtain ⟨a5, c5, rfl, _, _, _⟩ := own_shape hown5; have HO5 := Lib.hid hown5; have HX5 : Hid (Ext W0 w5) := (ext_grownB (HWX.out.alloc _) hgrow5 (own_ext HOq.out ((Ext.refl _).alloc _)) (Nat.le_refl _)); clear hown5 hgrow5 hiff5 hloc5)
            go_roundw
            case rel =>
              refine ⟨j + 1, by omega, by go_num, ?_, HX5.out⟩
              unfold Hid
              rw [HSL.out]
              exact HO5.out
            case measure => simp [intOf]; omega
          · have hk : (k0 == 12) = false := by simpa using h12
            have hy : (y : Int) = (x : Int) + 1 := by rw [HLi.out, if_neg h12]
            obtain rfl : y = x + 1 := by omega
            clear HLi hy h12
            go_wp2_with (at_builtin; refine wpList_append_rvt (base := W0.heap.size) rfl elt_iT rfl (.slice ao j co) j (lyL xs j) rfl (own_ext HOq.out ((Ext.refl _).alloc _)) (.slice (some ⟨wr.heap.size, 0, none⟩) 1 1) 1 [(x : Int) + 1] rfl (rv_heap (heap_alloc_new _ _) rfl rfl (by omega) (by decide)) (by omega) (by have := HWX.out.size; simp; omega) ?_; intro v5 w5 hown5 hgrow5 hiff5 hloc5; obtain ⟨a5, c5, rfl, _, _, _⟩ := own_shape hown5; have HO5 := Lib.hid hown5; have HX5 : Hid (Ext W0 w5) := (ext_grownB (HWX.out.alloc _) hgrow5 (own_ext HOq.out ((Ext.refl _).alloc _)) (Nat.le_refl _)); clear hown5 hgrow5 hiff5 hloc5)
            go_roundw
            case rel =>
              refine ⟨j + 1, by omega, by go_num, ?_, HX5.out⟩
              unfold Hid
              rw [HSL.out]
              exact HO5.out
            case measure => simp [intOf]; omega
    · obtain rfl : i = m := by omega
      go_wp2
      go_ret
      exact ⟨_, rfl, own_base HO.out (by omega), HE0.out.trans HX.out⟩

end Go.Proofs.Ytbddgeoaaklgpaa
