/- Rotations that are folded: the program goes through a circuit. -/
import Derived.Test.YtbddgeoaaklgpaaRoP
import Derived.Test.YtbddgeoaaklgpaaGate
namespace Go.Proofs.Ytbddgeoaaklgpaa
open Go.RowKit Go.Lib
set_option linter.unusedVariables false
set_option linter.unusedSimpArgs false

/-- the circuit is valid and has variables enough -/
def mgK (q : Int) (xs : List Int) (n : Nat) : Bool := cOk q xs n && fsK q.toNat xs n
def iniP (i : Nat) : List (Nat × Bool) := (List.range i).map (fun i => (2 ^ i, false))
theorem iniP_succ (i : Nat) : iniP (i + 1) = iniP i ++ [(2 ^ i, false)] := by simp [iniP, List.range_succ]

theorem cOk_qn {q : Int} {xs : List Int} {n : Nat} (h : cOk q xs n = true) : 1 ≤ q ∧ q ≤ 5 ∧ n ≤ 400 := by
  unfold cOk at h
  simp only [Bool.and_eq_true, decide_eq_true_eq] at h
  have := Wn_iff.1 h.1
  exact ⟨this.1, this.2, h.2.1⟩

theorem MSX.ext {w w' : World} {M lo hi Q : Nat} {vv : Value} {σ : Fs} (h : MSX w M lo hi Q vv σ) (hx : Ext w w') : MSX w' M lo hi Q vv σ := by
  obtain ⟨gv, h⟩ := h
  exact ⟨gv, h.ext hx⟩

set_option maxRecDepth 20000 in
set_option maxHeartbeats 8000000 in
theorem merged_any (q : Int) {v : Value} {n : Nat} {xs : List Int} (hn : n ≤ 2000000) (w : World) (h : RV w 3 v n xs) :
    Calls Try.prog 21 #[.agg #[.int .i64 q, v]] w fun e w' => ∃ (M lo hi : Nat) (vv : Value), e = .returned (.tuple #[.pointer (some ⟨M, 0, none⟩), .bool (mgK q xs n)]) ∧ (mgK q xs n = true → MSX w' M lo hi q.toNat vv (fsS q.toNat xs n)) ∧ w.heap.size ≤ M ∧ Ext w w' := by
  have HMO : Hid (mgK q xs n = (cOk q xs n && fsK q.toNat xs n)) := rfl
  have HVC := fun w' (hx : Ext w w') => Lib.hid (isValidCircuit_any q hn w' (h.ext hx))
  have HV0 := Lib.hid h
  obtain ⟨hl, a1, cap, rfl, p1, p2, hh⟩ := h
  have HH := Lib.hid hh
  have HL := Lib.hid hl
  clear hh hl
  obtain ⟨wb, hwb⟩ : ∃ x, x = w.alloc (.cells #[.int .i64 q, .slice a1 n cap] 25 (0, 0)) := ⟨_, rfl⟩
  have HXB : Hid (Ext w wb) := by rw [hwb]; exact (Ext.refl _).alloc _
  have HB1 : Hid (wb.heap[w.heap.size]? = some (.cells #[.int .i64 q, .slice a1 n cap] 25 (0, 0))) := by rw [hwb]; exact heap_alloc_new _ _
  have hsb : wb.heap.size = w.heap.size + 1 := by rw [hwb]; simp
  obtain ⟨w1, hw1⟩ : ∃ x, x = wb.alloc (.cells #[.slice none 0 0, .int .i64 0, .slice none 0 0, .int .i64 0] 58 (0, 0)) := ⟨_, rfl⟩
  have HX1 : Hid (Ext wb w1) := by rw [hw1]; exact (Ext.refl _).alloc _
  have HM1 : Hid (w1.heap[wb.heap.size]? = some (.cells #[.slice none 0 0, .int .i64 0, .slice none 0 0, .int .i64 0] 58 (0, 0))) := by rw [hw1]; exact heap_alloc_new _ _
  have hs1 : w1.heap.size = w.heap.size + 2 := by rw [hw1]; simp [hsb]
  have HVI := HVC w1 (HXB.out.trans HX1.out)
  have zB1 := fun k => cell_of_row _ _ k _ _ _ (row_farM HB1.out HX1.out)
  have lB1 : w.heap.size < w1.heap.size := by omega
  clear HVC
  go_enter Try.func21, Try.ntmps21
  go_upto_region 1 with fail
  rw [← hwb]
  clear hwb
  go_upto_region 2 with fail
  rw [← hw1]
  clear hw1
  go_wp2_with fail
  refine HVI.out.mono ?_
  rintro e w2 ⟨rfl, hx2⟩
  have HX2 := Lib.hid hx2
  clear hx2 zB1 lB1
  cases hc : cOk q xs n
  · have hmo : mgK q xs n = false := by rw [HMO.out, hc]; rfl
    go_wp2
    go_ret2
    exact ⟨w.heap.size + 1, 0, 0, .slice none 0 0, by rw [hmo]; rfl, (fun h => by rw [hmo] at h; cases h), by omega, HXB.out.trans (HX1.out.trans HX2.out)⟩
  have hqn := cOk_qn hc
  obtain ⟨Q, rfl⟩ : ∃ Q : Nat, q = Q := ⟨q.toNat, by omega⟩
  have hQ : 1 ≤ Q ∧ Q ≤ 5 := by omega
  have hn4 : n ≤ 400 := hqn.2.2
  have hmo : Hid (mgK Q xs n = fsK Q xs n) := by unfold mgK; rw [hc]; exact Lib.hid rfl
  have HINV := Lib.hid (fun j hj hk => fs_inv hc j hj hk)
  have HG := Lib.hid (fun j (hj : j < n) => (allTo_at (f := fun j => gOk Q (at3 xs (j * 3)) (at3 xs (j * 3 + 1)) (at3 xs (j * 3 + 2))) (by have h := hc; unfold cOk at h; simp only [Bool.and_eq_true] at h; exact h.2.2) hj : gOk Q (at3 xs (j * 3)) (at3 xs (j * 3 + 1)) (at3 xs (j * 3 + 2)) = true))
  have HXb2 := Lib.hid (HX1.out.trans HX2.out)
  have hM2 := row_farM HM1.out HX2.out
  rw [hsb] at hM2
  have hs2 := HX2.out.size
  have HM2 := Lib.hid hM2
  have htn : ((Q : Int)).toNat = Q := by omega
  rw [htn] at HMO
  clear hM2 HVI hc hqn HM1 HX1
  have hb2 := row_farM HB1.out HXb2.out
  have zb2 := fun k => cell_of_row _ _ k _ _ _ hb2
  have lb2 := (Array.getElem?_eq_some_iff.1 hb2).1
  go_wp2_with fail
  clear zb2 lb2 hb2
  go_loopw [5, 16] (fun u5 u16 wr => ∃ (i : Nat) (va : Value), i ≤ Q ∧ u16 = .int .i64 i ∧ Hid (wr.heap[w.heap.size + 1]? = some (.cells #[va, .int .i64 0, .slice none 0 0, .int .i64 0] 58 (0, 0))) ∧ Hid (wr.ownsRow (w.heap.size + 2) 52 2 va i (VU (iniP i))) ∧ Ext wb wr) (fun _ u16 _ => Q - (intOf u16).toNat)
  case atStart => exact ⟨0, .slice none 0 0, by omega, rfl, HM2, Lib.hid (own_nil _ _ _ _), HXb2.out⟩
  case round =>
    obtain ⟨i, va, hi, rfl, HM, HV, hE⟩ := hrel
    have HE := Lib.hid hE
    have hsr := hE.size
    have lM := (Array.getElem?_eq_some_iff.1 HM.out).1
    clear hE
    by_cases hlt : i < Q
    · have hlt' : (i : Int) < Q := by omega
      have hi4 : i ≤ 4 := by omega
      obtain ⟨av, cv, rfl, _, _, _⟩ := own_shape HV.out
      have zM := fun k => cell_of_row _ _ k _ _ _ HM.out
      obtain ⟨p, hp⟩ : ∃ p : Nat, p = 2 ^ i := ⟨_, rfl⟩
      have hp2 : (2 : Int) ^ i = (p : Int) := by rw [hp]; simp
      have hp3 : p ≤ 16 := by rw [hp]; exact Nat.le_trans (Nat.pow_le_pow_right (by decide) hi4) (by decide)
      have hwp : IntKind.u64.wrap (p : Int) = p := IntWalk.u64_in _ (by omega)
      have HIS : Hid (VU (iniP (i + 1)) = VU (iniP i) ++ [.int .u64 (p : Int), .bool false]) := by rw [iniP_succ, VU_snoc, hp]; exact Lib.hid rfl
      have HLT := Lib.hid (fun k (hk : (Value.slice av i cv).ownBlock = some k) => HV.out.lt k hk)
      clear hp
      go_upto_region 7 with fail
      go_region_law
          (refine step_append_val (base := w.heap.size + 2) rfl elt_PV rfl (.slice av i cv) i (VU (iniP i)) rfl ?_ (.slice (some ⟨wr.heap.size, 0, none⟩) 1 1) 1 [.int .u64 p, .bool false] rfl ?_ ?_ ?_ ?_
           · exact own_ext HV.out (((Ext.refl wr).drew).alloc _)
           · exact RVV.ofHeap (heap_alloc_new _ _) rfl rfl (by intro u hu; simp at hu; rcases hu with rfl | rfl <;> rfl)
           · omega
           · exact Nat.le_trans (by omega) (((Ext.refl wr).drew).alloc _).size
           intro v5 w5 hown5 hgrow5 hiff5 hloc5
           have hM5 : w5.heap[w.heap.size + 1]? = some (.cells #[.slice av i cv, .int .i64 0, .slice none 0 0, .int .i64 0] 58 (0, 0)) := heap_grown hgrow5 (k := w.heap.size + 1) (row_farM HM.out (((Ext.refl wr).drew).alloc _)) (fun e => by have h9 := (HLT.out _ e.symm).1; omega)
           have hE5 : Ext wb w5 := Ext.grown (HE.out.trans (((Ext.refl wr).drew).alloc _)) hgrow5 (fun k hk => by have h9 := (HLT.out _ hk).1; omega)
           have HO5 : Hid (w5.ownsRow (w.heap.size + 2) 52 2 v5 (i + 1) (VU (iniP (i + 1)))) := by rw [HIS.out]; exact Lib.hid hown5
           have HM5 : Hid (w5.heap[w.heap.size + 1]? = some (.cells #[.slice av i cv, .int .i64 0, .slice none 0 0, .int .i64 0] 58 (0, 0))) := hM5
           have HE5 : Hid (Ext wb w5) := hE5
           have zM5 : ∀ k, w5.cell? ⟨w.heap.size + 1, k, none⟩ = (#[.slice av i cv, .int .i64 0, .slice none 0 0, .int .i64 0] : Array Value)[k]? := fun k => cell_of_row _ _ k _ _ _ hM5
           have fM5 : ∀ k, w5.frozen? ⟨w.heap.size + 1, k, none⟩ = false := fun k => frozen_of_row _ _ k _ _ hM5
           have lM5 : w.heap.size + 1 < w5.heap.size := (Array.getElem?_eq_some_iff.1 hM5).1
           obtain ⟨a5, c5, rfl, _, _, _⟩ := own_shape hown5
           clear hown5 hgrow5 hiff5 hloc5 hE5 hM5)
      all_goals
        have HO6 := Lib.hid (own_set HO5.out (p := ⟨w.heap.size + 1, 0, none⟩) (by show w.heap.size + 1 < w.heap.size + 2; omega) (.slice a5 (i + 1) c5))
        have HM6 := Lib.hid (heap_set_at HM5.out 0 (.slice a5 (i + 1) c5))
        have HE6 := Lib.hid (HE5.out.setCell (p := ⟨w.heap.size + 1, 0, none⟩) (by show wb.heap.size ≤ w.heap.size + 1; omega) (.slice a5 (i + 1) c5))
        clear HO5 HM5 HE5 zM5 fM5 lM5
        go_wp2
        go_roundw
        case rel => exact ⟨i + 1, _, by omega, by go_num, HM6, HO6, HE6.out⟩
        case measure => simp [intOf]; omega
    · obtain rfl : i = Q := by omega
      have hiQ : 1 ≤ i := hQ.1
      obtain ⟨av, cv, rfl, _, _, hv3⟩ := own_shape HV.out
      obtain ⟨Bv, rfl, hv1, hv2, _, _⟩ := hv3 (by omega)
      have zM := fun k => cell_of_row _ _ k _ _ _ HM.out
      have fM := fun k => frozen_of_row _ _ k _ _ HM.out
      have hbr := row_farM HB1.out HE.out
      have zb := fun k => cell_of_row _ _ k _ _ _ hbr
      have lb := (Array.getElem?_eq_some_iff.1 hbr).1
      obtain ⟨w9, hw9⟩ : ∃ x, x = wr.setCell ⟨w.heap.size + 1, 1, none⟩ (.int .i64 i) := ⟨_, rfl⟩
      have HMS : Hid (MSX w9 (w.heap.size + 1) (w.heap.size + 2) wr.heap.size i (.slice (some ⟨Bv, 0, none⟩) i cv) (fsS i xs 0)) := by
        rw [hw9]
        refine Lib.hid ⟨.slice none 0 0, heap_set_at HM.out 1 _, own_set HV.out (by show w.heap.size + 1 < w.heap.size + 2; omega) _, fun k hk => by cases hk; exact hv2, GRS.nil _ _, by omega, by omega, by rw [setCell_sz]; omega⟩
      have HE9 : Hid (Ext wb w9) := by rw [hw9]; exact Lib.hid (HE.out.setCell (by show wb.heap.size ≤ w.heap.size + 1; omega) _)
      obtain ⟨hi9, hhi⟩ : ∃ x, x = wr.heap.size := ⟨_, rfl⟩
      rw [← hhi] at HMS
      have hb9 := row_farM HB1.out HE9.out
      have zb9 := fun k => cell_of_row _ _ k _ _ _ hb9
      have lb9 := (Array.getElem?_eq_some_iff.1 hb9).1
      clear hhi hv3
      go_upto_region 10 with fail
      rw [← hw9]
      clear zM fM hbr zb lb hw9
      go_wp2_with fail
      go_loopw [6, 7, 40] (fun u6 u7 u40 wx => ∃ (j : Nat), j ≤ n ∧ fsK i xs j = true ∧ u40 = .int .i64 j ∧ Hid (MSX wx (w.heap.size + 1) (w.heap.size + 2) hi9 i (.slice (some ⟨Bv, 0, none⟩) i cv) (fsS i xs j)) ∧ Ext wb wx) (fun _ _ u40 _ => n - (intOf u40).toNat)
      case atStart => exact ⟨0, by omega, rfl, rfl, HMS, HE9.out⟩
      case round =>
        obtain ⟨j, hj, hk, rfl, HX, hE⟩ := hrel
        have HE := Lib.hid hE
        by_cases hlt : j < n
        · have hlt' : (j : Int) < n := by omega
          have hE1 := HXB.out.trans hE
          have HI := Lib.hid (HINV.out j (by omega) hk)
          have HGJ := Lib.hid (HG.out j hlt)
          obtain ⟨b, off, rfl, hbk, hcell⟩ := HH.out (by omega)
          have hbr : b < wr.heap.size := by have := hE1.size; omega
          have z0 : wr.cell? ⟨b, off + j * 3, none⟩ = some (.int .i64 (at3 xs (j * 3))) := (hE1.cells.1 b (off + (j * 3)) hbk).trans (hcell _ _ (at3_get (by have := HL.out; omega)))
          have z1 : wr.cell? ⟨b, off + j * 3 + 1, none⟩ = some (.int .i64 (at3 xs (j * 3 + 1))) := (hE1.cells.1 b (off + (j * 3 + 1)) hbk).trans (hcell _ _ (at3_get (by have := HL.out; omega)))
          have z2 : wr.cell? ⟨b, off + j * 3 + 2, none⟩ = some (.int .i64 (at3 xs (j * 3 + 2))) := (hE1.cells.1 b (off + (j * 3 + 2)) hbk).trans (hcell _ _ (at3_get (by have := HL.out; omega)))
          clear hcell
          have HS : Hid (fsS i xs (j + 1) = stepF (fsS i xs j) j (at3 xs (j * 3)) (at3 xs (j * 3 + 1)) (at3 xs (j * 3 + 2))) := rfl
          have HK : Hid (fsK i xs (j + 1) = (fsK i xs j && stOk (at3 xs (j * 3)) (fsS i xs j).u)) := rfl
          generalize at3 xs (j * 3) = k0 at *
          generalize at3 xs (j * 3 + 1) = a0 at *
          generalize at3 xs (j * 3 + 2) = b0 at *
          generalize fsS i xs j = σ at *
          have hxx := (Ext.refl wr).alloc (.cells #[.int .i64 k0, .int .i64 a0, .int .i64 b0] 47 (0, 0))
          have HST := Lib.hid (step_any (w.heap.size + 1) (w.heap.size + 2) hi9 i j k0 a0 b0 _ (HX.out.ext hxx) HI.out HGJ.out hQ (by omega) wb (by omega) (hE.trans hxx))
          cases hso : stOk k0 σ.u
          · have hnk : fsK i xs n = false := by
              refine Bool.eq_false_iff.2 (fun h => ?_)
              have h1 := fsK_le h (show j + 1 ≤ n by omega)
              rw [HK.out, hso] at h1
              simp at h1
            have hm0 : Hid (mgK i xs n = false) := by rw [hmo.out, hnk]; exact Lib.hid rfl
            rw [hso] at HST
            clear hE hE1 hxx hso hnk
            go_wp2_with fail
            refine HST.out.mono ?_
            rintro e w3 ⟨rfl, -, hx3⟩
            have HX3 := Lib.hid hx3
            clear hx3
            go_wp2
            go_ret2
            exact ⟨w.heap.size + 1, 0, 0, .slice none 0 0, by rw [hm0.out]; rfl, (fun h => by rw [hm0.out] at h; cases h), by omega, HXB.out.trans HX3.out⟩
          · have hk1 : fsK i xs (j + 1) = true := by rw [HK.out, hk, hso]; rfl
            have HK1 := Lib.hid hk1
            rw [hso] at HST
            clear hE hE1 hxx hso hk1
            go_wp2_with fail
            refine HST.out.mono ?_
            rintro e w3 ⟨rfl, hm3, hx3⟩
            have HX3 := Lib.hid hx3
            have HM3 := Lib.hid (hm3 (by first | rfl | trivial))
            clear hx3 hm3
            go_wp2
            go_roundw
            case rel => exact ⟨j + 1, by omega, HK1.out, by go_num, by rw [HS.out]; exact HM3, HX3.out⟩
            case measure => simp [intOf]; omega
        · obtain rfl : j = n := by omega
          have hm1 : Hid (mgK i xs j = true) := by rw [hmo.out, hk]; exact Lib.hid rfl
          go_wp2_with fail
          go_ret2
          exact ⟨w.heap.size + 1, w.heap.size + 2, hi9, .slice (some ⟨Bv, 0, none⟩) i cv, by rw [hm1.out]; rfl, (fun _ => HX.out), by omega, HXB.out.trans HE.out⟩

end Go.Proofs.Ytbddgeoaaklgpaa
