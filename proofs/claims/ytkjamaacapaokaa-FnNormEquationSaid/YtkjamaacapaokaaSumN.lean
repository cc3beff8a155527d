/- The law on IsSumNorm. -/
import Derived.Test.YtkjamaacapaokaaRows
import Derived.Test.YtkjamaacapaokaaSumM
import Derived.Test.YtkjamaacapaokaaRange
namespace Go.Proofs.Ytkjamaacapaokaa
open Go.RowKit

/-- what a loop of divisions says -/
def DRel (P0 Q0 p P Q j : Int) (g : Nat) : Prop :=
  1 ≤ P ∧ P ≤ P0 ∧ (-1000000 ≤ Q ∧ Q ≤ 1000000) ∧ P < 2 ^ g ∧ 0 ≤ j ∧ j + g = 64 ∧ (dv 64 P0 Q0 p).1 = (dv g P Q p).1 ∧ (dv 64 P0 Q0 p).2.1 = (dv g P Q p).2.1 ∧ (dv 64 P0 Q0 p).2.2 = j + (dv g P Q p).2.2
theorem tdiv_bd {Q p : Int} (hQ : -1000000 ≤ Q ∧ Q ≤ 1000000) : -1000000 ≤ Int.tdiv Q p ∧ Int.tdiv Q p ≤ 1000000 := by
  have h := Int.natAbs_tdiv_le_natAbs Q p
  omega
theorem DRel.step {P0 Q0 p P Q j : Int} {g : Nat} (hp : 2 ≤ p) (h : DRel P0 Q0 p P Q j g) (hd : P % p = 0 ∧ Int.tmod Q p = 0) : ∃ g', g = g' + 1 ∧ DRel P0 Q0 p (P / p) (Int.tdiv Q p) (j + 1) g' ∧ P / p < P := by
  obtain ⟨h1, h2, h3, h4, h5, h6, h7, h8, h9⟩ := h
  have hv := div_half h1 hp hd.1
  obtain ⟨g', rfl⟩ : ∃ g', g = g' + 1 := by
    cases g with
    | zero => simp at h4; omega
    | succ g => exact ⟨g, rfl⟩
  rw [Int.pow_succ] at h4
  rw [dv_step hd] at h7 h8 h9
  exact ⟨g', rfl, ⟨hv.1, by omega, tdiv_bd h3, by omega, by omega, by omega, h7, h8, by rw [h9]; simp only []; omega⟩, hv.2.2⟩
theorem DRel.done {P0 Q0 p P Q j : Int} {g : Nat} (h : DRel P0 Q0 p P Q j g) (hd : ¬ (P % p = 0 ∧ Int.tmod Q p = 0)) : (dv 64 P0 Q0 p).1 = P ∧ (dv 64 P0 Q0 p).2.1 = Q ∧ (dv 64 P0 Q0 p).2.2 = j := by
  obtain ⟨h1, h2, h3, h4, h5, h6, h7, h8, h9⟩ := h
  rw [dv_end hd] at h7 h8 h9
  exact ⟨h7, h8, by rw [h9]; simp⟩

theorem mod2_eq {E j e : Int} (h : E - 2 * j = e) : E % 2 = e % 2 := by omega
theorem set2 {W : World} {b : Nat} {t : TypeId} {x y : Value} (u v : Value) (h : W.heap[b]? = some (.cells #[x, y] t (0, 0))) : ((W.setCell ⟨b, 0, none⟩ u).setCell ⟨b, 1, none⟩ v).drew.heap[b]? = some (.cells #[u, v] t (0, 0)) := by
  show ((W.setCell ⟨b, 0, none⟩ u).setCell ⟨b, 1, none⟩ v).heap[b]? = _
  simp [World.setCell, Array.getElem?_modify, h]

set_option maxHeartbeats 2000000 in
theorem areEven_any (P0 Q0 p e : Int) (hP : 1 ≤ P0 ∧ P0 ≤ 1000000) (hQ : -1000000 ≤ Q0 ∧ Q0 ≤ 1000000) (hp : 2 ≤ p ∧ p ≤ 1000000000) (he : 0 ≤ e ∧ e ≤ 64) (w : World) :
    Calls Try.prog 82 #[.agg #[.int .i64 P0, .int .i64 Q0], .int .i64 p, .int .i64 (2 * (dv 64 P0 Q0 p).2.2 + e)] w fun en w' =>
      en = .returned (.bool (((dv 64 P0 Q0 p).2.2 % 2 == 0) && (e % 2 == 0))) ∧ Ext w w' := by
  have hst : DRel P0 Q0 p P0 Q0 0 64 := ⟨hP.1, Int.le_refl _, hQ, by rw [show (2 : Int) ^ 64 = 18446744073709551616 by decide]; omega, by omega, by omega, rfl, rfl, by omega⟩
  have HST := Lib.hid hst
  generalize hE : 2 * (dv 64 P0 Q0 p).2.2 + e = E
  have HE := Lib.hid hE
  clear hst hE
  go_enter Try.func82, Try.ntmps82
  go_wp2
  go_loopw [7] (fun uj wr => ∃ (P Q j : Int) (g : Nat), uj = .int .i64 j ∧ DRel P0 Q0 p P Q j g ∧ Ext w wr ∧ wr.heap[w.heap.size]? = some (.cells #[.int .i64 P, .int .i64 Q] 35 (0, 0))) (fun _ wr => (intOf ((wr.cell? ⟨w.heap.size, 0, none⟩).getD undef)).toNat)
  case atStart => exact ⟨P0, Q0, 0, 64, rfl, HST.out, (by repeat (first | exact Ext.refl _ | assumption | refine Ext.alloc ?_ _ | refine Ext.drew ?_ | refine Ext.drewN ?_ _ | refine Ext.setCell ?_ (by first | omega | (dsimp only; omega) | (simp; done) | (simp; omega)) _ | refine Ext.trans ?_ (by assumption))), heap_alloc_new _ _⟩
  case round =>
    obtain ⟨P, Q, j, g, rfl, hD, hE, hb⟩ := hrel
    have hc : ∀ k, wr.cell? ⟨w.heap.size, k, none⟩ = (#[.int .i64 P, .int .i64 Q] : Array Value)[k]? := fun k => cell_of_row _ _ _ _ _ _ hb
    have hf : ∀ k, wr.frozen? ⟨w.heap.size, k, none⟩ = false := fun k => frozen_of_row _ _ _ _ _ hb
    have HD := Lib.hid hD
    have HB := Lib.hid hb
    obtain ⟨d1, d2, d3, d4, d5, d6, _⟩ := hD
    have d7 : 0 ≤ j ∧ j ≤ 64 := by omega
    clear d4 d6 hb
    have hs := lt_of_cell (hc 0)
    by_cases hd1 : P % p = 0
    · by_cases hd2 : Int.tmod Q p = 0
      · obtain ⟨g', rfl, hD', hlt⟩ := HD.out.step hp.1 ⟨hd1, hd2⟩
        have HD' := Lib.hid hD'
        have hq := tdiv_bd (p := p) d3
        have hv := div_half d1 hp.1 hd1
        have hd1' : (P % p == 0) = true := by simpa using hd1
        have hd2' : (Int.tmod Q p == 0) = true := by simpa using hd2
        clear hD'
        go_wp2
        go_region
        all_goals go_wp2
        go_roundw
        case rel => exact ⟨P / p, Int.tdiv Q p, j + 1, g', rfl, HD'.out, ((hE.setCell (by simp) _).setCell (by simp) _).drew, set2 _ _ HB.out⟩
        case measure =>
          rw [cell_of_row _ _ _ _ _ _ (set2 (.int .i64 (P / p)) (.int .i64 (Int.tdiv Q p)) HB.out), hc 0]
          simp [intOf]
          omega
      · obtain ⟨_, _, e3⟩ := HD.out.done (fun h => hd2 h.2)
        have E3 := Lib.hid e3
        have hd1' : (P % p == 0) = true := by simpa using hd1
        have hd2' : (Int.tmod Q p == 0) = false := by simpa using hd2
        have HE' : Hid (E - 2 * j = e) := by unfold Hid; have := HE.out; rw [e3] at this; omega
        have hb1 : 0 ≤ E - 2 * j ∧ E - 2 * j ≤ 64 := by have := HE'.out; omega
        have hb2 : -9223372036854775808 ≤ E ∧ E ≤ 9223372036854775807 := by omega
        have hb3 : 0 ≤ j ∧ 0 ≤ 2 * j := by omega
        clear e3 hd1 hd2
        by_cases hj : j % 2 = 0
        · have hj' : (j % 2 == 0) = true := by simpa using hj
          clear hj
          go_wp2
          go_ret
          exact ⟨ret_bool (by rw [E3.out, hj', mod2_eq HE'.out]; simp), hE⟩
        · have hj' : (j % 2 == 0) = false := by simpa using hj
          clear hj
          go_wp2
          go_ret
          exact ⟨ret_bool (by rw [E3.out, hj']; simp), hE⟩
    · obtain ⟨_, _, e3⟩ := HD.out.done (fun h => hd1 h.1)
      have E3 := Lib.hid e3
      have hd1' : (P % p == 0) = false := by simpa using hd1
      have HE' : Hid (E - 2 * j = e) := by unfold Hid; have := HE.out; rw [e3] at this; omega
      have hb1 : 0 ≤ E - 2 * j ∧ E - 2 * j ≤ 64 := by have := HE'.out; omega
      have hb2 : -9223372036854775808 ≤ E ∧ E ≤ 9223372036854775807 := by omega
      have hb3 : 0 ≤ j ∧ 0 ≤ 2 * j := by omega
      clear e3 hd1
      by_cases hj : j % 2 = 0
      · have hj' : (j % 2 == 0) = true := by simpa using hj
        clear hj
        go_wp2
        go_ret
        exact ⟨ret_bool (by rw [E3.out, hj', mod2_eq HE'.out]; simp), hE⟩
      · have hj' : (j % 2 == 0) = false := by simpa using hj
        clear hj
        go_wp2
        go_ret
        exact ⟨ret_bool (by rw [E3.out, hj']; simp), hE⟩

set_option maxHeartbeats 2000000 in
theorem l26Even_any (P0 Q0 p : Int) (hP : 1 ≤ P0 ∧ P0 ≤ 1000000) (hQ : -1000000 ≤ Q0 ∧ Q0 ≤ 1000000) (hp : 2 ≤ p ∧ p ≤ 1000000000) (hn : 1 ≤ nm P0 Q0) (hn2 : nm P0 Q0 ≤ 1000000000) (w : World) :
    Calls Try.prog 119 #[.agg #[.int .i64 P0, .int .i64 Q0], .int .i64 p] w fun en w' =>
      en = .returned (.bool (evn P0 Q0 p)) ∧ Ext w w' := by
  have hst : DRel P0 Q0 p P0 Q0 0 64 := ⟨hP.1, Int.le_refl _, hQ, by rw [show (2 : Int) ^ 64 = 18446744073709551616 by decide]; omega, by omega, by omega, rfl, rfl, by omega⟩
  have HST := Lib.hid hst
  have HV : Hid (evn P0 Q0 p = (((dv 64 P0 Q0 p).2.2 % 2 == 0) && ((strip 64 (nm (dv 64 P0 Q0 p).1 (dv 64 P0 Q0 p).2.1) p).2 % 2 == 0))) := rfl
  have HA := Lib.hid (dv_all 64 P0 Q0 p hP.1 hp.1 hn)
  clear hst
  go_enter Try.func119, Try.ntmps119
  go_wp2
  go_loopw [5] (fun uj wr => ∃ (P Q j : Int) (g : Nat), uj = .int .i64 j ∧ DRel P0 Q0 p P Q j g ∧ Ext w wr ∧ wr.heap[w.heap.size]? = some (.cells #[.int .i64 P, .int .i64 Q] 35 (0, 0))) (fun _ wr => (intOf ((wr.cell? ⟨w.heap.size, 0, none⟩).getD undef)).toNat)
  case atStart => exact ⟨P0, Q0, 0, 64, rfl, HST.out, (by repeat (first | exact Ext.refl _ | assumption | refine Ext.alloc ?_ _ | refine Ext.drew ?_ | refine Ext.drewN ?_ _ | refine Ext.setCell ?_ (by first | omega | (dsimp only; omega) | (simp; done) | (simp; omega)) _ | refine Ext.trans ?_ (by assumption))), heap_alloc_new _ _⟩
  case round =>
    obtain ⟨P, Q, j, g, rfl, hD, hE, hb⟩ := hrel
    have hc : ∀ k, wr.cell? ⟨w.heap.size, k, none⟩ = (#[.int .i64 P, .int .i64 Q] : Array Value)[k]? := fun k => cell_of_row _ _ _ _ _ _ hb
    have hf : ∀ k, wr.frozen? ⟨w.heap.size, k, none⟩ = false := fun k => frozen_of_row _ _ _ _ _ hb
    have HD := Lib.hid hD
    have HB := Lib.hid hb
    obtain ⟨d1, d2, d3, d4, d5, d6, _⟩ := hD
    have d7 : 0 ≤ j ∧ j ≤ 64 := by omega
    clear d4 d6 hb
    have hs := lt_of_cell (hc 0)
    by_cases hdd : P % p = 0 ∧ Int.tmod Q p = 0
    · obtain ⟨hd1, hd2⟩ := hdd
      obtain ⟨g', rfl, hD', hlt⟩ := HD.out.step hp.1 ⟨hd1, hd2⟩
      have HD' := Lib.hid hD'
      have hq := tdiv_bd (p := p) d3
      have hv := div_half d1 hp.1 hd1
      have hd1' : (P % p == 0) = true := by simpa using hd1
      have hd2' : (Int.tmod Q p == 0) = true := by simpa using hd2
      clear hD'
      go_wp2
      go_region
      all_goals go_wp2
      go_roundw
      case rel => exact ⟨P / p, Int.tdiv Q p, j + 1, g', rfl, HD'.out, ((hE.setCell (by simp) _).setCell (by simp) _).drew, set2 _ _ HB.out⟩
      case measure =>
        rw [cell_of_row _ _ _ _ _ _ (set2 (.int .i64 (P / p)) (.int .i64 (Int.tdiv Q p)) HB.out), hc 0]
        simp [intOf]
        omega
    · obtain ⟨e1, e2, e3⟩ := HD.out.done hdd
      obtain ⟨J, i1, i2, i3, i4, i5, i6⟩ := HA.out
      rw [e1, e2] at i3 i6
      have hpp : 1 ≤ p ^ (2 * J) := (two_pow_le hp.1 _).1
      have hle : nm P Q ≤ 1000000000 := by
        have := Int.mul_le_mul_of_nonneg_left hpp (show 0 ≤ nm P Q by omega)
        omega
      have HV2 : Hid (evn P0 Q0 p = ((j % 2 == 0) && ((strip 64 (nm P Q) p).2 % 2 == 0))) := by unfold Hid; rw [HV.out, e1, e2, e3]
      have hway : ((P % p == 0) = false) ∨ ((P % p == 0) = true ∧ (Int.tmod Q p == 0) = false) := by
        by_cases h : P % p = 0
        · exact .inr ⟨by simpa using h, by simpa using fun h2 => hdd ⟨h, h2⟩⟩
        · exact .inl (by simpa using h)
      have hP2 := sq_bd (a := P) (A := 1000000) (by omega) (by omega)
      have hQ2 : -2000000000000 ≤ 2 * Q * Q ∧ 2 * Q * Q ≤ 2000000000000 := mul_bd (A := 2000000) (B := 1000000) (by omega) (by omega) d3.1 d3.2
      have hq2 : -2000000 ≤ 2 * Q ∧ 2 * Q ≤ 2000000 := by omega
      unfold nm at i6 hle
      have HN : Hid (nm P Q = P * P - 2 * Q * Q) := rfl
      clear e1 e2 e3 i1 i2 i3 i4 i5 hpp hdd HST HA HD
      rcases hway with hw1 | ⟨hw1, hw2⟩
      all_goals
        go_wp2
        go_loop [6, 7] (fun un ue => SRel (P * P - 2 * Q * Q) p un ue) (fun un _ => (intOf un).toNat)
        case atStart => exact ⟨P * P - 2 * Q * Q, 0, 64, rfl, rfl, i6, by omega, by rw [show (2 : Int) ^ 64 = 18446744073709551616 by decide]; omega, by omega, by omega, rfl, by omega⟩
        case round =>
          obtain ⟨q, e, g2, rfl, rfl, c1, c2, c3, c4, c5, c6, c7⟩ := hrel
          have C6 := Lib.hid c6
          have C7 := Lib.hid c7
          have C3 := Lib.hid c3
          have C5 := Lib.hid c5
          have c8 : e ≤ 64 := by omega
          clear c3 c5 c6 c7 hw1
          by_cases hd : q % p = 0
          · have hd' : (q % p == 0) = true := by simpa using hd
            have hdv := div_half c1 hp.1 hd
            have HDD := Lib.hid hd
            clear hd
            obtain ⟨g', rfl⟩ : ∃ g', g2 = g' + 1 := by
              cases g2 with
              | zero => have := C3.out; simp at this; omega
              | succ g2 => exact ⟨g2, rfl⟩
            go_wp2
            go_round
            case rel =>
              refine ⟨q / p, e + 1, g', rfl, rfl, hdv.1, by omega, ?_, by omega, ?_, ?_, ?_⟩
              · have := C3.out; rw [Int.pow_succ] at this; omega
              · have := C5.out; omega
              · rw [C6.out, strip_step HDD.out]
              · rw [C7.out, strip_step HDD.out]; omega
            case measure => simp [intOf]; omega
          · have hd' : (q % p == 0) = false := by simpa using hd
            have HE2 : Hid ((strip 64 (nm P Q) p).2 = e) := by unfold Hid; rw [HN.out, C7.out, strip_end hd]; omega
            clear hd C6 C7 C3 C5
            by_cases hj : j % 2 = 0
            · have hj' : (j % 2 == 0) = true := by simpa using hj
              clear hj
              go_wp2
              go_ret
              exact ⟨ret_bool (by rw [HV2.out, HE2.out, hj']; simp), hE⟩
            · have hj' : (j % 2 == 0) = false := by simpa using hj
              clear hj
              go_wp2
              go_ret
              exact ⟨ret_bool (by rw [HV2.out, hj']; simp), hE⟩

end Go.Proofs.Ytkjamaacapaokaa
