/- Certificates: sizes, copies, equality. -/
import Derived.Test.YtgefamclfjoogaaDoorCert
namespace Go.Proofs.YtgefamclfjoogaaDoor
open Go.RowKit

/-- what a size check says: it fails, or all is small -/
def Small (rs : List Rp) : Prop := rs.length ≤ 1048576 ∧ ∀ (j : Nat) (h : j < rs.length), rs[j].m1 ≤ 1048576 ∧ rs[j].m2 ≤ 1048576 ∧ rs[j].xs.length = rs[j].m1 * 3 ∧ rs[j].ys.length = rs[j].m2 * 3

set_option maxHeartbeats 1000000 in
theorem szReplacementS_any (l : Int) (hl : 0 ≤ l ∧ l ≤ 1048576) {v : Value} {rs : List Rp} (w : World) (h : RSV w v rs) :
    Calls Tryd.prog 27 #[v, .int .i64 l] w fun e w' => (∃ r : Int, e = .returned (.int .i64 r) ∧ r ≤ l ∧ (r = -1 ∨ (0 ≤ r ∧ Small rs))) ∧ Ext w w' := by
  have HV := Lib.hid h
  obtain ⟨a, cap, rfl, c1, c2, H⟩ := h
  have HH := Lib.hid H
  clear H
  have c3 : (rs.length : Int) ≤ 9223372036854775807 := by simp only [maxLen] at c2; omega
  by_cases hm : (rs.length : Int) ≤ l
  case neg =>
    have hm2 : l - rs.length < 0 := by omega
    have hw : -9223372036854775808 ≤ l - rs.length := by omega
    go_enter Tryd.func27, Tryd.ntmps27
    go_wp2
    go_ret
    exact ⟨⟨_, rfl, by omega, .inl rfl⟩, Ext.refl _⟩
  have hm2 : ¬ (l - rs.length < 0) := by omega
  have hw : l - rs.length ≤ 9223372036854775807 := by omega
  go_enter Tryd.func27, Tryd.ntmps27
  go_wp2
  go_loopw [1, 5] (fun le i wr => ∃ (j : Nat) (r : Int), j ≤ rs.length ∧ i = .int .i64 j ∧ le = .int .i64 r ∧ 0 ≤ r ∧ r ≤ l ∧ Ext w wr ∧ Hid (∀ (k : Nat) (h : k < rs.length), k < j → rs[k].m1 ≤ 1048576 ∧ rs[k].m2 ≤ 1048576 ∧ rs[k].xs.length = rs[k].m1 * 3 ∧ rs[k].ys.length = rs[k].m2 * 3)) (fun _ i _ => rs.length - (intOf i).toNat)
  case atStart => exact ⟨0, _, by omega, rfl, rfl, by omega, by omega, Ext.refl _, fun k h hk => absurd hk (by omega)⟩
  case round =>
    obtain ⟨j, r, hj, rfl, rfl, hr0, hr1, hE, HA⟩ := hrel
    by_cases hlt : j < rs.length
    · have hlt' : (j : Int) < rs.length := by omega
      have hjr : j < rs.length := hlt
      obtain ⟨b, off, rfl, hbk, hcell⟩ := HH.out (by omega)
      obtain ⟨va, vb, z0', z1', z2', r1, r2⟩ := hcell j hjr
      clear hcell
      have hbr : b < wr.heap.size := by have := hE.size; omega
      have z0 := (hE.cells.1 b _ hbk).trans z0'
      have z1 := (hE.cells.1 b _ hbk).trans z1'
      have z2 := (hE.cells.1 b _ hbk).trans z2'
      have HL := Lib.hid (And.intro r1.1 r2.1)
      have HS := Lib.hid (szReplacement_any rs[j].t r ⟨hr0, by omega⟩ wr (r1.ext hE) (r2.ext hE))
      obtain ⟨_, aa, ca, rfl, _, _, _⟩ := r1
      obtain ⟨_, ab, cb, rfl, _, _, _⟩ := r2
      clear z0' z1' z2'
      generalize hmm1 : rs[j].m1 = m1 at *
      generalize hmm2 : rs[j].m2 = m2 at *
      generalize rs[j].t = t at *
      have HM1 := Lib.hid hmm1
      have HM2 := Lib.hid hmm2
      clear hmm1 hmm2
      by_cases hs : (m1 : Int) + m2 ≤ r
      · rw [if_pos hs] at HS
        have hs2 : ¬ (r - m1 - m2 < 0) := by omega
        go_wp2_with fail
        refine (HS.out).mono ?_
        rintro e w1 ⟨rfl, hx1⟩
        obtain ⟨hc1, hf1⟩ := hx1.cells
        have hz1 := hx1.size
        try simp at hz1
        go_wp2
        go_roundw
        case rel =>
          refine ⟨j + 1, _, by omega, by go_num, rfl, by omega, by omega, hE.trans hx1, (show Hid _ from fun k hk hkj => ?_)⟩
          by_cases e : k = j
          · subst e
            rw [HM1.out, HM2.out]
            exact ⟨by omega, by omega, HL.out.1, HL.out.2⟩
          · exact HA.out k hk (by omega)
        case measure => simp [intOf]; omega
      · rw [if_neg hs] at HS
        go_wp2_with fail
        refine (HS.out).mono ?_
        rintro e w1 ⟨rfl, hx1⟩
        obtain ⟨hc1, hf1⟩ := hx1.cells
        have hz1 := hx1.size
        try simp at hz1
        go_wp2
        go_ret
        exact ⟨⟨_, rfl, by omega, .inl rfl⟩, hE.trans hx1⟩
    · have hje : j = rs.length := by omega
      have hje' : ¬ (j : Int) < rs.length := by omega
      go_wp2
      go_ret
      exact ⟨⟨_, rfl, hr1, .inr ⟨hr0, by omega, fun k hk => HA.out k hk (by omega)⟩⟩, hE⟩

end Go.Proofs.YtgefamclfjoogaaDoor
