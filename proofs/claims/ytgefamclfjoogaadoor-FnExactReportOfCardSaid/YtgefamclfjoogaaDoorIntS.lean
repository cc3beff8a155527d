/- Slices of ints: copies, equality, marks. -/
import Derived.Test.YtgefamclfjoogaaDoorCopy
import Derived.Test.YtgefamclfjoogaaDoorMade
namespace Go.Proofs.YtgefamclfjoogaaDoor
open Go.RowKit
set_option linter.unusedVariables false
set_option linter.unusedSimpArgs false

theorem info_int : (Tryd.prog.info? 3).map (fun i => (i.zero, i.size, i.bytes)) = some (some (.int .i64 0), 1, 8) := by kernel_rfl

set_option maxRecDepth 20000 in
set_option maxHeartbeats 1000000 in
theorem toIntS_any {v : Value} {m : Nat} {xs : List Int} (hm : m ≤ 2000000) (w : World) (h : RV w 1 v m xs) :
    Calls Tryd.prog 36 #[v] w fun e w' => ∃ v', e = .returned v' ∧ w'.ownsRow w.heap.size 3 1 v' m (IL xs) ∧ Ext w w' := by
  obtain ⟨i0, hi, iz0, iz1, iz2⟩ := info_parts info_int
  obtain ⟨hl, a, cap, rfl, c1, c2, H⟩ := h
  have HH := Lib.hid H
  have HL := Lib.hid hl
  clear H hl
  have hl0 : (madeCells (Value.int .i64 0).cells (m * 1)).toList.length = m * 1 := by simp [madeCells]
  go_enter Tryd.func36, Tryd.ntmps36
  go_wp2_with (at_make; refine wpList_make_full _ rfl _ _ _ rfl w.heap.size 3 i0 (.int .i64 0) 1 Tryd.underlying28 hi iz0 iz1 .i64 .i64 _ _ m rfl rfl rfl rfl (by rw [iz2]; omega) (by simp only [maxLen]; omega) (Nat.le_refl _) ?_; intro w0 own0 hg0; generalize (madeCells (Value.int .i64 0).cells (m * 1)).toList = zs0 at own0 hl0; have HO := Lib.hid own0; clear own0)
  have hx0 : Ext w w0 := Ext.grown (Ext.refl w) hg0 (fun k hk => by cases hk)
  go_loopw [4] (fun i wr => ∃ (j : Nat) (zs : List Value), j ≤ m ∧ i = .int .i64 j ∧ wr.ownsRow w.heap.size 3 1 (.slice (some ⟨w.heap.size, 0, none⟩) m m) m zs ∧ zs.length = m * 1 ∧ CP zs (IL xs) j ∧ Ext w wr) (fun i _ => m - (intOf i).toNat)
  case atStart => exact ⟨0, zs0, by omega, rfl, HO.out, hl0, fun j hj => absurd hj (by omega), hx0⟩
  case round =>
    obtain ⟨j, zs, hj, rfl, hown, hzl, hcp, hE⟩ := hrel
    have HW := Lib.hid hown
    have HC := Lib.hid hcp
    have HZ := Lib.hid hzl
    clear hown hcp hzl
    by_cases hlt : j < m
    · have hlt' : (j : Int) < m := by omega
      have y0 := at3_get (xs := xs) (j := j) (by have := HL.out; omega)
      have Y := Lib.hid y0
      clear y0
      obtain ⟨b, off, rfl, hbk, hcell⟩ := HH.out (by omega)
      have hbr : b < wr.heap.size := by have := hE.size; omega
      have z0 : wr.cell? ⟨b, off + j, none⟩ = some (.int .i64 (at3 xs (j))) := (hE.cells.1 b (off + (j)) hbk).trans (hcell _ _ (at3_get (by have := HL.out; omega)))
      clear hcell
      generalize at3 xs j = k0 at *
      obtain ⟨u0, q0⟩ := own_at HW.out HZ.out (k := j) (by omega)
      have hfr := HW.out.frozenAt
      go_wp2
      go_roundw
      case rel =>
        have s0 := World.ownsRow.stored (HW.out) j (.int .i64 k0)
        have k0' := CP.snoc HC.out (by have := HZ.out; omega) rfl Y.out (k' := j + 1) rfl
        exact ⟨j + 1, _, by omega, by go_num, s0.1, by simpa using HZ.out, k0', Ext.grown hE s0.2 (fun k hk => by cases hk; exact Nat.le_refl _)⟩
      case measure => simp [intOf]; omega
    · obtain rfl : j = m := by omega
      go_wp2
      go_ret
      refine ⟨_, rfl, ?_, hE⟩
      rw [← CP.full HC.out (by have := HZ.out; omega) (by rw [il_length]; have := HL.out; omega)]
      exact HW.out

set_option maxHeartbeats 1000000 in
theorem eqIntS_same {n b1 b2 : Nat} {v1 v2 : Value} {xs : List Int} (hl : xs.length = n * 1) (hn : n ≤ 1000000000) (w : World) (h1 : w.ownsRow b1 3 1 v1 n (IL xs)) (h2 : w.ownsRow b2 3 1 v2 n (IL xs)) :
    Calls Tryd.prog 49 #[v1, v2] w fun e w' => e = .returned (.bool true) ∧ Ext w w' := by
  obtain ⟨a1, c1, rfl, e1, e2, e3⟩ := own_shape h1
  obtain ⟨a2, c2, rfl, e4, e5, e6⟩ := own_shape h2
  have HL := Lib.hid hl
  have E3 := Lib.hid e3
  have E6 := Lib.hid e6
  clear h1 h2 e3 e6 hl
  go_enter Tryd.func49, Tryd.ntmps49
  go_wp2
  go_loopw [5] (fun i wr => ∃ j : Nat, j ≤ n ∧ i = .int .i64 j ∧ Ext w wr) (fun i _ => n - (intOf i).toNat)
  case atStart => exact ⟨0, by omega, rfl, Ext.refl _⟩
  case round =>
    obtain ⟨j, hj, rfl, hE⟩ := hrel
    have hEs := hE.size
    by_cases hlt : j < n
    · have hlt' : (j : Int) < n := by omega
      obtain ⟨g1, rfl, _, p1, p2, _⟩ := E3.out (by omega)
      obtain ⟨g2, rfl, _, q1, q2, _⟩ := E6.out (by omega)
      have r1 : g1 < wr.heap.size := by omega
      have r2 : g2 < wr.heap.size := by omega
      have y0 := il_get (xs := xs) (k := j) (by have := HL.out; omega)
      have z0 := (hE.cellA (p := ⟨g1, j, none⟩) p1).trans (p2 _ _ y0)
      have t0 := (hE.cellA (p := ⟨g2, j, none⟩) q1).trans (q2 _ _ y0)
      clear p2 q2
      generalize xs[j]'_ = u0 at y0 z0 t0
      clear y0
      go_wp2
      refine wp_region_madeC (m := 26) (by kernel_rfl) (by kernel_rfl) rfl (fun hxc => ?_)
      repeat (refine mw_quiet ?_; apply Exists.intro; refine ⟨fun σ => ?_, ?_⟩; (first | (go_simp; rfl) | fail); simp only [Act.put, List.setIfInBounds_toArray, List.set_cons_succ, List.set_cons_zero, List.nil_append, List.cons_append])
      refine ⟨by kernel_rfl, fun σ w1 hF1 => ?_⟩
      have hx1 := hF1.ext
      clear hF1 hxc
      obtain ⟨hc1, hf1⟩ := hx1.cells
      have hz1 := hx1.size
      try simp at hz1
      go_wp2
      go_roundw
      case rel => exact ⟨j + 1, by omega, by go_num, hE.trans hx1⟩
      case measure => simp [intOf]; omega
    · obtain rfl : j = n := by omega
      go_wp2
      go_ret
      exact ⟨rfl, hE⟩

end Go.Proofs.YtgefamclfjoogaaDoor
