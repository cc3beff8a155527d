/- Slices of Ring: whether they are equal, marking them, whether a mark holds. -/
import Derived.Test.YtbffcpnpdpgfeaaRows
import Derived.Test.YtbffcpnpdpgfeaaSl
namespace Go.Proofs.Ytbffcpnpdpgfeaa
open Go.RowKit

theorem eqRing_same (x0 x1 x2 x3 : Int) (w : World) :
    Calls Try.prog 36 #[.agg #[.int .i64 x0, .int .i64 x1, .int .i64 x2, .int .i64 x3], .agg #[.int .i64 x0, .int .i64 x1, .int .i64 x2, .int .i64 x3]] w fun e w' => e = .returned (.bool true) ∧ Ext w w' := by
  go_enter Try.func36, Try.ntmps36
  go_wp2
  go_ret
  exact ⟨rfl, (by repeat (first | exact Ext.refl _ | assumption | refine Ext.alloc ?_ _ | refine Ext.drew ?_ | refine Ext.drewN ?_ _ | refine Ext.setCell ?_ (by first | omega | (dsimp only; omega) | (simp; done) | (simp; omega)) _ | refine Ext.trans ?_ (by assumption)))⟩

set_option maxHeartbeats 1000000 in
theorem eqRingS_same {n b1 b2 : Nat} {v1 v2 : Value} {xs : List Int} (hl : xs.length = n * 4) (hn : n ≤ 1000000000) (w : World) (h1 : w.ownsRow b1 33 4 v1 n (IL xs)) (h2 : w.ownsRow b2 33 4 v2 n (IL xs)) :
    Calls Try.prog 9 #[v1, v2] w fun e w' => e = .returned (.bool true) ∧ Ext w w' := by
  obtain ⟨a1, c1, rfl, e1, e2, e3⟩ := own_shape h1
  obtain ⟨a2, c2, rfl, e4, e5, e6⟩ := own_shape h2
  have HL := Lib.hid hl
  by_cases hp : 0 < n
  · obtain ⟨g1, rfl, _, p1, p2, p3⟩ := e3 hp
    obtain ⟨g2, rfl, _, q1, q2, q3⟩ := e6 hp
    have P2 := Lib.hid p2
    have Q2 := Lib.hid q2
    clear p2 q2 p3 q3 h1 h2 e3 e6 hl
    have hzz : n ≤ 1000000000 := hn
    go_enter Try.func9, Try.ntmps9
    go_wp2
    go_loopw [5] (fun i wr => ∃ j : Nat, j ≤ n ∧ i = .int .i64 j ∧ Ext w wr) (fun i _ => n - (intOf i).toNat)
    case atStart => exact ⟨0, by omega, rfl, Ext.refl _⟩
    case round =>
      obtain ⟨j, hj, rfl, hE⟩ := hrel
      have hEs := hE.size
      have r1 : g1 < wr.heap.size := by omega
      have r2 : g2 < wr.heap.size := by omega
      by_cases hlt : j < n
      · have hlt' : (j : Int) < n := by omega
        have y0 := il_get (xs := xs) (k := j * 4) (by have := HL.out; omega)
        have z0 := (hE.cellA (p := ⟨g1, j * 4, none⟩) p1).trans (P2.out _ _ y0)
        have t0 := (hE.cellA (p := ⟨g2, j * 4, none⟩) q1).trans (Q2.out _ _ y0)
        generalize xs[j * 4]'_ = u0 at y0 z0 t0
        clear y0
        have y1 := il_get (xs := xs) (k := j * 4 + 1) (by have := HL.out; omega)
        have z1 := (hE.cellA (p := ⟨g1, j * 4 + 1, none⟩) p1).trans (P2.out _ _ y1)
        have t1 := (hE.cellA (p := ⟨g2, j * 4 + 1, none⟩) q1).trans (Q2.out _ _ y1)
        generalize xs[j * 4 + 1]'_ = u1 at y1 z1 t1
        clear y1
        have y2 := il_get (xs := xs) (k := j * 4 + 2) (by have := HL.out; omega)
        have z2 := (hE.cellA (p := ⟨g1, j * 4 + 2, none⟩) p1).trans (P2.out _ _ y2)
        have t2 := (hE.cellA (p := ⟨g2, j * 4 + 2, none⟩) q1).trans (Q2.out _ _ y2)
        generalize xs[j * 4 + 2]'_ = u2 at y2 z2 t2
        clear y2
        have y3 := il_get (xs := xs) (k := j * 4 + 3) (by have := HL.out; omega)
        have z3 := (hE.cellA (p := ⟨g1, j * 4 + 3, none⟩) p1).trans (P2.out _ _ y3)
        have t3 := (hE.cellA (p := ⟨g2, j * 4 + 3, none⟩) q1).trans (Q2.out _ _ y3)
        generalize xs[j * 4 + 3]'_ = u3 at y3 z3 t3
        clear y3
        go_wp2
        refine wp_region_xt (by kernel_rfl) (by kernel_rfl) (fun hxc => ?_)
        repeat (first | go_big_quiet_step ((first | (go_at_call 36; exact calls_xt (eqRing_same _ _ _ _ _)))) | quiet_step ((first | (go_at_call 36; exact calls_xt (eqRing_same _ _ _ _ _)))))
        refine wpQuiet_nil (forall_xt ?_)
        clear hxc
        intro w1 hx1
        obtain ⟨hc1, hf1⟩ := hx1.cells
        have hz1 := hx1.size
        try simp at hz1
        go_wp2
        go_roundw
        case rel => exact ⟨j + 1, by omega, by go_num, hE.trans hx1⟩
        case measure => simp [intOf]; omega
      · go_wp2
        go_ret
        exact ⟨rfl, hE⟩
  · obtain rfl : n = 0 := by omega
    clear h1 h2 e3 e6 hl HL
    go_enter Try.func9, Try.ntmps9
    go_wp2
    go_loopw [5] (fun i wr => i = .int .i64 0 ∧ wr = w) (fun i _ => 0)
    case atStart => exact ⟨rfl, rfl⟩
    case round =>
      obtain ⟨rfl, rfl⟩ := hrel
      go_wp2
      go_ret
      exact ⟨rfl, (by repeat (first | exact Ext.refl _ | assumption | refine Ext.alloc ?_ _ | refine Ext.drew ?_ | refine Ext.drewN ?_ _ | refine Ext.setCell ?_ (by first | omega | (dsimp only; omega) | (simp; done) | (simp; omega)) _ | refine Ext.trans ?_ (by assumption)))⟩

set_option maxHeartbeats 1000000 in
theorem markRingS_any {n b : Nat} {v : Value} {ys : List Value} (hl : ys.length = n * 4) (hn : n ≤ 1000000000) (m : Int) (hm : 0 ≤ m ∧ m ≤ 1000000) (w : World) (h : w.ownsRow b 33 4 v n ys) :
    Calls Try.prog 10 #[v, .int .i64 m] w fun e w' => e = .returned (.int .i64 (m + n * 4)) ∧ w'.ownsRow b 33 4 v n (IL (marks m (n * 4))) ∧ w.grownBy w' v.ownBlock := by
  obtain ⟨a, c, rfl, e1, e2, e3⟩ := own_shape h
  by_cases hp : 0 < n
  · obtain ⟨g, rfl, _, p1, p2, p3⟩ := e3 hp
    have HO := Lib.hid h
    have HL := Lib.hid hl
    clear p2 p3 h e3 hl
    go_enter Try.func10, Try.ntmps10
    go_wp2
    go_loopw [1, 5] (fun k i wr => ∃ (j : Nat) (zs : List Value), j ≤ n ∧ i = .int .i64 j ∧ k = .int .i64 (m + j * 4) ∧ wr.ownsRow b 33 4 (.slice (some ⟨g, 0, none⟩) n c) n zs ∧ zs.length = n * 4 ∧ MK zs m (j * 4) ∧ w.grownBy wr (some g)) (fun _ i _ => n - (intOf i).toNat)
    case atStart => exact ⟨0, ys, by omega, rfl, by simp, HO.out, HL.out, MK.zero _ _ _, World.grownBy.refl _ _⟩
    case round =>
      obtain ⟨j, zs, hj, rfl, rfl, hown, hzl, hmk, hgr⟩ := hrel
      have HW := Lib.hid hown
      have HM := Lib.hid hmk
      have HZ := Lib.hid hzl
      have HG := Lib.hid hgr
      clear hown hmk hzl hgr
      by_cases hlt : j < n
      · have hlt' : (j : Int) < n := by omega
        obtain ⟨u0, z0⟩ := own_at HW.out HZ.out (k := j * 4) (by omega)
        obtain ⟨u1, z1⟩ := own_at HW.out HZ.out (k := j * 4 + 1) (by omega)
        obtain ⟨u2, z2⟩ := own_at HW.out HZ.out (k := j * 4 + 2) (by omega)
        obtain ⟨u3, z3⟩ := own_at HW.out HZ.out (k := j * 4 + 3) (by omega)
        have hfr := HW.out.frozenAt
        go_wp2
        go_roundw
        case rel =>
          have s0 := World.ownsRow.stored (HW.out) (j * 4) (.int .i64 (m + j * 4))
          have s1 := World.ownsRow.stored (s0.1) (j * 4 + 1) (.int .i64 (m + j * 4 + 1))
          have s2 := World.ownsRow.stored (s1.1) (j * 4 + 2) (.int .i64 (m + j * 4 + 1 + 1))
          have s3 := World.ownsRow.stored (s2.1) (j * 4 + 3) (.int .i64 (m + j * 4 + 1 + 1 + 1))
          have k0 : MK (zs.set (j * 4) (.int .i64 (m + j * 4))) m (j * 4 + 1) := MK.snoc (HM.out) (by have := HZ.out; omega) rfl (by omega) rfl
          have k1 : MK ((zs.set (j * 4) (.int .i64 (m + j * 4))).set (j * 4 + 1) (.int .i64 (m + j * 4 + 1))) m (j * 4 + 2) := MK.snoc (k0) (by simp only [List.length_set]; have := HZ.out; omega) rfl (by omega) rfl
          have k2 : MK (((zs.set (j * 4) (.int .i64 (m + j * 4))).set (j * 4 + 1) (.int .i64 (m + j * 4 + 1))).set (j * 4 + 2) (.int .i64 (m + j * 4 + 1 + 1))) m (j * 4 + 3) := MK.snoc (k1) (by simp only [List.length_set]; have := HZ.out; omega) rfl (by omega) rfl
          have k3 : MK ((((zs.set (j * 4) (.int .i64 (m + j * 4))).set (j * 4 + 1) (.int .i64 (m + j * 4 + 1))).set (j * 4 + 2) (.int .i64 (m + j * 4 + 1 + 1))).set (j * 4 + 3) (.int .i64 (m + j * 4 + 1 + 1 + 1))) m (j * 4 + 4) := MK.snoc (k2) (by simp only [List.length_set]; have := HZ.out; omega) rfl (by omega) rfl
          refine ⟨j + 1, _, by omega, by go_num, by simp; omega, s3.1, ?_, ?_, ?_⟩
          · simpa using HZ.out
          · rw [show (j + 1) * 4 = j * 4 + 4 by omega]
            exact k3
          · exact ((((HG.out.trans s0.2).trans s1.2).trans s2.2).trans s3.2)
        case measure => simp [intOf]; omega
      · obtain rfl : j = n := by omega
        go_wp2
        go_ret
        refine ⟨rfl, ?_, HG.out⟩
        rw [← MK.full HM.out HZ.out]
        exact HW.out
  · obtain rfl : n = 0 := by omega
    have hys : ys = [] := List.eq_nil_of_length_eq_zero (by simpa using hl)
    subst hys
    have HO := Lib.hid h
    clear h e3 hl
    go_enter Try.func10, Try.ntmps10
    go_wp2
    go_loopw [1, 5] (fun k i wr => i = .int .i64 0 ∧ k = .int .i64 m ∧ wr = w) (fun _ _ _ => 0)
    case atStart => exact ⟨rfl, rfl, rfl⟩
    case round =>
      obtain ⟨rfl, rfl, rfl⟩ := hrel
      go_wp2
      go_ret
      exact ⟨by simp, by simpa [marks, IL] using HO.out, World.grownBy.refl _ _⟩

set_option maxHeartbeats 1000000 in
theorem heldRingS_any {n b : Nat} {v : Value} (hn : n ≤ 1000000000) (m : Int) (hm : 0 ≤ m ∧ m ≤ 1000000) (w : World) (h : w.ownsRow b 33 4 v n (IL (marks m (n * 4)))) :
    Calls Try.prog 11 #[v, .int .i64 m] w fun e w' => e = .returned (.int .i64 (m + n * 4)) ∧ w = w' := by
  obtain ⟨a, c, rfl, e1, e2, e3⟩ := own_shape h
  by_cases hp : 0 < n
  · obtain ⟨g, rfl, _, p1, p2, p3⟩ := e3 hp
    have P2 := Lib.hid p2
    clear p2 p3 h e3
    go_enter Try.func11, Try.ntmps11
    go_wp2
    go_loop [1, 5] (fun k i => ∃ (j : Nat), j ≤ n ∧ i = .int .i64 j ∧ k = .int .i64 (m + j * 4)) (fun _ i => n - (intOf i).toNat)
    case atStart => exact ⟨0, by omega, rfl, by simp⟩
    case round =>
      obtain ⟨j, hj, rfl, rfl⟩ := hrel
      by_cases hlt : j < n
      · have hlt' : (j : Int) < n := by omega
        have z0 := P2.out (j * 4) _ (marks_get (m := m) (N := n * 4) (k := j * 4) (by omega))
        rw [show m + ((j * 4 : Nat) : Int) = m + j * 4 by omega] at z0
        have z1 := P2.out (j * 4 + 1) _ (marks_get (m := m) (N := n * 4) (k := j * 4 + 1) (by omega))
        rw [show m + ((j * 4 + 1 : Nat) : Int) = m + j * 4 + 1 by omega] at z1
        have z2 := P2.out (j * 4 + 2) _ (marks_get (m := m) (N := n * 4) (k := j * 4 + 2) (by omega))
        rw [show m + ((j * 4 + 2 : Nat) : Int) = m + j * 4 + 1 + 1 by omega] at z2
        have z3 := P2.out (j * 4 + 3) _ (marks_get (m := m) (N := n * 4) (k := j * 4 + 3) (by omega))
        rw [show m + ((j * 4 + 3 : Nat) : Int) = m + j * 4 + 1 + 1 + 1 by omega] at z3
        go_wp2
        go_round
        case rel => exact ⟨j + 1, by omega, by go_num, by simp; omega⟩
        case measure => simp [intOf]; omega
      · obtain rfl : j = n := by omega
        go_wp2
        go_ret
        exact ⟨rfl, rfl⟩
  · obtain rfl : n = 0 := by omega
    clear h e3
    go_enter Try.func11, Try.ntmps11
    go_wp2
    go_loop [1, 5] (fun k i => i = .int .i64 0 ∧ k = .int .i64 m) (fun _ _ => 0)
    case atStart => exact ⟨rfl, rfl⟩
    case round =>
      obtain ⟨rfl, rfl⟩ := hrel
      go_wp2
      go_ret
      exact ⟨by simp, rfl⟩

end Go.Proofs.Ytbffcpnpdpgfeaa
