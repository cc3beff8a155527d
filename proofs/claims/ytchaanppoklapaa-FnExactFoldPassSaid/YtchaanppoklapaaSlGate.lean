/- Slices of Gate: whether they are equal, marking them, whether a mark holds. -/
import Derived.Test.YtchaanppoklapaaRows
import Derived.Test.YtchaanppoklapaaSl
namespace Go.Proofs.Ytchaanppoklapaa
open Go.RowKit

theorem eqGate_same (x0 x1 x2 : Int) (w : World) :
    Calls Try.prog 52 #[.agg #[.int .i64 x0, .int .i64 x1, .int .i64 x2], .agg #[.int .i64 x0, .int .i64 x1, .int .i64 x2]] w fun e w' => e = .returned (.bool true) ∧ Ext w w' := by
  go_enter Try.func52, Try.ntmps52
  go_wp2
  go_ret
  exact ⟨rfl, (by repeat (first | exact Ext.refl _ | assumption | refine Ext.alloc ?_ _ | refine Ext.drew ?_ | refine Ext.drewN ?_ _ | refine Ext.setCell ?_ (by first | omega | (dsimp only; omega) | (simp; done) | (simp; omega)) _ | refine Ext.trans ?_ (by assumption)))⟩

set_option maxHeartbeats 1000000 in
theorem eqGateS_same {n b1 b2 : Nat} {v1 v2 : Value} {xs : List Int} (hl : xs.length = n * 3) (hn : n ≤ 1000000000) (w : World) (h1 : w.ownsRow b1 72 3 v1 n (IL xs)) (h2 : w.ownsRow b2 72 3 v2 n (IL xs)) :
    Calls Try.prog 29 #[v1, v2] w fun e w' => e = .returned (.bool true) ∧ Ext w w' := by
  obtain ⟨a1, c1, rfl, e1, e2, e3⟩ := own_shape h1
  obtain ⟨a2, c2, rfl, e4, e5, e6⟩ := own_shape h2
  have HL := Lib.hid hl
  by_cases hp : 0 < n
  · obtain ⟨g1, rfl, _, p1, p2, p3⟩ := e3 hp
    obtain ⟨g2, rfl, _, q1, q2, q3⟩ := e6 hp
    have P2 := Lib.hid p2
    have Q2 := Lib.hid q2
    clear p2 q2 p3 q3 h1 h2 e3 e6 hl
    have hzz : n ≤ 1000000000 := hn
    go_enter Try.func29, Try.ntmps29
    go_wp2
    go_loopw [5] (fun i wr => ∃ j : Nat, j ≤ n ∧ i = .int .i64 j ∧ Ext w wr) (fun i _ => n - (intOf i).toNat)
    case atStart => exact ⟨0, by omega, rfl, Ext.refl _⟩
    case round =>
      obtain ⟨j, hj, rfl, hE⟩ := hrel
      have hEs := hE.size
      have r1 : g1 < wr.heap.size := by omega
      have r2 : g2 < wr.heap.size := by omega
      by_cases hlt : j < n
      · have hlt' : (j : Int) < n := by omega
        have y0 := il_get (xs := xs) (k := j * 3) (by have := HL.out; omega)
        have z0 := (hE.cellA (p := ⟨g1, j * 3, none⟩) p1).trans (P2.out _ _ y0)
        have t0 := (hE.cellA (p := ⟨g2, j * 3, none⟩) q1).trans (Q2.out _ _ y0)
        generalize xs[j * 3]'_ = u0 at y0 z0 t0
        clear y0
        have y1 := il_get (xs := xs) (k := j * 3 + 1) (by have := HL.out; omega)
        have z1 := (hE.cellA (p := ⟨g1, j * 3 + 1, none⟩) p1).trans (P2.out _ _ y1)
        have t1 := (hE.cellA (p := ⟨g2, j * 3 + 1, none⟩) q1).trans (Q2.out _ _ y1)
        generalize xs[j * 3 + 1]'_ = u1 at y1 z1 t1
        clear y1
        have y2 := il_get (xs := xs) (k := j * 3 + 2) (by have := HL.out; omega)
        have z2 := (hE.cellA (p := ⟨g1, j * 3 + 2, none⟩) p1).trans (P2.out _ _ y2)
        have t2 := (hE.cellA (p := ⟨g2, j * 3 + 2, none⟩) q1).trans (Q2.out _ _ y2)
        generalize xs[j * 3 + 2]'_ = u2 at y2 z2 t2
        clear y2
        go_wp2
        refine wp_region_xt (by kernel_rfl) (by kernel_rfl) (fun hxc => ?_)
        repeat (first | go_big_quiet_step ((first | (go_at_call 52; exact calls_xt (eqGate_same _ _ _ _)))) | quiet_step ((first | (go_at_call 52; exact calls_xt (eqGate_same _ _ _ _)))))
        refine wpQuiet_nil (forall_xt ?_)
        clear hxc
        intro w1 hx1
        obtain ⟨hc1, hf1⟩ := hx1.cells
        have hz1 := hx1.size
        try simp at hz1
        go_wp2
        go_roundw
        case rel => exact ⟨j + 1, by omega, by go_num, hE.trans hx1⟩
        case measure => simp [intOf]; omega
      · go_wp2
        go_ret
        exact ⟨rfl, hE⟩
  · obtain rfl : n = 0 := by omega
    clear h1 h2 e3 e6 hl HL
    go_enter Try.func29, Try.ntmps29
    go_wp2
    go_loopw [5] (fun i wr => i = .int .i64 0 ∧ wr = w) (fun i _ => 0)
    case atStart => exact ⟨rfl, rfl⟩
    case round =>
      obtain ⟨rfl, rfl⟩ := hrel
      go_wp2
      go_ret
      exact ⟨rfl, (by repeat (first | exact Ext.refl _ | assumption | refine Ext.alloc ?_ _ | refine Ext.drew ?_ | refine Ext.drewN ?_ _ | refine Ext.setCell ?_ (by first | omega | (dsimp only; omega) | (simp; done) | (simp; omega)) _ | refine Ext.trans ?_ (by assumption)))⟩

set_option maxHeartbeats 1000000 in
theorem markGateS_any {n b : Nat} {v : Value} {ys : List Value} (hl : ys.length = n * 3) (hn : n ≤ 1000000000) (m : Int) (hm : 0 ≤ m ∧ m ≤ 100000000) (w : World) (h : w.ownsRow b 72 3 v n ys) :
    Calls Try.prog 30 #[v, .int .i64 m] w fun e w' => e = .returned (.int .i64 (m + n * 3)) ∧ w'.ownsRow b 72 3 v n (IL (marks m (n * 3))) ∧ w.grownBy w' v.ownBlock := by
  obtain ⟨a, c, rfl, e1, e2, e3⟩ := own_shape h
  by_cases hp : 0 < n
  · obtain ⟨g, rfl, _, p1, p2, p3⟩ := e3 hp
    have HO := Lib.hid h
    have HL := Lib.hid hl
    clear p2 p3 h e3 hl
    go_enter Try.func30, Try.ntmps30
    go_wp2
    go_loopw [1, 5] (fun k i wr => ∃ (j : Nat) (zs : List Value), j ≤ n ∧ i = .int .i64 j ∧ k = .int .i64 (m + j * 3) ∧ wr.ownsRow b 72 3 (.slice (some ⟨g, 0, none⟩) n c) n zs ∧ zs.length = n * 3 ∧ MK zs m (j * 3) ∧ w.grownBy wr (some g)) (fun _ i _ => n - (intOf i).toNat)
    case atStart => exact ⟨0, ys, by omega, rfl, by simp, HO.out, HL.out, MK.zero _ _ _, World.grownBy.refl _ _⟩
    case round =>
      obtain ⟨j, zs, hj, rfl, rfl, hown, hzl, hmk, hgr⟩ := hrel
      have HW := Lib.hid hown
      have HM := Lib.hid hmk
      have HZ := Lib.hid hzl
      have HG := Lib.hid hgr
      clear hown hmk hzl hgr
      by_cases hlt : j < n
      · have hlt' : (j : Int) < n := by omega
        obtain ⟨u0, z0⟩ := own_at HW.out HZ.out (k := j * 3) (by omega)
        obtain ⟨u1, z1⟩ := own_at HW.out HZ.out (k := j * 3 + 1) (by omega)
        obtain ⟨u2, z2⟩ := own_at HW.out HZ.out (k := j * 3 + 2) (by omega)
        have hfr := HW.out.frozenAt
        go_wp2
        go_roundw
        case rel =>
          have s0 := World.ownsRow.stored (HW.out) (j * 3) (.int .i64 (m + j * 3))
          have s1 := World.ownsRow.stored (s0.1) (j * 3 + 1) (.int .i64 (m + j * 3 + 1))
          have s2 := World.ownsRow.stored (s1.1) (j * 3 + 2) (.int .i64 (m + j * 3 + 1 + 1))
          have k0 : MK (zs.set (j * 3) (.int .i64 (m + j * 3))) m (j * 3 + 1) := MK.snoc (HM.out) (by have := HZ.out; omega) rfl (by omega) rfl
          have k1 : MK ((zs.set (j * 3) (.int .i64 (m + j * 3))).set (j * 3 + 1) (.int .i64 (m + j * 3 + 1))) m (j * 3 + 2) := MK.snoc (k0) (by simp only [List.length_set]; have := HZ.out; omega) rfl (by omega) rfl
          have k2 : MK (((zs.set (j * 3) (.int .i64 (m + j * 3))).set (j * 3 + 1) (.int .i64 (m + j * 3 + 1))).set (j * 3 + 2) (.int .i64 (m + j * 3 + 1 + 1))) m (j * 3 + 3) := MK.snoc (k1) (by simp only [List.length_set]; have := HZ.out; omega) rfl (by omega) rfl
          refine ⟨j + 1, _, by omega, by go_num, by simp; omega, s2.1, ?_, ?_, ?_⟩
          · simpa using HZ.out
          · rw [show (j + 1) * 3 = j * 3 + 3 by omega]
            exact k2
          · exact (((HG.out.trans s0.2).trans s1.2).trans s2.2)
        case measure => simp [intOf]; omega
      · obtain rfl : j = n := by omega
        go_wp2
        go_ret
        refine ⟨rfl, ?_, HG.out⟩
        rw [← MK.full HM.out HZ.out]
        exact HW.out
  · obtain rfl : n = 0 := by omega
    have hys : ys = [] := List.eq_nil_of_length_eq_zero (by simpa using hl)
    subst hys
    have HO := Lib.hid h
    clear h e3 hl
    go_enter Try.func30, Try.ntmps30
    go_wp2
    go_loopw [1, 5] (fun k i wr => i = .int .i64 0 ∧ k = .int .i64 m ∧ wr = w) (fun _ _ _ => 0)
    case atStart => exact ⟨rfl, rfl, rfl⟩
    case round =>
      obtain ⟨rfl, rfl, rfl⟩ := hrel
      go_wp2
      go_ret
      exact ⟨by simp, by simpa [marks, IL] using HO.out, World.grownBy.refl _ _⟩

set_option maxHeartbeats 1000000 in
theorem heldGateS_any {n b : Nat} {v : Value} (hn : n ≤ 1000000000) (m : Int) (hm : 0 ≤ m ∧ m ≤ 100000000) (w : World) (h : w.ownsRow b 72 3 v n (IL (marks m (n * 3)))) :
    Calls Try.prog 38 #[v, .int .i64 m] w fun e w' => e = .returned (.int .i64 (m + n * 3)) ∧ w = w' := by
  obtain ⟨a, c, rfl, e1, e2, e3⟩ := own_shape h
  by_cases hp : 0 < n
  · obtain ⟨g, rfl, _, p1, p2, p3⟩ := e3 hp
    have P2 := Lib.hid p2
    clear p2 p3 h e3
    go_enter Try.func38, Try.ntmps38
    go_wp2
    go_loop [1, 5] (fun k i => ∃ (j : Nat), j ≤ n ∧ i = .int .i64 j ∧ k = .int .i64 (m + j * 3)) (fun _ i => n - (intOf i).toNat)
    case atStart => exact ⟨0, by omega, rfl, by simp⟩
    case round =>
      obtain ⟨j, hj, rfl, rfl⟩ := hrel
      by_cases hlt : j < n
      · have hlt' : (j : Int) < n := by omega
        have z0 := P2.out (j * 3) _ (marks_get (m := m) (N := n * 3) (k := j * 3) (by omega))
        rw [show m + ((j * 3 : Nat) : Int) = m + j * 3 by omega] at z0
        have z1 := P2.out (j * 3 + 1) _ (marks_get (m := m) (N := n * 3) (k := j * 3 + 1) (by omega))
        rw [show m + ((j * 3 + 1 : Nat) : Int) = m + j * 3 + 1 by omega] at z1
        have z2 := P2.out (j * 3 + 2) _ (marks_get (m := m) (N := n * 3) (k := j * 3 + 2) (by omega))
        rw [show m + ((j * 3 + 2 : Nat) : Int) = m + j * 3 + 1 + 1 by omega] at z2
        go_wp2
        go_round
        case rel => exact ⟨j + 1, by omega, by go_num, by simp; omega⟩
        case measure => simp [intOf]; omega
      · obtain rfl : j = n := by omega
        go_wp2
        go_ret
        exact ⟨rfl, rfl⟩
  · obtain rfl : n = 0 := by omega
    clear h e3
    go_enter Try.func38, Try.ntmps38
    go_wp2
    go_loop [1, 5] (fun k i => i = .int .i64 0 ∧ k = .int .i64 m) (fun _ _ => 0)
    case atStart => exact ⟨rfl, rfl⟩
    case round =>
      obtain ⟨rfl, rfl⟩ := hrel
      go_wp2
      go_ret
      exact ⟨by simp, rfl⟩

end Go.Proofs.Ytchaanppoklapaa
