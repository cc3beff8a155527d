/- Slices of Gate: whether they are equal, marking them, whether a mark holds. -/
import Derived.Test.YtgefamclfjoogaaDoorRows
import Derived.Test.YtgefamclfjoogaaDoorSl
namespace Go.Proofs.YtgefamclfjoogaaDoor
open Go.RowKit

theorem eqGate_same (x0 x1 x2 : Int) (w : World) :
    Calls Tryd.prog 66 #[.agg #[.int .i64 x0, .int .i64 x1, .int .i64 x2], .agg #[.int .i64 x0, .int .i64 x1, .int .i64 x2]] w fun e w' => e = .returned (.bool true) ∧ Ext w w' := by
  go_enter Tryd.func66, Tryd.ntmps66
  go_wp2
  go_ret
  exact ⟨rfl, (by repeat (first | exact Ext.refl _ | assumption | refine Ext.alloc ?_ _ | refine Ext.drew ?_ | refine Ext.drewN ?_ _ | refine Ext.setCell ?_ (by first | omega | (dsimp only; omega) | (simp; done) | (simp; omega)) _ | refine Ext.trans ?_ (by assumption)))⟩

set_option maxHeartbeats 1000000 in
theorem eqGateS_same {n b1 b2 : Nat} {v1 v2 : Value} {xs : List Int} (hl : xs.length = n * 3) (hn : n ≤ 1000000000) (w : World) (h1 : w.ownsRow b1 79 3 v1 n (IL xs)) (h2 : w.ownsRow b2 79 3 v2 n (IL xs)) :
    Calls Tryd.prog 51 #[v1, v2] w fun e w' => e = .returned (.bool true) ∧ Ext w w' := by
  obtain ⟨a1, c1, rfl, e1, e2, e3⟩ := own_shape h1
  obtain ⟨a2, c2, rfl, e4, e5, e6⟩ := own_shape h2
  have HL := Lib.hid hl
  by_cases hp : 0 < n
  · obtain ⟨g1, rfl, _, p1, p2, p3⟩ := e3 hp
    obtain ⟨g2, rfl, _, q1, q2, q3⟩ := e6 hp
    have P2 := Lib.hid p2
    have Q2 := Lib.hid q2
    clear p2 q2 p3 q3 h1 h2 e3 e6 hl
    have hzz : n ≤ 1000000000 := hn
    go_enter Tryd.func51, Tryd.ntmps51
    go_wp2
    go_loopw [5] (fun i wr => ∃ j : Nat, j ≤ n ∧ i = .int .i64 j ∧ Ext w wr) (fun i _ => n - (intOf i).toNat)
    case atStart => exact ⟨0, by omega, rfl, Ext.refl _⟩
    case round =>
      obtain ⟨j, hj, rfl, hE⟩ := hrel
      have hEs := hE.size
      have r1 : g1 < wr.heap.size := by omega
      have r2 : g2 < wr.heap.size := by omega
      by_cases hlt : j < n
      · have hlt' : (j : Int) < n := by omega
        have y0 := il_get (xs := xs) (k := j * 3) (by have := HL.out; omega)
        have z0 := (hE.cellA (p := ⟨g1, j * 3, none⟩) p1).trans (P2.out _ _ y0)
        have t0 := (hE.cellA (p := ⟨g2, j * 3, none⟩) q1).trans (Q2.out _ _ y0)
        generalize xs[j * 3]'_ = u0 at y0 z0 t0
        clear y0
        have y1 := il_get (xs := xs) (k := j * 3 + 1) (by have := HL.out; omega)
        have z1 := (hE.cellA (p := ⟨g1, j * 3 + 1, none⟩) p1).trans (P2.out _ _ y1)
        have t1 := (hE.cellA (p := ⟨g2, j * 3 + 1, none⟩) q1).trans (Q2.out _ _ y1)
        generalize xs[j * 3 + 1]'_ = u1 at y1 z1 t1
        clear y1
        have y2 := il_get (xs := xs) (k := j * 3 + 2) (by have := HL.out; omega)
        have z2 := (hE.cellA (p := ⟨g1, j * 3 + 2, none⟩) p1).trans (P2.out _ _ y2)
        have t2 := (hE.cellA (p := ⟨g2, j * 3 + 2, none⟩) q1).trans (Q2.out _ _ y2)
        generalize xs[j * 3 + 2]'_ = u2 at y2 z2 t2
        clear y2
        go_wp2
        refine wp_region_xt (by kernel_rfl) (by kernel_rfl) (fun hxc => ?_)
        repeat (first | go_big_quiet_step ((first | (go_at_call 66; exact calls_xt (eqGate_same _ _ _ _)))) | quiet_step ((first | (go_at_call 66; exact calls_xt (eqGate_same _ _ _ _)))))
        refine wpQuiet_nil (forall_xt ?_)
        clear hxc
        intro w1 hx1
        obtain ⟨hc1, hf1⟩ := hx1.cells
        have hz1 := hx1.size
        try simp at hz1
        go_wp2
        go_roundw
        case rel => exact ⟨j + 1, by omega, by go_num, hE.trans hx1⟩
        case measure => simp [intOf]; omega
      · go_wp2
        go_ret
        exact ⟨rfl, hE⟩
  · obtain rfl : n = 0 := by omega
    clear h1 h2 e3 e6 hl HL
    go_enter Tryd.func51, Tryd.ntmps51
    go_wp2
    go_loopw [5] (fun i wr => i = .int .i64 0 ∧ wr = w) (fun i _ => 0)
    case atStart => exact ⟨rfl, rfl⟩
    case round =>
      obtain ⟨rfl, rfl⟩ := hrel
      go_wp2
      go_ret
      exact ⟨rfl, (by repeat (first | exact Ext.refl _ | assumption | refine Ext.alloc ?_ _ | refine Ext.drew ?_ | refine Ext.drewN ?_ _ | refine Ext.setCell ?_ (by first | omega | (dsimp only; omega) | (simp; done) | (simp; omega)) _ | refine Ext.trans ?_ (by assumption)))⟩

end Go.Proofs.YtgefamclfjoogaaDoor
