/- Routes: slices of steps, sizes, copies, equality. -/
import Derived.Test.YtgefamclfjoogaaDoorIntS
import Derived.Test.YtgefamclfjoogaaDoorSlGate
import Derived.Test.YtgefamclfjoogaaDoorCgB
import Derived.Test.YtgefamclfjoogaaDoorCirM
namespace Go.Proofs.YtgefamclfjoogaaDoor
open Go.RowKit
set_option linter.unusedVariables false
set_option linter.unusedSimpArgs false

theorem eqRouteStep_same (x0 x1 x2 : Int) (w : World) :
    Calls Tryd.prog 65 #[.agg #[.int .i64 x0, .int .i64 x1, .int .i64 x2], .agg #[.int .i64 x0, .int .i64 x1, .int .i64 x2]] w fun e w' => e = .returned (.bool true) ∧ Ext w w' := by
  go_enter Tryd.func65, Tryd.ntmps65
  go_wp2
  go_ret
  exact ⟨rfl, (by repeat (first | exact Ext.refl _ | assumption | refine Ext.alloc ?_ _ | refine Ext.drew ?_ | refine Ext.drewN ?_ _ | refine Ext.setCell ?_ (by first | omega | (dsimp only; omega) | (simp; done) | (simp; omega)) _ | refine Ext.trans ?_ (by assumption)))⟩

set_option maxHeartbeats 1000000 in
theorem eqRouteStepS_same {n b1 b2 : Nat} {v1 v2 : Value} {xs : List Int} (hl : xs.length = n * 3) (hn : n ≤ 1000000000) (w : World) (h1 : w.ownsRow b1 59 3 v1 n (IL xs)) (h2 : w.ownsRow b2 59 3 v2 n (IL xs)) :
    Calls Tryd.prog 50 #[v1, v2] w fun e w' => e = .returned (.bool true) ∧ Ext w w' := by
  obtain ⟨a1, c1, rfl, e1, e2, e3⟩ := own_shape h1
  obtain ⟨a2, c2, rfl, e4, e5, e6⟩ := own_shape h2
  have HL := Lib.hid hl
  by_cases hp : 0 < n
  · obtain ⟨g1, rfl, _, p1, p2, p3⟩ := e3 hp
    obtain ⟨g2, rfl, _, q1, q2, q3⟩ := e6 hp
    have P2 := Lib.hid p2
    have Q2 := Lib.hid q2
    clear p2 q2 p3 q3 h1 h2 e3 e6 hl
    have hzz : n ≤ 1000000000 := hn
    go_enter Tryd.func50, Tryd.ntmps50
    go_wp2
    go_loopw [5] (fun i wr => ∃ j : Nat, j ≤ n ∧ i = .int .i64 j ∧ Ext w wr) (fun i _ => n - (intOf i).toNat)
    case atStart => exact ⟨0, by omega, rfl, Ext.refl _⟩
    case round =>
      obtain ⟨j, hj, rfl, hE⟩ := hrel
      have hEs := hE.size
      have r1 : g1 < wr.heap.size := by omega
      have r2 : g2 < wr.heap.size := by omega
      by_cases hlt : j < n
      · have hlt' : (j : Int) < n := by omega
        have y0 := il_get (xs := xs) (k := j * 3) (by have := HL.out; omega)
        have z0 := (hE.cellA (p := ⟨g1, j * 3, none⟩) p1).trans (P2.out _ _ y0)
        have t0 := (hE.cellA (p := ⟨g2, j * 3, none⟩) q1).trans (Q2.out _ _ y0)
        generalize xs[j * 3]'_ = u0 at y0 z0 t0
        clear y0
        have y1 := il_get (xs := xs) (k := j * 3 + 1) (by have := HL.out; omega)
        have z1 := (hE.cellA (p := ⟨g1, j * 3 + 1, none⟩) p1).trans (P2.out _ _ y1)
        have t1 := (hE.cellA (p := ⟨g2, j * 3 + 1, none⟩) q1).trans (Q2.out _ _ y1)
        generalize xs[j * 3 + 1]'_ = u1 at y1 z1 t1
        clear y1
        have y2 := il_get (xs := xs) (k := j * 3 + 2) (by have := HL.out; omega)
        have z2 := (hE.cellA (p := ⟨g1, j * 3 + 2, none⟩) p1).trans (P2.out _ _ y2)
        have t2 := (hE.cellA (p := ⟨g2, j * 3 + 2, none⟩) q1).trans (Q2.out _ _ y2)
        generalize xs[j * 3 + 2]'_ = u2 at y2 z2 t2
        clear y2
        go_wp2
        refine wp_region_xt (by kernel_rfl) (by kernel_rfl) (fun hxc => ?_)
        repeat (first | go_big_quiet_step ((first | (go_at_call 65; exact calls_xt (eqRouteStep_same _ _ _ _)))) | quiet_step ((first | (go_at_call 65; exact calls_xt (eqRouteStep_same _ _ _ _)))))
        refine wpQuiet_nil (forall_xt ?_)
        clear hxc
        intro w1 hx1
        obtain ⟨hc1, hf1⟩ := hx1.cells
        have hz1 := hx1.size
        try simp at hz1
        go_wp2
        go_roundw
        case rel => exact ⟨j + 1, by omega, by go_num, hE.trans hx1⟩
        case measure => simp [intOf]; omega
      · go_wp2
        go_ret
        exact ⟨rfl, hE⟩
  · obtain rfl : n = 0 := by omega
    clear h1 h2 e3 e6 hl HL
    go_enter Tryd.func50, Tryd.ntmps50
    go_wp2
    go_loopw [5] (fun i wr => i = .int .i64 0 ∧ wr = w) (fun i _ => 0)
    case atStart => exact ⟨rfl, rfl⟩
    case round =>
      obtain ⟨rfl, rfl⟩ := hrel
      go_wp2
      go_ret
      exact ⟨rfl, (by repeat (first | exact Ext.refl _ | assumption | refine Ext.alloc ?_ _ | refine Ext.drew ?_ | refine Ext.drewN ?_ _ | refine Ext.setCell ?_ (by first | omega | (dsimp only; omega) | (simp; done) | (simp; omega)) _ | refine Ext.trans ?_ (by assumption)))⟩

theorem szRouteStepS_any (l : Int) {v : Value} {m : Nat} {xs : List Int} (hl : 0 ≤ l ∧ l ≤ 1048576) (w : World) (h : RV w 3 v m xs) :
    Calls Tryd.prog 29 #[v, .int .i64 l] w fun e w' => e = .returned (.int .i64 (if (m : Int) ≤ l then l - m else -1)) ∧ w = w' := by
  obtain ⟨_, a, cap, rfl, c1, c2, _⟩ := h
  have c3 : (m : Int) ≤ 9223372036854775807 := by simp only [maxLen] at c2; omega
  by_cases hm : (m : Int) ≤ l
  · have hm2 : ¬ (l - m < 0) := by omega
    have hw : l - m ≤ 9223372036854775807 := by omega
    rw [if_pos hm]
    go_enter Tryd.func29, Tryd.ntmps29
    go_wp2
    go_ret
    exact ⟨rfl, rfl⟩
  · have hm2 : l - m < 0 := by omega
    have hw : -9223372036854775808 ≤ l - m := by omega
    rw [if_neg hm]
    go_enter Tryd.func29, Tryd.ntmps29
    go_wp2
    go_ret
    exact ⟨rfl, rfl⟩

theorem toRouteStep_any (a b c : Int) (w : World) :
    Calls Tryd.prog 54 #[.agg #[.int .i64 a, .int .i64 b, .int .i64 c]] w fun e w' => e = .returned (.agg #[.int .i64 a, .int .i64 b, .int .i64 c]) ∧ Ext w w' := by
  go_enter Tryd.func54, Tryd.ntmps54
  go_wp2
  refine bodyPost_ret (v := .agg #[.int .i64 a, .int .i64 b, .int .i64 c]) (by simp [results, Tryd.results54, go_sem]) rfl ⟨rfl, ?_⟩
  exact (by repeat (first | exact Ext.refl _ | assumption | refine Ext.alloc ?_ _ | refine Ext.drew ?_ | refine Ext.drewN ?_ _ | refine Ext.setCell ?_ (by first | omega | (dsimp only; omega) | (simp; done) | (simp; omega)) _ | refine Ext.trans ?_ (by assumption)))

theorem info_rs : (Tryd.prog.info? 59).map (fun i => (i.zero, i.size, i.bytes)) = some (some (.agg #[.int .i64 0, .int .i64 0, .int .i64 0]), 3, 24) := by kernel_rfl

set_option maxRecDepth 20000 in
set_option maxHeartbeats 1000000 in
theorem toRouteStepS_any {v : Value} {m : Nat} {xs : List Int} (hm : m ≤ 2000000) (w : World) (h : RV w 3 v m xs) :
    Calls Tryd.prog 37 #[v] w fun e w' => ∃ v', e = .returned v' ∧ w'.ownsRow w.heap.size 59 3 v' m (IL xs) ∧ Ext w w' := by
  obtain ⟨i0, hi, hz0, hz1, hz2⟩ := info_parts info_rs
  obtain ⟨hl, a, cap, rfl, c1, c2, H⟩ := h
  have HH := Lib.hid H
  have HL := Lib.hid hl
  clear H hl
  go_enter Tryd.func37, Tryd.ntmps37
  have hl0 : (madeCells (Value.agg #[.int .i64 0, .int .i64 0, .int .i64 0]).cells (m * 3)).toList.length = m * 3 := by simp [madeCells]
  go_wp2_with (at_make; refine wpList_make_full _ rfl _ _ _ rfl w.heap.size 59 i0 (.agg #[.int .i64 0, .int .i64 0, .int .i64 0]) 3 Tryd.underlying43 hi hz0 hz1 .i64 .i64 _ _ m rfl rfl rfl rfl (by rw [hz2]; omega) (by simp only [maxLen]; omega) (Nat.le_refl _) ?_; intro w0 own0 hg0; generalize (madeCells (Value.agg #[.int .i64 0, .int .i64 0, .int .i64 0]).cells (m * 3)).toList = zs0 at own0 hl0; have HO := Lib.hid own0; clear own0)
  have hx0 : Ext w w0 := Ext.grown (Ext.refl w) hg0 (fun k hk => by cases hk)
  go_loopw [4] (fun i wr => ∃ (j : Nat) (zs : List Value), j ≤ m ∧ i = .int .i64 j ∧ wr.ownsRow w.heap.size 59 3 (.slice (some ⟨w.heap.size, 0, none⟩) m m) m zs ∧ zs.length = m * 3 ∧ CP zs (IL xs) (j * 3) ∧ Ext w wr) (fun i _ => m - (intOf i).toNat)
  case atStart => exact ⟨0, zs0, by omega, rfl, HO.out, hl0, fun j hj => absurd hj (by omega), hx0⟩
  case round =>
    obtain ⟨j, zs, hj, rfl, hown, hzl, hcp, hE⟩ := hrel
    have HW := Lib.hid hown
    have HC := Lib.hid hcp
    have HZ := Lib.hid hzl
    clear hown hcp hzl
    by_cases hlt : j < m
    · have hlt' : (j : Int) < m := by omega
      have y0 := at3_get (xs := xs) (j := j * 3) (by have := HL.out; omega)
      have y1 := at3_get (xs := xs) (j := j * 3 + 1) (by have := HL.out; omega)
      have y2 := at3_get (xs := xs) (j := j * 3 + 2) (by have := HL.out; omega)
      have Y := Lib.hid (And.intro y0 (And.intro y1 y2))
      clear y0 y1 y2
      obtain ⟨b, off, rfl, hbk, hcell⟩ := HH.out (by omega)
      have hbr : b < wr.heap.size := by have := hE.size; omega
      have z0 : wr.cell? ⟨b, off + j * 3, none⟩ = some (.int .i64 (at3 xs (j * 3))) := (hE.cells.1 b (off + (j * 3)) hbk).trans (hcell _ _ (at3_get (by have := HL.out; omega)))
      have z1 : wr.cell? ⟨b, off + j * 3 + 1, none⟩ = some (.int .i64 (at3 xs (j * 3 + 1))) := (hE.cells.1 b (off + (j * 3 + 1)) hbk).trans (hcell _ _ (at3_get (by have := HL.out; omega)))
      have z2 : wr.cell? ⟨b, off + j * 3 + 2, none⟩ = some (.int .i64 (at3 xs (j * 3 + 2))) := (hE.cells.1 b (off + (j * 3 + 2)) hbk).trans (hcell _ _ (at3_get (by have := HL.out; omega)))
      clear hcell
      generalize at3 xs (j * 3) = k0 at *
      generalize at3 xs (j * 3 + 1) = a0 at *
      generalize at3 xs (j * 3 + 2) = b0 at *
      go_wp2_with fail
      refine (toRouteStep_any _ _ _ _).mono ?_
      rintro e w1 ⟨rfl, hx1⟩
      obtain ⟨hc1, hf1⟩ := hx1.cells
      have hz1 := hx1.size
      try simp at hz1
      have HW1 := Lib.hid (own_ext HW.out hx1)
      obtain ⟨u0, q0⟩ := own_at HW1.out HZ.out (k := j * 3) (by omega)
      obtain ⟨u1, q1⟩ := own_at HW1.out HZ.out (k := j * 3 + 1) (by omega)
      obtain ⟨u2, q2⟩ := own_at HW1.out HZ.out (k := j * 3 + 2) (by omega)
      have hfr := HW1.out.frozenAt
      go_wp2
      go_roundw
      case rel =>
        have s0 := World.ownsRow.stored (HW1.out) (j * 3) (.int .i64 k0)
        have s1 := World.ownsRow.stored (s0.1) (j * 3 + 1) (.int .i64 a0)
        have s2 := World.ownsRow.stored (s1.1) (j * 3 + 2) (.int .i64 b0)
        have k0' := CP.snoc HC.out (by have := HZ.out; omega) rfl Y.out.1 (k' := j * 3 + 1) rfl
        have k1' := CP.snoc k0' (by simp only [List.length_set]; have := HZ.out; omega) rfl Y.out.2.1 (k' := j * 3 + 2) rfl
        have k2' := CP.snoc k1' (by simp only [List.length_set]; have := HZ.out; omega) rfl Y.out.2.2 (k' := j * 3 + 3) rfl
        refine ⟨j + 1, _, by omega, by go_num, s2.1, ?_, ?_, ?_⟩
        · simpa using HZ.out
        · rw [show (j + 1) * 3 = j * 3 + 3 by omega]
          exact k2'
        · exact Ext.grown (hE.trans hx1) ((s0.2.trans s1.2).trans s2.2) (fun k hk => by cases hk; exact Nat.le_refl _)
      case measure => simp [intOf]; omega
    · obtain rfl : j = m := by omega
      go_wp2
      go_ret
      refine ⟨_, rfl, ?_, hE⟩
      rw [← CP.full HC.out HZ.out (by rw [il_length]; exact HL.out)]
      exact HW.out

theorem szIntS_any (l : Int) {v : Value} {m : Nat} {xs : List Int} (hl : 0 ≤ l ∧ l ≤ 1048576) (w : World) (h : RV w 1 v m xs) :
    Calls Tryd.prog 28 #[v, .int .i64 l] w fun e w' => e = .returned (.int .i64 (if (m : Int) ≤ l then l - m else -1)) ∧ w = w' := by
  obtain ⟨_, a, cap, rfl, c1, c2, _⟩ := h
  have c3 : (m : Int) ≤ 9223372036854775807 := by simp only [maxLen] at c2; omega
  by_cases hm : (m : Int) ≤ l
  · have hm2 : ¬ (l - m < 0) := by omega
    have hw : l - m ≤ 9223372036854775807 := by omega
    rw [if_pos hm]
    go_enter Tryd.func28, Tryd.ntmps28
    go_wp2
    go_ret
    exact ⟨rfl, rfl⟩
  · have hm2 : l - m < 0 := by omega
    have hw : -9223372036854775808 ≤ l - m := by omega
    rw [if_neg hm]
    go_enter Tryd.func28, Tryd.ntmps28
    go_wp2
    go_ret
    exact ⟨rfl, rfl⟩

theorem steps_slice_arg {w : World} {n : Nat} {u : Value} (hs : Shape Tryd.prog w n 29 [u]) : ∃ (l : Nat) (xs : List Int), RV w 3 u l xs :=
  rv_of_shape (m := 5) Tryd.underlying29 (by kernel_rfl) (by kernel_rfl) (by decide) hs
theorem ints_arg1 {w : World} {n : Nat} {u : Value} (hs : Shape Tryd.prog w n 28 [u]) : ∃ (l : Nat) (xs : List Int), RV w 1 u l xs :=
  rv_of_shape (m := 5) Tryd.underlying28 (by kernel_rfl) (by kernel_rfl) (by decide) hs
set_option maxRecDepth 100000 in
theorem route_arg {w : World} {n : Nat} {a b : Value} (hs : Shape Tryd.prog w n 31 [a, b]) : ∃ (l m : Nat) (ss zs : List Int), RV w 1 a l ss ∧ RV w 3 b m zs := by
  cases n with
  | zero => exact hs.elim
  | succ n =>
    unfold Shape at hs
    rw [Tryd.underlying31] at hs
    obtain ⟨hl, hf⟩ := hs
    have c0 : Tryd.prog.cellsOf 28 = 1 := by kernel_rfl
    have c1 : Tryd.prog.cellsOf 29 = 1 := by kernel_rfl
    have g0 : Shape Tryd.prog w n 28 ([a, b].drop 0 |>.take (Tryd.prog.cellsOf 28)) := hf 0 _ rfl
    have g1 : Shape Tryd.prog w n 29 ([a, b].drop 1 |>.take (Tryd.prog.cellsOf 29)) := hf 1 _ rfl
    rw [c0] at g0
    rw [c1] at g1
    obtain ⟨l, ss, h1⟩ := ints_arg1 g0
    obtain ⟨m, zs, h2⟩ := steps_slice_arg g1
    exact ⟨l, m, ss, zs, h1, h2⟩

set_option maxRecDepth 20000 in
set_option maxHeartbeats 1000000 in
theorem szRoute_any (l : Int) {v u : Value} {m p : Nat} {ss zs : List Int} (hl : 0 ≤ l ∧ l ≤ 1048576) (w : World) (h : RV w 1 v m ss) (k : RV w 3 u p zs) :
    Calls Tryd.prog 10 #[.agg #[v, u], .int .i64 l] w fun e w' => e = .returned (.int .i64 (if (m : Int) + p ≤ l then l - m - p else -1)) ∧ Ext w w' := by
  have HS1 := fun w' (hx : Ext w w') => Lib.hid (szIntS_any l hl w' (h.ext hx))
  have HS2 := fun l hl w' (hx : Ext w w') => Lib.hid (szRouteStepS_any l hl w' (k.ext hx))
  obtain ⟨_, a, cap, rfl, c1, c2, _⟩ := h
  obtain ⟨_, a2, cap2, rfl, c3, c4, _⟩ := k
  by_cases hm : (m : Int) ≤ l
  case neg =>
    rw [if_neg hm] at HS1
    rw [if_neg (by omega)]
    go_enter Tryd.func10, Tryd.ntmps10
    go_wp2_with fail
    refine (HS1 _ (by repeat (first | exact Ext.refl _ | assumption | refine Ext.alloc ?_ _ | refine Ext.drew ?_ | refine Ext.drewN ?_ _ | refine Ext.setCell ?_ (by first | omega | (dsimp only; omega) | (simp; done) | (simp; omega)) _ | refine Ext.trans ?_ (by assumption)))).out.mono ?_
    rintro e w1 ⟨rfl, rfl⟩
    go_wp2
    go_ret
    exact ⟨rfl, (by repeat (first | exact Ext.refl _ | assumption | refine Ext.alloc ?_ _ | refine Ext.drew ?_ | refine Ext.drewN ?_ _ | refine Ext.setCell ?_ (by first | omega | (dsimp only; omega) | (simp; done) | (simp; omega)) _ | refine Ext.trans ?_ (by assumption)))⟩
  rw [if_pos hm] at HS1
  have hm2 : ¬ (l - m < 0) := by omega
  have HS3 := HS2 (l - m) (by omega)
  by_cases hp : (p : Int) ≤ l - m
  · rw [if_pos hp] at HS3
    rw [if_pos (by omega)]
    have hp2 : ¬ (l - m - p < 0) := by omega
    go_enter Tryd.func10, Tryd.ntmps10
    go_wp2_with fail
    refine (HS1 _ (by repeat (first | exact Ext.refl _ | assumption | refine Ext.alloc ?_ _ | refine Ext.drew ?_ | refine Ext.drewN ?_ _ | refine Ext.setCell ?_ (by first | omega | (dsimp only; omega) | (simp; done) | (simp; omega)) _ | refine Ext.trans ?_ (by assumption)))).out.mono ?_
    rintro e w1 ⟨rfl, rfl⟩
    go_wp2_with fail
    refine (HS3 _ (by repeat (first | exact Ext.refl _ | assumption | refine Ext.alloc ?_ _ | refine Ext.drew ?_ | refine Ext.drewN ?_ _ | refine Ext.setCell ?_ (by first | omega | (dsimp only; omega) | (simp; done) | (simp; omega)) _ | refine Ext.trans ?_ (by assumption)))).out.mono ?_
    rintro e w2 ⟨rfl, rfl⟩
    go_wp2
    go_ret
    exact ⟨rfl, (by repeat (first | exact Ext.refl _ | assumption | refine Ext.alloc ?_ _ | refine Ext.drew ?_ | refine Ext.drewN ?_ _ | refine Ext.setCell ?_ (by first | omega | (dsimp only; omega) | (simp; done) | (simp; omega)) _ | refine Ext.trans ?_ (by assumption)))⟩
  · rw [if_neg hp] at HS3
    rw [if_neg (by omega)]
    go_enter Tryd.func10, Tryd.ntmps10
    go_wp2_with fail
    refine (HS1 _ (by repeat (first | exact Ext.refl _ | assumption | refine Ext.alloc ?_ _ | refine Ext.drew ?_ | refine Ext.drewN ?_ _ | refine Ext.setCell ?_ (by first | omega | (dsimp only; omega) | (simp; done) | (simp; omega)) _ | refine Ext.trans ?_ (by assumption)))).out.mono ?_
    rintro e w1 ⟨rfl, rfl⟩
    go_wp2_with fail
    refine (HS3 _ (by repeat (first | exact Ext.refl _ | assumption | refine Ext.alloc ?_ _ | refine Ext.drew ?_ | refine Ext.drewN ?_ _ | refine Ext.setCell ?_ (by first | omega | (dsimp only; omega) | (simp; done) | (simp; omega)) _ | refine Ext.trans ?_ (by assumption)))).out.mono ?_
    rintro e w2 ⟨rfl, rfl⟩
    go_wp2
    go_ret
    exact ⟨rfl, (by repeat (first | exact Ext.refl _ | assumption | refine Ext.alloc ?_ _ | refine Ext.drew ?_ | refine Ext.drewN ?_ _ | refine Ext.setCell ?_ (by first | omega | (dsimp only; omega) | (simp; done) | (simp; omega)) _ | refine Ext.trans ?_ (by assumption)))⟩

set_option maxRecDepth 20000 in
set_option maxHeartbeats 1000000 in
theorem toRoute_any {v u : Value} {m p : Nat} {ss zs : List Int} (hm : m ≤ 2000000) (hp : p ≤ 2000000) (w : World) (h : RV w 1 v m ss) (k : RV w 3 u p zs) :
    Calls Tryd.prog 16 #[.agg #[v, u]] w fun e w' => ∃ v' u', e = .returned (.agg #[v', u']) ∧ w'.ownsRow w.heap.size 3 1 v' m (IL ss) ∧ w'.ownsRow w.heap.size 59 3 u' p (IL zs) ∧ Ext w w' := by
  have H1 := fun w' (hx : Ext w w') => Lib.hid (toIntS_any hm w' (h.ext hx))
  have H2 := fun w' (hx : Ext w w') => Lib.hid (toRouteStepS_any hp w' (k.ext hx))
  obtain ⟨_, a, cap, rfl, c1, c2, _⟩ := h
  obtain ⟨_, a2, cap2, rfl, c3, c4, _⟩ := k
  go_enter Tryd.func16, Tryd.ntmps16
  go_wp2_with fail
  refine (H1 _ (by repeat (first | exact Ext.refl _ | assumption | refine Ext.alloc ?_ _ | refine Ext.drew ?_ | refine Ext.drewN ?_ _ | refine Ext.setCell ?_ (by first | omega | (dsimp only; omega) | (simp; done) | (simp; omega)) _ | refine Ext.trans ?_ (by assumption)))).out.mono ?_
  rintro e w1 ⟨u1, rfl, o1, hx1⟩
  obtain ⟨hc1, hf1⟩ := hx1.cells
  have hz1 := hx1.size
  try simp at hz1
  have hs1_0 := sz3 (a := w.heap.size) (b := w1.heap.size) (by omega)
  obtain ⟨b1, d1, rfl, f1, f2, f3⟩ := own_shape o1
  have O1 := Lib.hid (own_base (base' := w.heap.size + 1 + 1 + 1) o1 (by simp))
  clear f3 o1
  go_wp2_with fail
  refine (H2 _ (by repeat (first | (with_reducible refine Ext.setCell ?_ (by first | (simp; done) | (simp; omega)) _) | with_reducible refine Ext.alloc ?_ _ | with_reducible refine Ext.drew ?_ | with_reducible refine Ext.drewN ?_ _ | with_reducible assumption | with_reducible exact Ext.refl _ | with_reducible refine Ext.trans ?_ (by with_reducible assumption)))).out.mono ?_
  rintro e w2 ⟨u2, rfl, o2, hx2⟩
  obtain ⟨hc2, hf2⟩ := hx2.cells
  have hz2 := hx2.size
  try simp at hz2
  have hs2_0 := sz3 (a := w.heap.size) (b := w2.heap.size) (by omega)
  obtain ⟨b2, d2, rfl, g1, g2, g3⟩ := own_shape o2
  simp only [size_setCell] at o2
  have O2 := Lib.hid o2
  have O3 := Lib.hid (own_ext (own_set O1.out (p := ⟨w.heap.size + 1 + 1, 0, none⟩) (by simp) (.slice b1 m d1)) hx2)
  clear g3 o2 O1
  go_wp2
  refine bodyPost_ret (v := .agg #[.slice b1 m d1, .slice b2 p d2]) (by simp [results, Tryd.results16, go_sem, *]) rfl ?_
  refine ⟨_, _, rfl, own_base (base := w.heap.size + 1 + 1 + 1) ?_ (by omega), own_base (base := w1.heap.size) ?_ (by omega), (by repeat (first | (with_reducible refine Ext.setCell ?_ (by first | (simp; done) | (simp; omega)) _) | with_reducible refine Ext.alloc ?_ _ | with_reducible refine Ext.drew ?_ | with_reducible refine Ext.drewN ?_ _ | with_reducible assumption | with_reducible exact Ext.refl _ | with_reducible refine Ext.trans ?_ (by with_reducible assumption)))⟩
  · repeat (with_reducible refine own_set ?_ (by simp) _)
    exact O3.out
  · repeat (with_reducible refine own_set ?_ (by simp; omega) _)
    exact O2.out

set_option maxRecDepth 20000 in
set_option maxHeartbeats 1000000 in
theorem eqRoute_same {m p b1 b2 b3 b4 : Nat} {v u v' u' : Value} {ss zs : List Int} (hl : ss.length = m * 1) (hm : m ≤ 2000000) (hl' : zs.length = p * 3) (hp : p ≤ 2000000) (w : World)
    (h1 : w.ownsRow b1 3 1 v m (IL ss)) (h2 : w.ownsRow b2 59 3 u p (IL zs)) (h3 : w.ownsRow b3 3 1 v' m (IL ss)) (h4 : w.ownsRow b4 59 3 u' p (IL zs)) :
    Calls Tryd.prog 25 #[.agg #[v, u], .agg #[v', u']] w fun e w' => e = .returned (.bool true) ∧ Ext w w' := by
  have HE1 := fun w' (hx : Ext w w') => Lib.hid (eqIntS_same hl (by omega) w' (own_ext h1 hx) (own_ext h3 hx))
  have HE2 := fun w' (hx : Ext w w') => Lib.hid (eqRouteStepS_same hl' (by omega) w' (own_ext h2 hx) (own_ext h4 hx))
  obtain ⟨a1, cp1, rfl, q1, q2, q3⟩ := own_shape h1
  obtain ⟨a2, cp2, rfl, q4, q5, q6⟩ := own_shape h2
  obtain ⟨a3, cp3, rfl, r1, r2, r3⟩ := own_shape h3
  obtain ⟨a4, cp4, rfl, r4, r5, r6⟩ := own_shape h4
  clear q3 q6 r3 r6 h1 h2 h3 h4
  go_enter Tryd.func25, Tryd.ntmps25
  go_wp2_with fail
  refine (HE1 _ (by repeat (first | exact Ext.refl _ | assumption | refine Ext.alloc ?_ _ | refine Ext.drew ?_ | refine Ext.drewN ?_ _ | refine Ext.setCell ?_ (by first | omega | (dsimp only; omega) | (simp; done) | (simp; omega)) _ | refine Ext.trans ?_ (by assumption)))).out.mono ?_
  rintro e w1 ⟨rfl, hx1⟩
  obtain ⟨hc1, hf1⟩ := hx1.cells
  have hz1 := hx1.size
  try simp at hz1
  have hs1_0 := sz2 (a := w.heap.size) (b := w1.heap.size) (by omega)
  go_wp2_with fail
  refine (HE2 _ (by repeat (first | exact Ext.refl _ | assumption | refine Ext.alloc ?_ _ | refine Ext.drew ?_ | refine Ext.drewN ?_ _ | refine Ext.setCell ?_ (by first | omega | (dsimp only; omega) | (simp; done) | (simp; omega)) _ | refine Ext.trans ?_ (by assumption)))).out.mono ?_
  rintro e w2 ⟨rfl, hx2⟩
  obtain ⟨hc2, hf2⟩ := hx2.cells
  have hz2 := hx2.size
  try simp at hz2
  have hs2_0 := sz2 (a := w.heap.size) (b := w2.heap.size) (by omega)
  go_wp2
  go_ret
  exact ⟨rfl, (by repeat (first | exact Ext.refl _ | assumption | refine Ext.alloc ?_ _ | refine Ext.drew ?_ | refine Ext.drewN ?_ _ | refine Ext.setCell ?_ (by first | omega | (dsimp only; omega) | (simp; done) | (simp; omega)) _ | refine Ext.trans ?_ (by assumption)))⟩

end Go.Proofs.YtgefamclfjoogaaDoor
