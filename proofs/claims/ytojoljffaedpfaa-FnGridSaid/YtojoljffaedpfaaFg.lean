/- The law FnGrid. -/
import Derived.Test.YtojoljffaedpfaaDrH
import Derived.Test.YtojoljffaedpfaaFgL
import Derived.Test.YtojoljffaedpfaaGrdO
import Derived.Deep.RegionHeld3
namespace Go.Proofs.Ytojoljffaedpfaa
open Go.RowKit Go.Lib
set_option linter.unusedVariables false
set_option linter.unusedSimpArgs false

theorem row_far {w W : World} {k : Nat} {o : Obj} (h : w.heap[k]? = some o) (hx : Ext w W) : W.heap[k]? = some o := (hx.heap (Array.getElem?_eq_some_iff.1 h).1).trans h

theorem big_any (v1 v2 : Value) (n1 n2 : Nat) (w : World) (h1 : ∃ a c, v1 = .slice a n1 c ∧ n1 ≤ maxLen) (h2 : ∃ a c, v2 = .slice a n2 c ∧ n2 ≤ maxLen) :
    Calls Try.prog 23 #[v1, v2] w fun e w' => e = .returned (.bool (decide (1048576 < (n1 : Int)) || decide (1048576 - (n1 : Int) < n2))) ∧ Ext w w' := by
  obtain ⟨a1, c1, rfl, k1⟩ := h1
  obtain ⟨a2, c2, rfl, k2⟩ := h2
  have m1 : n1 ≤ 9223372036854775807 := k1
  have m2 : n2 ≤ 9223372036854775807 := k2
  go_enter Try.func23, Try.ntmps23
  by_cases h : (1048576 : Int) < n1
  · go_wp2
    go_ret
    exact ⟨ret_bool (by simp [h]), (by repeat (first | exact Ext.refl _ | assumption | refine Ext.alloc ?_ _ | refine Ext.drew ?_ | refine Ext.drewN ?_ _ | refine Ext.setCell ?_ (by first | omega | (dsimp only; omega) | (simp; done) | (simp; omega)) _ | refine Ext.trans ?_ (by assumption)))⟩
  · go_wp2
    go_ret
    exact ⟨ret_bool (by simp [h]; omega), (by repeat (first | exact Ext.refl _ | assumption | refine Ext.alloc ?_ _ | refine Ext.drew ?_ | refine Ext.drewN ?_ _ | refine Ext.setCell ?_ (by first | omega | (dsimp only; omega) | (simp; done) | (simp; omega)) _ | refine Ext.trans ?_ (by assumption)))⟩

set_option maxRecDepth 20000 in
set_option maxHeartbeats 4000000 in
theorem law_FnGrid (v1 v2 : Value) (n1 n2 : Nat) (w : World) (h1 : BY w.heap.size w v1 n1) (h2 : BY w.heap.size w v2 n2) :
    Calls Try.prog 7 #[v1, v2] w fun e w' => e = .returned (.bool true) ∧ Ext w w' := by
  have hb := big_any v1 v2 n1 n2 w (by obtain ⟨a, c, h, h3, h4, _⟩ := h1; exact ⟨a, c, h, Nat.le_trans h3 h4⟩) (by obtain ⟨a, c, h, h3, h4, _⟩ := h2; exact ⟨a, c, h, Nat.le_trans h3 h4⟩)
  generalize (decide (1048576 < (n1 : Int)) || decide (1048576 - (n1 : Int) < n2)) = big at hb
  have HB := Lib.hid hb
  have HD1 := fun w' (hx : Ext w w') => Lib.hid (drawGridPoints_any v1 n1 w' (h1.later hx))
  have HD2 := fun w' (hx : Ext w w') => Lib.hid (drawNormRoot2_any v2 n2 w' (h2.later hx))
  obtain ⟨a1, c1, rfl⟩ := h1.noarg
  obtain ⟨a2, c2, rfl⟩ := h2.noarg
  clear h1 h2 hb
  go_enter Try.func7, Try.ntmps7
  go_wp2_with fail
  refine HB.out.mono ?_
  rintro e w1 ⟨rfl, hx1⟩
  cases big
  case true =>
    go_wp2
    go_ret
    exact ⟨rfl, hx1⟩
  go_wp2_with fail
  refine (HD1 w1 hx1).out.mono ?_
  rintro e w2 ⟨lo, hi, den, lo', hi', den', rfl, hx2⟩
  have X2 : Hid (Ext w w2) := hx1.trans hx2
  clear hx1 hx2 HD1 HB
  have HS := fun w => Lib.hid (s_gridPoints_any lo hi den lo' hi' den' w)
  have HI := fun w => Lib.hid (gridPoints_any lo hi den lo' hi' den' w)
  have HN := fun p q w => Lib.hid (nearest_any lo hi den lo' hi' den' p q w)
  have HM := fun p q w => Lib.hid (s_nearest_any lo hi den lo' hi' den' p q w)
  have HGF : Hid (gpOk lo hi den lo' hi' den' = true → GF lo hi den lo' hi' den' (fl2 (gpV lo hi den lo' hi' den')) (gpV lo hi den lo' hi' den').length) := gp_GF
  have HPL : Hid (gpOk lo hi den lo' hi' den' = true → PL (fl2 (gpV lo hi den lo' hi' den')) (gpV lo hi den lo' hi' den').length) := gp_PL
  have HNO : Hid (gpOk lo hi den lo' hi' den' = false → (gpV lo hi den lo' hi' den').length = 0) := fun h => by rw [gpV_no h]; rfl
  have hlen := fl2_len (gpV lo hi den lo' hi' den')
  have hle := gp_len lo hi den lo' hi' den'
  generalize fl2 (gpV lo hi den lo' hi' den') = xs at *
  generalize (gpV lo hi den lo' hi' den').length = n at *
  generalize gpOk lo hi den lo' hi' den' = g at *
  have HLEN := Lib.hid hlen
  clear hlen
  go_wp2_with fail
  refine (HI _).out.mono ?_
  rintro e w3 ⟨vL, rfl, o3, hx3⟩
  have hA : w3.heap[w2.heap.size]? = some (.cells #[.int .i64 lo, .int .i64 hi, .int .i64 den] 27 (0, 0)) := (hx3.heap (by simp; omega)).trans (heap_alloc_lt (heap_alloc_new _ _))
  have hB : w3.heap[w2.heap.size + 1]? = some (.cells #[.int .i64 lo', .int .i64 hi', .int .i64 den'] 27 (0, 0)) := (hx3.heap (by simp)).trans (heap_alloc_at _ _ _ (by simp))
  have X3 : Hid (Ext w w3) := ((X2.out.alloc _).alloc _).trans hx3
  have HRV := RV.own o3 HLEN.out
  obtain ⟨_, a, c, rfl, hc1', hc2', HHo⟩ := HRV
  have HH := Lib.hid HHo
  clear o3 HHo hx3 HI X2
  have zA := fun k => cell_of_row _ _ k _ _ _ hA
  have lA := (Array.getElem?_eq_some_iff.1 hA).1
  have zB := fun k => cell_of_row _ _ k _ _ _ hB
  have lB := (Array.getElem?_eq_some_iff.1 hB).1
  go_wp2_with fail
  refine (HS _).out.mono ?_
  rintro e w4 ⟨vS, rfl, o4, hx4⟩
  obtain ⟨aS, cS, rfl, q1, q2, q3⟩ := own_shape o4
  have X4 : Hid (Ext w w4) := X3.out.trans hx4
  have hx34 := Lib.hid hx4
  clear zA lA zB lB
  clear o4 q1 q2 q3 HS
  have hA := row_far hA hx4
  have zA := fun k => cell_of_row _ _ k _ _ _ hA
  have lA := (Array.getElem?_eq_some_iff.1 hA).1
  have hB := row_far hB hx4
  have zB := fun k => cell_of_row _ _ k _ _ _ hB
  have lB := (Array.getElem?_eq_some_iff.1 hB).1
  clear hx4
  go_wp2_with fail
  refine (HD2 _ X4.out).out.mono ?_
  rintro e w5 ⟨P, Q, rfl, bP, bQ, hx5⟩
  unfold B7 at bP bQ
  have X5 : Hid (Ext w w5) := X4.out.trans hx5
  have hx35 := Lib.hid (hx34.out.trans hx5)
  clear zA lA zB lB
  clear HD2
  have hA := row_far hA hx5
  have zA := fun k => cell_of_row _ _ k _ _ _ hA
  have lA := (Array.getElem?_eq_some_iff.1 hA).1
  have hB := row_far hB hx5
  have zB := fun k => cell_of_row _ _ k _ _ _ hB
  have lB := (Array.getElem?_eq_some_iff.1 hB).1
  clear hx5 hx34
  have HR1 := fun w => Lib.hid (s_inRange_any P Q lo hi den w)
  have HR2 := fun w => Lib.hid (s_inRange_any P (-Q) lo' hi' den' w)
  go_wp2_with fail
  refine (HR1 _).out.mono ?_
  rintro e w6 ⟨rfl, hx6⟩
  have hX : w6.heap[w5.heap.size]? = some (.cells #[.int .i64 P, .int .i64 Q] 34 (0, 0)) := (hx6.heap (by simp; omega)).trans (heap_alloc_lt (heap_alloc_new _ _))
  have hY : w6.heap[w5.heap.size + 1]? = some (.cells #[.int .i64 P, .int .i64 (-Q)] 34 (0, 0)) := (hx6.heap (by simp)).trans (heap_alloc_at _ _ _ (by simp))
  have X6 : Hid (Ext w w6) := ((X5.out.alloc _).alloc _).trans hx6
  have hx36 := Lib.hid (((hx35.out.alloc _).alloc _).trans hx6)
  clear zA lA zB lB
  clear HR1
  have hA := (hx6.heap (k := w2.heap.size) (by simp; have := (Array.getElem?_eq_some_iff.1 hA).1; omega)).trans (heap_alloc_lt (heap_alloc_lt hA))
  have hB := (hx6.heap (k := w2.heap.size + 1) (by simp; have := (Array.getElem?_eq_some_iff.1 hB).1; omega)).trans (heap_alloc_lt (heap_alloc_lt hB))
  have zA := fun k => cell_of_row _ _ k _ _ _ hA
  have lA := (Array.getElem?_eq_some_iff.1 hA).1
  have zB := fun k => cell_of_row _ _ k _ _ _ hB
  have lB := (Array.getElem?_eq_some_iff.1 hB).1
  have zX := fun k => cell_of_row _ _ k _ _ _ hX
  have lX := (Array.getElem?_eq_some_iff.1 hX).1
  have zY := fun k => cell_of_row _ _ k _ _ _ hY
  have lY := (Array.getElem?_eq_some_iff.1 hY).1
  clear hx6 hx35
  go_wp2_with fail
  refine (HR2 _).out.mono ?_
  rintro e w7 ⟨rfl, hx7⟩
  have X7 : Hid (Ext w w7) := X6.out.trans hx7
  have hx37 := Lib.hid (hx36.out.trans hx7)
  clear zA lA zB lB zX lX zY lY
  clear HR2 hY
  have hA := row_far hA hx7
  have zA := fun k => cell_of_row _ _ k _ _ _ hA
  have lA := (Array.getElem?_eq_some_iff.1 hA).1
  have hB := row_far hB hx7
  have zB := fun k => cell_of_row _ _ k _ _ _ hB
  have lB := (Array.getElem?_eq_some_iff.1 hB).1
  have hX := row_far hX hx7
  have zX := fun k => cell_of_row _ _ k _ _ _ hX
  have lX := (Array.getElem?_eq_some_iff.1 hX).1
  clear hx7 hx36
  have HA := Lib.hid hA
  have HB := Lib.hid hB
  have HX := Lib.hid hX
  clear hA hB hX
  have HD : Hid (g = true → (R2 P Q && Rng lo hi den) = true → (R2 P (-Q) && Rng lo' hi' den') = true → lsJ P Q xs n = (inV P Q lo hi den && inV P (-Q) lo' hi' den')) := fun hg => (HGF.out hg).d P Q
  generalize inV P Q lo hi den = one at *
  generalize inV P (-Q) lo' hi' den' = three at *
  generalize (R2 P Q && Rng lo hi den) = two at *
  generalize (R2 P (-Q) && Rng lo' hi' den') = four at *
  have HN1 := fun w => Lib.hid (HN P Q w).out
  have HM1 := fun w => Lib.hid (HM P Q w).out
  generalize npOk lo hi den lo' hi' den' P Q = no at *
  generalize npV lo hi den lo' hi' den' P Q = nv at *
  clear HN HM
  go_wp2
  go_loopw [17, 82] (fun ls i wr => ∃ j : Nat, j ≤ n ∧ i = .int .i64 j ∧ ls = .bool (lsJ P Q xs j) ∧ Ext w7 wr) (fun _ i _ => n - (intOf i).toNat)
  case atStart => exact ⟨0, by omega, rfl, rfl, Ext.refl _⟩
  case round =>
    obtain ⟨j, hj, rfl, rfl, hE⟩ := hrel
    have HE := Lib.hid hE
    have hA := row_far HA.out hE
    have hB := row_far HB.out hE
    have hX := row_far HX.out hE
    clear zA lA zB lB zX lX
    have zA := fun k => cell_of_row _ _ k _ _ _ hA
    have lA := (Array.getElem?_eq_some_iff.1 hA).1
    have zB := fun k => cell_of_row _ _ k _ _ _ hB
    have lB := (Array.getElem?_eq_some_iff.1 hB).1
    have zX := fun k => cell_of_row _ _ k _ _ _ hX
    have lX := (Array.getElem?_eq_some_iff.1 hX).1
    by_cases hlt : j < n
    · have hlt' : (j : Int) < n := by omega
      have hg : g = true := by
        cases g
        · have := HNO.out rfl; omega
        · rfl
      have hgf := HGF.out hg
      have hpl := HPL.out hg
      obtain ⟨b0, off0, rfl, hbk0, hcell0⟩ := HH.out (by omega)
      have h3r := hx37.out.trans hE
      have lb : b0 < wr.heap.size := by have := h3r.size; omega
      have hl := HLEN.out
      have y0 := (h3r.cells.1 b0 (off0 + j * 2) hbk0).trans (hcell0 _ _ (at3_get (by omega)))
      have y1 := (h3r.cells.1 b0 (off0 + (j * 2 + 1)) hbk0).trans (hcell0 _ _ (at3_get (by omega)))
      rw [← Nat.add_assoc] at y1
      have hxb := hpl.b j hlt
      obtain ⟨k1, k2⟩ := hgf.a j hlt
      obtain ⟨k3, k4⟩ := hgf.b j hlt
      have HL : Hid (lsJ P Q xs (j + 1) = (lsJ P Q xs j || (at3 xs (j * 2) == P && at3 xs (j * 2 + 1) == Q))) := rfl
      have HPREV : Hid (0 < j → ∃ u1 u2 : Int, (∀ W, Ext w3 W → W.cell? ⟨b0, off0 + (j - 1) * 2, none⟩ = some (.int .i64 u1) ∧ W.cell? ⟨b0, off0 + (j - 1) * 2 + 1, none⟩ = some (.int .i64 u2)) ∧ cmpV u1 u2 (at3 xs (j * 2)) (at3 xs (j * 2 + 1)) = -1 ∧ (R2 u1 u2 && R2 (at3 xs (j * 2)) (at3 xs (j * 2 + 1))) = true) := fun h0 => by
        obtain ⟨m1, m2⟩ := hgf.c (j - 1) j (by omega) hlt
        refine ⟨_, _, fun W hW => ?_, m1, m2⟩
        refine ⟨(hW.cells.1 _ _ hbk0).trans (hcell0 _ _ (at3_get (by omega))), ?_⟩
        rw [Nat.add_assoc]
        exact (hW.cells.1 _ _ hbk0).trans (hcell0 _ _ (at3_get (by omega)))
      generalize at3 xs (j * 2) = x1 at *
      generalize at3 xs (j * 2 + 1) = x2 at *
      generalize lsJ P Q xs j = lj at *
      have HI1 : ∀ w, Hid (Calls Try.prog 31 #[.agg #[.int .i64 x1, .int .i64 x2], .agg #[.int .i64 lo, .int .i64 hi, .int .i64 den]] w fun e w' => e = .returned (.tuple #[.bool true, .bool true]) ∧ Ext w w') := fun w => by
        have := inRange_any x1 x2 lo hi den w
        rw [k1, k2] at this
        exact this
      have HI2 : ∀ w, Hid (Calls Try.prog 31 #[.agg #[.int .i64 x1, .int .i64 (-x2)], .agg #[.int .i64 lo', .int .i64 hi', .int .i64 den']] w fun e w' => e = .returned (.tuple #[.bool true, .bool true]) ∧ Ext w w') := fun w => by
        have := inRange_any x1 (-x2) lo' hi' den' w
        rw [k3, k4] at this
        exact this
      clear k1 k2 k3 k4 hgf hpl hcell0 hl HN1 HM1 HD hg HGF HPL HNO
      go_wp2_with fail
      refine (HI1 _).out.mono ?_
      rintro e w8 ⟨rfl, hx8⟩
      have hZ : w8.heap[wr.heap.size]? = some (.cells #[.int .i64 x1, .int .i64 x2] 34 (0, 0)) := (hx8.heap (by simp)).trans (heap_alloc_new _ _)
      have hA := (hx8.heap (k := w2.heap.size) (by simp; omega)).trans (heap_alloc_lt hA)
      have hB := (hx8.heap (k := w2.heap.size + 1) (by simp; omega)).trans (heap_alloc_lt hB)
      have hX := (hx8.heap (k := w5.heap.size) (by simp; omega)).trans (heap_alloc_lt hX)
      have hx38 := Lib.hid ((h3r.alloc _).trans hx8)
      have HE8 : Hid (Ext w7 w8) := (HE.out.alloc _).trans hx8
      clear zA lA zB lB zX lX
      have zA := fun k => cell_of_row _ _ k _ _ _ hA
      have lA := (Array.getElem?_eq_some_iff.1 hA).1
      have zB := fun k => cell_of_row _ _ k _ _ _ hB
      have lB := (Array.getElem?_eq_some_iff.1 hB).1
      have zX := fun k => cell_of_row _ _ k _ _ _ hX
      have lX := (Array.getElem?_eq_some_iff.1 hX).1
      have zZ := fun k => cell_of_row _ _ k _ _ _ hZ
      have lZ := (Array.getElem?_eq_some_iff.1 hZ).1
      clear hx8 HI1 y0 y1
      go_wp2_with fail
      refine (HI2 _).out.mono ?_
      rintro e w9 ⟨rfl, hx9⟩
      have hx39 := Lib.hid (hx38.out.trans hx9)
      have HE9 : Hid (Ext w7 w9) := HE8.out.trans hx9
      clear zA lA zB lB zX lX zZ lZ
      have hA := row_far hA hx9
      have zA := fun k => cell_of_row _ _ k _ _ _ hA
      have lA := (Array.getElem?_eq_some_iff.1 hA).1
      have hB := row_far hB hx9
      have zB := fun k => cell_of_row _ _ k _ _ _ hB
      have lB := (Array.getElem?_eq_some_iff.1 hB).1
      have hX := row_far hX hx9
      have zX := fun k => cell_of_row _ _ k _ _ _ hX
      have lX := (Array.getElem?_eq_some_iff.1 hX).1
      have hZ := row_far hZ hx9
      have zZ := fun k => cell_of_row _ _ k _ _ _ hZ
      have lZ := (Array.getElem?_eq_some_iff.1 hZ).1
      clear hx9 HI2
      by_cases h0 : 0 < j
      · have h0' : (0 : Int) < j := by omega
        obtain ⟨u1, u2, hu, m1, m2⟩ := HPREV.out h0
        obtain ⟨y2, y3⟩ := hu w9 hx39.out
        have lb9 : b0 < w9.heap.size := by have := hx39.out.size; omega
        have HCM : ∀ w, Hid (Calls Try.prog 32 #[.agg #[.int .i64 u1, .int .i64 u2], .agg #[.int .i64 x1, .int .i64 x2]] w fun e w' => e = .returned (.tuple #[.int .i64 (-1), .bool true]) ∧ Ext w w') := fun w => by
          have := compareRoot2_pub u1 u2 x1 x2 w
          rw [m1, m2] at this
          exact this
        have hjn : ((j : Int) - 1).toNat = j - 1 := by omega
        clear m1 m2 hu HPREV
        go_wp2
        refine wp_region_xt (by kernel_rfl) (by kernel_rfl) (fun hxc => ?_)
        repeat (first | go_big_quiet_step ((first | (go_at_call 32; exact calls_xt ((HCM _).out)))) | quiet_step ((first | (go_at_call 32; exact calls_xt ((HCM _).out)))))
        refine wpQuiet_nil (forall_xt ?_)
        clear hxc
        intro w10 hx10
        obtain ⟨hc10, hf10⟩ := hx10.cells
        have hz10 := hx10.size
        try simp at hz10
        have HE10 : Hid (Ext w7 w10) := HE9.out.trans hx10
        clear zA lA zB lB zX lX zZ lZ
        have hA := row_far hA hx10
        have zA := fun k => cell_of_row _ _ k _ _ _ hA
        have lA := (Array.getElem?_eq_some_iff.1 hA).1
        have hB := row_far hB hx10
        have zB := fun k => cell_of_row _ _ k _ _ _ hB
        have lB := (Array.getElem?_eq_some_iff.1 hB).1
        have hX := row_far hX hx10
        have zX := fun k => cell_of_row _ _ k _ _ _ hX
        have lX := (Array.getElem?_eq_some_iff.1 hX).1
        have hZ := row_far hZ hx10
        have zZ := fun k => cell_of_row _ _ k _ _ _ hZ
        have lZ := (Array.getElem?_eq_some_iff.1 hZ).1
        clear hx10 y2 y3 HCM
        cases lj
        · go_wp2
          all_goals
            go_roundw
            case rel => exact ⟨j + 1, by omega, by go_num, by rw [HL.out]; first | (simp [‹x1 = P›, ‹x2 = Q›]; done) | (simp [‹¬x1 = P›]; done) | (simp [‹¬x2 = Q›]; done), HE10.out⟩
            case measure => simp [intOf]; omega
        · go_wp2
          go_roundw
          case rel => exact ⟨j + 1, by omega, by go_num, by rw [HL.out]; rfl, HE10.out⟩
          case measure => simp [intOf]; omega
      · have h0' : ¬ (0 : Int) < j := by omega
        clear HPREV
        cases lj
        · go_wp2
          all_goals
            go_roundw
            case rel => exact ⟨j + 1, by omega, by go_num, by rw [HL.out]; first | (simp [‹x1 = P›, ‹x2 = Q›]; done) | (simp [‹¬x1 = P›]; done) | (simp [‹¬x2 = Q›]; done), HE9.out⟩
            case measure => simp [intOf]; omega
        · go_wp2
          go_roundw
          case rel => exact ⟨j + 1, by omega, by go_num, by rw [HL.out]; rfl, HE9.out⟩
          case measure => simp [intOf]; omega
    · obtain rfl : j = n := by omega
      have XR : Hid (Ext w wr) := X7.out.trans hE
      have hD := HD.out
      clear HD HGF HPL HNO HH HLEN hle
      generalize lsJ P Q xs j = lj at *
      have hcase : g = false ∨ (g = true ∧ two = false) ∨ (g = true ∧ two = true ∧ four = false) ∨ (g = true ∧ two = true ∧ four = true ∧ lj = (one && three)) := by
        cases g
        · exact .inl rfl
        · cases two
          · exact .inr (.inl ⟨rfl, rfl⟩)
          · cases four
            · exact .inr (.inr (.inl ⟨rfl, rfl, rfl⟩))
            · exact .inr (.inr (.inr ⟨rfl, rfl, rfl, hD rfl rfl rfl⟩))
      clear hD
      obtain ⟨nv1, nv2⟩ := nv
      rcases hcase with rfl | ⟨rfl, rfl⟩ | ⟨rfl, rfl, rfl⟩ | ⟨rfl, rfl, rfl, rfl⟩
      case' inr.inr.inr => cases one <;> cases three
      all_goals
        go_wp2_with fail
        refine (HN1 _).out.mono ?_
        rintro e wA ⟨rfl, hxA⟩
        have XA : Hid (Ext w wA) := XR.out.trans hxA
        clear zA lA zB lB zX lX
        have hA := row_far hA hxA
        have zA := fun k => cell_of_row _ _ k _ _ _ hA
        have lA := (Array.getElem?_eq_some_iff.1 hA).1
        have hB := row_far hB hxA
        have zB := fun k => cell_of_row _ _ k _ _ _ hB
        have lB := (Array.getElem?_eq_some_iff.1 hB).1
        have hX := row_far hX hxA
        have zX := fun k => cell_of_row _ _ k _ _ _ hX
        have lX := (Array.getElem?_eq_some_iff.1 hX).1
        clear hxA
        go_wp2_with fail
        refine (HM1 _).out.mono ?_
        rintro e wB ⟨rfl, hxB⟩
        have XB : Hid (Ext w wB) := (XA.out.alloc _).trans hxB
        have hN : wB.heap[wA.heap.size]? = some (.cells #[.int .i64 nv1, .int .i64 nv2] 34 (0, 0)) := (hxB.heap (by simp)).trans (heap_alloc_new _ _)
        clear zA lA zB lB zX lX
        have zN := fun k => cell_of_row _ _ k _ _ _ hN
        have lN := (Array.getElem?_eq_some_iff.1 hN).1
        clear hxB
        go_wp2
        go_ret
        exact ⟨by first | rfl | simp, XB.out.alloc _⟩

theorem law_FnGrid_c (v1 v2 : Value) {k1 k2 : Nat} {w0 : World} (s1 : Shape Try.prog w0 k1 46 v1.cells.toList) (s2 : Shape Try.prog w0 k2 46 v2.cells.toList) (w : World) (hw : w0 = w := by rfl) (c1 : v1.cells = #[v1] := by rfl) (c2 : v2.cells = #[v2] := by rfl) :
    Calls Try.prog 7 #[v1, v2] w fun e w' => e = .returned (.bool true) ∧ Ext w w' := by
  subst hw
  rw [c1] at s1
  rw [c2] at s2
  obtain ⟨n1, h1⟩ := by_of_shape Try.underlying46 Try.underlying5 (by kernel_rfl) s1
  obtain ⟨n2, h2⟩ := by_of_shape Try.underlying46 Try.underlying5 (by kernel_rfl) s2
  exact law_FnGrid v1 v2 n1 n2 w0 h1 h2

end Go.Proofs.Ytojoljffaedpfaa
