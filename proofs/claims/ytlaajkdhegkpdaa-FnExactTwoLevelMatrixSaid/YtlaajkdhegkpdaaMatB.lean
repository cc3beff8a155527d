/- Matrices with up to two million cells: equality, marks. -/
import Derived.Test.YtlaajkdhegkpdaaMat
import Derived.Test.YtlaajkdhegkpdaaWro
namespace Go.Proofs.Ytlaajkdhegkpdaa
open Go.RowKit Go.Lib
set_option linter.unusedVariables false
set_option linter.unusedSimpArgs false


set_option maxHeartbeats 1000000 in
theorem markDyadicS_big {n b : Nat} {v : Value} {ys : List Value} (hl : ys.length = n * 5) (hn : n ≤ 2000000) (m : Int) (hm : 0 ≤ m ∧ m ≤ 100000000) (w : World) (h : w.ownsRow b 44 5 v n ys) :
    Calls Try.prog 18 #[v, .int .i64 m] w fun e w' => e = .returned (.int .i64 (m + n * 5)) ∧ w'.ownsRow b 44 5 v n (IL (marks m (n * 5))) ∧ w.grownBy w' v.ownBlock := by
  obtain ⟨a, c, rfl, e1, e2, e3⟩ := own_shape h
  by_cases hp : 0 < n
  · obtain ⟨g, rfl, _, p1, p2, p3⟩ := e3 hp
    have HO := Lib.hid h
    have HL := Lib.hid hl
    clear p2 p3 h e3 hl
    go_enter Try.func18, Try.ntmps18
    go_wp2
    go_loopw [1, 5] (fun k i wr => ∃ (j : Nat) (zs : List Value), j ≤ n ∧ i = .int .i64 j ∧ k = .int .i64 (m + j * 5) ∧ wr.ownsRow b 44 5 (.slice (some ⟨g, 0, none⟩) n c) n zs ∧ zs.length = n * 5 ∧ MK zs m (j * 5) ∧ w.grownBy wr (some g)) (fun _ i _ => n - (intOf i).toNat)
    case atStart => exact ⟨0, ys, by omega, rfl, by simp, HO.out, HL.out, MK.zero _ _ _, World.grownBy.refl _ _⟩
    case round =>
      obtain ⟨j, zs, hj, rfl, rfl, hown, hzl, hmk, hgr⟩ := hrel
      have HW := Lib.hid hown
      have HM := Lib.hid hmk
      have HZ := Lib.hid hzl
      have HG := Lib.hid hgr
      clear hown hmk hzl hgr
      by_cases hlt : j < n
      · have hlt' : (j : Int) < n := by omega
        obtain ⟨u0, z0⟩ := own_at HW.out HZ.out (k := j * 5) (by omega)
        obtain ⟨u1, z1⟩ := own_at HW.out HZ.out (k := j * 5 + 1) (by omega)
        obtain ⟨u2, z2⟩ := own_at HW.out HZ.out (k := j * 5 + 2) (by omega)
        obtain ⟨u3, z3⟩ := own_at HW.out HZ.out (k := j * 5 + 3) (by omega)
        obtain ⟨u4, z4⟩ := own_at HW.out HZ.out (k := j * 5 + 4) (by omega)
        have hfr := HW.out.frozenAt
        go_wp2
        go_roundw
        case rel =>
          have s0 := World.ownsRow.stored (HW.out) (j * 5) (.int .i64 (m + j * 5))
          have s1 := World.ownsRow.stored (s0.1) (j * 5 + 1) (.int .i64 (m + j * 5 + 1))
          have s2 := World.ownsRow.stored (s1.1) (j * 5 + 2) (.int .i64 (m + j * 5 + 1 + 1))
          have s3 := World.ownsRow.stored (s2.1) (j * 5 + 3) (.int .i64 (m + j * 5 + 1 + 1 + 1))
          have s4 := World.ownsRow.stored (s3.1) (j * 5 + 4) (.int .i64 (m + j * 5 + 1 + 1 + 1 + 1))
          have k0 : MK (zs.set (j * 5) (.int .i64 (m + j * 5))) m (j * 5 + 1) := MK.snoc (HM.out) (by have := HZ.out; omega) rfl (by omega) rfl
          have k1 : MK ((zs.set (j * 5) (.int .i64 (m + j * 5))).set (j * 5 + 1) (.int .i64 (m + j * 5 + 1))) m (j * 5 + 2) := MK.snoc (k0) (by simp only [List.length_set]; have := HZ.out; omega) rfl (by omega) rfl
          have k2 : MK (((zs.set (j * 5) (.int .i64 (m + j * 5))).set (j * 5 + 1) (.int .i64 (m + j * 5 + 1))).set (j * 5 + 2) (.int .i64 (m + j * 5 + 1 + 1))) m (j * 5 + 3) := MK.snoc (k1) (by simp only [List.length_set]; have := HZ.out; omega) rfl (by omega) rfl
          have k3 : MK ((((zs.set (j * 5) (.int .i64 (m + j * 5))).set (j * 5 + 1) (.int .i64 (m + j * 5 + 1))).set (j * 5 + 2) (.int .i64 (m + j * 5 + 1 + 1))).set (j * 5 + 3) (.int .i64 (m + j * 5 + 1 + 1 + 1))) m (j * 5 + 4) := MK.snoc (k2) (by simp only [List.length_set]; have := HZ.out; omega) rfl (by omega) rfl
          have k4 : MK (((((zs.set (j * 5) (.int .i64 (m + j * 5))).set (j * 5 + 1) (.int .i64 (m + j * 5 + 1))).set (j * 5 + 2) (.int .i64 (m + j * 5 + 1 + 1))).set (j * 5 + 3) (.int .i64 (m + j * 5 + 1 + 1 + 1))).set (j * 5 + 4) (.int .i64 (m + j * 5 + 1 + 1 + 1 + 1))) m (j * 5 + 5) := MK.snoc (k3) (by simp only [List.length_set]; have := HZ.out; omega) rfl (by omega) rfl
          refine ⟨j + 1, _, by omega, by go_num, by simp; omega, s4.1, ?_, ?_, ?_⟩
          · simpa using HZ.out
          · rw [show (j + 1) * 5 = j * 5 + 5 by omega]
            exact k4
          · exact (((((HG.out.trans s0.2).trans s1.2).trans s2.2).trans s3.2).trans s4.2)
        case measure => simp [intOf]; omega
      · obtain rfl : j = n := by omega
        go_wp2
        go_ret
        refine ⟨rfl, ?_, HG.out⟩
        rw [← MK.full HM.out HZ.out]
        exact HW.out
  · obtain rfl : n = 0 := by omega
    have hys : ys = [] := List.eq_nil_of_length_eq_zero (by simpa using hl)
    subst hys
    have HO := Lib.hid h
    clear h e3 hl
    go_enter Try.func18, Try.ntmps18
    go_wp2
    go_loopw [1, 5] (fun k i wr => i = .int .i64 0 ∧ k = .int .i64 m ∧ wr = w) (fun _ _ _ => 0)
    case atStart => exact ⟨rfl, rfl, rfl⟩
    case round =>
      obtain ⟨rfl, rfl, rfl⟩ := hrel
      go_wp2
      go_ret
      exact ⟨by simp, by simpa [marks, IL] using HO.out, World.grownBy.refl _ _⟩

theorem eqMatrix_big (r c : Int) {n b1 b2 : Nat} {v1 v2 : Value} {xs : List Int} (hl : xs.length = n * 5) (hn : n ≤ 2000000) (w : World) (h1 : w.ownsRow b1 44 5 v1 n (IL xs)) (h2 : w.ownsRow b2 44 5 v2 n (IL xs)) :
    Calls Try.prog 7 #[.agg #[.int .i64 r, .int .i64 c, v1], .agg #[.int .i64 r, .int .i64 c, v2]] w fun e w' => e = .returned (.bool true) ∧ Ext w w' := by
  have HE := fun w' (hx : Ext w w') => Lib.hid (eqDyadicS_same hl (by omega) w' (own_ext h1 hx) (own_ext h2 hx))
  obtain ⟨a1, cp1, rfl, q1, q2, q3⟩ := own_shape h1
  obtain ⟨a2, cp2, rfl, q4, q5, q6⟩ := own_shape h2
  clear q3 q6 h1 h2
  go_enter Try.func7, Try.ntmps7
  go_wp2_with fail
  refine (HE _ (by repeat (first | exact Ext.refl _ | assumption | refine Ext.alloc ?_ _ | refine Ext.drew ?_ | refine Ext.drewN ?_ _ | refine Ext.setCell ?_ (by first | omega | (dsimp only; omega) | (simp; done) | (simp; omega)) _ | refine Ext.trans ?_ (by assumption)))).out.mono ?_
  rintro e w1 ⟨rfl, hx1⟩
  obtain ⟨hc1, hf1⟩ := hx1.cells
  have hz1 := hx1.size
  try simp at hz1
  have hs1_0 := sz2 (a := w.heap.size) (b := w1.heap.size) (by omega)
  go_wp2
  go_ret
  exact ⟨rfl, (by repeat (first | exact Ext.refl _ | assumption | refine Ext.alloc ?_ _ | refine Ext.drew ?_ | refine Ext.drewN ?_ _ | refine Ext.setCell ?_ (by first | omega | (dsimp only; omega) | (simp; done) | (simp; omega)) _ | refine Ext.trans ?_ (by assumption)))⟩

/-- marking writes the cells alone: what the walk gives is the own row with marks, all else as it was -/
theorem heldMatrix_big (r c : Int) {n b : Nat} {v : Value} (hn : n ≤ 2000000) (m : Int) (hm : 0 ≤ m ∧ m ≤ 1000000) (w : World) (h : w.ownsRow b 44 5 v n (IL (marks m (n * 5)))) :
    Calls Try.prog 9 #[.agg #[.int .i64 r, .int .i64 c, v], .int .i64 m] w fun e w' => e = .returned (.int .i64 (m + n * 5)) ∧ Ext w w' := by
  have HE := fun w' (hx : Ext w w') => Lib.hid (heldDyadicS_any (n := n) (v := v) (by omega) m hm w' (own_ext h hx))
  obtain ⟨a1, cp1, rfl, q1, q2, q3⟩ := own_shape h
  clear q3 h
  go_enter Try.func9, Try.ntmps9
  go_wp2_with fail
  refine (HE _ (by repeat (first | exact Ext.refl _ | assumption | refine Ext.alloc ?_ _ | refine Ext.drew ?_ | refine Ext.drewN ?_ _ | refine Ext.setCell ?_ (by first | omega | (dsimp only; omega) | (simp; done) | (simp; omega)) _ | refine Ext.trans ?_ (by assumption)))).out.mono ?_
  rintro e w1 ⟨rfl, rfl⟩
  go_wp2
  go_ret
  exact ⟨rfl, (by repeat (first | exact Ext.refl _ | assumption | refine Ext.alloc ?_ _ | refine Ext.drew ?_ | refine Ext.drewN ?_ _ | refine Ext.setCell ?_ (by first | omega | (dsimp only; omega) | (simp; done) | (simp; omega)) _ | refine Ext.trans ?_ (by assumption)))⟩

theorem markMatrix_big (r c : Int) {n b : Nat} {v : Value} {ys : List Value} (hl : ys.length = n * 5) (hn : n ≤ 2000000) (m : Int) (hm : 0 ≤ m ∧ m ≤ 100000000) (w : World) (h : w.ownsRow b 44 5 v n ys) :
    Calls Try.prog 8 #[.agg #[.int .i64 r, .int .i64 c, v], .int .i64 m] w fun e w' => e = .returned (.int .i64 (m + n * 5)) ∧ w'.ownsRow b 44 5 v n (IL (marks m (n * 5))) ∧ (w.alloc (.cells #[.int .i64 r, .int .i64 c, v] 26)).grownBy w' v.ownBlock := by
  have HE := fun w' (hx : Ext w w') => Lib.hid (markDyadicS_big (n := n) (v := v) hl (by omega) m hm w' (own_ext h hx))
  obtain ⟨a1, cp1, rfl, q1, q2, q3⟩ := own_shape h
  clear q3 h
  go_enter Try.func8, Try.ntmps8
  go_wp2_with fail
  refine (HE _ (by repeat (first | exact Ext.refl _ | assumption | refine Ext.alloc ?_ _ | refine Ext.drew ?_ | refine Ext.drewN ?_ _ | refine Ext.setCell ?_ (by first | omega | (dsimp only; omega) | (simp; done) | (simp; omega)) _ | refine Ext.trans ?_ (by assumption)))).out.mono ?_
  rintro e w1 ⟨rfl, o1, hg1⟩
  have O1 := Lib.hid o1
  have HG := Lib.hid hg1
  clear o1 hg1
  go_wp2
  go_ret
  exact ⟨rfl, O1.out, HG.out⟩

theorem heap_set3 {w : World} {g : Nat} {t : TypeId} {a b c x y z : Value} (h : w.heap[g]? = some (.cells #[a, b, c] t (0, 0))) : (((w.setCell ⟨g, 0, none⟩ x).setCell ⟨g, 1, none⟩ y).setCell ⟨g, 2, none⟩ z).heap[g]? = some (.cells #[x, y, z] t (0, 0)) :=
  heap_set_at (heap_set_at (heap_set_at h 0 x) 1 y) 2 z
theorem heap_keep {W W' : World} {k : Nat} {x : Obj} (hx : Ext W W') (h : W.heap[k]? = some x) : W'.heap[k]? = some x := (hx.heap (Array.getElem?_eq_some_iff.1 h).1).trans h
theorem heap_far {W W' : World} {row : Option Nat} {k : Nat} {x : Obj} (hg : W.grownBy W' row) (h : W.heap[k]? = some x) (hne : ∀ j, row = some j → j ≠ k) : W'.heap[k]? = some x :=
  (hg.block k (Array.getElem?_eq_some_iff.1 h).1 (fun e => hne k e.symm rfl)).trans h
theorem own_far {w w' : World} {base : Nat} {e : TypeId} {size : Nat} {v : Value} {n : Nat} {xs : List Value} {row : Option Nat} (h : w.ownsRow base e size v n xs) (hg : w.grownBy w' row) (hne : ∀ j, row = some j → ∀ k, v.ownBlock = some k → j ≠ k) : w'.ownsRow base e size v n xs := by
  refine h.kept hg ?_
  cases hv : v.ownBlock with
  | none => exact .inl rfl
  | some k => exact .inr fun he => hne k he.symm k hv rfl

end Go.Proofs.Ytlaajkdhegkpdaa
