/- Circuits: marks. -/
import Derived.Test.YtchaanppoklapaaCopy
import Derived.Test.YtchaanppoklapaaSlGate
import Derived.Test.YtchaanppoklapaaArgS
import Derived.Test.YtchaanppoklapaaLs
namespace Go.Proofs.Ytchaanppoklapaa
open Go.RowKit Go.Lib
set_option linter.unusedVariables false
set_option linter.unusedSimpArgs false

theorem heldCircuit_any (q : Int) {n b : Nat} {v : Value} (hn : n ≤ 2000000) (m : Int) (hm : 0 ≤ m ∧ m ≤ 100000000) (w : World) (h : w.ownsRow b 72 3 v n (IL (marks m (n * 3)))) :
    Calls Try.prog 17 #[.agg #[.int .i64 q, v], .int .i64 m] w fun e w' => e = .returned (.int .i64 (m + n * 3)) ∧ Ext w w' := by
  have HE := fun w' (hx : Ext w w') => Lib.hid (heldGateS_any (n := n) (v := v) (by omega) m hm w' (own_ext h hx))
  obtain ⟨a1, cp1, rfl, q1, q2, q3⟩ := own_shape h
  clear q3 h
  go_enter Try.func17, Try.ntmps17
  go_wp2_with fail
  refine (HE _ (by repeat (first | exact Ext.refl _ | assumption | refine Ext.alloc ?_ _ | refine Ext.drew ?_ | refine Ext.drewN ?_ _ | refine Ext.setCell ?_ (by first | omega | (dsimp only; omega) | (simp; done) | (simp; omega)) _ | refine Ext.trans ?_ (by assumption)))).out.mono ?_
  rintro e w1 ⟨rfl, rfl⟩
  go_wp2
  go_ret
  exact ⟨rfl, (by repeat (first | exact Ext.refl _ | assumption | refine Ext.alloc ?_ _ | refine Ext.drew ?_ | refine Ext.drewN ?_ _ | refine Ext.setCell ?_ (by first | omega | (dsimp only; omega) | (simp; done) | (simp; omega)) _ | refine Ext.trans ?_ (by assumption)))⟩

theorem markCircuit_any (q : Int) {n b : Nat} {v : Value} {ys : List Value} (hl : ys.length = n * 3) (hn : n ≤ 2000000) (m : Int) (hm : 0 ≤ m ∧ m ≤ 100000000) (w : World) (h : w.ownsRow b 72 3 v n ys) :
    Calls Try.prog 12 #[.agg #[.int .i64 q, v], .int .i64 m] w fun e w' => e = .returned (.int .i64 (m + n * 3)) ∧ w'.ownsRow b 72 3 v n (IL (marks m (n * 3))) ∧ (w.alloc (.cells #[.int .i64 q, v] 31)).grownBy w' v.ownBlock := by
  have HE := fun w' (hx : Ext w w') => Lib.hid (markGateS_any (n := n) (v := v) hl (by omega) m hm w' (own_ext h hx))
  obtain ⟨a1, cp1, rfl, q1, q2, q3⟩ := own_shape h
  clear q3 h
  go_enter Try.func12, Try.ntmps12
  go_wp2_with fail
  refine (HE _ (by repeat (first | exact Ext.refl _ | assumption | refine Ext.alloc ?_ _ | refine Ext.drew ?_ | refine Ext.drewN ?_ _ | refine Ext.setCell ?_ (by first | omega | (dsimp only; omega) | (simp; done) | (simp; omega)) _ | refine Ext.trans ?_ (by assumption)))).out.mono ?_
  rintro e w1 ⟨rfl, o1, hg1⟩
  have O1 := Lib.hid o1
  have HG := Lib.hid hg1
  clear o1 hg1
  go_wp2
  go_ret
  exact ⟨rfl, O1.out, HG.out⟩

theorem heap_keep {W W' : World} {k : Nat} {x : Obj} (hx : Ext W W') (h : W.heap[k]? = some x) : W'.heap[k]? = some x := (hx.heap (Array.getElem?_eq_some_iff.1 h).1).trans h
theorem heap_far {W W' : World} {row : Option Nat} {k : Nat} {x : Obj} (hg : W.grownBy W' row) (h : W.heap[k]? = some x) (hne : ∀ j, row = some j → j ≠ k) : W'.heap[k]? = some x :=
  (hg.block k (Array.getElem?_eq_some_iff.1 h).1 (fun e => hne k e.symm rfl)).trans h
theorem own_far {w w' : World} {base : Nat} {e : TypeId} {size : Nat} {v : Value} {n : Nat} {xs : List Value} {row : Option Nat} (h : w.ownsRow base e size v n xs) (hg : w.grownBy w' row) (hne : ∀ j, row = some j → ∀ k, v.ownBlock = some k → j ≠ k) : w'.ownsRow base e size v n xs := by
  refine h.kept hg ?_
  cases hv : v.ownBlock with
  | none => exact .inl rfl
  | some k => exact .inr fun he => hne k he.symm k hv rfl

theorem ints_slice_arg {w : World} {n : Nat} {v : Value} (hv : v.cells = #[v]) (hs : Shape Try.prog w n 65 v.cells.toList) : ∃ (l : Nat) (xs : List Int), RV w 1 v l xs := by
  rw [hv] at hs
  exact rv_of_shape (m := 5) Try.underlying65 (by kernel_rfl) (by kernel_rfl) (by decide) hs

theorem gates_slice_arg {w : World} {n : Nat} {v : Value} (hv : v.cells = #[v]) (hs : Shape Try.prog w n 22 v.cells.toList) : ∃ (l : Nat) (xs : List Int), RV w 3 v l xs := by
  rw [hv] at hs
  exact rv_of_shape (m := 5) Try.underlying22 (by kernel_rfl) (by kernel_rfl) (by decide) hs

end Go.Proofs.Ytchaanppoklapaa
