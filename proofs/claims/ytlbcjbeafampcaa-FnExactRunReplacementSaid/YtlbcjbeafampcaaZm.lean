/- Marks on results of two slices, and what is held of them. -/
import Derived.Test.YtlbcjbeafampcaaZn
namespace Go.Proofs.Ytlbcjbeafampcaa
open Go.RowKit Go.Lib
set_option linter.unusedVariables false
set_option linter.unusedSimpArgs false

theorem markReplacementB_any (t : Int) {n l b lo hi : Nat} {v1 v2 : Value} {ys zs : List Value} (hl : ys.length = n * 3) (hl' : zs.length = l * 3) (hn : n ≤ 2000000) (hn' : l ≤ 2000000) (m : Int) (hm : 0 ≤ m ∧ m + n * 3 ≤ 100000000) (w : World)
    (h1 : w.ownsRow b 73 3 v1 n ys) (h2 : w.ownsRow b 73 3 v2 l zs) (hd : ∀ k, v1.ownBlock = some k → v2.ownBlock = some k → False) (L1 : ∀ k, v1.ownBlock = some k → lo ≤ k ∧ k < hi) (L2 : ∀ k, v2.ownBlock = some k → lo ≤ k ∧ k < hi) :
    Calls Try.prog 27 #[.agg #[.int .i64 t, v1, v2], .int .i64 m] w fun e w' => e = .returned (.int .i64 (m + n * 3 + l * 3)) ∧ w'.ownsRow b 73 3 v1 n (IL (marks m (n * 3))) ∧ w'.ownsRow b 73 3 v2 l (IL (marks (m + n * 3) (l * 3))) ∧ Zn lo hi w w' := by
  have HE := fun w' (hx : Ext w w') => Lib.hid (markGateS_any (n := n) (v := v1) hl (by omega) m (by omega) w' (own_ext h1 hx))
  have HE2 := fun w' h => Lib.hid (markGateS_any (n := l) (v := v2) (b := b) hl' (by omega) (m + n * 3) (by omega) w' h)
  have H2 := Lib.hid h2
  have HD := Lib.hid hd
  have HL1 := Lib.hid L1
  have HL2 := Lib.hid L2
  have HLT := Lib.hid (fun k (hk : v1.ownBlock = some k) => (h1.lt k hk).2)
  obtain ⟨a1, cp1, rfl, q1, q2, q3⟩ := own_shape h1
  obtain ⟨a2, cp2, rfl, q4, q5, q6⟩ := own_shape h2
  clear q3 q6 h1 h2 hd L1 L2
  go_enter Try.func27, Try.ntmps27
  go_wp2_with fail
  refine (HE _ (by repeat (first | exact Ext.refl _ | assumption | refine Ext.alloc ?_ _ | refine Ext.drew ?_ | refine Ext.drewN ?_ _ | refine Ext.setCell ?_ (by first | omega | (dsimp only; omega) | (simp; done) | (simp; omega)) _ | refine Ext.trans ?_ (by assumption)))).out.mono ?_
  rintro e w1 ⟨rfl, o1, hg1⟩
  by_cases hB : (Value.slice a1 n cp1).ownBlock = some w.heap.size
  · exfalso
    have := HLT.out _ hB
    omega
  have hb1 := heap_grown hg1 (heap_alloc_new w _) (fun e => hB e.symm)
  have z1 := fun k => cell_of_row _ _ k _ _ _ hb1
  have l1 := (Array.getElem?_eq_some_iff.1 hb1).1
  have O1 := Lib.hid o1
  have O2 := Lib.hid (own_far (own_ext H2.out ((Ext.refl w).alloc _)) hg1 (fun j hj k hk e => by subst e; exact HD.out j hj hk))
  have HZ1 := Lib.hid ((Zn.ofExt (lo := lo) (hi := hi) ((Ext.refl w).alloc _)).trans (Zn.ofGrown hg1 HL1.out))
  clear hb1 hg1 o1
  go_wp2_with fail
  refine (HE2 _ O2.out).out.mono ?_
  rintro e w2 ⟨rfl, o2, hg2⟩
  have HZ2 := Lib.hid (HZ1.out.trans (Zn.ofGrown hg2 HL2.out))
  have O1' := Lib.hid (own_far O1.out hg2 (fun j hj k hk e => by subst e; exact HD.out j hk hj))
  have O2' := Lib.hid o2
  clear hg2 o2
  go_wp2
  go_ret
  exact ⟨rfl, O1'.out, O2'.out, HZ2.out⟩

theorem heldReplacement_any (t : Int) {n l b : Nat} {v1 v2 : Value} (hn : n ≤ 2000000) (hn' : l ≤ 2000000) (m : Int) (hm : 0 ≤ m ∧ m + n * 3 ≤ 100000000) (w : World) (h1 : w.ownsRow b 73 3 v1 n (IL (marks m (n * 3)))) (h2 : w.ownsRow b 73 3 v2 l (IL (marks (m + n * 3) (l * 3)))) :
    Calls Try.prog 28 #[.agg #[.int .i64 t, v1, v2], .int .i64 m] w fun e w' => e = .returned (.int .i64 (m + n * 3 + l * 3)) ∧ Ext w w' := by
  have HE := fun w' (hx : Ext w w') => Lib.hid (heldGateS_any (n := n) (v := v1) (by omega) m (by omega) w' (own_ext h1 hx))
  have HE2 := fun w' (hx : Ext w w') => Lib.hid (heldGateS_any (n := l) (v := v2) (by omega) (m + n * 3) (by omega) w' (own_ext h2 hx))
  obtain ⟨a1, cp1, rfl, q1, q2, q3⟩ := own_shape h1
  obtain ⟨a2, cp2, rfl, q4, q5, q6⟩ := own_shape h2
  clear q3 q6 h1 h2
  go_enter Try.func28, Try.ntmps28
  go_wp2_with fail
  refine (HE _ (by repeat (first | exact Ext.refl _ | assumption | refine Ext.alloc ?_ _ | refine Ext.drew ?_ | refine Ext.drewN ?_ _ | refine Ext.setCell ?_ (by first | omega | (dsimp only; omega) | (simp; done) | (simp; omega)) _ | refine Ext.trans ?_ (by assumption)))).out.mono ?_
  rintro e w' ⟨rfl, rfl⟩
  go_wp2_with fail
  refine (HE2 _ (by repeat (first | exact Ext.refl _ | assumption | refine Ext.alloc ?_ _ | refine Ext.drew ?_ | refine Ext.drewN ?_ _ | refine Ext.setCell ?_ (by first | omega | (dsimp only; omega) | (simp; done) | (simp; omega)) _ | refine Ext.trans ?_ (by assumption)))).out.mono ?_
  rintro e w' ⟨rfl, rfl⟩
  go_wp2
  go_ret
  exact ⟨rfl, (by repeat (first | exact Ext.refl _ | assumption | refine Ext.alloc ?_ _ | refine Ext.drew ?_ | refine Ext.drewN ?_ _ | refine Ext.setCell ?_ (by first | omega | (dsimp only; omega) | (simp; done) | (simp; omega)) _ | refine Ext.trans ?_ (by assumption)))⟩

end Go.Proofs.Ytlbcjbeafampcaa
