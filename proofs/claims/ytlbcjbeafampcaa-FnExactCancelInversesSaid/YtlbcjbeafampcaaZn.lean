/- Marks on data of two slices. -/
import Derived.Test.YtlbcjbeafampcaaCirM
import Derived.Test.YtlbcjbeafampcaaCopy
namespace Go.Proofs.Ytlbcjbeafampcaa
open Go.RowKit Go.Lib
set_option linter.unusedVariables false
set_option linter.unusedSimpArgs false

theorem heap_dr {w : World} {k : Nat} {x : Option Obj} (h : w.heap[k]? = x) : w.drew.heap[k]? = x := h
/-- nothing but blocks from lo up to hi has changed -/
structure Zn (lo hi : Nat) (w w' : World) : Prop where
  os : w'.os = w.os
  tape : w'.tape = w.tape
  output : w'.output = w.output
  size : w.heap.size ≤ w'.heap.size
  blk : ∀ k, k < w.heap.size → (k < lo ∨ hi ≤ k) → w'.heap[k]? = w.heap[k]?
theorem Zn.ofExt {lo hi : Nat} {w w' : World} (h : Ext w w') : Zn lo hi w w' := by
  have h' : Below w.heap.size w w' := h
  exact ⟨h'.os, h'.tape, h'.output, h'.size, fun k hk _ => h'.block k hk⟩
theorem Zn.trans {lo hi : Nat} {a b c : World} (h : Zn lo hi a b) (k : Zn lo hi b c) : Zn lo hi a c :=
  ⟨k.os.trans h.os, k.tape.trans h.tape, k.output.trans h.output, Nat.le_trans h.size k.size, fun i hi' hx => (k.blk i (Nat.lt_of_lt_of_le hi' h.size) hx).trans (h.blk i hi' hx)⟩
theorem Zn.ofGrown {lo hi : Nat} {w w' : World} {row : Option Nat} (h : w.grownBy w' row) (hr : ∀ k, row = some k → lo ≤ k ∧ k < hi) : Zn lo hi w w' := by
  have hg := h
  refine ⟨hg.os, hg.tape, hg.output, hg.size, fun k hk hx => hg.block k hk (fun e => ?_)⟩
  have := hr k e.symm
  omega
theorem Ext.zn {lo hi : Nat} {a b c : World} (h : Ext a b) (hz : Zn lo hi b c) (hl : a.heap.size ≤ lo) : Ext a c := by
  have h' : Below a.heap.size a b := h
  exact ⟨hz.os.trans h'.os, hz.tape.trans h'.tape, hz.output.trans h'.output, Nat.le_trans h'.size hz.size, fun k hk => (hz.blk k (Nat.lt_of_lt_of_le hk h'.size) (.inl (by omega))).trans (h'.block k hk)⟩
theorem heap_zn {lo hi : Nat} {W W' : World} {k : Nat} {x : Obj} (hz : Zn lo hi W W') (h : W.heap[k]? = some x) (hne : k < lo ∨ hi ≤ k) : W'.heap[k]? = some x :=
  (hz.blk k (Array.getElem?_eq_some_iff.1 h).1 hne).trans h
theorem own_zn {lo hi : Nat} {w w' : World} {base : Nat} {e : TypeId} {size : Nat} {v : Value} {n : Nat} {xs : List Value} (h : w.ownsRow base e size v n xs) (hz : Zn lo hi w w') (hne : ∀ k, v.ownBlock = some k → k < lo ∨ hi ≤ k) : w'.ownsRow base e size v n xs := by
  refine ⟨h.1, ?_⟩
  rcases h.2 with hn | ⟨g, cap, cur, hv, hb, hg, r⟩
  · exact .inl hn
  · exact .inr ⟨g, cap, cur, hv, hb, heap_zn hz hg (hne g (by rw [hv]; rfl)), r⟩

theorem markReplacement_any (t : Int) {n l b lo hi : Nat} {v1 v2 : Value} {ys zs : List Value} (hl : ys.length = n * 3) (hl' : zs.length = l * 3) (hn : n ≤ 2000000) (hn' : l ≤ 2000000) (m : Int) (hm : 0 ≤ m ∧ m + n * 3 ≤ 100000000) (w : World)
    (h1 : w.ownsRow b 73 3 v1 n ys) (h2 : w.ownsRow b 73 3 v2 l zs) (hd : ∀ k, v1.ownBlock = some k → v2.ownBlock = some k → False) (L1 : ∀ k, v1.ownBlock = some k → lo ≤ k ∧ k < hi) (L2 : ∀ k, v2.ownBlock = some k → lo ≤ k ∧ k < hi) :
    Calls Try.prog 27 #[.agg #[.int .i64 t, v1, v2], .int .i64 m] w fun e w' => e = .returned (.int .i64 (m + n * 3 + l * 3)) ∧ Zn lo hi w w' := by
  have HE := fun w' (hx : Ext w w') => Lib.hid (markGateS_any (n := n) (v := v1) hl (by omega) m (by omega) w' (own_ext h1 hx))
  have HE2 := fun w' h => Lib.hid (markGateS_any (n := l) (v := v2) (b := b) hl' (by omega) (m + n * 3) (by omega) w' h)
  have H2 := Lib.hid h2
  have HD := Lib.hid hd
  have HL1 := Lib.hid L1
  have HL2 := Lib.hid L2
  have HLT := Lib.hid (fun k (hk : v1.ownBlock = some k) => (h1.lt k hk).2)
  obtain ⟨a1, cp1, rfl, q1, q2, q3⟩ := own_shape h1
  obtain ⟨a2, cp2, rfl, q4, q5, q6⟩ := own_shape h2
  clear q3 q6 h1 h2 hd L1 L2
  go_enter Try.func27, Try.ntmps27
  go_wp2_with fail
  refine (HE _ (by repeat (first | exact Ext.refl _ | assumption | refine Ext.alloc ?_ _ | refine Ext.drew ?_ | refine Ext.drewN ?_ _ | refine Ext.setCell ?_ (by first | omega | (dsimp only; omega) | (simp; done) | (simp; omega)) _ | refine Ext.trans ?_ (by assumption)))).out.mono ?_
  rintro e w1 ⟨rfl, o1, hg1⟩
  by_cases hB : (Value.slice a1 n cp1).ownBlock = some w.heap.size
  · exfalso
    have := HLT.out _ hB
    omega
  have hb1 := heap_grown hg1 (heap_alloc_new w _) (fun e => hB e.symm)
  have z1 := fun k => cell_of_row _ _ k _ _ _ hb1
  have l1 := (Array.getElem?_eq_some_iff.1 hb1).1
  have O2 := Lib.hid (own_far (own_ext H2.out ((Ext.refl w).alloc _)) hg1 (fun j hj k hk e => by subst e; exact HD.out j hj hk))
  have HZ1 := Lib.hid ((Zn.ofExt (lo := lo) (hi := hi) ((Ext.refl w).alloc _)).trans (Zn.ofGrown hg1 HL1.out))
  clear hb1 hg1 o1
  go_wp2_with fail
  refine (HE2 _ O2.out).out.mono ?_
  rintro e w2 ⟨rfl, o2, hg2⟩
  have HZ2 := Lib.hid (HZ1.out.trans (Zn.ofGrown hg2 HL2.out))
  clear hg2 o2
  go_wp2
  go_ret
  exact ⟨rfl, HZ2.out⟩

end Go.Proofs.Ytlbcjbeafampcaa
