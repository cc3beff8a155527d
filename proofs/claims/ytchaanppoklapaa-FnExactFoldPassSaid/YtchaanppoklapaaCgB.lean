/- Certificates: copies, equality, marks and what is held, of the whole. -/
import Derived.Test.YtchaanppoklapaaCgT
import Derived.Test.YtchaanppoklapaaCgM
import Derived.Test.YtchaanppoklapaaCgC
import Derived.Test.YtchaanppoklapaaCertE
namespace Go.Proofs.Ytchaanppoklapaa
open Go.RowKit Go.Lib
set_option linter.unusedVariables false
set_option linter.unusedSimpArgs false

theorem size_setCell (w : World) (a : Addr) (v : Value) : (w.setCell a v).heap.size = w.heap.size := by simp [World.setCell]

set_option maxHeartbeats 1000000 in
theorem eqCertificateZ_any {l1 g1 l2 g2 : Nat} {v1 vs v2 u1 us u2 : Value} (c : Cv) (hc : c.Ok) (ht : c.tot ≤ 1048576) (w : World) (h : CZ w l1 g1 v1 vs v2 c) (k : CZ w l2 g2 u1 us u2 c) :
    Calls Try.prog 20 #[.agg #[.int .i64 c.q1, v1, vs, .int .i64 c.q2, v2], .agg #[.int .i64 c.q1, u1, us, .int .i64 c.q2, u2]] w fun e w' => e = .returned (.bool true) ∧ Ext w w' := by
  have hts : c.tot = c.n1 + (c.n + gsR c.R c.n) + c.n2 := rfl
  obtain ⟨h1, h2, _, _, _, S, h3, _⟩ := h
  obtain ⟨k1, k2, _, _, _, T, k3, _⟩ := k
  exact eqCertificate_same c.q1 c.q2 (by omega) (by omega) hc.1 hc.2.1 (small_of hc.2.2 (by omega)) w h1 h3.rso h2 k1 k3.rso k2

set_option maxHeartbeats 2000000 in
theorem markCertificateZ_any {lo hi : Nat} {v1 vs v2 : Value} (c : Cv) (hc : c.Ok) (ht : c.tot ≤ 1048576) (m : Int) (hm : 0 ≤ m ∧ m ≤ 20000000) (w : World) (h : CZ w lo hi v1 vs v2 c) (hh : hi ≤ w.heap.size) :
    Calls Try.prog 21 #[.agg #[.int .i64 c.q1, v1, vs, .int .i64 c.q2, v2], .int .i64 m] w fun e w' => e = .returned (.int .i64 (endC m c)) ∧ CZ w' lo hi v1 vs v2 (mkC m c) ∧ Zn lo hi w w' := by
  have hts : c.tot = c.n1 + (c.n + gsR c.R c.n) + c.n2 := rfl
  have hof := offR_gs c.R c.n
  obtain ⟨e1, e2, e3⟩ := hc
  obtain ⟨h1, h2, h3, h4, h5, S, h6, h7⟩ := h
  have l1 := fun k hk => (h1.lt k hk)
  have l2 := fun k hk => (h2.lt k hk)
  have H1 := fun w' (hx : Ext w w') => Lib.hid (markCircuit_any (n := c.n1) (v := v1) c.q1 (by rw [il_length]; exact e1) (by omega) m (by omega) w' (own_ext h1 hx))
  have H2 := fun w' k => Lib.hid (markReplacementS_any (n := c.n) (R := c.R) (v := vs) (lo := lo) (S := S) (by omega) (by omega) e3 (m + c.n1 * 3) (by omega) w' k)
  have H3 := fun w' k => Lib.hid (markCircuit_any (b := lo) (n := c.n2) (v := v2) c.q2 (by rw [il_length]; exact e2) (by omega) (m + c.n1 * 3 + offR c.R c.n) (by omega) w' k)
  have G2 := Lib.hid h2
  have G6 := Lib.hid h6
  have D5 := Lib.hid h5
  have D7 := Lib.hid h7
  have LL1 : Hid (∀ k, v1.ownBlock = some k → lo ≤ k ∧ k < hi) := fun k hk => ⟨(l1 k hk).1, h3 k hk⟩
  have LL2 : Hid (∀ k, v2.ownBlock = some k → lo ≤ k ∧ k < hi) := fun k hk => ⟨(l2 k hk).1, h4 k hk⟩
  obtain ⟨a3, c3, hvs, -, -, -⟩ := own_shape h6.choose_spec.1
  obtain ⟨a1, c1, rfl, _, _, _⟩ := own_shape h1
  obtain ⟨a2, c2, rfl, _, _, _⟩ := own_shape h2
  subst hvs
  clear h1 h2 h3 h4 h5 h6 h7 l1 l2 hof hts ht e1 e2 e3
  obtain ⟨q1, m1, xs, n, R, q2, m2, ys⟩ := c
  dsimp only at *
  go_enter Try.func21, Try.ntmps21
  go_wp2_with fail
  refine (H1 _ (by repeat (first | (with_reducible refine Ext.setCell ?_ (by first | (simp; done) | (simp; omega)) _) | with_reducible refine Ext.alloc ?_ _ | with_reducible refine Ext.drew ?_ | with_reducible refine Ext.drewN ?_ _ | with_reducible assumption | with_reducible exact Ext.refl _ | with_reducible refine Ext.trans ?_ (by with_reducible assumption)))).out.mono ?_
  rintro e w1 ⟨rfl, o1, hg1⟩
  have hb1 := heap_grown hg1 (heap_alloc_lt (heap_alloc_new w _)) (fun e => by have := LL1.out _ e.symm; omega)
  have z1 := fun k => cell_of_row _ _ k _ _ _ hb1
  have l1 := (Array.getElem?_eq_some_iff.1 hb1).1
  have HZ1 : Hid (Zs (fun k => (Value.slice a1 m1 c1).ownBlock = some k) w w1) := (Zs.ofExt (((Ext.refl w).alloc _).alloc _)).trans (Zs.ofGrown hg1 (fun k hk => hk))
  have O1 := Lib.hid o1
  have O2 := Lib.hid (own_zs G2.out HZ1.out (fun k hk h => D5.out k h (hk)))
  have O6 := Lib.hid (G6.out.zs HZ1.out (fun k hk h => (D7.out k hk).2.1 h))
  clear o1 hg1
  go_wp2_with fail
  refine (H2 _ O6.out).out.mono ?_
  rintro e w2 ⟨rfl, o6, hz2⟩
  have hb2 := heap_zs hz2 hb1 (fun h => by have := (D7.out _ h).1; omega)
  have z2 := fun k => cell_of_row _ _ k _ _ _ hb2
  have l2 := (Array.getElem?_eq_some_iff.1 hb2).1
  have HZ2 := Lib.hid hz2
  have P6 := Lib.hid o6
  have P1 := Lib.hid (own_zs O1.out hz2 (fun k hk h => (D7.out k h).2.1 (hk)))
  have P2 := Lib.hid (own_zs O2.out hz2 (fun k hk h => (D7.out k h).2.2 (hk)))
  clear o6 hz2 z1 l1 hb1
  go_wp2_with fail
  refine (H3 _ P2.out).out.mono ?_
  rintro e w3 ⟨rfl, o2, hg3⟩
  have HZ3 : Hid (Zs (fun k => (Value.slice a2 m2 c2).ownBlock = some k) w2 w3) := (Zs.ofExt ((Ext.refl w2).alloc _)).trans (Zs.ofGrown hg3 (fun k hk => hk))
  have Q2 := Lib.hid o2
  have Q1 := Lib.hid (own_zs P1.out HZ3.out (fun k hk h => D5.out k (hk) h))
  have Q6 := Lib.hid (P6.out.zs HZ3.out (fun k hk h => (D7.out k hk).2.2 h))
  clear o2 hg3
  go_wp2
  go_ret
  exact ⟨rfl, ⟨Q1.out, Q2.out, fun k hk => (LL1.out k hk).2, fun k hk => (LL2.out k hk).2, D5.out, S, Q6.out, D7.out⟩, ((HZ1.out.zn (fun k hk => LL1.out k hk)).trans (HZ2.out.zn (fun k hk => (D7.out k hk).1))).trans (HZ3.out.zn (fun k hk => LL2.out k hk))⟩

set_option maxHeartbeats 2000000 in
theorem heldCertificateZ_any {lo hi : Nat} {v1 vs v2 : Value} (c : Cv) (ht : c.tot ≤ 1048576) (m : Int) (hm : 0 ≤ m ∧ m ≤ 20000000) (w : World) (h : CZ w lo hi v1 vs v2 (mkC m c)) :
    Calls Try.prog 22 #[.agg #[.int .i64 c.q1, v1, vs, .int .i64 c.q2, v2], .int .i64 m] w fun e w' => e = .returned (.int .i64 (endC m c)) ∧ Ext w w' := by
  have hts : c.tot = c.n1 + (c.n + gsR c.R c.n) + c.n2 := rfl
  have hof := offR_gs c.R c.n
  obtain ⟨h1, h2, _, _, _, S, h6, _⟩ := h
  have H1 := fun w' (hx : Ext w w') => Lib.hid (heldCircuit_any (n := c.n1) (v := v1) c.q1 (by omega) m (by omega) w' (own_ext h1 hx))
  have H2 := fun w' (hx : Ext w w') => Lib.hid (heldReplacementS_any (n := c.n) (R := c.R) (v := vs) (lo := lo) (S := S) (by omega) (by omega) (m + c.n1 * 3) (by omega) w' (h6.ext hx))
  have H3 := fun w' (hx : Ext w w') => Lib.hid (heldCircuit_any (b := lo) (n := c.n2) (v := v2) c.q2 (by omega) (m + c.n1 * 3 + offR c.R c.n) (by omega) w' (own_ext h2 hx))
  obtain ⟨a3, c3, hvs, -, -, -⟩ := own_shape h6.choose_spec.1
  obtain ⟨a1, c1, hv1, _, _, _⟩ := own_shape h1
  obtain ⟨a2, c2, hv2, _, _, _⟩ := own_shape h2
  have n1 : ¬ (m + c.n1 * 3 < 0) := by omega
  have n2 : ¬ (m + c.n1 * 3 + offR c.R c.n < 0) := by omega
  have n3 : ¬ (m + c.n1 * 3 + offR c.R c.n + c.n2 * 3 < 0) := by omega
  clear h1 h2 h6 hof hts ht
  obtain ⟨q1, m1, xs, n, R, q2, m2, ys⟩ := c
  dsimp only [mkC] at *
  subst hvs
  subst hv1
  subst hv2
  go_enter Try.func22, Try.ntmps22
  go_wp2_with fail
  refine (H1 _ (by repeat (first | (with_reducible refine Ext.setCell ?_ (by first | (simp; done) | (simp; omega)) _) | with_reducible refine Ext.alloc ?_ _ | with_reducible refine Ext.drew ?_ | with_reducible refine Ext.drewN ?_ _ | with_reducible assumption | with_reducible exact Ext.refl _ | with_reducible refine Ext.trans ?_ (by with_reducible assumption)))).out.mono ?_
  rintro e w1 ⟨rfl, hx1⟩
  obtain ⟨hc1, hf1⟩ := hx1.cells
  have hz1 := hx1.size
  try simp at hz1
  have hs1_0 := sz1 (a := w.heap.size) (b := w1.heap.size) (by omega)
  go_wp2_with fail
  refine (H2 _ (by repeat (first | exact Ext.refl _ | assumption | refine Ext.alloc ?_ _ | refine Ext.drew ?_ | refine Ext.drewN ?_ _ | refine Ext.setCell ?_ (by first | omega | (dsimp only; omega) | (simp; done) | (simp; omega)) _ | refine Ext.trans ?_ (by assumption)))).out.mono ?_
  rintro e w1' ⟨rfl, rfl⟩
  go_wp2_with fail
  refine (H3 _ (by repeat (first | exact Ext.refl _ | assumption | refine Ext.alloc ?_ _ | refine Ext.drew ?_ | refine Ext.drewN ?_ _ | refine Ext.setCell ?_ (by first | omega | (dsimp only; omega) | (simp; done) | (simp; omega)) _ | refine Ext.trans ?_ (by assumption)))).out.mono ?_
  rintro e w3 ⟨rfl, hx3⟩
  obtain ⟨hc3, hf3⟩ := hx3.cells
  have hz3 := hx3.size
  try simp at hz3
  have hs3_0 := sz1 (a := w.heap.size) (b := w3.heap.size) (by omega)
  go_wp2
  go_ret
  exact ⟨rfl, (by repeat (first | exact Ext.refl _ | assumption | refine Ext.alloc ?_ _ | refine Ext.drew ?_ | refine Ext.drewN ?_ _ | refine Ext.setCell ?_ (by first | omega | (dsimp only; omega) | (simp; done) | (simp; omega)) _ | refine Ext.trans ?_ (by assumption)))⟩

end Go.Proofs.Ytchaanppoklapaa
