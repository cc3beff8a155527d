/- Certificates: copies, equality, marks and what is held, of the whole. -/
import Derived.Test.YtgefamclfjoogaaDoorCgT
import Derived.Test.YtgefamclfjoogaaDoorCgM
import Derived.Test.YtgefamclfjoogaaDoorCgC
import Derived.Test.YtgefamclfjoogaaDoorCertE
namespace Go.Proofs.YtgefamclfjoogaaDoor
open Go.RowKit Go.Lib
set_option linter.unusedVariables false
set_option linter.unusedSimpArgs false

theorem size_setCell (w : World) (a : Addr) (v : Value) : (w.setCell a v).heap.size = w.heap.size := by simp [World.setCell]

set_option maxHeartbeats 2000000 in
theorem toCertificateZ_any {v1 vs v2 : Value} (c : Cv) (ht : c.tot ≤ 1048576) (w : World) (h : CV w v1 vs v2 c) :
    Calls Tryd.prog 15 #[.agg #[.int .i64 c.q1, v1, vs, .int .i64 c.q2, v2]] w fun e w' => ∃ u1 us u2, e = .returned (.agg #[.int .i64 c.q1, u1, us, .int .i64 c.q2, u2]) ∧ CZ w' w.heap.size w'.heap.size u1 us u2 c ∧ Ext w w' := by
  obtain ⟨h1, h2, h3⟩ := h
  have HT := Lib.hid (show c.tot = c.n1 + (c.n + gsR c.R c.n) + c.n2 from rfl)
  have hts := HT.out
  have H1 := fun w' (hx : Ext w w') => Lib.hid (toCircuit_any c.q1 (by omega) w' (h1.ext hx))
  have H2 := fun w' (hx : Ext w w') => Lib.hid (toReplacementZ_any (n := c.n) (R := c.R) (by omega) w' (h2.ext hx))
  have H3 := fun w' (hx : Ext w w') => Lib.hid (toCircuit_any c.q2 (by omega) w' (h3.ext hx))
  clear hts HT ht
  obtain ⟨_, a1, c1, rfl, _, _, _⟩ := h1
  obtain ⟨a2, c2, rfl, _, _, _⟩ := h2
  obtain ⟨_, a3, c3, rfl, _, _, _⟩ := h3
  simp only [RL_len] at H2 ⊢
  obtain ⟨q1, m1, xs, n, R, q2, m2, ys⟩ := c
  dsimp only at *
  go_enter Tryd.func15, Tryd.ntmps15
  go_wp2_with fail
  refine (H1 _ (by repeat (first | exact Ext.refl _ | assumption | refine Ext.alloc ?_ _ | refine Ext.drew ?_ | refine Ext.drewN ?_ _ | refine Ext.setCell ?_ (by first | omega | (dsimp only; omega) | (simp; done) | (simp; omega)) _ | refine Ext.trans ?_ (by assumption)))).out.mono ?_
  rintro e w1 ⟨u1, rfl, o1, hx1⟩
  obtain ⟨hc1, hf1⟩ := hx1.cells
  have hz1 := hx1.size
  try simp at hz1
  have hs1_0 := sz3 (a := w.heap.size) (b := w1.heap.size) (by omega)
  obtain ⟨b1, d1, rfl, f1, f2, f3⟩ := own_shape o1
  have O1 := Lib.hid (own_base (base' := w.heap.size + 1 + 1 + 1) o1 (by simp))
  have B1 := Lib.hid (fun k hk => (o1.lt k hk).2)
  clear f3 o1
  go_wp2_with fail
  refine (H2 _ (by repeat (first | (with_reducible refine Ext.setCell ?_ (by first | (simp; done) | (simp; omega)) _) | with_reducible refine Ext.alloc ?_ _ | with_reducible refine Ext.drew ?_ | with_reducible refine Ext.drewN ?_ _ | with_reducible assumption | with_reducible exact Ext.refl _ | with_reducible refine Ext.trans ?_ (by with_reducible assumption)))).out.mono ?_
  rintro e w2 ⟨u2, rfl, o2, hx2⟩
  obtain ⟨hc2, hf2⟩ := hx2.cells
  have hz2 := hx2.size
  try simp at hz2
  have hs2_0 := sz3 (a := w.heap.size) (b := w2.heap.size) (by omega)
  obtain ⟨b2, d2, hb2, g1, g2, g3⟩ := own_shape o2.choose_spec.1
  subst hb2
  simp only [size_setCell] at o2
  have O2 := Lib.hid o2
  have O3 := Lib.hid (own_ext (own_set (own_set O1.out (p := ⟨w.heap.size + 1 + 1, 0, none⟩) (by simp) (.int .i64 q1)) (p := ⟨w.heap.size + 1 + 1, 1, none⟩) (by simp) (.slice b1 m1 d1)) hx2)
  clear g3 o2 O1
  go_wp2_with fail
  refine (H3 _ (by repeat (first | (with_reducible refine Ext.setCell ?_ (by first | (simp; done) | (simp; omega)) _) | with_reducible refine Ext.alloc ?_ _ | with_reducible refine Ext.drew ?_ | with_reducible refine Ext.drewN ?_ _ | with_reducible assumption | with_reducible exact Ext.refl _ | with_reducible refine Ext.trans ?_ (by with_reducible assumption)))).out.mono ?_
  rintro e w3 ⟨u3, rfl, o3, hx3⟩
  obtain ⟨hc3, hf3⟩ := hx3.cells
  have hz3 := hx3.size
  try simp at hz3
  have hs3_0 := sz3 (a := w.heap.size) (b := w3.heap.size) (by omega)
  obtain ⟨b3, d3, rfl, k1, k2, k3⟩ := own_shape o3
  simp only [size_setCell] at o3
  have O4 := Lib.hid o3
  have O5 := Lib.hid (own_ext (own_set O3.out (p := ⟨w.heap.size + 1 + 1, 2, none⟩) (by simp) (.slice b2 n d2)) hx3)
  have O6 := Lib.hid (RSP.ext (RSP.set O2.out (p := ⟨w.heap.size + 1 + 1, 2, none⟩) (by simp; omega) (.slice b2 n d2)) hx3)
  clear k3 o3 O2 O3
  go_wp2
  refine bodyPost_ret (v := .agg #[.int .i64 q1, .slice b1 m1 d1, .slice b2 n d2, .int .i64 q2, .slice b3 m2 d3]) (by simp [results, Tryd.results15, go_sem, *]) rfl ?_
  have L4 := fun k hk => O4.out.lt k hk
  have L1 := B1.out
  refine ⟨_, _, _, rfl, ⟨own_base (base := w.heap.size + 1 + 1 + 1) ?_ (by omega), own_base (base := w2.heap.size) ?_ (by omega), fun k hk => ?_, fun k hk => ?_, fun k hk hk2 => ?_, (fun k => w1.heap.size ≤ k ∧ k < w2.heap.size), RSP.weak (lo := w1.heap.size) (S := fun k => w1.heap.size ≤ k ∧ k < w2.heap.size) ?_ (by omega) (fun k hk => hk), fun k hk => ⟨?_, fun e => ?_, fun e => ?_⟩⟩, (by repeat (first | (with_reducible refine Ext.setCell ?_ (by first | (simp; done) | (simp; omega)) _) | with_reducible refine Ext.alloc ?_ _ | with_reducible refine Ext.drew ?_ | with_reducible refine Ext.drewN ?_ _ | with_reducible assumption | with_reducible exact Ext.refl _ | with_reducible refine Ext.trans ?_ (by with_reducible assumption)))⟩
  · repeat (with_reducible refine own_set ?_ (by simp) _)
    exact O5.out
  · repeat (with_reducible refine own_set ?_ (by simp; omega) _)
    exact O4.out
  · have := L1 k hk; simp; omega
  · have := L4 k hk; simp; omega
  · have := L1 k hk; have := L4 k hk2; omega
  · repeat (with_reducible refine RSP.set ?_ (by simp; omega) _)
    exact O6.out
  · have hk' : w1.heap.size ≤ k ∧ k < w2.heap.size := hk
    simp; omega
  · have hk' : w1.heap.size ≤ k ∧ k < w2.heap.size := hk
    have := L1 k e; omega
  · have hk' : w1.heap.size ≤ k ∧ k < w2.heap.size := hk
    have := L4 k e; omega

set_option maxHeartbeats 1000000 in
theorem eqCertificateZ_any {l1 g1 l2 g2 : Nat} {v1 vs v2 u1 us u2 : Value} (c : Cv) (hc : c.Ok) (ht : c.tot ≤ 1048576) (w : World) (h : CZ w l1 g1 v1 vs v2 c) (k : CZ w l2 g2 u1 us u2 c) :
    Calls Tryd.prog 24 #[.agg #[.int .i64 c.q1, v1, vs, .int .i64 c.q2, v2], .agg #[.int .i64 c.q1, u1, us, .int .i64 c.q2, u2]] w fun e w' => e = .returned (.bool true) ∧ Ext w w' := by
  have hts : c.tot = c.n1 + (c.n + gsR c.R c.n) + c.n2 := rfl
  obtain ⟨h1, h2, _, _, _, S, h3, _⟩ := h
  obtain ⟨k1, k2, _, _, _, T, k3, _⟩ := k
  exact eqCertificate_same c.q1 c.q2 (by omega) (by omega) hc.1 hc.2.1 (small_of hc.2.2 (by omega)) w h1 h3.rso h2 k1 k3.rso k2

end Go.Proofs.YtgefamclfjoogaaDoor
