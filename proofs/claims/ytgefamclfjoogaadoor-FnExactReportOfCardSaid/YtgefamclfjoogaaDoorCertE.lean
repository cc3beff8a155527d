/- Certificates: sizes, copies and equality of the whole. -/
import Derived.Test.YtgefamclfjoogaaDoorCertT
import Derived.Test.YtgefamclfjoogaaDoorMade
namespace Go.Proofs.YtgefamclfjoogaaDoor
open Go.RowKit

set_option maxRecDepth 20000 in
set_option maxHeartbeats 2000000 in
theorem eqReplacementS_same {b1 b2 : Nat} {v1 v2 : Value} {rs : List Rp} (hs : Small rs) (w : World) (h1 : RSO w b1 v1 rs) (h2 : RSO w b2 v2 rs) :
    Calls Tryd.prog 48 #[v1, v2] w fun e w' => e = .returned (.bool true) ∧ Ext w w' := by
  obtain ⟨zs1, o1, l1, p1⟩ := h1
  obtain ⟨zs2, o2, l2, p2⟩ := h2
  obtain ⟨a1, c1, rfl, e1, e2, e3⟩ := own_shape o1
  obtain ⟨a2, c2, rfl, e4, e5, e6⟩ := own_shape o2
  obtain ⟨hs0, hs1⟩ := hs
  have HS := Lib.hid hs1
  have E3 := Lib.hid e3
  have E6 := Lib.hid e6
  have P1 := Lib.hid p1
  have P2 := Lib.hid p2
  clear o1 o2 e3 e6 p1 p2 hs1
  go_enter Tryd.func48, Tryd.ntmps48
  go_wp2
  go_loopw [5] (fun i wr => ∃ j : Nat, j ≤ rs.length ∧ i = .int .i64 j ∧ Ext w wr) (fun i _ => rs.length - (intOf i).toNat)
  case atStart => exact ⟨0, by omega, rfl, Ext.refl _⟩
  case round =>
    obtain ⟨j, hj, rfl, hE⟩ := hrel
    have hEs := hE.size
    by_cases hlt : j < rs.length
    · have hlt' : (j : Int) < rs.length := by omega
      obtain ⟨g1, rfl, _, x1, x2, _⟩ := E3.out (by omega)
      obtain ⟨g2, rfl, _, x3, x4, _⟩ := E6.out (by omega)
      obtain ⟨va, vb, f0, f1, f2, ra, rb⟩ := P1.out j hlt
      obtain ⟨vc, vd, f3, f4, f5, rc, rd⟩ := P2.out j hlt
      obtain ⟨s1, s2, s3, s4⟩ := HS.out j hlt
      have z0 := (hE.cellA (p := ⟨g1, j * 3, none⟩) x1).trans (x2 _ _ f0)
      have z1 := (hE.cellA (p := ⟨g1, j * 3 + 1, none⟩) x1).trans (x2 _ _ f1)
      have z2 := (hE.cellA (p := ⟨g1, j * 3 + 2, none⟩) x1).trans (x2 _ _ f2)
      have t0 := (hE.cellA (p := ⟨g2, j * 3, none⟩) x3).trans (x4 _ _ f3)
      have t1 := (hE.cellA (p := ⟨g2, j * 3 + 1, none⟩) x3).trans (x4 _ _ f4)
      have t2 := (hE.cellA (p := ⟨g2, j * 3 + 2, none⟩) x3).trans (x4 _ _ f5)
      have r1 : g1 < wr.heap.size := by omega
      have r2 : g2 < wr.heap.size := by omega
      have HQ := fun w' (hx : Ext wr w') => Lib.hid (eqReplacement_same rs[j].t s3 (by omega) s4 (by omega) w' (own_ext ra (hE.trans hx)) (own_ext rb (hE.trans hx)) (own_ext rc (hE.trans hx)) (own_ext rd (hE.trans hx)))
      obtain ⟨_, _, rfl, _, _, _⟩ := own_shape ra
      obtain ⟨_, _, rfl, _, _, _⟩ := own_shape rb
      obtain ⟨_, _, rfl, _, _, _⟩ := own_shape rc
      obtain ⟨_, _, rfl, _, _, _⟩ := own_shape rd
      clear x2 x4 f0 f1 f2 f3 f4 f5 ra rb rc rd s1 s2 s3 s4
      generalize rs[j].t = t at *
      generalize rs[j].m1 = m1 at *
      generalize rs[j].m2 = m2 at *
      go_wp2
      refine wp_region_madeC (m := 27) (by kernel_rfl) (by kernel_rfl) rfl (fun hxc => ?_)
      repeat (refine mw_quiet ?_; apply Exists.intro; refine ⟨fun σ => ?_, ?_⟩; (first | (go_simp; rfl) | (go_simp; intro x; first | (go_at_call 64; exact (HQ _ x.ext).out))); simp only [Act.put, List.setIfInBounds_toArray, List.set_cons_succ, List.set_cons_zero, List.nil_append, List.cons_append])
      refine ⟨by kernel_rfl, fun σ w1 hF1 => ?_⟩
      have hx1 := hF1.ext
      clear hF1 hxc
      obtain ⟨hc1, hf1⟩ := hx1.cells
      have hz1 := hx1.size
      try simp at hz1
      go_wp2
      go_roundw
      case rel => exact ⟨j + 1, by omega, by go_num, hE.trans hx1⟩
      case measure => simp [intOf]; omega
    · have hje : j = rs.length := by omega
      have hje' : ¬ (j : Int) < rs.length := by omega
      go_wp2
      go_ret
      exact ⟨rfl, hE⟩

set_option maxHeartbeats 1000000 in
theorem szCertificate_any (q1 q2 l : Int) (hl : 0 ≤ l ∧ l ≤ 1048576) {v1 vs v2 : Value} {m1 m2 : Nat} {xs ys : List Int} {rs : List Rp} (w : World) (h1 : RV w 3 v1 m1 xs) (h2 : RSV w vs rs) (h3 : RV w 3 v2 m2 ys) :
    Calls Tryd.prog 9 #[.agg #[.int .i64 q1, v1, vs, .int .i64 q2, v2], .int .i64 l] w fun e w' => (∃ r : Int, e = .returned (.int .i64 r) ∧ r ≤ l ∧ (r = -1 ∨ (0 ≤ r ∧ m1 ≤ 1048576 ∧ m2 ≤ 1048576 ∧ Small rs))) ∧ Ext w w' := by
  have H1 := fun w' (hx : Ext w w') => Lib.hid (szCircuit_any q1 l hl w' (h1.ext hx))
  have H2 := fun l' hl' w' (hx : Ext w w') => Lib.hid (szReplacementS_any l' hl' w' (h2.ext hx))
  have H3 := fun l' hl' w' (hx : Ext w w') => Lib.hid (szCircuit_any q2 l' hl' w' (h3.ext hx))
  obtain ⟨_, a1, c1, rfl, _, _, _⟩ := h1
  obtain ⟨a2, c2, rfl, _, _, _⟩ := h2
  obtain ⟨_, a3, c3, rfl, _, _, _⟩ := h3
  by_cases hm : (m1 : Int) ≤ l
  case neg =>
    rw [if_neg hm] at H1
    go_enter Tryd.func9, Tryd.ntmps9
    go_wp2_with fail
    refine (H1 _ (by repeat (first | exact Ext.refl _ | assumption | refine Ext.alloc ?_ _ | refine Ext.drew ?_ | refine Ext.drewN ?_ _ | refine Ext.setCell ?_ (by first | omega | (dsimp only; omega) | (simp; done) | (simp; omega)) _ | refine Ext.trans ?_ (by assumption)))).out.mono ?_
    rintro e w1 ⟨rfl, hx1⟩
    go_wp2
    go_ret
    exact ⟨⟨_, rfl, by omega, .inl rfl⟩, (by repeat (first | exact Ext.refl _ | assumption | refine Ext.alloc ?_ _ | refine Ext.drew ?_ | refine Ext.drewN ?_ _ | refine Ext.setCell ?_ (by first | omega | (dsimp only; omega) | (simp; done) | (simp; omega)) _ | refine Ext.trans ?_ (by assumption)))⟩
  rw [if_pos hm] at H1
  have hm' : ¬ (l - m1 < 0) := by omega
  go_enter Tryd.func9, Tryd.ntmps9
  go_wp2_with fail
  refine (H1 _ (by repeat (first | exact Ext.refl _ | assumption | refine Ext.alloc ?_ _ | refine Ext.drew ?_ | refine Ext.drewN ?_ _ | refine Ext.setCell ?_ (by first | omega | (dsimp only; omega) | (simp; done) | (simp; omega)) _ | refine Ext.trans ?_ (by assumption)))).out.mono ?_
  rintro e w1 ⟨rfl, hx1⟩
  obtain ⟨hc1, hf1⟩ := hx1.cells
  have hz1 := hx1.size
  try simp at hz1
  have hs1_0 := sz1 (a := w.heap.size) (b := w1.heap.size) (by omega)
  go_wp2_with fail
  refine (H2 _ (by omega) _ (by repeat (first | exact Ext.refl _ | assumption | refine Ext.alloc ?_ _ | refine Ext.drew ?_ | refine Ext.drewN ?_ _ | refine Ext.setCell ?_ (by first | omega | (dsimp only; omega) | (simp; done) | (simp; omega)) _ | refine Ext.trans ?_ (by assumption)))).out.mono ?_
  rintro e w2 ⟨⟨r, rfl, hr, hc⟩, hx2⟩
  obtain ⟨hc2, hf2⟩ := hx2.cells
  have hz2 := hx2.size
  try simp at hz2
  have hs2_0 := sz1 (a := w.heap.size) (b := w2.heap.size) (by omega)
  rcases hc with rfl | ⟨hr0, hS⟩
  · go_wp2
    go_ret
    exact ⟨⟨_, rfl, by omega, .inl rfl⟩, (by repeat (first | exact Ext.refl _ | assumption | refine Ext.alloc ?_ _ | refine Ext.drew ?_ | refine Ext.drewN ?_ _ | refine Ext.setCell ?_ (by first | omega | (dsimp only; omega) | (simp; done) | (simp; omega)) _ | refine Ext.trans ?_ (by assumption)))⟩
  · have hr0' : ¬ (r < 0) := by omega
    have H4 := H3 r ⟨hr0, by omega⟩
    by_cases hk : (m2 : Int) ≤ r
    · rw [if_pos hk] at H4
      have hk' : ¬ (r - m2 < 0) := by omega
      go_wp2_with fail
      refine (H4 _ (by repeat (first | exact Ext.refl _ | assumption | refine Ext.alloc ?_ _ | refine Ext.drew ?_ | refine Ext.drewN ?_ _ | refine Ext.setCell ?_ (by first | omega | (dsimp only; omega) | (simp; done) | (simp; omega)) _ | refine Ext.trans ?_ (by assumption)))).out.mono ?_
      rintro e w3 ⟨rfl, hx3⟩
      go_wp2
      go_ret
      exact ⟨⟨_, rfl, by omega, .inr ⟨by omega, by omega, by omega, hS⟩⟩, (by repeat (first | exact Ext.refl _ | assumption | refine Ext.alloc ?_ _ | refine Ext.drew ?_ | refine Ext.drewN ?_ _ | refine Ext.setCell ?_ (by first | omega | (dsimp only; omega) | (simp; done) | (simp; omega)) _ | refine Ext.trans ?_ (by assumption)))⟩
    · rw [if_neg hk] at H4
      go_wp2_with fail
      refine (H4 _ (by repeat (first | exact Ext.refl _ | assumption | refine Ext.alloc ?_ _ | refine Ext.drew ?_ | refine Ext.drewN ?_ _ | refine Ext.setCell ?_ (by first | omega | (dsimp only; omega) | (simp; done) | (simp; omega)) _ | refine Ext.trans ?_ (by assumption)))).out.mono ?_
      rintro e w3 ⟨rfl, hx3⟩
      go_wp2
      go_ret
      exact ⟨⟨_, rfl, by omega, .inl rfl⟩, (by repeat (first | exact Ext.refl _ | assumption | refine Ext.alloc ?_ _ | refine Ext.drew ?_ | refine Ext.drewN ?_ _ | refine Ext.setCell ?_ (by first | omega | (dsimp only; omega) | (simp; done) | (simp; omega)) _ | refine Ext.trans ?_ (by assumption)))⟩

set_option maxHeartbeats 1000000 in
theorem toCertificate_any (q1 q2 : Int) {v1 vs v2 : Value} {m1 m2 : Nat} {xs ys : List Int} {rs : List Rp} (hm1 : m1 ≤ 2000000) (hm2 : m2 ≤ 2000000) (hs : Small rs) (w : World) (h1 : RV w 3 v1 m1 xs) (h2 : RSV w vs rs) (h3 : RV w 3 v2 m2 ys) :
    Calls Tryd.prog 15 #[.agg #[.int .i64 q1, v1, vs, .int .i64 q2, v2]] w fun e w' => ∃ u1 us u2, e = .returned (.agg #[.int .i64 q1, u1, us, .int .i64 q2, u2]) ∧
      w'.ownsRow w.heap.size 79 3 u1 m1 (IL xs) ∧ RSO w' w.heap.size us rs ∧ w'.ownsRow w.heap.size 79 3 u2 m2 (IL ys) ∧ Ext w w' := by
  have H1 := fun w' (hx : Ext w w') => Lib.hid (toCircuit_any q1 hm1 w' (h1.ext hx))
  have H2 := fun w' (hx : Ext w w') => Lib.hid (toReplacementS_any hs w' (h2.ext hx))
  have H3 := fun w' (hx : Ext w w') => Lib.hid (toCircuit_any q2 hm2 w' (h3.ext hx))
  obtain ⟨_, a1, c1, rfl, _, _, _⟩ := h1
  obtain ⟨a2, c2, rfl, _, _, _⟩ := h2
  obtain ⟨_, a3, c3, rfl, _, _, _⟩ := h3
  go_enter Tryd.func15, Tryd.ntmps15
  go_wp2_with fail
  refine (H1 _ (by repeat (first | exact Ext.refl _ | assumption | refine Ext.alloc ?_ _ | refine Ext.drew ?_ | refine Ext.drewN ?_ _ | refine Ext.setCell ?_ (by first | omega | (dsimp only; omega) | (simp; done) | (simp; omega)) _ | refine Ext.trans ?_ (by assumption)))).out.mono ?_
  rintro e w1 ⟨u1, rfl, o1, hx1⟩
  obtain ⟨hc1, hf1⟩ := hx1.cells
  have hz1 := hx1.size
  try simp at hz1
  have hs1_0 := sz3 (a := w.heap.size) (b := w1.heap.size) (by omega)
  obtain ⟨b1, d1, rfl, f1, f2, f3⟩ := own_shape o1
  have O1 := Lib.hid (own_base (base' := w.heap.size + 1 + 1 + 1) o1 (by simp))
  clear f3 o1
  go_wp2_with fail
  refine (H2 _ (by repeat (first | (with_reducible refine Ext.setCell ?_ (by first | (simp; done) | (simp; omega)) _) | with_reducible refine Ext.alloc ?_ _ | with_reducible refine Ext.drew ?_ | with_reducible refine Ext.drewN ?_ _ | with_reducible assumption | with_reducible exact Ext.refl _ | with_reducible refine Ext.trans ?_ (by with_reducible assumption)))).out.mono ?_
  rintro e w2 ⟨u2, rfl, o2, hx2⟩
  obtain ⟨hc2, hf2⟩ := hx2.cells
  have hz2 := hx2.size
  try simp at hz2
  have hs2_0 := sz3 (a := w.heap.size) (b := w2.heap.size) (by omega)
  obtain ⟨b2, d2, hb2, g1, g2, g3⟩ := own_shape o2.choose_spec.1
  subst hb2
  have O2 := Lib.hid (RSO.base (base' := w.heap.size + 1 + 1 + 1) o2 (by simp; omega))
  have O3 := Lib.hid (own_ext (own_set (own_set O1.out (p := ⟨w.heap.size + 1 + 1, 0, none⟩) (by simp) (.int .i64 q1)) (p := ⟨w.heap.size + 1 + 1, 1, none⟩) (by simp) (.slice b1 m1 d1)) hx2)
  clear g3 o2 O1
  go_wp2_with fail
  refine (H3 _ (by repeat (first | (with_reducible refine Ext.setCell ?_ (by first | (simp; done) | (simp; omega)) _) | with_reducible refine Ext.alloc ?_ _ | with_reducible refine Ext.drew ?_ | with_reducible refine Ext.drewN ?_ _ | with_reducible assumption | with_reducible exact Ext.refl _ | with_reducible refine Ext.trans ?_ (by with_reducible assumption)))).out.mono ?_
  rintro e w3 ⟨u3, rfl, o3, hx3⟩
  obtain ⟨hc3, hf3⟩ := hx3.cells
  have hz3 := hx3.size
  try simp at hz3
  have hs3_0 := sz3 (a := w.heap.size) (b := w3.heap.size) (by omega)
  obtain ⟨b3, d3, rfl, k1, k2, k3⟩ := own_shape o3
  have O4 := Lib.hid (own_base (base' := w.heap.size + 1 + 1 + 1) o3 (by simp; omega))
  have O5 := Lib.hid (own_ext (own_set O3.out (p := ⟨w.heap.size + 1 + 1, 2, none⟩) (by simp) (.slice b2 rs.length d2)) hx3)
  have O6 := Lib.hid (RSO.ext (RSO.set O2.out (p := ⟨w.heap.size + 1 + 1, 2, none⟩) (by simp) (.slice b2 rs.length d2)) hx3)
  clear k3 o3 O2 O3
  go_wp2
  refine bodyPost_ret (v := .agg #[.int .i64 q1, .slice b1 m1 d1, .slice b2 rs.length d2, .int .i64 q2, .slice b3 m2 d3]) (by simp [results, Tryd.results15, go_sem, *]) rfl ?_
  refine ⟨_, _, _, rfl, own_base (base := w.heap.size + 1 + 1 + 1) ?_ (by omega), RSO.base (base := w.heap.size + 1 + 1 + 1) ?_ (by omega), own_base (base := w.heap.size + 1 + 1 + 1) ?_ (by omega), (by repeat (first | (with_reducible refine Ext.setCell ?_ (by first | (simp; done) | (simp; omega)) _) | with_reducible refine Ext.alloc ?_ _ | with_reducible refine Ext.drew ?_ | with_reducible refine Ext.drewN ?_ _ | with_reducible assumption | with_reducible exact Ext.refl _ | with_reducible refine Ext.trans ?_ (by with_reducible assumption)))⟩
  · repeat (with_reducible refine own_set ?_ (by simp) _)
    exact O5.out
  · repeat (with_reducible refine RSO.set ?_ (by simp) _)
    exact O6.out
  · repeat (with_reducible refine own_set ?_ (by simp) _)
    exact O4.out

set_option maxHeartbeats 1000000 in
theorem eqCertificate_same (q1 q2 : Int) {b1 b2 b3 b4 b5 b6 : Nat} {v1 vs v2 u1 us u2 : Value} {m1 m2 : Nat} {xs ys : List Int} {rs : List Rp} (hm1 : m1 ≤ 2000000) (hm2 : m2 ≤ 2000000) (hl1 : xs.length = m1 * 3) (hl2 : ys.length = m2 * 3) (hs : Small rs) (w : World)
    (h1 : w.ownsRow b1 79 3 v1 m1 (IL xs)) (h2 : RSO w b2 vs rs) (h3 : w.ownsRow b3 79 3 v2 m2 (IL ys)) (h4 : w.ownsRow b4 79 3 u1 m1 (IL xs)) (h5 : RSO w b5 us rs) (h6 : w.ownsRow b6 79 3 u2 m2 (IL ys)) :
    Calls Tryd.prog 24 #[.agg #[.int .i64 q1, v1, vs, .int .i64 q2, v2], .agg #[.int .i64 q1, u1, us, .int .i64 q2, u2]] w fun e w' => e = .returned (.bool true) ∧ Ext w w' := by
  have H1 := fun w' (hx : Ext w w') => Lib.hid (eqCircuit_same q1 hl1 hm1 w' (own_ext h1 hx) (own_ext h4 hx))
  have H2 := fun w' (hx : Ext w w') => Lib.hid (eqReplacementS_same hs w' (h2.ext hx) (h5.ext hx))
  have H3 := fun w' (hx : Ext w w') => Lib.hid (eqCircuit_same q2 hl2 hm2 w' (own_ext h3 hx) (own_ext h6 hx))
  obtain ⟨_, _, rfl, _, _, _⟩ := own_shape h1
  obtain ⟨_, _, rfl, _, _, _⟩ := own_shape h3
  obtain ⟨_, _, rfl, _, _, _⟩ := own_shape h4
  obtain ⟨_, _, rfl, _, _, _⟩ := own_shape h6
  obtain ⟨_, o2, _, _⟩ := h2
  obtain ⟨_, o5, _, _⟩ := h5
  obtain ⟨_, _, rfl, _, _, _⟩ := own_shape o2
  obtain ⟨_, _, rfl, _, _, _⟩ := own_shape o5
  clear h1 h3 h4 h6 o2 o5
  go_enter Tryd.func24, Tryd.ntmps24
  go_wp2_with fail
  refine (H1 _ (by repeat (first | exact Ext.refl _ | assumption | refine Ext.alloc ?_ _ | refine Ext.drew ?_ | refine Ext.drewN ?_ _ | refine Ext.setCell ?_ (by first | omega | (dsimp only; omega) | (simp; done) | (simp; omega)) _ | refine Ext.trans ?_ (by assumption)))).out.mono ?_
  rintro e w1 ⟨rfl, hx1⟩
  obtain ⟨hc1, hf1⟩ := hx1.cells
  have hz1 := hx1.size
  try simp at hz1
  have hs1_0 := sz2 (a := w.heap.size) (b := w1.heap.size) (by omega)
  go_wp2_with fail
  refine (H2 _ (by repeat (first | exact Ext.refl _ | assumption | refine Ext.alloc ?_ _ | refine Ext.drew ?_ | refine Ext.drewN ?_ _ | refine Ext.setCell ?_ (by first | omega | (dsimp only; omega) | (simp; done) | (simp; omega)) _ | refine Ext.trans ?_ (by assumption)))).out.mono ?_
  rintro e w2 ⟨rfl, hx2⟩
  obtain ⟨hc2, hf2⟩ := hx2.cells
  have hz2 := hx2.size
  try simp at hz2
  have hs2_0 := sz2 (a := w.heap.size) (b := w2.heap.size) (by omega)
  go_wp2_with fail
  refine (H3 _ (by repeat (first | exact Ext.refl _ | assumption | refine Ext.alloc ?_ _ | refine Ext.drew ?_ | refine Ext.drewN ?_ _ | refine Ext.setCell ?_ (by first | omega | (dsimp only; omega) | (simp; done) | (simp; omega)) _ | refine Ext.trans ?_ (by assumption)))).out.mono ?_
  rintro e w3 ⟨rfl, hx3⟩
  obtain ⟨hc3, hf3⟩ := hx3.cells
  have hz3 := hx3.size
  try simp at hz3
  have hs3_0 := sz2 (a := w.heap.size) (b := w3.heap.size) (by omega)
  go_wp2
  go_ret
  exact ⟨rfl, (by repeat (first | exact Ext.refl _ | assumption | refine Ext.alloc ?_ _ | refine Ext.drew ?_ | refine Ext.drewN ?_ _ | refine Ext.setCell ?_ (by first | omega | (dsimp only; omega) | (simp; done) | (simp; omega)) _ | refine Ext.trans ?_ (by assumption)))⟩

end Go.Proofs.YtgefamclfjoogaaDoor
