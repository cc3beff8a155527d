/- Certificates that are joined: both sides. -/
import Derived.Test.YtlbcjbeafampcaaCgP
import Derived.Test.YtlbcjbeafampcaaCgQ
import Derived.Deep.RegionHeld3
namespace Go.Proofs.Ytlbcjbeafampcaa
open Go.RowKit Go.Lib
set_option linter.unusedVariables false
set_option linter.unusedSimpArgs false

def jOk (C D : Cv) : Bool := eqC C.q2 C.n2 C.ys D.q1 D.n1 D.xs && decide (C.n + D.n ≤ 400)
def noR : Nat → Rp := fun _ => default
def jC (C D : Cv) : Cv := if jOk C D then ⟨C.q1, C.n1, C.xs, C.n + D.n, appR C.n C.R D.R, D.q2, D.n2, D.ys⟩ else ⟨0, 0, [], 0, noR, 0, 0, []⟩
theorem jC_ok {C D : Cv} (hc : C.Ok) (hd : D.Ok) : (jC C D).Ok := by
  unfold jC
  split
  · refine ⟨hc.1, hd.2.1, fun j hj => ?_⟩
    simp only [appR]
    by_cases h : j < C.n
    · rw [if_pos h]; exact hc.2.2 j h
    · rw [if_neg h]; exact hd.2.2 (j - C.n) (by simp only at hj; omega)
  · exact ⟨rfl, rfl, fun j hj => absurd hj (by simp)⟩
theorem gsR_app {n m : Nat} {R R2 : Nat → Rp} : gsR (appR n R R2) (n + m) = gsR R n + gsR R2 m := by
  induction m with
  | zero => exact gsR_congr (fun j hj => if_pos (by omega))
  | succ m ih =>
    show gsR (appR n R R2) (n + m) + ((appR n R R2 (n + m)).m1 + (appR n R R2 (n + m)).m2) = _ + (gsR R2 m + _)
    rw [ih]
    have : appR n R R2 (n + m) = R2 m := by unfold appR; rw [if_neg (by omega), Nat.add_sub_cancel_left]
    rw [this]
    omega
theorem jC_tot {C D : Cv} (h : C.tot + D.tot ≤ 1048576) : (jC C D).tot ≤ 1048576 := by
  unfold jC
  split
  · have h1 : C.tot = C.n1 + (C.n + gsR C.R C.n) + C.n2 := rfl
    have h2 : D.tot = D.n1 + (D.n + gsR D.R D.n) + D.n2 := rfl
    show C.n1 + (C.n + D.n + gsR (appR C.n C.R D.R) (C.n + D.n)) + D.n2 ≤ 1048576
    rw [gsR_app]
    omega
  · decide
theorem cz_none (w : World) (lo hi : Nat) (q : Int) : CZ w lo hi (.slice none 0 0) (.slice none 0 0) (.slice none 0 0) ⟨0, 0, [], 0, noR, 0, 0, []⟩ :=
  ⟨own_nil _ _ _ _, own_nil _ _ _ _, fun k hk => by simp [Value.ownBlock] at hk, fun k hk => by simp [Value.ownBlock] at hk, fun k hk => by simp [Value.ownBlock] at hk, fun _ => False,
    ⟨[], own_nil _ _ _ _, rfl, ⟨fun k hk => by simp [Value.ownBlock] at hk, fun p x k hp => by simp at hp⟩, ⟨fun p x k hp => by simp at hp, fun p q x y k _ hp => by simp at hp⟩, fun i hi => absurd hi (by simp)⟩, fun k hk => hk.elim⟩

set_option maxRecDepth 20000 in
set_option maxHeartbeats 20000000 in
theorem joinCertificates_any {v1 vs v2 u1 us u2 : Value} (C D : Cv) (hcd : C.tot + D.tot ≤ 1048576) (w : World) (h : CV w v1 vs v2 C) (k : CV w u1 us u2 D) :
    Calls Try.prog 9 #[.agg #[.int .i64 C.q1, v1, vs, .int .i64 C.q2, v2], .agg #[.int .i64 D.q1, u1, us, .int .i64 D.q2, u2]] w fun e w' => ∃ x1 xs x2, e = .returned (.tuple #[.agg #[.int .i64 (jC C D).q1, x1, xs, .int .i64 (jC C D).q2, x2], .bool (jOk C D)]) ∧
      CZ w' w.heap.size w'.heap.size x1 xs x2 (jC C D) ∧ Ext w w' := by
  have ht1 : C.tot = C.n1 + (C.n + gsR C.R C.n) + C.n2 := rfl
  have ht2 : D.tot = D.n1 + (D.n + gsR D.R D.n) + D.n2 := rfl
  have HEQ := fun w' (hx : Ext w w') => Lib.hid (equalCircuits_any C.q2 D.q1 (by omega) (by omega) w' (h.2.2.ext hx) (k.1.ext hx))
  have HC1 := fun w' (hx : Ext w w') => Lib.hid (copyCircuit_any C.q1 (by omega) w' (h.1.ext hx))
  have HC2 := fun w' (hx : Ext w w') => Lib.hid (copyCircuit_any D.q2 (by omega) w' (k.2.2.ext hx))
  have HS1 := fun w' (hx : Ext w w') => Lib.hid (copyReplacements_any (n := C.n) (R := C.R) (by omega) w' (h.2.1.ext hx))
  have HS2 := fun w' (hx : Ext w w') => Lib.hid (copyReplacements_any (n := D.n) (R := D.R) (by omega) w' (k.2.1.ext hx))
  have hnn : C.n ≤ 1048576 ∧ D.n ≤ 1048576 := by omega
  obtain ⟨⟨_, a1, c1, rfl, _, _, _⟩, ⟨a2, c2, rfl, _, _, _⟩, ⟨_, a3, c3, rfl, _, _, _⟩⟩ := h
  obtain ⟨⟨_, b1, d1, rfl, _, _, _⟩, ⟨b2, d2, rfl, _, _, _⟩, ⟨_, b3, d3, rfl, _, _, _⟩⟩ := k
  simp only [RL_len] at HS1 HS2 ⊢
  clear ht1 ht2 hcd
  have HOK : Hid (jOk C D = (eqC C.q2 C.n2 C.ys D.q1 D.n1 D.xs && decide (C.n + D.n ≤ 400))) := rfl
  have HJT : Hid (jOk C D = true → jC C D = ⟨C.q1, C.n1, C.xs, C.n + D.n, appR C.n C.R D.R, D.q2, D.n2, D.ys⟩) := fun h => by unfold jC; rw [if_pos h]
  have HJF : Hid (jOk C D = false → jC C D = ⟨0, 0, [], 0, noR, 0, 0, []⟩) := fun h => by unfold jC; rw [if_neg (by rw [h]; decide)]
  generalize jOk C D = ok at *
  generalize jC C D = J at *
  obtain ⟨q1, m1, xs, n, R, q2, m2, ys⟩ := C
  obtain ⟨p1, l1, zs, m, R2, p2, l2, us⟩ := D
  dsimp only at *
  obtain ⟨hn1, hn2⟩ := hnn
  generalize eqC q2 m2 ys p1 l1 zs = g at *
  have HA0 : Hid (∀ W, Ext (((w.alloc (.cells #[.int .i64 q1, .slice a1 m1 c1, .slice a2 n c2, .int .i64 q2, .slice a3 m2 c3] 34 (0, 0))).alloc (.cells #[.int .i64 p1, .slice b1 l1 d1, .slice b2 m d2, .int .i64 p2, .slice b3 l2 d3] 34 (0, 0))).alloc (.cells #[.int .i64 0, .slice none 0 0, .slice none 0 0, .int .i64 0, .slice none 0 0] 34 (0, 0))) W →
      W.heap[w.heap.size]? = some (.cells #[.int .i64 q1, .slice a1 m1 c1, .slice a2 n c2, .int .i64 q2, .slice a3 m2 c3] 34 (0, 0)) ∧ W.heap[w.heap.size + 1]? = some (.cells #[.int .i64 p1, .slice b1 l1 d1, .slice b2 m d2, .int .i64 p2, .slice b3 l2 d3] 34 (0, 0)) ∧
      W.heap[w.heap.size + 2]? = some (.cells #[.int .i64 0, .slice none 0 0, .slice none 0 0, .int .i64 0, .slice none 0 0] 34 (0, 0))) := fun W hx =>
    ⟨row_farC (heap_alloc_lt (heap_alloc_lt (heap_alloc_new _ _))) hx, row_farC (heap_alloc_lt (heap_alloc_at _ _ _ (by simp))) hx, row_farC (heap_alloc_at _ _ _ (by simp)) hx⟩
  go_enter Try.func9, Try.ntmps9
  go_wp2_with fail
  refine (HEQ _ (by repeat (first | (with_reducible refine Ext.setCell ?_ (by first | (simp; done) | (simp; omega)) _) | with_reducible refine Ext.alloc ?_ _ | with_reducible refine Ext.drew ?_ | with_reducible refine Ext.drewN ?_ _ | with_reducible assumption | with_reducible exact Ext.refl _ | with_reducible refine Ext.trans ?_ (by with_reducible assumption)))).out.mono ?_
  rintro e w1 ⟨rfl, hx1⟩
  obtain ⟨hA, hB, hR⟩ := HA0.out _ hx1
  have hE1 : Ext w w1 := (by repeat (first | (with_reducible refine Ext.setCell ?_ (by first | (simp; done) | (simp; omega)) _) | with_reducible refine Ext.alloc ?_ _ | with_reducible refine Ext.drew ?_ | with_reducible refine Ext.drewN ?_ _ | with_reducible assumption | with_reducible exact Ext.refl _ | with_reducible refine Ext.trans ?_ (by with_reducible assumption)))
  have zA := fun k => cell_of_row _ _ k _ _ _ hA
  have zB := fun k => cell_of_row _ _ k _ _ _ hB
  have zR := fun k => cell_of_row _ _ k _ _ _ hR
  have fR := fun k => frozen_of_row _ _ k _ _ hR
  have lA := (Array.getElem?_eq_some_iff.1 hA).1
  have lB := (Array.getElem?_eq_some_iff.1 hB).1
  have lR := (Array.getElem?_eq_some_iff.1 hR).1
  have HE1 := Lib.hid hE1
  clear hA hB hR hx1 HA0 HEQ
  cases g
  · have HN : Hid (ok = false) := HOK.out
    go_wp2
    refine bodyPost_ret (v := .tuple #[.agg #[.int .i64 0, .slice none 0 0, .slice none 0 0, .int .i64 0, .slice none 0 0], .bool false]) (by simp [results, Try.results9, go_sem, *]) rfl ?_
    rw [HJF.out HN.out, HN.out]
    exact ⟨_, _, _, rfl, cz_none _ _ _ 0, (by repeat (first | (with_reducible refine Ext.setCell ?_ (by first | (simp; done) | (simp; omega)) _) | with_reducible refine Ext.alloc ?_ _ | with_reducible refine Ext.drew ?_ | with_reducible refine Ext.drewN ?_ _ | with_reducible assumption | with_reducible exact Ext.refl _ | with_reducible refine Ext.trans ?_ (by with_reducible assumption)))⟩
  by_cases h4 : n + m ≤ 400
  case neg =>
    have HN : Hid (ok = false) := HOK.out.trans (by simp; omega)
    have h4' : (400 : Int) < n + m := by omega
    go_wp2
    refine bodyPost_ret (v := .tuple #[.agg #[.int .i64 0, .slice none 0 0, .slice none 0 0, .int .i64 0, .slice none 0 0], .bool false]) (by simp [results, Try.results9, go_sem, *]) rfl ?_
    rw [HJF.out HN.out, HN.out]
    exact ⟨_, _, _, rfl, cz_none _ _ _ 0, (by repeat (first | (with_reducible refine Ext.setCell ?_ (by first | (simp; done) | (simp; omega)) _) | with_reducible refine Ext.alloc ?_ _ | with_reducible refine Ext.drew ?_ | with_reducible refine Ext.drewN ?_ _ | with_reducible assumption | with_reducible exact Ext.refl _ | with_reducible refine Ext.trans ?_ (by with_reducible assumption)))⟩
  have HY : Hid (ok = true) := HOK.out.trans (by simp; omega)
  have h4' : ¬ ((400 : Int) < n + m) := by omega
  have HK : Hid (∀ W, GX [w.heap.size + 2] w1 W → W.cell? ⟨w.heap.size, 0, none⟩ = some (.int .i64 q1) ∧ W.cell? ⟨w.heap.size, 1, none⟩ = some (.slice a1 m1 c1) ∧ W.cell? ⟨w.heap.size, 2, none⟩ = some (.slice a2 n c2) ∧ W.cell? ⟨w.heap.size + 1, 2, none⟩ = some (.slice b2 m d2) ∧ W.cell? ⟨w.heap.size + 1, 3, none⟩ = some (.int .i64 p2) ∧ W.cell? ⟨w.heap.size + 1, 4, none⟩ = some (.slice b3 l2 d3)) := fun W hx =>
    ⟨(hx.cell _ 0 lA (by simp)).trans (zA 0), (hx.cell _ 1 lA (by simp)).trans (zA 1), (hx.cell _ 2 lA (by simp)).trans (zA 2), (hx.cell _ 2 lB (by simp)).trans (zB 2), (hx.cell _ 3 lB (by simp)).trans (zB 3), (hx.cell _ 4 lB (by simp)).trans (zB 4)⟩
  go_upto_region 3 with fail
  clear zA zB
  go_region_held3 (fun W => W.cell? ⟨w.heap.size, 0, none⟩ = some (.int .i64 q1) ∧ W.cell? ⟨w.heap.size, 1, none⟩ = some (.slice a1 m1 c1) ∧ W.cell? ⟨w.heap.size, 2, none⟩ = some (.slice a2 n c2) ∧ W.cell? ⟨w.heap.size + 1, 2, none⟩ = some (.slice b2 m d2) ∧ W.cell? ⟨w.heap.size + 1, 3, none⟩ = some (.int .i64 p2) ∧ W.cell? ⟨w.heap.size + 1, 4, none⟩ = some (.slice b3 l2 d3)) (exact HK.out _ (by repeat (first | (with_reducible refine GX.setCell ?_ (by first | (simp; done) | (simp; omega)) _) | with_reducible refine GX.alloc ?_ _ | with_reducible refine GX.drew ?_ | with_reducible refine GX.drewN ?_ _ | with_reducible assumption | with_reducible exact GX.refl _ _ | with_reducible refine GX.ext ?_ (by with_reducible assumption) | with_reducible refine GX.trans ?_ (by with_reducible assumption))))
    (first
    | (go_at_call 37; (with_reducible refine Calls.mono (HC1 _ ?_).out ?_); (next => exact (by repeat (first | (with_reducible refine Ext.setCell ?_ (by first | (simp; done) | (simp; omega)) _) | with_reducible refine Ext.alloc ?_ _ | with_reducible refine Ext.drew ?_ | with_reducible refine Ext.drewN ?_ _ | with_reducible assumption | with_reducible exact Ext.refl _ | with_reducible refine Ext.trans ?_ (by with_reducible assumption)))); rintro e wA0 ⟨u0, rfl, oo, hxA0⟩; have LB0 : Hid (∀ k, u0.ownBlock = some k → _ ∧ k < wA0.heap.size) := (fun k hk => oo.lt k hk); obtain ⟨e0, k0, rfl, q1A, q2A, q3A⟩ := own_shape oo; have O0 := Lib.hid (own_base (base' := w1.heap.size) oo (by first | omega | (simp; done) | (simp; omega))); clear q1A q2A q3A oo; have hxB0 : Ext w1 wA0 := (by repeat (first | (with_reducible refine Ext.setCell ?_ (by first | (simp; done) | (simp; omega)) _) | with_reducible refine Ext.alloc ?_ _ | with_reducible refine Ext.drew ?_ | with_reducible refine Ext.drewN ?_ _ | with_reducible assumption | with_reducible exact Ext.refl _ | with_reducible refine Ext.trans ?_ (by with_reducible assumption))); obtain ⟨hcA0, hfA0⟩ := hxB0.cells; have hsA0 := hxA0.size; (try simp at hsA0); (try have l2A0 : w.heap.size + 2 < wA0.heap.size := (by omega)))
    | (go_at_call 37; (with_reducible refine Calls.mono (HC2 _ ?_).out ?_); (next => exact (by repeat (first | (with_reducible refine Ext.setCell ?_ (by first | (simp; done) | (simp; omega)) _) | with_reducible refine Ext.alloc ?_ _ | with_reducible refine Ext.drew ?_ | with_reducible refine Ext.drewN ?_ _ | with_reducible assumption | with_reducible exact Ext.refl _ | with_reducible refine Ext.trans ?_ (by with_reducible assumption)))); rintro e wA1 ⟨u0, rfl, oo, hxA1⟩; have LB1 : Hid (∀ k, u0.ownBlock = some k → _ ∧ k < wA1.heap.size) := (fun k hk => oo.lt k hk); obtain ⟨e1, k1, rfl, q1A, q2A, q3A⟩ := own_shape oo; have O1 := Lib.hid (own_base (base' := w1.heap.size) oo (by first | omega | (simp; done) | (simp; omega))); clear q1A q2A q3A oo; have hxB1 : Ext w1 wA1 := (by repeat (first | (with_reducible refine Ext.setCell ?_ (by first | (simp; done) | (simp; omega)) _) | with_reducible refine Ext.alloc ?_ _ | with_reducible refine Ext.drew ?_ | with_reducible refine Ext.drewN ?_ _ | with_reducible assumption | with_reducible exact Ext.refl _ | with_reducible refine Ext.trans ?_ (by with_reducible assumption))); obtain ⟨hcA1, hfA1⟩ := hxB1.cells; have hsA1 := hxA1.size; (try simp at hsA1); (try have l2A1 : w.heap.size + 2 < wA1.heap.size := (by omega)))
    | (go_at_call 38; (with_reducible refine Calls.mono (HS1 _ ?_).out ?_); (next => exact (by repeat (first | (with_reducible refine Ext.setCell ?_ (by first | (simp; done) | (simp; omega)) _) | with_reducible refine Ext.alloc ?_ _ | with_reducible refine Ext.drew ?_ | with_reducible refine Ext.drewN ?_ _ | with_reducible assumption | with_reducible exact Ext.refl _ | with_reducible refine Ext.trans ?_ (by with_reducible assumption)))); rintro e wA2 ⟨u0, rfl, oo, hxA2⟩; obtain ⟨ys2, oo2, hl2, hi2, hd2, he2⟩ := oo; have Q2 := Lib.hid oo2; have HL2 := Lib.hid hl2; have HI2 := Lib.hid hi2; have HD2 := Lib.hid hd2; have HM2 := Lib.hid he2; obtain ⟨e2, k2, rfl, q1A, q2A, q3A⟩ := own_shape oo2; clear q1A q2A q3A oo2 hl2 hi2 hd2 he2; have hxB2 : Ext w1 wA2 := (by repeat (first | (with_reducible refine Ext.setCell ?_ (by first | (simp; done) | (simp; omega)) _) | with_reducible refine Ext.alloc ?_ _ | with_reducible refine Ext.drew ?_ | with_reducible refine Ext.drewN ?_ _ | with_reducible assumption | with_reducible exact Ext.refl _ | with_reducible refine Ext.trans ?_ (by with_reducible assumption))); obtain ⟨hcA2, hfA2⟩ := hxB2.cells; have hsA2 := hxA2.size; (try simp at hsA2); (try have l2A2 : w.heap.size + 2 < wA2.heap.size := (by omega)))
    | (go_at_call 38; (with_reducible refine Calls.mono (HS2 _ ?_).out ?_); (next => exact (by repeat (first | (with_reducible refine Ext.setCell ?_ (by first | (simp; done) | (simp; omega)) _) | with_reducible refine Ext.alloc ?_ _ | with_reducible refine Ext.drew ?_ | with_reducible refine Ext.drewN ?_ _ | with_reducible assumption | with_reducible exact Ext.refl _ | with_reducible refine Ext.trans ?_ (by with_reducible assumption)))); rintro e wA3 ⟨u0, rfl, oo, hxA3⟩; obtain ⟨ys3, oo3, hl3, hi3, hd3, he3⟩ := oo; have Q3 := Lib.hid oo3; have HL3 := Lib.hid hl3; have HI3 := Lib.hid hi3; have HD3 := Lib.hid hd3; have HM3 := Lib.hid he3; obtain ⟨e3, k3, rfl, q1A, q2A, q3A⟩ := own_shape oo3; clear q1A q2A q3A oo3 hl3 hi3 hd3 he3; have hxB3 : Ext w1 wA3 := (by repeat (first | (with_reducible refine Ext.setCell ?_ (by first | (simp; done) | (simp; omega)) _) | with_reducible refine Ext.alloc ?_ _ | with_reducible refine Ext.drew ?_ | with_reducible refine Ext.drewN ?_ _ | with_reducible assumption | with_reducible exact Ext.refl _ | with_reducible refine Ext.trans ?_ (by with_reducible assumption))); obtain ⟨hcA3, hfA3⟩ := hxB3.cells; have hsA3 := hxA3.size; (try simp at hsA3); (try have l2A3 : w.heap.size + 2 < wA3.heap.size := (by omega)))
    | (refine step_append_val (base := wA0.heap.size) rfl elt_RP rfl (.slice e2 n k2) n ys2 rfl ?_ (.slice e3 m k3) m ys3 rfl ?_ ?_ ?_ ?_
       · exact own_ext Q2.out hxA3
       · exact RVV.ofOwn Q3.out HL3.out (el_get HL3.out HM3.out)
       · omega
       · omega
       intro v4 wF hown4 hgrow4 hiff4 hloc4
       have HRF := Lib.hid (rsp_append (w := wA3) (lo := wA0.heap.size) (lo2 := wA2.heap.size) (own_ext Q2.out hxA3) HL2.out HI2.out HD2.out (fun i hi => (HM2.out i hi).ext hxA3) HL3.out HI3.out HD3.out HM3.out (by omega) (fun k h1 h2 => by have h3 : _ ∧ k < wA2.heap.size := h1; have h4 : wA2.heap.size ≤ k ∧ _ := h2; omega) (fun k h1 => by have h3 : _ ∧ k < wA2.heap.size := h1; omega) (fun k h1 => by have h3 : _ ∧ k < wA3.heap.size := h1; omega) hown4 hgrow4 hloc4)
       have O0F := Lib.hid (own_far (own_ext (own_ext O0.out hxA2) hxA3) hgrow4 (fun j hj k hk e => by have := LB0.out k hk; have h5 : wA0.heap.size ≤ j ∧ _ := HI2.out.1 j hj; omega))
       have hxF : Ext w1 wF := ext_grownB hxB3 hgrow4 (own_ext Q2.out hxA3) (by omega)
       obtain ⟨hcF, hfF⟩ := hxF.cells
       have hsF := hgrow4.size
       have l2F : w.heap.size + 2 < wF.heap.size := by omega
       have LBF : Hid (∀ k, v4.ownBlock = some k → wA0.heap.size ≤ k ∧ k < wF.heap.size) := fun k hk => hown4.lt k hk
       obtain ⟨eF, kF, rfl, _, _, _⟩ := own_shape hown4
       clear hown4 hgrow4 hiff4 hloc4))
  all_goals
    clear HK HC1 HC2 HS1 HS2
    go_wp2_with fail
    go_wp2
    refine bodyPost_ret (v := .tuple #[.agg #[.int .i64 q1, .slice e0 m1 k0, .slice eF (n + m) kF, .int .i64 p2, .slice e1 l2 k1], .bool true]) (by simp [results, Try.results9, go_sem, *]) rfl ?_
    rw [HJT.out HY.out, HY.out]
    have s1 := HE1.out.size
    have B0 := LB0.out
    have B1 := LB1.out
    refine ⟨_, _, _, rfl, ⟨?_, ?_, fun k hk => ?_, fun k hk => ?_, fun k hk hk2 => ?_, (fun k => (wA0.heap.size ≤ k ∧ k < wA2.heap.size) ∨ (wA2.heap.size ≤ k ∧ k < wA3.heap.size) ∨ (Value.slice eF (n + m) kF).ownBlock = some k), ?_, fun k hk => ⟨?_, fun e => ?_, fun e => ?_⟩⟩, (by repeat (first | (with_reducible refine Ext.setCell ?_ (by first | (simp; done) | (simp; omega)) _) | with_reducible refine Ext.alloc ?_ _ | with_reducible refine Ext.drew ?_ | with_reducible refine Ext.drewN ?_ _ | with_reducible assumption | with_reducible exact Ext.refl _ | with_reducible refine Ext.trans ?_ (by with_reducible assumption)))⟩
    · refine own_base (base := w1.heap.size) ?_ (by omega)
      (repeat with_reducible refine own_set ?_ (by simp; omega) _)
      exact own_ext O0F.out hxA1
    · refine own_base (base := w1.heap.size) ?_ (by omega)
      (repeat with_reducible refine own_set ?_ (by simp; omega) _)
      exact O1.out
    · have := B0 k hk; simp; omega
    · have := B1 k hk; simp; omega
    · have := B0 k hk; have := B1 k hk2; omega
    · refine RSP.weak (lo := wA0.heap.size) (S := fun k => (wA0.heap.size ≤ k ∧ k < wA2.heap.size) ∨ (wA2.heap.size ≤ k ∧ k < wA3.heap.size) ∨ (Value.slice eF (n + m) kF).ownBlock = some k) ?_ (by omega) (fun k hk => hk)
      (repeat with_reducible refine RSP.set ?_ (by simp; omega) _)
      exact RSP.ext HRF.out hxA1
    · rcases hk with hk | hk | hk
      · simp; omega
      · simp; omega
      · have := LBF.out k hk; simp; omega
    · have := B0 k e
      rcases hk with hk | hk | hk
      · omega
      · omega
      · have := LBF.out k hk; omega
    · have := B1 k e
      rcases hk with hk | hk | hk
      · omega
      · omega
      · have := LBF.out k hk; omega

set_option maxRecDepth 20000 in
set_option maxHeartbeats 20000000 in
theorem s_joinCertificates_any {v1 vs v2 u1 us u2 : Value} (C D : Cv) (hcd : C.tot + D.tot ≤ 1048576) (w : World) (h : CV w v1 vs v2 C) (k : CV w u1 us u2 D) :
    Calls Try.prog 7 #[.agg #[.int .i64 C.q1, v1, vs, .int .i64 C.q2, v2], .agg #[.int .i64 D.q1, u1, us, .int .i64 D.q2, u2]] w fun e w' => ∃ x1 xs x2, e = .returned (.tuple #[.agg #[.int .i64 (jC C D).q1, x1, xs, .int .i64 (jC C D).q2, x2], .bool (jOk C D)]) ∧
      CZ w' w.heap.size w'.heap.size x1 xs x2 (jC C D) ∧ Ext w w' := by
  have ht1 : C.tot = C.n1 + (C.n + gsR C.R C.n) + C.n2 := rfl
  have ht2 : D.tot = D.n1 + (D.n + gsR D.R D.n) + D.n2 := rfl
  have HEQ := fun w' (hx : Ext w w') => Lib.hid (s_equalCircuits_any C.q2 D.q1 (by omega) (by omega) w' (h.2.2.ext hx) (k.1.ext hx))
  have HC1 := fun w' (hx : Ext w w') => Lib.hid (l4Own_any C.q1 (by omega) w' (h.1.ext hx))
  have HC2 := fun w' (hx : Ext w w') => Lib.hid (l4Own_any D.q2 (by omega) w' (k.2.2.ext hx))
  have HS1 := fun w' (hx : Ext w w') => Lib.hid (l30Steps_any (n := C.n) (R := C.R) (by omega) w' (h.2.1.ext hx))
  have HS2 := fun w' (hx : Ext w w') => Lib.hid (l30Steps_any (n := D.n) (R := D.R) (by omega) w' (k.2.1.ext hx))
  have hnn : C.n ≤ 1048576 ∧ D.n ≤ 1048576 := by omega
  obtain ⟨⟨_, a1, c1, rfl, _, _, _⟩, ⟨a2, c2, rfl, _, _, _⟩, ⟨_, a3, c3, rfl, _, _, _⟩⟩ := h
  obtain ⟨⟨_, b1, d1, rfl, _, _, _⟩, ⟨b2, d2, rfl, _, _, _⟩, ⟨_, b3, d3, rfl, _, _, _⟩⟩ := k
  simp only [RL_len] at HS1 HS2 ⊢
  clear ht1 ht2 hcd
  have HOK : Hid (jOk C D = (eqC C.q2 C.n2 C.ys D.q1 D.n1 D.xs && decide (C.n + D.n ≤ 400))) := rfl
  have HJT : Hid (jOk C D = true → jC C D = ⟨C.q1, C.n1, C.xs, C.n + D.n, appR C.n C.R D.R, D.q2, D.n2, D.ys⟩) := fun h => by unfold jC; rw [if_pos h]
  have HJF : Hid (jOk C D = false → jC C D = ⟨0, 0, [], 0, noR, 0, 0, []⟩) := fun h => by unfold jC; rw [if_neg (by rw [h]; decide)]
  generalize jOk C D = ok at *
  generalize jC C D = J at *
  obtain ⟨q1, m1, xs, n, R, q2, m2, ys⟩ := C
  obtain ⟨p1, l1, zs, m, R2, p2, l2, us⟩ := D
  dsimp only at *
  obtain ⟨hn1, hn2⟩ := hnn
  generalize eqC q2 m2 ys p1 l1 zs = g at *
  have HA0 : Hid (∀ W, Ext (((w.alloc (.cells #[.int .i64 q1, .slice a1 m1 c1, .slice a2 n c2, .int .i64 q2, .slice a3 m2 c3] 34 (0, 0))).alloc (.cells #[.int .i64 p1, .slice b1 l1 d1, .slice b2 m d2, .int .i64 p2, .slice b3 l2 d3] 34 (0, 0))).alloc (.cells #[.int .i64 0, .slice none 0 0, .slice none 0 0, .int .i64 0, .slice none 0 0] 34 (0, 0))) W →
      W.heap[w.heap.size]? = some (.cells #[.int .i64 q1, .slice a1 m1 c1, .slice a2 n c2, .int .i64 q2, .slice a3 m2 c3] 34 (0, 0)) ∧ W.heap[w.heap.size + 1]? = some (.cells #[.int .i64 p1, .slice b1 l1 d1, .slice b2 m d2, .int .i64 p2, .slice b3 l2 d3] 34 (0, 0)) ∧
      W.heap[w.heap.size + 2]? = some (.cells #[.int .i64 0, .slice none 0 0, .slice none 0 0, .int .i64 0, .slice none 0 0] 34 (0, 0))) := fun W hx =>
    ⟨row_farC (heap_alloc_lt (heap_alloc_lt (heap_alloc_new _ _))) hx, row_farC (heap_alloc_lt (heap_alloc_at _ _ _ (by simp))) hx, row_farC (heap_alloc_at _ _ _ (by simp)) hx⟩
  go_enter Try.func7, Try.ntmps7
  go_wp2_with fail
  refine (HEQ _ (by repeat (first | (with_reducible refine Ext.setCell ?_ (by first | (simp; done) | (simp; omega)) _) | with_reducible refine Ext.alloc ?_ _ | with_reducible refine Ext.drew ?_ | with_reducible refine Ext.drewN ?_ _ | with_reducible assumption | with_reducible exact Ext.refl _ | with_reducible refine Ext.trans ?_ (by with_reducible assumption)))).out.mono ?_
  rintro e w1 ⟨rfl, hx1⟩
  obtain ⟨hA, hB, hR⟩ := HA0.out _ hx1
  have hE1 : Ext w w1 := (by repeat (first | (with_reducible refine Ext.setCell ?_ (by first | (simp; done) | (simp; omega)) _) | with_reducible refine Ext.alloc ?_ _ | with_reducible refine Ext.drew ?_ | with_reducible refine Ext.drewN ?_ _ | with_reducible assumption | with_reducible exact Ext.refl _ | with_reducible refine Ext.trans ?_ (by with_reducible assumption)))
  have zA := fun k => cell_of_row _ _ k _ _ _ hA
  have zB := fun k => cell_of_row _ _ k _ _ _ hB
  have zR := fun k => cell_of_row _ _ k _ _ _ hR
  have fR := fun k => frozen_of_row _ _ k _ _ hR
  have lA := (Array.getElem?_eq_some_iff.1 hA).1
  have lB := (Array.getElem?_eq_some_iff.1 hB).1
  have lR := (Array.getElem?_eq_some_iff.1 hR).1
  have HE1 := Lib.hid hE1
  clear hA hB hR hx1 HA0 HEQ
  cases g
  · have HN : Hid (ok = false) := HOK.out
    go_wp2
    refine bodyPost_ret (v := .tuple #[.agg #[.int .i64 0, .slice none 0 0, .slice none 0 0, .int .i64 0, .slice none 0 0], .bool false]) (by simp [results, Try.results7, go_sem, *]) rfl ?_
    rw [HJF.out HN.out, HN.out]
    exact ⟨_, _, _, rfl, cz_none _ _ _ 0, (by repeat (first | (with_reducible refine Ext.setCell ?_ (by first | (simp; done) | (simp; omega)) _) | with_reducible refine Ext.alloc ?_ _ | with_reducible refine Ext.drew ?_ | with_reducible refine Ext.drewN ?_ _ | with_reducible assumption | with_reducible exact Ext.refl _ | with_reducible refine Ext.trans ?_ (by with_reducible assumption)))⟩
  by_cases h4 : n + m ≤ 400
  case neg =>
    have HN : Hid (ok = false) := HOK.out.trans (by simp; omega)
    have h4' : (400 : Int) < n + m := by omega
    go_wp2
    refine bodyPost_ret (v := .tuple #[.agg #[.int .i64 0, .slice none 0 0, .slice none 0 0, .int .i64 0, .slice none 0 0], .bool false]) (by simp [results, Try.results7, go_sem, *]) rfl ?_
    rw [HJF.out HN.out, HN.out]
    exact ⟨_, _, _, rfl, cz_none _ _ _ 0, (by repeat (first | (with_reducible refine Ext.setCell ?_ (by first | (simp; done) | (simp; omega)) _) | with_reducible refine Ext.alloc ?_ _ | with_reducible refine Ext.drew ?_ | with_reducible refine Ext.drewN ?_ _ | with_reducible assumption | with_reducible exact Ext.refl _ | with_reducible refine Ext.trans ?_ (by with_reducible assumption)))⟩
  have HY : Hid (ok = true) := HOK.out.trans (by simp; omega)
  have h4' : ¬ ((400 : Int) < n + m) := by omega
  have HK : Hid (∀ W, GX [w.heap.size + 2] w1 W → W.cell? ⟨w.heap.size, 0, none⟩ = some (.int .i64 q1) ∧ W.cell? ⟨w.heap.size, 1, none⟩ = some (.slice a1 m1 c1) ∧ W.cell? ⟨w.heap.size, 2, none⟩ = some (.slice a2 n c2) ∧ W.cell? ⟨w.heap.size + 1, 2, none⟩ = some (.slice b2 m d2) ∧ W.cell? ⟨w.heap.size + 1, 3, none⟩ = some (.int .i64 p2) ∧ W.cell? ⟨w.heap.size + 1, 4, none⟩ = some (.slice b3 l2 d3)) := fun W hx =>
    ⟨(hx.cell _ 0 lA (by simp)).trans (zA 0), (hx.cell _ 1 lA (by simp)).trans (zA 1), (hx.cell _ 2 lA (by simp)).trans (zA 2), (hx.cell _ 2 lB (by simp)).trans (zB 2), (hx.cell _ 3 lB (by simp)).trans (zB 3), (hx.cell _ 4 lB (by simp)).trans (zB 4)⟩
  go_upto_region 3 with fail
  clear zA zB
  go_region_held3 (fun W => W.cell? ⟨w.heap.size, 0, none⟩ = some (.int .i64 q1) ∧ W.cell? ⟨w.heap.size, 1, none⟩ = some (.slice a1 m1 c1) ∧ W.cell? ⟨w.heap.size, 2, none⟩ = some (.slice a2 n c2) ∧ W.cell? ⟨w.heap.size + 1, 2, none⟩ = some (.slice b2 m d2) ∧ W.cell? ⟨w.heap.size + 1, 3, none⟩ = some (.int .i64 p2) ∧ W.cell? ⟨w.heap.size + 1, 4, none⟩ = some (.slice b3 l2 d3)) (exact HK.out _ (by repeat (first | (with_reducible refine GX.setCell ?_ (by first | (simp; done) | (simp; omega)) _) | with_reducible refine GX.alloc ?_ _ | with_reducible refine GX.drew ?_ | with_reducible refine GX.drewN ?_ _ | with_reducible assumption | with_reducible exact GX.refl _ _ | with_reducible refine GX.ext ?_ (by with_reducible assumption) | with_reducible refine GX.trans ?_ (by with_reducible assumption))))
    (first
    | (go_at_call 33; (with_reducible refine Calls.mono (HC1 _ ?_).out ?_); (next => exact (by repeat (first | (with_reducible refine Ext.setCell ?_ (by first | (simp; done) | (simp; omega)) _) | with_reducible refine Ext.alloc ?_ _ | with_reducible refine Ext.drew ?_ | with_reducible refine Ext.drewN ?_ _ | with_reducible assumption | with_reducible exact Ext.refl _ | with_reducible refine Ext.trans ?_ (by with_reducible assumption)))); rintro e wA0 ⟨u0, rfl, oo, hxA0⟩; have LB0 : Hid (∀ k, u0.ownBlock = some k → _ ∧ k < wA0.heap.size) := (fun k hk => oo.lt k hk); obtain ⟨e0, k0, rfl, q1A, q2A, q3A⟩ := own_shape oo; have O0 := Lib.hid (own_base (base' := w1.heap.size) oo (by first | omega | (simp; done) | (simp; omega))); clear q1A q2A q3A oo; have hxB0 : Ext w1 wA0 := (by repeat (first | (with_reducible refine Ext.setCell ?_ (by first | (simp; done) | (simp; omega)) _) | with_reducible refine Ext.alloc ?_ _ | with_reducible refine Ext.drew ?_ | with_reducible refine Ext.drewN ?_ _ | with_reducible assumption | with_reducible exact Ext.refl _ | with_reducible refine Ext.trans ?_ (by with_reducible assumption))); obtain ⟨hcA0, hfA0⟩ := hxB0.cells; have hsA0 := hxA0.size; (try simp at hsA0); (try have l2A0 : w.heap.size + 2 < wA0.heap.size := (by omega)))
    | (go_at_call 33; (with_reducible refine Calls.mono (HC2 _ ?_).out ?_); (next => exact (by repeat (first | (with_reducible refine Ext.setCell ?_ (by first | (simp; done) | (simp; omega)) _) | with_reducible refine Ext.alloc ?_ _ | with_reducible refine Ext.drew ?_ | with_reducible refine Ext.drewN ?_ _ | with_reducible assumption | with_reducible exact Ext.refl _ | with_reducible refine Ext.trans ?_ (by with_reducible assumption)))); rintro e wA1 ⟨u0, rfl, oo, hxA1⟩; have LB1 : Hid (∀ k, u0.ownBlock = some k → _ ∧ k < wA1.heap.size) := (fun k hk => oo.lt k hk); obtain ⟨e1, k1, rfl, q1A, q2A, q3A⟩ := own_shape oo; have O1 := Lib.hid (own_base (base' := w1.heap.size) oo (by first | omega | (simp; done) | (simp; omega))); clear q1A q2A q3A oo; have hxB1 : Ext w1 wA1 := (by repeat (first | (with_reducible refine Ext.setCell ?_ (by first | (simp; done) | (simp; omega)) _) | with_reducible refine Ext.alloc ?_ _ | with_reducible refine Ext.drew ?_ | with_reducible refine Ext.drewN ?_ _ | with_reducible assumption | with_reducible exact Ext.refl _ | with_reducible refine Ext.trans ?_ (by with_reducible assumption))); obtain ⟨hcA1, hfA1⟩ := hxB1.cells; have hsA1 := hxA1.size; (try simp at hsA1); (try have l2A1 : w.heap.size + 2 < wA1.heap.size := (by omega)))
    | (go_at_call 34; (with_reducible refine Calls.mono (HS1 _ ?_).out ?_); (next => exact (by repeat (first | (with_reducible refine Ext.setCell ?_ (by first | (simp; done) | (simp; omega)) _) | with_reducible refine Ext.alloc ?_ _ | with_reducible refine Ext.drew ?_ | with_reducible refine Ext.drewN ?_ _ | with_reducible assumption | with_reducible exact Ext.refl _ | with_reducible refine Ext.trans ?_ (by with_reducible assumption)))); rintro e wA2 ⟨u0, rfl, oo, hxA2⟩; obtain ⟨ys2, oo2, hl2, hi2, hd2, he2⟩ := oo; have Q2 := Lib.hid oo2; have HL2 := Lib.hid hl2; have HI2 := Lib.hid hi2; have HD2 := Lib.hid hd2; have HM2 := Lib.hid he2; obtain ⟨e2, k2, rfl, q1A, q2A, q3A⟩ := own_shape oo2; clear q1A q2A q3A oo2 hl2 hi2 hd2 he2; have hxB2 : Ext w1 wA2 := (by repeat (first | (with_reducible refine Ext.setCell ?_ (by first | (simp; done) | (simp; omega)) _) | with_reducible refine Ext.alloc ?_ _ | with_reducible refine Ext.drew ?_ | with_reducible refine Ext.drewN ?_ _ | with_reducible assumption | with_reducible exact Ext.refl _ | with_reducible refine Ext.trans ?_ (by with_reducible assumption))); obtain ⟨hcA2, hfA2⟩ := hxB2.cells; have hsA2 := hxA2.size; (try simp at hsA2); (try have l2A2 : w.heap.size + 2 < wA2.heap.size := (by omega)))
    | (go_at_call 34; (with_reducible refine Calls.mono (HS2 _ ?_).out ?_); (next => exact (by repeat (first | (with_reducible refine Ext.setCell ?_ (by first | (simp; done) | (simp; omega)) _) | with_reducible refine Ext.alloc ?_ _ | with_reducible refine Ext.drew ?_ | with_reducible refine Ext.drewN ?_ _ | with_reducible assumption | with_reducible exact Ext.refl _ | with_reducible refine Ext.trans ?_ (by with_reducible assumption)))); rintro e wA3 ⟨u0, rfl, oo, hxA3⟩; obtain ⟨ys3, oo3, hl3, hi3, hd3, he3⟩ := oo; have Q3 := Lib.hid oo3; have HL3 := Lib.hid hl3; have HI3 := Lib.hid hi3; have HD3 := Lib.hid hd3; have HM3 := Lib.hid he3; obtain ⟨e3, k3, rfl, q1A, q2A, q3A⟩ := own_shape oo3; clear q1A q2A q3A oo3 hl3 hi3 hd3 he3; have hxB3 : Ext w1 wA3 := (by repeat (first | (with_reducible refine Ext.setCell ?_ (by first | (simp; done) | (simp; omega)) _) | with_reducible refine Ext.alloc ?_ _ | with_reducible refine Ext.drew ?_ | with_reducible refine Ext.drewN ?_ _ | with_reducible assumption | with_reducible exact Ext.refl _ | with_reducible refine Ext.trans ?_ (by with_reducible assumption))); obtain ⟨hcA3, hfA3⟩ := hxB3.cells; have hsA3 := hxA3.size; (try simp at hsA3); (try have l2A3 : w.heap.size + 2 < wA3.heap.size := (by omega)))
    | (refine step_append_val (base := wA0.heap.size) rfl elt_RP rfl (.slice e2 n k2) n ys2 rfl ?_ (.slice e3 m k3) m ys3 rfl ?_ ?_ ?_ ?_
       · exact own_ext Q2.out hxA3
       · exact RVV.ofOwn Q3.out HL3.out (el_get HL3.out HM3.out)
       · omega
       · omega
       intro v4 wF hown4 hgrow4 hiff4 hloc4
       have HRF := Lib.hid (rsp_append (w := wA3) (lo := wA0.heap.size) (lo2 := wA2.heap.size) (own_ext Q2.out hxA3) HL2.out HI2.out HD2.out (fun i hi => (HM2.out i hi).ext hxA3) HL3.out HI3.out HD3.out HM3.out (by omega) (fun k h1 h2 => by have h3 : _ ∧ k < wA2.heap.size := h1; have h4 : wA2.heap.size ≤ k ∧ _ := h2; omega) (fun k h1 => by have h3 : _ ∧ k < wA2.heap.size := h1; omega) (fun k h1 => by have h3 : _ ∧ k < wA3.heap.size := h1; omega) hown4 hgrow4 hloc4)
       have O0F := Lib.hid (own_far (own_ext (own_ext O0.out hxA2) hxA3) hgrow4 (fun j hj k hk e => by have := LB0.out k hk; have h5 : wA0.heap.size ≤ j ∧ _ := HI2.out.1 j hj; omega))
       have hxF : Ext w1 wF := ext_grownB hxB3 hgrow4 (own_ext Q2.out hxA3) (by omega)
       obtain ⟨hcF, hfF⟩ := hxF.cells
       have hsF := hgrow4.size
       have l2F : w.heap.size + 2 < wF.heap.size := by omega
       have LBF : Hid (∀ k, v4.ownBlock = some k → wA0.heap.size ≤ k ∧ k < wF.heap.size) := fun k hk => hown4.lt k hk
       obtain ⟨eF, kF, rfl, _, _, _⟩ := own_shape hown4
       clear hown4 hgrow4 hiff4 hloc4))
  all_goals
    clear HK HC1 HC2 HS1 HS2
    go_wp2_with fail
    go_wp2
    refine bodyPost_ret (v := .tuple #[.agg #[.int .i64 q1, .slice e0 m1 k0, .slice eF (n + m) kF, .int .i64 p2, .slice e1 l2 k1], .bool true]) (by simp [results, Try.results7, go_sem, *]) rfl ?_
    rw [HJT.out HY.out, HY.out]
    have s1 := HE1.out.size
    have B0 := LB0.out
    have B1 := LB1.out
    refine ⟨_, _, _, rfl, ⟨?_, ?_, fun k hk => ?_, fun k hk => ?_, fun k hk hk2 => ?_, (fun k => (wA0.heap.size ≤ k ∧ k < wA2.heap.size) ∨ (wA2.heap.size ≤ k ∧ k < wA3.heap.size) ∨ (Value.slice eF (n + m) kF).ownBlock = some k), ?_, fun k hk => ⟨?_, fun e => ?_, fun e => ?_⟩⟩, (by repeat (first | (with_reducible refine Ext.setCell ?_ (by first | (simp; done) | (simp; omega)) _) | with_reducible refine Ext.alloc ?_ _ | with_reducible refine Ext.drew ?_ | with_reducible refine Ext.drewN ?_ _ | with_reducible assumption | with_reducible exact Ext.refl _ | with_reducible refine Ext.trans ?_ (by with_reducible assumption)))⟩
    · refine own_base (base := w1.heap.size) ?_ (by omega)
      (repeat with_reducible refine own_set ?_ (by simp; omega) _)
      exact own_ext O0F.out hxA1
    · refine own_base (base := w1.heap.size) ?_ (by omega)
      (repeat with_reducible refine own_set ?_ (by simp; omega) _)
      exact O1.out
    · have := B0 k hk; simp; omega
    · have := B1 k hk; simp; omega
    · have := B0 k hk; have := B1 k hk2; omega
    · refine RSP.weak (lo := wA0.heap.size) (S := fun k => (wA0.heap.size ≤ k ∧ k < wA2.heap.size) ∨ (wA2.heap.size ≤ k ∧ k < wA3.heap.size) ∨ (Value.slice eF (n + m) kF).ownBlock = some k) ?_ (by omega) (fun k hk => hk)
      (repeat with_reducible refine RSP.set ?_ (by simp; omega) _)
      exact RSP.ext HRF.out hxA1
    · rcases hk with hk | hk | hk
      · simp; omega
      · simp; omega
      · have := LBF.out k hk; simp; omega
    · have := B0 k e
      rcases hk with hk | hk | hk
      · omega
      · omega
      · have := LBF.out k hk; omega
    · have := B1 k e
      rcases hk with hk | hk | hk
      · omega
      · omega
      · have := LBF.out k hk; omega

end Go.Proofs.Ytlbcjbeafampcaa
