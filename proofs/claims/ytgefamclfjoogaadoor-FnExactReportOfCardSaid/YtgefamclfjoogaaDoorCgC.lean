/- Certificates: sizes, exactly. -/
import Derived.Test.YtgefamclfjoogaaDoorCgL
namespace Go.Proofs.YtgefamclfjoogaaDoor
open Go.RowKit
set_option linter.unusedVariables false

set_option maxHeartbeats 1000000 in
theorem szReplacementX_any (l : Int) (hl : 0 ≤ l ∧ l ≤ 1048576) {v : Value} {n : Nat} {R : Nat → Rp} (w : World) (h : RSV w v (RL n R)) :
    Calls Tryd.prog 27 #[v, .int .i64 l] w fun e w' => e = .returned (.int .i64 (if ((n + gsR R n : Nat) : Int) ≤ l then l - (n + gsR R n : Nat) else -1)) ∧ Ext w w' := by
  have HV := Lib.hid h
  obtain ⟨a, cap, rfl, c1, c2, H⟩ := h
  have HH := Lib.hid H
  clear H
  rw [RL_len] at c1
  simp only [RL_len]
  have c3 : (n : Int) ≤ 9223372036854775807 := by simp only [maxLen] at c2; omega
  by_cases hm : (n : Int) ≤ l
  case neg =>
    have hm2 : l - n < 0 := by omega
    have hw : -9223372036854775808 ≤ l - n := by omega
    rw [if_neg (by omega)]
    go_enter Tryd.func27, Tryd.ntmps27
    go_wp2
    go_ret
    exact ⟨rfl, Ext.refl _⟩
  have hm2 : ¬ (l - n < 0) := by omega
  have hw : l - n ≤ 9223372036854775807 := by omega
  obtain ⟨V, hV⟩ : ∃ V : Int, (if ((n + gsR R n : Nat) : Int) ≤ l then l - (n + gsR R n : Nat) else -1) = V := ⟨_, rfl⟩
  have HVV := Lib.hid hV
  rw [hV]
  clear hV
  go_enter Tryd.func27, Tryd.ntmps27
  go_wp2
  go_loopw [1, 5] (fun le i wr => ∃ (j : Nat) (r : Int), j ≤ n ∧ i = .int .i64 j ∧ le = .int .i64 r ∧ 0 ≤ r ∧ r ≤ l ∧ Hid ((gsR R j : Int) + n + r = l) ∧ Ext w wr) (fun _ i _ => n - (intOf i).toNat)
  case atStart => exact ⟨0, _, by omega, rfl, rfl, by omega, by omega, (show (gsR R 0 : Int) + n + (l - n) = l by simp [gsR]; omega), Ext.refl _⟩
  case round =>
    obtain ⟨j, r, hj, rfl, rfl, hr0, hr1, HG, hE⟩ := hrel
    by_cases hlt : j < n
    · have hlt' : (j : Int) < n := by omega
      obtain ⟨b, off, rfl, hbk, hcell⟩ := HH.out (by rw [RL_len]; omega)
      obtain ⟨va, vb, z0', z1', z2', r1, r2⟩ := hcell j (by rw [RL_len]; exact hlt)
      rw [RL_at] at z0' r1 r2
      clear hcell
      have hbr : b < wr.heap.size := by have := hE.size; omega
      have z0 := (hE.cells.1 b _ hbk).trans z0'
      have z1 := (hE.cells.1 b _ hbk).trans z1'
      have z2 := (hE.cells.1 b _ hbk).trans z2'
      have HGS := Lib.hid (show gsR R (j + 1) = gsR R j + ((R j).m1 + (R j).m2) from rfl)
      have HLE := Lib.hid (gsR_at R hlt)
      have HS := Lib.hid (szReplacement_any (R j).t r ⟨hr0, by omega⟩ wr (r1.ext hE) (r2.ext hE))
      obtain ⟨_, aa, ca, rfl, _, _, _⟩ := r1
      obtain ⟨_, ab, cb, rfl, _, _, _⟩ := r2
      clear z0' z1' z2'
      generalize (R j).m1 = m1 at *
      generalize (R j).m2 = m2 at *
      generalize (R j).t = t at *
      by_cases hs : (m1 : Int) + m2 ≤ r
      · rw [if_pos hs] at HS
        have hs2 : ¬ (r - m1 - m2 < 0) := by omega
        go_wp2_with fail
        refine (HS.out).mono ?_
        rintro e w1 ⟨rfl, hx1⟩
        obtain ⟨hc1, hf1⟩ := hx1.cells
        have hz1 := hx1.size
        try simp at hz1
        go_wp2
        go_roundw
        case rel =>
          exact ⟨j + 1, _, by omega, by go_num, rfl, by omega, by omega, (by unfold Hid; rw [HGS.out]; have := HG.out; push_cast; omega), hE.trans hx1⟩
        case measure => simp [intOf]; omega
      · rw [if_neg hs] at HS
        go_wp2_with fail
        refine (HS.out).mono ?_
        rintro e w1 ⟨rfl, hx1⟩
        obtain ⟨hc1, hf1⟩ := hx1.cells
        have hz1 := hx1.size
        try simp at hz1
        go_wp2
        go_ret
        have h1 := HLE.out
        have h2 := HG.out
        have h3 := HVV.out
        rw [if_neg (by omega)] at h3
        exact ⟨by rw [← h3]; rfl, hE.trans hx1⟩
    · obtain rfl : j = n := by omega
      have hje' : ¬ (j : Int) < j := by omega
      go_wp2
      go_ret
      have h2 := HG.out
      have h3 := HVV.out
      rw [if_pos (by omega)] at h3
      exact ⟨by rw [show V = r by omega]; rfl, hE⟩

set_option maxRecDepth 20000 in
set_option maxHeartbeats 1000000 in
theorem szCertificateX_any {v1 vs v2 : Value} (c : Cv) (l : Int) (hl : 0 ≤ l ∧ l ≤ 1048576) (w : World) (h : CV w v1 vs v2 c) :
    Calls Tryd.prog 9 #[.agg #[.int .i64 c.q1, v1, vs, .int .i64 c.q2, v2], .int .i64 l] w fun e w' => e = .returned (.int .i64 (if (c.tot : Int) ≤ l then l - c.tot else -1)) ∧ Ext w w' := by
  obtain ⟨h1, h2, h3⟩ := h
  have HT := Lib.hid (show c.tot = c.n1 + (c.n + gsR c.R c.n) + c.n2 from rfl)
  have H1 := fun w' (hx : Ext w w') => Lib.hid (szCircuit_any c.q1 l hl w' (h1.ext hx))
  have H2 := fun l' hl' w' (hx : Ext w w') => Lib.hid (szReplacementX_any l' hl' w' (h2.ext hx))
  have H3 := fun l' hl' w' (hx : Ext w w') => Lib.hid (szCircuit_any c.q2 l' hl' w' (h3.ext hx))
  obtain ⟨_, a1, c1, rfl, _, _, _⟩ := h1
  obtain ⟨a2, c2, rfl, _, _, _⟩ := h2
  obtain ⟨_, a3, c3, rfl, _, _, _⟩ := h3
  obtain ⟨V, hV⟩ : ∃ V : Int, (if (c.tot : Int) ≤ l then l - c.tot else -1) = V := ⟨_, rfl⟩
  have HV := Lib.hid hV
  rw [hV]
  clear hV
  simp only [RL_len] at H2 ⊢
  generalize c.tot = T at *
  generalize c.n + gsR c.R c.n = G at *
  generalize c.n1 = m1 at *
  generalize c.n2 = m2 at *
  generalize c.q1 = q1 at *
  generalize c.q2 = q2 at *
  generalize c.n = n at *
  by_cases hm : (m1 : Int) ≤ l
  case neg =>
    have hv := HV.out
    rw [if_neg (by have := HT.out; omega)] at hv
    subst hv
    simp only [if_neg hm] at H1
    go_enter Tryd.func9, Tryd.ntmps9
    go_wp2_with fail
    refine (H1 _ (by repeat (first | exact Ext.refl _ | assumption | refine Ext.alloc ?_ _ | refine Ext.drew ?_ | refine Ext.drewN ?_ _ | refine Ext.setCell ?_ (by first | omega | (dsimp only; omega) | (simp; done) | (simp; omega)) _ | refine Ext.trans ?_ (by assumption)))).out.mono ?_
    rintro e w1 ⟨rfl, hx1⟩
    go_wp2
    go_ret
    exact ⟨rfl, (by repeat (first | exact Ext.refl _ | assumption | refine Ext.alloc ?_ _ | refine Ext.drew ?_ | refine Ext.drewN ?_ _ | refine Ext.setCell ?_ (by first | omega | (dsimp only; omega) | (simp; done) | (simp; omega)) _ | refine Ext.trans ?_ (by assumption)))⟩
  simp only [if_pos hm] at H1
  have hm' : ¬ (l - m1 < 0) := by omega
  have H2 := H2 (l - m1) (by omega)
  by_cases hk : (G : Int) ≤ l - m1
  case neg =>
    have hv := HV.out
    rw [if_neg (by have := HT.out; omega)] at hv
    subst hv
    simp only [if_neg hk] at H2
    go_enter Tryd.func9, Tryd.ntmps9
    go_wp2_with fail
    refine (H1 _ (by repeat (first | exact Ext.refl _ | assumption | refine Ext.alloc ?_ _ | refine Ext.drew ?_ | refine Ext.drewN ?_ _ | refine Ext.setCell ?_ (by first | omega | (dsimp only; omega) | (simp; done) | (simp; omega)) _ | refine Ext.trans ?_ (by assumption)))).out.mono ?_
    rintro e w1 ⟨rfl, hx1⟩
    obtain ⟨hc1, hf1⟩ := hx1.cells
    have hz1 := hx1.size
    try simp at hz1
    have hs1_0 := sz1 (a := w.heap.size) (b := w1.heap.size) (by omega)
    go_wp2_with fail
    refine (H2 _ (by repeat (first | exact Ext.refl _ | assumption | refine Ext.alloc ?_ _ | refine Ext.drew ?_ | refine Ext.drewN ?_ _ | refine Ext.setCell ?_ (by first | omega | (dsimp only; omega) | (simp; done) | (simp; omega)) _ | refine Ext.trans ?_ (by assumption)))).out.mono ?_
    rintro e w2 ⟨rfl, hx2⟩
    obtain ⟨hc2, hf2⟩ := hx2.cells
    have hz2 := hx2.size
    try simp at hz2
    have hs2_0 := sz1 (a := w.heap.size) (b := w2.heap.size) (by omega)
    go_wp2
    go_ret
    exact ⟨rfl, (by repeat (first | exact Ext.refl _ | assumption | refine Ext.alloc ?_ _ | refine Ext.drew ?_ | refine Ext.drewN ?_ _ | refine Ext.setCell ?_ (by first | omega | (dsimp only; omega) | (simp; done) | (simp; omega)) _ | refine Ext.trans ?_ (by assumption)))⟩
  simp only [if_pos hk] at H2
  have hk' : ¬ (l - m1 - G < 0) := by omega
  have H3 := H3 (l - m1 - G) (by omega)
  by_cases hz : (m2 : Int) ≤ l - m1 - G
  case neg =>
    have hv := HV.out
    rw [if_neg (by have := HT.out; omega)] at hv
    subst hv
    simp only [if_neg hz] at H3
    go_enter Tryd.func9, Tryd.ntmps9
    go_wp2_with fail
    refine (H1 _ (by repeat (first | exact Ext.refl _ | assumption | refine Ext.alloc ?_ _ | refine Ext.drew ?_ | refine Ext.drewN ?_ _ | refine Ext.setCell ?_ (by first | omega | (dsimp only; omega) | (simp; done) | (simp; omega)) _ | refine Ext.trans ?_ (by assumption)))).out.mono ?_
    rintro e w1 ⟨rfl, hx1⟩
    obtain ⟨hc1, hf1⟩ := hx1.cells
    have hz1 := hx1.size
    try simp at hz1
    have hs1_0 := sz1 (a := w.heap.size) (b := w1.heap.size) (by omega)
    go_wp2_with fail
    refine (H2 _ (by repeat (first | exact Ext.refl _ | assumption | refine Ext.alloc ?_ _ | refine Ext.drew ?_ | refine Ext.drewN ?_ _ | refine Ext.setCell ?_ (by first | omega | (dsimp only; omega) | (simp; done) | (simp; omega)) _ | refine Ext.trans ?_ (by assumption)))).out.mono ?_
    rintro e w2 ⟨rfl, hx2⟩
    obtain ⟨hc2, hf2⟩ := hx2.cells
    have hz2 := hx2.size
    try simp at hz2
    have hs2_0 := sz1 (a := w.heap.size) (b := w2.heap.size) (by omega)
    go_wp2_with fail
    refine (H3 _ (by repeat (first | exact Ext.refl _ | assumption | refine Ext.alloc ?_ _ | refine Ext.drew ?_ | refine Ext.drewN ?_ _ | refine Ext.setCell ?_ (by first | omega | (dsimp only; omega) | (simp; done) | (simp; omega)) _ | refine Ext.trans ?_ (by assumption)))).out.mono ?_
    rintro e w3 ⟨rfl, hx3⟩
    go_wp2
    go_ret
    exact ⟨rfl, (by repeat (first | exact Ext.refl _ | assumption | refine Ext.alloc ?_ _ | refine Ext.drew ?_ | refine Ext.drewN ?_ _ | refine Ext.setCell ?_ (by first | omega | (dsimp only; omega) | (simp; done) | (simp; omega)) _ | refine Ext.trans ?_ (by assumption)))⟩
  have hv := HV.out
  rw [if_pos (by have := HT.out; omega)] at hv
  obtain rfl : V = l - m1 - G - m2 := by have := HT.out; omega
  simp only [if_pos hz] at H3
  have hz' : ¬ (l - m1 - G - m2 < 0) := by omega
  go_enter Tryd.func9, Tryd.ntmps9
  go_wp2_with fail
  refine (H1 _ (by repeat (first | exact Ext.refl _ | assumption | refine Ext.alloc ?_ _ | refine Ext.drew ?_ | refine Ext.drewN ?_ _ | refine Ext.setCell ?_ (by first | omega | (dsimp only; omega) | (simp; done) | (simp; omega)) _ | refine Ext.trans ?_ (by assumption)))).out.mono ?_
  rintro e w1 ⟨rfl, hx1⟩
  obtain ⟨hc1, hf1⟩ := hx1.cells
  have hz1 := hx1.size
  try simp at hz1
  have hs1_0 := sz1 (a := w.heap.size) (b := w1.heap.size) (by omega)
  go_wp2_with fail
  refine (H2 _ (by repeat (first | exact Ext.refl _ | assumption | refine Ext.alloc ?_ _ | refine Ext.drew ?_ | refine Ext.drewN ?_ _ | refine Ext.setCell ?_ (by first | omega | (dsimp only; omega) | (simp; done) | (simp; omega)) _ | refine Ext.trans ?_ (by assumption)))).out.mono ?_
  rintro e w2 ⟨rfl, hx2⟩
  obtain ⟨hc2, hf2⟩ := hx2.cells
  have hz2 := hx2.size
  try simp at hz2
  have hs2_0 := sz1 (a := w.heap.size) (b := w2.heap.size) (by omega)
  go_wp2_with fail
  refine (H3 _ (by repeat (first | exact Ext.refl _ | assumption | refine Ext.alloc ?_ _ | refine Ext.drew ?_ | refine Ext.drewN ?_ _ | refine Ext.setCell ?_ (by first | omega | (dsimp only; omega) | (simp; done) | (simp; omega)) _ | refine Ext.trans ?_ (by assumption)))).out.mono ?_
  rintro e w3 ⟨rfl, hx3⟩
  go_wp2
  go_ret
  exact ⟨rfl, (by repeat (first | exact Ext.refl _ | assumption | refine Ext.alloc ?_ _ | refine Ext.drew ?_ | refine Ext.drewN ?_ _ | refine Ext.setCell ?_ (by first | omega | (dsimp only; omega) | (simp; done) | (simp; omega)) _ | refine Ext.trans ?_ (by assumption)))⟩

end Go.Proofs.YtgefamclfjoogaaDoor
