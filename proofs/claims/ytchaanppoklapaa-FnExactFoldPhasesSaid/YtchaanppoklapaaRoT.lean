/- Rotations that are folded: one step of the program. -/
import Derived.Test.YtchaanppoklapaaRoQ
import Derived.Deep.RegionHeld3
namespace Go.Proofs.Ytchaanppoklapaa
open Go.RowKit Go.Lib
set_option linter.unusedVariables false
set_option linter.unusedSimpArgs false

theorem gOk_neM {q : Nat} {k a b : Int} (hg : gOk q k a b = true) (hk : k = 11) : a ≠ b := by
  subst hk
  unfold gOk at hg
  rw [if_neg (by rw [Wn_iff]; omega), if_pos (by rw [Wn_iff]; omega)] at hg
  simp only [Bool.and_eq_true, bne_iff_ne, ne_eq] at hg
  exact hg.2.2
theorem gOk_abM {q : Nat} {k a b : Int} (hg : gOk q k a b = true) (hq : 1 ≤ q) : 1 ≤ k ∧ k ≤ 12 ∧ 0 ≤ a ∧ a < q ∧ 0 ≤ b ∧ b < q := by
  unfold gOk at hg
  by_cases h1 : Wn k 1 8 = true
  · rw [if_pos h1] at hg
    simp only [Bool.and_eq_true, beq_iff_eq] at hg
    have := Wn_iff.1 hg.1
    have := Wn_iff.1 h1
    omega
  · rw [if_neg h1] at hg
    by_cases h2 : Wn k 9 11 = true
    · rw [if_pos h2] at hg
      simp only [Bool.and_eq_true] at hg
      have := Wn_iff.1 hg.1
      have := Wn_iff.1 hg.2.1
      have := Wn_iff.1 h2
      omega
    · rw [if_neg h2] at hg
      simp only [Bool.and_eq_true, beq_iff_eq] at hg
      omega
theorem bits_xor_u64M (a b : Nat) (ha : a < 2 ^ 60) (hb : b < 2 ^ 60) : bits .xor .u64 (a : Int) (b : Int) = ((a ^^^ b : Nat) : Int) := by
  have hx : a ^^^ b < 2 ^ 60 := Nat.xor_lt_two_pow ha hb
  have h1 : (BitVec.ofInt 64 (a : Int)).toNat = a := by
    rw [BitVec.ofInt_natCast, BitVec.toNat_ofNat]; exact Nat.mod_eq_of_lt (by omega)
  have h2 : (BitVec.ofInt 64 (b : Int)).toNat = b := by
    rw [BitVec.ofInt_natCast, BitVec.toNat_ofNat]; exact Nat.mod_eq_of_lt (by omega)
  show IntKind.u64.wrap ((BitVec.ofInt 64 (a : Int) ^^^ BitVec.ofInt 64 (b : Int)).toNat : Int) = _
  rw [BitVec.toNat_xor, h1, h2]
  exact IntWalk.u64_in _ (by omega)
/-- the program's state, whatever slice holds the groups -/
def MSX (w : World) (M lo hi Q : Nat) (vv : Value) (σ : Fs) : Prop := ∃ gv, MS w M lo hi Q vv gv σ
/-- the same, with the values' cells themselves -/
structure MSR (w : World) (M lo hi Q : Nat) (vv gv : Value) (L : List Value) (u s : Nat) (G : List Gp) : Prop where
  cell : w.heap[M]? = some (.cells #[vv, .int .i64 u, gv, .int .i64 s] 59 (0, 0))
  vals : w.ownsRow lo 64 2 vv Q L
  vhi : ∀ k, vv.ownBlock = some k → k < hi
  grp : GRS w hi gv G
  ml : M < lo
  lh : lo ≤ hi
  hw : hi ≤ w.heap.size
theorem MS.msr {w : World} {M lo hi Q : Nat} {vv gv : Value} {σ : Fs} (h : MS w M lo hi Q vv gv σ) : MSR w M lo hi Q vv gv (VU σ.V) σ.u σ.s σ.G := ⟨h.cell, h.vals, h.vhi, h.grp, h.ml, h.lh, h.hw⟩
theorem MSR.ms {w : World} {M lo hi Q : Nat} {vv gv : Value} {L : List Value} {u s : Nat} {G : List Gp} {V : List (Nat × Bool)} (h : MSR w M lo hi Q vv gv L u s G) (hL : VU V = L) : MS w M lo hi Q vv gv ⟨V, u, G, s⟩ := ⟨h.cell, by rw [hL]; exact h.vals, h.vhi, h.grp, h.ml, h.lh, h.hw⟩
theorem MSR.ext {w w' : World} {M lo hi Q : Nat} {vv gv : Value} {L : List Value} {u s : Nat} {G : List Gp} (h : MSR w M lo hi Q vv gv L u s G) (hx : Ext w w') : MSR w' M lo hi Q vv gv L u s G :=
  ⟨row_farM h.cell hx, own_ext h.vals hx, h.vhi, h.grp.ext hx, h.ml, h.lh, Nat.le_trans h.hw hx.size⟩
theorem MSR.store {w : World} {M lo hi Q Bv cv : Nat} {gv : Value} {L : List Value} {u s : Nat} {G : List Gp} (h : MSR w M lo hi Q (.slice (some ⟨Bv, 0, none⟩) Q cv) gv L u s G) (i : Nat) (x : Value) : MSR (w.setCell ⟨Bv, i, none⟩ x) M lo hi Q (.slice (some ⟨Bv, 0, none⟩) Q cv) gv (L.set i x) u s G :=
  ⟨heap_set_ne (by have h1 := (h.vals.lt Bv rfl).1; have h2 := h.ml; show M ≠ Bv; omega) h.cell, (h.vals.stored i x).1, h.vhi, h.grp.setn (h.vhi Bv rfl) _, h.ml, h.lh, by rw [setCell_sz]; exact h.hw⟩
theorem MSR.used {w : World} {M lo hi Q : Nat} {vv gv : Value} {L : List Value} {u s : Nat} {G : List Gp} (h : MSR w M lo hi Q vv gv L u s G) (u' : Nat) : MSR (w.setCell ⟨M, 1, none⟩ (.int .i64 u')) M lo hi Q vv gv L u' s G :=
  ⟨heap_set_at h.cell 1 _, own_set h.vals (by have := h.ml; show M < lo; omega) _, h.vhi, h.grp.setn (by have := h.ml; have := h.lh; show M < hi; omega) _, h.ml, h.lh, by rw [setCell_sz]; exact h.hw⟩
def stOk (k : Int) (u : Nat) : Bool := !(k == 1 && u == 60)

set_option maxRecDepth 20000 in
set_option maxHeartbeats 4000000 in
theorem step_any (M lo hi Q : Nat) {vv : Value} {σ : Fs} (j : Nat) (k0 a0 b0 : Int) (w : World) (h : MSX w M lo hi Q vv σ) (hI : FsI Q j σ) (hg : gOk Q k0 a0 b0 = true) (hq : 1 ≤ Q ∧ Q ≤ 5) (hj : j ≤ 400) (w0 : World) (h0 : w0.heap.size ≤ M) (hx : Ext w0 w) :
    Calls Try.prog 51 #[.pointer (some ⟨M, 0, none⟩), .int .i64 j, .agg #[.int .i64 k0, .int .i64 a0, .int .i64 b0]] w fun e w' => e = .returned (.bool (stOk k0 σ.u)) ∧ (stOk k0 σ.u = true → MSX w' M lo hi Q vv (stepF σ j k0 a0 b0)) ∧ Ext w0 w' := by
  have hab := gOk_abM hg hq.1
  have hne0 := Lib.hid (gOk_neM hg)
  obtain ⟨hk1, hk2, ha1, ha2, hb1, hb2⟩ := hab
  obtain ⟨a, rfl⟩ : ∃ a : Nat, a0 = a := ⟨a0.toNat, by omega⟩
  obtain ⟨b, rfl⟩ : ∃ b : Nat, b0 = b := ⟨b0.toNat, by omega⟩
  have haQ : a < Q := by omega
  have hbQ : b < Q := by omega
  have hVl : σ.V.length = Q := hI.vl
  have hub := hI.ub
  have hSO : Hid (stOk k0 σ.u = !(k0 == 1 && σ.u == 60)) := rfl
  have HI := Lib.hid hI
  have HX0 := Lib.hid hx
  obtain ⟨gv, hm⟩ := h
  have hml := hm.ml
  have hlh := hm.lh
  obtain ⟨av, cv, rfl, _, _, hv3⟩ := own_shape hm.vals
  obtain ⟨ag, cg, rfl⟩ := hm.grp.shape
  obtain ⟨Bv, rfl, hv1, hv2, _, _⟩ := hv3 (by omega)
  have hvh : Bv < hi := hm.vhi Bv rfl
  have hHW := hm.hw
  obtain ⟨w1, hw1⟩ : ∃ x, x = w.alloc (.cells #[.int .i64 k0, .int .i64 a, .int .i64 b] 72 (0, 0)) := ⟨_, rfl⟩
  have HX1 : Hid (Ext w w1) := by rw [hw1]; exact (Ext.refl _).alloc _
  have hB1 : Hid (w1.heap[w.heap.size]? = some (.cells #[.int .i64 k0, .int .i64 a, .int .i64 b] 72 (0, 0))) := by rw [hw1]; exact heap_alloc_new _ _
  have HM := Lib.hid (fun W (hX : Ext w1 W) => hm.ext (HX1.out.trans hX))
  have HC := Lib.hid (fun W (hX : Ext w1 W) => (HM.out W hX).cell)
  have HB := Lib.hid (fun W (hX : Ext w1 W) => row_farM hB1.out hX)
  rcases hxa : vAt σ.V a with ⟨x1, x2⟩
  rcases hxb : vAt σ.V b with ⟨y1, y2⟩
  have HY := Lib.hid (fun W (hX : Ext w1 W) => (show W.cell? ⟨Bv, a * 2, none⟩ = some (.int .u64 (x1 : Int)) ∧ W.cell? ⟨Bv, a * 2 + 1, none⟩ = some (.bool x2) ∧ W.cell? ⟨Bv, b * 2, none⟩ = some (.int .u64 (y1 : Int)) ∧ W.cell? ⟨Bv, b * 2 + 1, none⟩ = some (.bool y2) ∧ (∀ k, W.frozen? ⟨Bv, k, none⟩ = false) ∧ Bv < W.heap.size from by
    have hV := (HM.out W hX).vals
    have p1 := VU_at (V := σ.V) (i := a) (by omega)
    have p2 := VU_at (V := σ.V) (i := b) (by omega)
    rw [hxa] at p1
    rw [hxb] at p2
    exact ⟨(hV.cellAt (a * 2) (by omega)).trans p1.1, (hV.cellAt (a * 2 + 1) (by omega)).trans p1.2, (hV.cellAt (b * 2) (by omega)).trans p2.1, (hV.cellAt (b * 2 + 1) (by omega)).trans p2.2, fun k => hV.frozenAt k, (hV.lt Bv rfl).2⟩))
  have hC1 := HC.out w1 (Ext.refl _)
  have zM1 := fun k => cell_of_row _ _ k _ _ _ hC1
  have zB1 := fun k => cell_of_row _ _ k _ _ _ hB1.out
  have lM1 := (Array.getElem?_eq_some_iff.1 hC1).1
  have lB1 := (Array.getElem?_eq_some_iff.1 hB1.out).1
  have hMw : M < w.heap.size := by omega
  have hMB : M ≠ w.heap.size := by omega
  have hvw : Bv ≠ w.heap.size := by omega
  have hvM : Bv ≠ M := by omega
  have hMv : M ≠ Bv := by omega
  have hML : M < hi := by omega
  have haQ' : (a : Int) < Q := by omega
  have hbQ' : (b : Int) < Q := by omega
  have HGM := Lib.hid hm
  have HR := Lib.hid (fun W (hX : Ext w1 W) => (HM.out W hX).msr)
  have hb0 : w0.heap.size ≤ Bv := by omega
  clear hv3 hI hx hm hg hC1
  have hcs : k0 = 1 ∨ (k0 = 2 ∨ k0 = 3) ∨ k0 = 9 ∨ k0 = 11 ∨ (k0 = 10 ∨ k0 = 12) ∨ (4 ≤ k0 ∧ k0 ≤ 8) := by omega
  rcases hcs with rfl | hk0 | rfl | rfl | hk0 | hk0
  · have hst : stepF σ j 1 a b = ⟨σ.V.set a (2 ^ σ.u, false), σ.u + 1, σ.G, σ.s⟩ := by simp [stepF]
    by_cases hu : σ.u = 60
    · have hso : stOk 1 σ.u = false := by rw [hSO.out, hu]; rfl
      go_enter Try.func51, Try.ntmps51
      go_upto_region 1 with fail
      rw [← hw1]
      clear hw1
      go_wp2_with fail
      go_ret
      refine ⟨(by rw [hso]; rfl), (fun h => by rw [hso] at h; cases h), HX0.out.trans HX1.out⟩
    · have hso : stOk 1 σ.u = true := by rw [hSO.out]; simp [hu]
      obtain ⟨p, hp⟩ : ∃ p : Nat, p = 2 ^ σ.u := ⟨_, rfl⟩
      have hp2 : (2 : Int) ^ σ.u = (p : Int) := by rw [hp]; simp
      have hp3 : p ≤ 1152921504606846976 := by rw [hp]; exact Nat.le_trans (Nat.pow_le_pow_right (by decide) hub) (by decide)
      rw [← hp] at hst
      have HVS : Hid (VU (σ.V.set a (p, false)) = ((VU σ.V).set (a * 2) (.int .u64 (p : Int))).set (a * 2 + 1) (.bool false)) := VU_set (by omega)
      clear hp
      go_enter Try.func51, Try.ntmps51
      go_upto_region 1 with fail
      rw [← hw1]
      clear hw1
      go_upto_region 8 with fail
      refine still_tail_at2 13 (by kernel_rfl) (by kernel_rfl) (fun wD hD => ?_)
      simp only [List.take_succ_cons, List.take_zero, List.drop_succ_cons, List.drop_zero]
      have HXD : Hid (Ext w1 wD) := by rw [hD]; exact (Ext.refl w1).drew
      have hCD := HC.out wD HXD.out
      have zMD := fun k => cell_of_row _ _ k _ _ _ hCD
      have fMD := fun k => frozen_of_row _ _ k _ _ hCD
      have zBD := fun k => cell_of_row _ _ k _ _ _ (HB.out wD HXD.out)
      obtain ⟨d0, d1, d2, d3, fD, lD⟩ := HY.out wD HXD.out
      have HRD := Lib.hid (HR.out wD HXD.out)
      have lMD := (Array.getElem?_eq_some_iff.1 hCD).1
      clear hD hCD
      repeat still_step
      refine wpStill_nil ?_
      go_wp2_with fail
      go_ret
      refine ⟨(by rw [hso]; rfl), (fun _ => ?_), (((HX0.out.trans (HX1.out.trans HXD.out)).setCell hb0 _).setCell hb0 _).setCell h0 _⟩
      rw [hst]
      exact ⟨_, (((HRD.out.store (a * 2) _).store (a * 2 + 1) _).used (σ.u + 1)).ms HVS.out⟩
  · have hso : stOk k0 σ.u = true := by rw [hSO.out]; rcases hk0 with rfl | rfl <;> rfl
    have hst : stepF σ j k0 a b = ⟨σ.V.set a (x1, !x2), σ.u, σ.G, σ.s⟩ := by rcases hk0 with rfl | rfl <;> simp [stepF, hxa, hxb]
    have HVS : Hid (VU (σ.V.set a (x1, !x2)) = (VU σ.V).set (a * 2 + 1) (.bool (!x2))) := VU_set1 (by omega) hxa
    go_enter Try.func51, Try.ntmps51
    go_upto_region 1 with fail
    rw [← hw1]
    clear hw1
    go_upto_region 12 with fail
    all_goals refine still_tail_at2 18 (by kernel_rfl) (by kernel_rfl) (fun wD hD => ?_)
    all_goals simp only [List.take_succ_cons, List.take_zero, List.drop_succ_cons, List.drop_zero]
    all_goals
      have HXD : Hid (Ext w1 wD) := by rw [hD]; exact (Ext.refl w1).drew
      have hCD := HC.out wD HXD.out
      have zMD := fun k => cell_of_row _ _ k _ _ _ hCD
      have fMD := fun k => frozen_of_row _ _ k _ _ hCD
      have zBD := fun k => cell_of_row _ _ k _ _ _ (HB.out wD HXD.out)
      obtain ⟨d0, d1, d2, d3, fD, lD⟩ := HY.out wD HXD.out
      have HRD := Lib.hid (HR.out wD HXD.out)
      have lMD := (Array.getElem?_eq_some_iff.1 hCD).1
      clear hD hCD
      repeat still_step
      refine wpStill_nil ?_
      go_wp2_with fail
      go_ret
      refine ⟨(by rw [hso]; rfl), (fun _ => ?_), (HX0.out.trans (HX1.out.trans HXD.out)).setCell hb0 _⟩
      rw [hst]
      exact ⟨_, (HRD.out.store (a * 2 + 1) _).ms HVS.out⟩
  · have hso : Hid (stOk 9 σ.u = true) := rfl
    have hst : stepF σ j 9 a b = ⟨σ.V.set b (y1 ^^^ x1, y2 != x2), σ.u, σ.G, σ.s⟩ := by simp [stepF, hxa, hxb]
    obtain ⟨x9, hx9⟩ : ∃ t, t = y1 ^^^ x1 := ⟨_, rfl⟩
    have hxl : x1 < 2 ^ 60 := by have h1 := HI.out.vb a haQ; rw [hxa] at h1; exact Nat.lt_of_lt_of_le h1 (Nat.pow_le_pow_right (by decide) HI.out.ub)
    have hyl : y1 < 2 ^ 60 := by have h1 := HI.out.vb b hbQ; rw [hxb] at h1; exact Nat.lt_of_lt_of_le h1 (Nat.pow_le_pow_right (by decide) HI.out.ub)
    have hw9 : bits .xor .u64 (y1 : Int) (x1 : Int) = (x9 : Int) := by rw [hx9]; exact bits_xor_u64M y1 x1 hyl hxl
    rw [← hx9] at hst
    have HVS : Hid (VU (σ.V.set b (x9, y2 != x2)) = ((VU σ.V).set (b * 2) (.int .u64 (x9 : Int))).set (b * 2 + 1) (.bool (y2 != x2))) := VU_set (by omega)
    clear hx9
    go_enter Try.func51, Try.ntmps51
    go_upto_region 1 with fail
    rw [← hw1]
    clear hw1
    go_upto_region 14 with fail
    refine still_tail_at2 21 (by kernel_rfl) (by kernel_rfl) (fun wD hD => ?_)
    simp only [List.take_succ_cons, List.take_zero, List.drop_succ_cons, List.drop_zero]
    have HXD : Hid (Ext w1 wD) := by rw [hD]; exact (Ext.refl w1).drew
    have hCD := HC.out wD HXD.out
    have zMD := fun k => cell_of_row _ _ k _ _ _ hCD
    have fMD := fun k => frozen_of_row _ _ k _ _ hCD
    have zBD := fun k => cell_of_row _ _ k _ _ _ (HB.out wD HXD.out)
    obtain ⟨d0, d1, d2, d3, fD, lD⟩ := HY.out wD HXD.out
    have HRD := Lib.hid (HR.out wD HXD.out)
    have lMD := (Array.getElem?_eq_some_iff.1 hCD).1
    clear hD hCD
    repeat still_step
    refine wpStill_nil ?_
    have hBD := HB.out wD HXD.out
    go_upto_region 15 with fail
    clear zMD fMD zBD d0 d1 d2 d3 fD lD lMD
    refine still_tail_at2 27 (by kernel_rfl) (by kernel_rfl) (fun wE hEE => ?_)
    simp only [List.take_succ_cons, List.take_zero, List.drop_succ_cons, List.drop_zero]
    have HXE : Hid (Ext (wD.setCell ⟨Bv, b * 2, none⟩ (.int .u64 (x9 : Int))) wE) := by rw [hEE]; exact (Ext.refl _).drew
    have HRE := Lib.hid ((HRD.out.store (b * 2) (.int .u64 (x9 : Int))).ext HXE.out)
    have hCE := HRE.out.cell
    have zME := fun k => cell_of_row _ _ k _ _ _ hCE
    have hBE := row_farM (heap_set_ne (p := ⟨Bv, b * 2, none⟩) (u := .int .u64 (x9 : Int)) (fun e => hvw e.symm) hBD) HXE.out
    have zBE := fun k => cell_of_row _ _ k _ _ _ hBE
    have lME := (Array.getElem?_eq_some_iff.1 hCE).1
    have lBE := (Array.getElem?_eq_some_iff.1 hBE).1
    have d1 : wE.cell? ⟨Bv, a * 2 + 1, none⟩ = some (.bool x2) := by
      refine (HRE.out.vals.cellAt (a * 2 + 1) (by omega)).trans ?_
      rw [List.getElem?_set_ne (by omega), (VU_at (V := σ.V) (i := a) (by omega)).2, hxa]
    have d3 : wE.cell? ⟨Bv, b * 2 + 1, none⟩ = some (.bool y2) := by
      refine (HRE.out.vals.cellAt (b * 2 + 1) (by omega)).trans ?_
      rw [List.getElem?_set_ne (by omega), (VU_at (V := σ.V) (i := b) (by omega)).2, hxb]
    have fD : ∀ k, wE.frozen? ⟨Bv, k, none⟩ = false := fun k => HRE.out.vals.frozenAt k
    have lD := (HRE.out.vals.lt Bv rfl).2
    clear hEE hCE hBE hBD
    repeat still_step
    refine wpStill_nil ?_
    go_wp2_with fail
    go_ret
    refine ⟨(by rw [hso.out]; rfl), (fun _ => ?_), (((HX0.out.trans (HX1.out.trans HXD.out)).setCell hb0 _).trans HXE.out).setCell hb0 _⟩
    rw [hst]
    exact ⟨_, (HRE.out.store (b * 2 + 1) _).ms HVS.out⟩
  · have hso : Hid (stOk 11 σ.u = true) := rfl
    have hab := hne0.out rfl
    have hab1 : a ≠ b := fun e => hab (by rw [e])
    have hab2 : b ≠ a := fun e => hab1 e.symm
    have hst : stepF σ j 11 a b = ⟨(σ.V.set a (y1, y2)).set b (x1, x2), σ.u, σ.G, σ.s⟩ := by simp [stepF, hxa, hxb]
    have HVS : Hid (VU ((σ.V.set a (y1, y2)).set b (x1, x2)) = ((((VU σ.V).set (a * 2) (.int .u64 (y1 : Int))).set (a * 2 + 1) (.bool y2)).set (b * 2) (.int .u64 (x1 : Int))).set (b * 2 + 1) (.bool x2)) := by rw [VU_set (by simp only [List.length_set]; omega), VU_set (by omega)]; rfl
    go_enter Try.func51, Try.ntmps51
    go_upto_region 1 with fail
    rw [← hw1]
    clear hw1
    go_upto_region 17 with fail
    have HXD : Hid (Ext w1 w1.drew) := (Ext.refl w1).drew
    have hCD := HC.out w1 (Ext.refl _)
    have zMD := fun k => cell_of_row _ _ k _ _ _ hCD
    have fMD := fun k => frozen_of_row _ _ k _ _ hCD
    have zBD := fun k => cell_of_row _ _ k _ _ _ (HB.out w1 (Ext.refl _))
    obtain ⟨d0, d1, d2, d3, fD, lD⟩ := HY.out w1 (Ext.refl _)
    have HRD := Lib.hid (HR.out w1 (Ext.refl _))
    have lMD := (Array.getElem?_eq_some_iff.1 hCD).1
    clear hCD
    have hwv : w.heap.size ≠ Bv := fun e => hvw e.symm
    have HHX : Hid (Ext w0 w1 ∧ w0.heap.size ≤ Bv) := Lib.hid ⟨HX0.out.trans HX1.out, hb0⟩
    have HK : Hid (∀ W, GX [Bv] w1 W → W.cell? ⟨M, 0, none⟩ = some (.slice (some ⟨Bv, 0, none⟩) Q cv) ∧ W.cell? ⟨w.heap.size, 1, none⟩ = some (.int .i64 a) ∧ W.cell? ⟨w.heap.size, 2, none⟩ = some (.int .i64 b)) := Lib.hid (fun W hX => ⟨(hX.cell _ _ lM1 (by simp; exact hMv)).trans (zM1 0), (hX.cell _ _ lB1 (by simp; exact hwv)).trans (zB1 1), (hX.cell _ _ lB1 (by simp; exact hwv)).trans (zB1 2)⟩)
    refine wp_region_held_drew (S := (fun W => W.cell? ⟨M, 0, none⟩ = some (.slice (some ⟨Bv, 0, none⟩) Q cv) ∧ W.cell? ⟨w.heap.size, 1, none⟩ = some (.int .i64 a) ∧ W.cell? ⟨w.heap.size, 2, none⟩ = some (.int .i64 b))) (by kernel_rfl) ?_ (fun hHeld => ?_)
    focus
      exact HK.out _ (by repeat (first | (with_reducible refine GX.setCell ?_ (by first | (simp; done) | (simp; omega)) _) | with_reducible refine GX.alloc ?_ _ | with_reducible refine GX.drew ?_ | with_reducible refine GX.drewN ?_ _ | with_reducible assumption | with_reducible exact GX.refl _ _ | with_reducible refine GX.ext ?_ (by with_reducible assumption) | with_reducible refine GX.trans ?_ (by with_reducible assumption)))
    refine wpAnyH_take (i := 0) (v := ?_) rfl (by kernel_rfl) (by kernel_rfl) (by kernel_rfl) (fun _ _ _ h => h) (Or.inl ⟨by rfl, ?_⟩) (by assumption) ?_
    rotate_left
    focus
      intro W hSw
      try dsimp only at hSw
      go_simp
      try with_reducible rfl
    try simp only [Act.put, List.setIfInBounds_toArray, List.set_cons_zero, List.set_cons_succ]
    refine wpAnyH_take (i := 1) (v := ?_) rfl (by kernel_rfl) (by kernel_rfl) (by kernel_rfl) (fun _ _ _ h => h) (Or.inl ⟨by rfl, ?_⟩) (by assumption) ?_
    rotate_left
    focus
      intro W hSw
      try dsimp only at hSw
      go_simp
      try with_reducible rfl
    try simp only [Act.put, List.setIfInBounds_toArray, List.set_cons_zero, List.set_cons_succ]
    refine wpAnyH_take (i := 2) (v := ?_) rfl (by kernel_rfl) (by kernel_rfl) (by kernel_rfl) (fun _ _ _ h => h) (Or.inl ⟨by rfl, ?_⟩) (by assumption) ?_
    rotate_left
    focus
      intro W hSw
      try dsimp only at hSw
      go_simp
      try with_reducible rfl
    try simp only [Act.put, List.setIfInBounds_toArray, List.set_cons_zero, List.set_cons_succ]
    refine wpAnyH_take (i := 3) (v := ?_) rfl (by kernel_rfl) (by kernel_rfl) (by kernel_rfl) (fun _ _ _ h => h) (Or.inl ⟨by rfl, ?_⟩) (by assumption) ?_
    rotate_left
    focus
      intro W hSw
      try dsimp only at hSw
      go_simp
      try with_reducible rfl
    try simp only [Act.put, List.setIfInBounds_toArray, List.set_cons_zero, List.set_cons_succ]
    refine wpAnyH_take (i := 4) (v := ?_) rfl (by kernel_rfl) (by kernel_rfl) (by kernel_rfl) (fun _ _ _ h => h) (Or.inl ⟨by rfl, ?_⟩) (by assumption) ?_
    rotate_left
    focus
      intro W hSw
      try dsimp only at hSw
      go_simp
      try with_reducible rfl
    try simp only [Act.put, List.setIfInBounds_toArray, List.set_cons_zero, List.set_cons_succ]
    refine wpAnyH_take (i := 5) (v := ?_) rfl (by kernel_rfl) (by kernel_rfl) (by kernel_rfl) (fun _ _ _ h => h) (Or.inl ⟨by rfl, ?_⟩) (by assumption) ?_
    rotate_left
    focus
      intro W hSw
      try dsimp only at hSw
      go_simp
      try with_reducible rfl
    try simp only [Act.put, List.setIfInBounds_toArray, List.set_cons_zero, List.set_cons_succ]
    refine wpAnyH_take (i := 6) (v := ?_) rfl (by kernel_rfl) (by kernel_rfl) (by kernel_rfl) (fun _ _ _ h => h) (Or.inl ⟨by rfl, ?_⟩) (by assumption) ?_
    rotate_left
    focus
      intro W hSw
      try dsimp only at hSw
      go_simp
      try with_reducible rfl
    try simp only [Act.put, List.setIfInBounds_toArray, List.set_cons_zero, List.set_cons_succ]
    refine wpAnyH_take (i := 7) (v := ?_) rfl (by kernel_rfl) (by kernel_rfl) (by kernel_rfl) (fun _ _ _ h => h) (Or.inl ⟨by rfl, ?_⟩) (by assumption) ?_
    rotate_left
    focus
      intro W hSw
      try dsimp only at hSw
      go_simp
      try with_reducible rfl
    try simp only [Act.put, List.setIfInBounds_toArray, List.set_cons_zero, List.set_cons_succ]
    refine wpAnyH_take (i := 8) (v := ?_) rfl (by kernel_rfl) (by kernel_rfl) (by kernel_rfl) (fun _ _ _ h => h) (Or.inl ⟨by rfl, ?_⟩) (by assumption) ?_
    rotate_left
    focus
      intro W hSw
      try dsimp only at hSw
      go_simp
      try with_reducible rfl
    try simp only [Act.put, List.setIfInBounds_toArray, List.set_cons_zero, List.set_cons_succ]
    refine wpAnyH_take (i := 9) (v := ?_) rfl (by kernel_rfl) (by kernel_rfl) (by kernel_rfl) (fun _ _ _ h => h) (Or.inl ⟨by rfl, ?_⟩) (by assumption) ?_
    rotate_left
    focus
      intro W hSw
      try dsimp only at hSw
      go_simp
      try with_reducible rfl
    try simp only [Act.put, List.setIfInBounds_toArray, List.set_cons_zero, List.set_cons_succ]
    refine wpAnyH_take (i := 10) (v := ?_) rfl (by kernel_rfl) (by kernel_rfl) (by kernel_rfl) (fun _ _ _ h => h) (Or.inl ⟨by rfl, ?_⟩) (by assumption) ?_
    rotate_left
    focus
      intro W hSw
      try dsimp only at hSw
      go_simp
      try with_reducible rfl
    try simp only [Act.put, List.setIfInBounds_toArray, List.set_cons_zero, List.set_cons_succ]
    refine wpAnyH_take (i := 11) (v := ?_) rfl (by kernel_rfl) (by kernel_rfl) (by kernel_rfl) (fun _ _ _ h => h) (Or.inl ⟨by rfl, ?_⟩) (by assumption) ?_
    rotate_left
    focus
      intro W hSw
      try dsimp only at hSw
      go_simp
      try with_reducible rfl
    try simp only [Act.put, List.setIfInBounds_toArray, List.set_cons_zero, List.set_cons_succ]
    refine wpAnyH_take (i := 12) (v := ?_) rfl (by kernel_rfl) (by kernel_rfl) (by kernel_rfl) (fun _ _ _ h => h) (Or.inl ⟨by rfl, ?_⟩) (by assumption) ?_
    rotate_left
    focus
      intro W hSw
      try dsimp only at hSw
      go_simp
      try with_reducible rfl
    try simp only [Act.put, List.setIfInBounds_toArray, List.set_cons_zero, List.set_cons_succ]
    refine wpAnyH_take (i := 13) (v := ?_) rfl (by kernel_rfl) (by kernel_rfl) (by kernel_rfl) (fun _ _ _ h => h) (Or.inl ⟨by rfl, ?_⟩) (by assumption) ?_
    rotate_left
    focus
      intro W hSw
      try dsimp only at hSw
      go_simp
      try with_reducible rfl
    try simp only [Act.put, List.setIfInBounds_toArray, List.set_cons_zero, List.set_cons_succ]
    refine wpAnyH_take (i := 14) (v := ?_) rfl (by kernel_rfl) (by kernel_rfl) (by kernel_rfl) (fun _ _ _ h => h) (Or.inl ⟨by rfl, ?_⟩) (by assumption) ?_
    rotate_left
    focus
      intro W hSw
      try dsimp only at hSw
      go_simp
      try with_reducible rfl
    try simp only [Act.put, List.setIfInBounds_toArray, List.set_cons_zero, List.set_cons_succ]
    refine wpAnyH_take (i := 15) (v := ?_) rfl (by kernel_rfl) (by kernel_rfl) (by kernel_rfl) (fun _ _ _ h => h) (Or.inl ⟨by rfl, ?_⟩) (by assumption) ?_
    rotate_left
    focus
      intro W hSw
      try dsimp only at hSw
      go_simp
      try with_reducible rfl
    try simp only [Act.put, List.setIfInBounds_toArray, List.set_cons_zero, List.set_cons_succ]
    refine wpAnyH_take (i := 16) (v := ?_) rfl (by kernel_rfl) (by kernel_rfl) (by kernel_rfl) (fun _ _ _ h => h) (Or.inl ⟨by rfl, ?_⟩) (by assumption) ?_
    rotate_left
    focus
      intro W hSw
      try dsimp only at hSw
      go_simp
      try with_reducible rfl
    try simp only [Act.put, List.setIfInBounds_toArray, List.set_cons_zero, List.set_cons_succ]
    refine wpAnyH_take (i := 17) (v := ?_) rfl (by kernel_rfl) (by kernel_rfl) (by kernel_rfl) (fun _ _ _ h => h) (Or.inl ⟨by rfl, ?_⟩) (by assumption) ?_
    rotate_left
    focus
      intro W hSw
      try dsimp only at hSw
      go_simp
      try with_reducible rfl
    try simp only [Act.put, List.setIfInBounds_toArray, List.set_cons_zero, List.set_cons_succ]
    refine wpAnyH_take (i := 18) (v := ?_) rfl (by kernel_rfl) (by kernel_rfl) (by kernel_rfl) (fun _ _ _ h => h) (Or.inl ⟨by rfl, ?_⟩) (by assumption) ?_
    rotate_left
    focus
      intro W hSw
      try dsimp only at hSw
      go_simp
      try with_reducible rfl
    try simp only [Act.put, List.setIfInBounds_toArray, List.set_cons_zero, List.set_cons_succ]
    refine wpAnyH_take (i := 20) (v := ?_) rfl (by kernel_rfl) (by kernel_rfl) (by kernel_rfl) (fun _ _ _ h => h) (Or.inl ⟨by rfl, ?_⟩) (by assumption) ?_
    rotate_left
    focus
      intro W hSw
      try dsimp only at hSw
      go_simp
      try with_reducible rfl
    try simp only [Act.put, List.setIfInBounds_toArray, List.set_cons_zero, List.set_cons_succ]
    refine wpAnyH_take (i := 21) (v := ?_) rfl (by kernel_rfl) (by kernel_rfl) (by kernel_rfl) (fun _ _ _ h => h) (Or.inl ⟨by rfl, ?_⟩) (by assumption) ?_
    rotate_left
    focus
      intro W hSw
      try dsimp only at hSw
      go_simp
      try with_reducible rfl
    try simp only [Act.put, List.setIfInBounds_toArray, List.set_cons_zero, List.set_cons_succ]
    refine wpAnyH_take (i := 22) (v := ?_) rfl (by kernel_rfl) (by kernel_rfl) (by kernel_rfl) (fun _ _ _ h => h) (Or.inl ⟨by rfl, ?_⟩) (by assumption) ?_
    rotate_left
    focus
      intro W hSw
      try dsimp only at hSw
      go_simp
      try with_reducible rfl
    try simp only [Act.put, List.setIfInBounds_toArray, List.set_cons_zero, List.set_cons_succ]
    refine wpAnyH_take (i := 23) (v := ?_) rfl (by kernel_rfl) (by kernel_rfl) (by kernel_rfl) (fun _ _ _ h => h) (Or.inl ⟨by rfl, ?_⟩) (by assumption) ?_
    rotate_left
    focus
      intro W hSw
      try dsimp only at hSw
      go_simp
      try with_reducible rfl
    try simp only [Act.put, List.setIfInBounds_toArray, List.set_cons_zero, List.set_cons_succ]
    refine wpAnyH_take (i := 24) (v := ?_) rfl (by kernel_rfl) (by kernel_rfl) (by kernel_rfl) (fun _ _ _ h => h) (Or.inl ⟨by rfl, ?_⟩) (by assumption) ?_
    rotate_left
    focus
      intro W hSw
      try dsimp only at hSw
      go_simp
      try with_reducible rfl
    try simp only [Act.put, List.setIfInBounds_toArray, List.set_cons_zero, List.set_cons_succ]
    refine wpAnyH_take (i := 25) (v := ?_) rfl (by kernel_rfl) (by kernel_rfl) (by kernel_rfl) (fun _ _ _ h => h) (Or.inl ⟨by rfl, ?_⟩) (by assumption) ?_
    rotate_left
    focus
      intro W hSw
      try dsimp only at hSw
      go_simp
      try with_reducible rfl
    try simp only [Act.put, List.setIfInBounds_toArray, List.set_cons_zero, List.set_cons_succ]
    refine wpAnyH_take (i := 26) (v := ?_) rfl (by kernel_rfl) (by kernel_rfl) (by kernel_rfl) (fun _ _ _ h => h) (Or.inl ⟨by rfl, ?_⟩) (by assumption) ?_
    rotate_left
    focus
      intro W hSw
      try dsimp only at hSw
      go_simp
      try with_reducible rfl
    try simp only [Act.put, List.setIfInBounds_toArray, List.set_cons_zero, List.set_cons_succ]
    refine wpAnyH_ready (rs := [19, 27]) (by kernel_rfl) (by simp) ?_
    refine AllReadyH.cons rfl (fun K hK => ?_) ?_
    focus
      go_simp
      refine hK.out _ _ ?_ (fun hHeld => ?_)
      focus
        exact HK.out _ (by repeat (first | (with_reducible refine GX.setCell ?_ (by first | (simp; done) | (simp; omega)) _) | with_reducible refine GX.alloc ?_ _ | with_reducible refine GX.drew ?_ | with_reducible refine GX.drewN ?_ _ | with_reducible assumption | with_reducible exact GX.refl _ _ | with_reducible refine GX.ext ?_ (by with_reducible assumption) | with_reducible refine GX.trans ?_ (by with_reducible assumption)))
      clear hK K
      refine wpAnyH_ready (rs := [27]) (by kernel_rfl) (by simp) ?_
      refine AllReadyH.cons rfl (fun K hK => ?_) AllReadyH.nil
      go_simp
      refine hK.out _ _ ?_ (fun hHeld => ?_)
      focus
        exact HK.out _ (by repeat (first | (with_reducible refine GX.setCell ?_ (by first | (simp; done) | (simp; omega)) _) | with_reducible refine GX.alloc ?_ _ | with_reducible refine GX.drew ?_ | with_reducible refine GX.drewN ?_ _ | with_reducible assumption | with_reducible exact GX.refl _ _ | with_reducible refine GX.ext ?_ (by with_reducible assumption) | with_reducible refine GX.trans ?_ (by with_reducible assumption)))
      clear hK K
      refine wpAnyH_take (i := 28) (v := ?_) rfl (by kernel_rfl) (by kernel_rfl) (by kernel_rfl) (fun _ _ _ h => h) (Or.inl ⟨by rfl, ?_⟩) (by assumption) ?_
      rotate_left
      focus
        intro W hSw
        try dsimp only at hSw
        go_simp
        try with_reducible rfl
      try simp only [Act.put, List.setIfInBounds_toArray, List.set_cons_zero, List.set_cons_succ]
      refine wpAnyH_ready (rs := [29]) (by kernel_rfl) (by simp) ?_
      refine AllReadyH.cons rfl (fun K hK => ?_) AllReadyH.nil
      go_simp
      refine hK.out _ _ ?_ (fun hHeld => ?_)
      focus
        exact HK.out _ (by repeat (first | (with_reducible refine GX.setCell ?_ (by first | (simp; done) | (simp; omega)) _) | with_reducible refine GX.alloc ?_ _ | with_reducible refine GX.drew ?_ | with_reducible refine GX.drewN ?_ _ | with_reducible assumption | with_reducible exact GX.refl _ _ | with_reducible refine GX.ext ?_ (by with_reducible assumption) | with_reducible refine GX.trans ?_ (by with_reducible assumption)))
      clear hK K
      refine wpAnyH_take (i := 30) (v := ?_) rfl (by kernel_rfl) (by kernel_rfl) (by kernel_rfl) (fun _ _ _ h => h) (Or.inl ⟨by rfl, ?_⟩) (by assumption) ?_
      rotate_left
      focus
        intro W hSw
        try dsimp only at hSw
        go_simp
        try with_reducible rfl
      try simp only [Act.put, List.setIfInBounds_toArray, List.set_cons_zero, List.set_cons_succ]
      refine wpAnyH_ready (rs := [31]) (by kernel_rfl) (by simp) ?_
      refine AllReadyH.cons rfl (fun K hK => ?_) AllReadyH.nil
      go_simp
      refine hK.out _ _ ?_ (fun hHeld => ?_)
      focus
        exact HK.out _ (by repeat (first | (with_reducible refine GX.setCell ?_ (by first | (simp; done) | (simp; omega)) _) | with_reducible refine GX.alloc ?_ _ | with_reducible refine GX.drew ?_ | with_reducible refine GX.drewN ?_ _ | with_reducible assumption | with_reducible exact GX.refl _ _ | with_reducible refine GX.ext ?_ (by with_reducible assumption) | with_reducible refine GX.trans ?_ (by with_reducible assumption)))
      clear hK K
      refine wpAnyH_done (by kernel_rfl) ?_ _
    rotate_left
    refine AllReadyH.cons rfl (fun K hK => ?_) AllReadyH.nil
    focus
      go_simp
      refine hK.out _ _ ?_ (fun hHeld => ?_)
      focus
        exact HK.out _ (by repeat (first | (with_reducible refine GX.setCell ?_ (by first | (simp; done) | (simp; omega)) _) | with_reducible refine GX.alloc ?_ _ | with_reducible refine GX.drew ?_ | with_reducible refine GX.drewN ?_ _ | with_reducible assumption | with_reducible exact GX.refl _ _ | with_reducible refine GX.ext ?_ (by with_reducible assumption) | with_reducible refine GX.trans ?_ (by with_reducible assumption)))
      clear hK K
      refine wpAnyH_ready (rs := [19]) (by kernel_rfl) (by simp) ?_
      refine AllReadyH.cons rfl (fun K hK => ?_) AllReadyH.nil
      go_simp
      refine hK.out _ _ ?_ (fun hHeld => ?_)
      focus
        exact HK.out _ (by repeat (first | (with_reducible refine GX.setCell ?_ (by first | (simp; done) | (simp; omega)) _) | with_reducible refine GX.alloc ?_ _ | with_reducible refine GX.drew ?_ | with_reducible refine GX.drewN ?_ _ | with_reducible assumption | with_reducible exact GX.refl _ _ | with_reducible refine GX.ext ?_ (by with_reducible assumption) | with_reducible refine GX.trans ?_ (by with_reducible assumption)))
      clear hK K
      refine wpAnyH_take (i := 28) (v := ?_) rfl (by kernel_rfl) (by kernel_rfl) (by kernel_rfl) (fun _ _ _ h => h) (Or.inl ⟨by rfl, ?_⟩) (by assumption) ?_
      rotate_left
      focus
        intro W hSw
        try dsimp only at hSw
        go_simp
        try with_reducible rfl
      try simp only [Act.put, List.setIfInBounds_toArray, List.set_cons_zero, List.set_cons_succ]
      refine wpAnyH_ready (rs := [29]) (by kernel_rfl) (by simp) ?_
      refine AllReadyH.cons rfl (fun K hK => ?_) AllReadyH.nil
      go_simp
      refine hK.out _ _ ?_ (fun hHeld => ?_)
      focus
        exact HK.out _ (by repeat (first | (with_reducible refine GX.setCell ?_ (by first | (simp; done) | (simp; omega)) _) | with_reducible refine GX.alloc ?_ _ | with_reducible refine GX.drew ?_ | with_reducible refine GX.drewN ?_ _ | with_reducible assumption | with_reducible exact GX.refl _ _ | with_reducible refine GX.ext ?_ (by with_reducible assumption) | with_reducible refine GX.trans ?_ (by with_reducible assumption)))
      clear hK K
      refine wpAnyH_take (i := 30) (v := ?_) rfl (by kernel_rfl) (by kernel_rfl) (by kernel_rfl) (fun _ _ _ h => h) (Or.inl ⟨by rfl, ?_⟩) (by assumption) ?_
      rotate_left
      focus
        intro W hSw
        try dsimp only at hSw
        go_simp
        try with_reducible rfl
      try simp only [Act.put, List.setIfInBounds_toArray, List.set_cons_zero, List.set_cons_succ]
      refine wpAnyH_ready (rs := [31]) (by kernel_rfl) (by simp) ?_
      refine AllReadyH.cons rfl (fun K hK => ?_) AllReadyH.nil
      go_simp
      refine hK.out _ _ ?_ (fun hHeld => ?_)
      focus
        exact HK.out _ (by repeat (first | (with_reducible refine GX.setCell ?_ (by first | (simp; done) | (simp; omega)) _) | with_reducible refine GX.alloc ?_ _ | with_reducible refine GX.drew ?_ | with_reducible refine GX.drewN ?_ _ | with_reducible assumption | with_reducible exact GX.refl _ _ | with_reducible refine GX.ext ?_ (by with_reducible assumption) | with_reducible refine GX.trans ?_ (by with_reducible assumption)))
      clear hK K
      refine wpAnyH_done (by kernel_rfl) ?_ _
    all_goals
      go_wp2_with fail
      go_ret
      refine ⟨(by rw [hso.out]; rfl), (fun _ => ?_), ((((HHX.out.1.setCell HHX.out.2 _).setCell HHX.out.2 _).setCell HHX.out.2 _).setCell HHX.out.2 _).drew⟩
      try rw [hst]
      exact ⟨_, (((((HRD.out.store (a * 2) _).store (a * 2 + 1) _).store (b * 2) _).store (b * 2 + 1) _).ext (Ext.refl _).drew).ms HVS.out⟩
  · have hso : stOk k0 σ.u = true := by rw [hSO.out]; rcases hk0 with rfl | rfl <;> rfl
    have hcf : cfK k0 = 0 := by rcases hk0 with rfl | rfl <;> rfl
    have hst : stepF σ j k0 a b = σ := by rcases hk0 with rfl | rfl <;> rfl
    go_enter Try.func51, Try.ntmps51
    go_upto_region 1 with fail
    rw [← hw1]
    clear hw1
    go_wp2_with fail
    refine (rotationCoef_any _ _).mono ?_
    rintro e w9 ⟨rfl, rfl⟩
    rw [hcf]
    go_wp2
    go_ret
    refine ⟨(by rw [hso]; rfl), (fun _ => ?_), HX0.out.trans HX1.out⟩
    rw [hst]
    exact ⟨_, HM.out _ (Ext.refl _)⟩
  · obtain ⟨c, hcf⟩ : ∃ c, cfK k0 = c := ⟨_, rfl⟩
    have hc1 : 1 ≤ c ∧ c ≤ 7 := by
      have h : k0 = 4 ∨ k0 = 5 ∨ k0 = 6 ∨ k0 = 7 ∨ k0 = 8 := by omega
      rcases h with rfl | rfl | rfl | rfl | rfl <;> (subst hcf; decide)
    have hst : stepF σ j k0 a b = rotG σ j a c := by
      unfold stepF
      rw [if_neg (by omega), if_neg (by omega), if_neg (by omega), if_neg (by omega), if_pos (by omega), hcf]
      rfl
    have hso : stOk k0 σ.u = true := by
      rw [hSO.out]
      have : (k0 == 1) = false := by simp; omega
      rw [this]; rfl
    have HRO := Lib.hid (rotate_any M lo hi Q j a c w1 (HM.out w1 (Ext.refl _)) HI.out haQ hq.2 hj hc1 w0 h0 (HX0.out.trans HX1.out))
    go_enter Try.func51, Try.ntmps51
    go_upto_region 1 with fail
    rw [← hw1]
    clear hw1
    go_wp2_with fail
    refine (rotationCoef_any _ _).mono ?_
    rintro e w9 ⟨rfl, rfl⟩
    rw [hcf]
    go_wp2_with fail
    refine HRO.out.mono ?_
    rintro e w9 ⟨rfl, hm9, hx9⟩
    have HM9 := Lib.hid hm9
    clear hm9
    go_wp2
    go_ret
    refine ⟨(by rw [hso]; rfl), (fun _ => ?_), hx9⟩
    rw [hst]
    exact HM9.out

end Go.Proofs.Ytchaanppoklapaa
