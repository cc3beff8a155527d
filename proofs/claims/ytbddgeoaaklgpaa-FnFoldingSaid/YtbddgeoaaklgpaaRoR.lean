/- Rotations that are folded: what both sides return, and the reference. -/
import Derived.Test.YtbddgeoaaklgpaaRoS
import Derived.Test.YtbddgeoaaklgpaaRoU
import Derived.Test.YtbddgeoaaklgpaaGate
import Derived.Test.YtbddgeoaaklgpaaMade
namespace Go.Proofs.Ytbddgeoaaklgpaa
open Go.RowKit Go.Lib
set_option linter.unusedVariables false
set_option linter.unusedSimpArgs false

/-- the groups and the phase that are returned -/
def rG (q : Int) (xs : List Int) (n : Nat) : List Gp := if mgK q xs n then (fsS q.toNat xs n).G else []
def rS (q : Int) (xs : List Int) (n : Nat) : Nat := if mgK q xs n then (fsS q.toNat xs n).s else 0
theorem mgK_c {q : Int} {xs : List Int} {n : Nat} (h : cOk q xs n = true) : mgK q xs n = fsK q.toNat xs n := by unfold mgK; rw [h]; rfl
theorem mgK_no {q : Int} {xs : List Int} {n : Nat} (h : cOk q xs n = false) : mgK q xs n = false := by unfold mgK; rw [h]; rfl
theorem cOk_q {q : Int} {xs : List Int} {n : Nat} (h : cOk q xs n = true) : 1 ≤ q ∧ q ≤ 5 ∧ n ≤ 400 := by
  unfold cOk at h
  simp only [Bool.and_eq_true, decide_eq_true_eq] at h
  have := Wn_iff.1 h.1
  exact ⟨this.1, this.2, h.2.1⟩
theorem FC_ilen (G : List Gp) : (FC G).length = G.length * 2 := FC_len G

def ROut (q : Int) (n : Nat) (xs : List Int) (w : World) (e : Ending) (w' : World) : Prop :=
  ∃ vo, e = .returned (.tuple #[vo, .int .i64 (rS q xs n : Nat), .bool (mgK q xs n)]) ∧ w'.ownsRow w.heap.size 34 2 vo (rG q xs n).length (IL (FC (rG q xs n))) ∧ Ext w w'

set_option maxHeartbeats 2000000 in
theorem s_rotationsOf_any (q : Int) {v : Value} {n : Nat} {xs : List Int} (hn : n ≤ 2000000) (w : World) (h : RV w 3 v n xs) :
    Calls Try.prog 9 #[.agg #[.int .i64 q, v]] w fun e w' => ROut q n xs w e w' := by
  have HV := fun w' (hx : Ext w w') => Lib.hid (l4Good_any q hn w' (h.ext hx))
  have HF := fun (Q : Nat) (hc : cOk Q xs n = true) w' (hx : Ext w w') => Lib.hid (l13Folds_any Q hc w' (h.ext hx))
  obtain ⟨_, a, cap, rfl, _, _, _⟩ := h
  cases hc : cOk q xs n
  · have hm := mgK_no hc
    rw [hc] at HV
    go_enter Try.func9, Try.ntmps9
    go_wp2_with fail
    refine (HV _ (by repeat (first | exact Ext.refl _ | assumption | refine Ext.alloc ?_ _ | refine Ext.drew ?_ | refine Ext.drewN ?_ _ | refine Ext.setCell ?_ (by first | omega | (dsimp only; omega) | (simp; done) | (simp; omega)) _ | refine Ext.trans ?_ (by assumption)))).out.mono ?_
    rintro e w1 ⟨rfl, hx1⟩
    go_wp2
    go_ret3
    refine ⟨.slice none 0 0, ?_, ?_, (by repeat (first | exact Ext.refl _ | assumption | refine Ext.alloc ?_ _ | refine Ext.drew ?_ | refine Ext.drewN ?_ _ | refine Ext.setCell ?_ (by first | omega | (dsimp only; omega) | (simp; done) | (simp; omega)) _ | refine Ext.trans ?_ (by assumption)))⟩
    · rw [show rS q xs n = 0 by unfold rS; rw [hm]; rfl, hm]; rfl
    · rw [show rG q xs n = [] by unfold rG; rw [hm]; rfl]; exact own_nil _ _ _ _
  · have hq := cOk_q hc
    obtain ⟨Q, rfl⟩ : ∃ Q : Nat, q = Q := ⟨q.toNat, by omega⟩
    have hm : mgK Q xs n = fsK Q xs n := mgK_c hc
    have HF := HF Q hc
    rw [hc] at HV
    go_enter Try.func9, Try.ntmps9
    go_wp2_with fail
    refine (HV _ (by repeat (first | exact Ext.refl _ | assumption | refine Ext.alloc ?_ _ | refine Ext.drew ?_ | refine Ext.drewN ?_ _ | refine Ext.setCell ?_ (by first | omega | (dsimp only; omega) | (simp; done) | (simp; omega)) _ | refine Ext.trans ?_ (by assumption)))).out.mono ?_
    rintro e w1 ⟨rfl, hx1⟩
    obtain ⟨hc1, hf1⟩ := hx1.cells
    have hz1 := hx1.size
    try simp at hz1
    have hs1_0 := sz1 (a := w.heap.size) (b := w1.heap.size) (by omega)
    go_wp2_with fail
    refine (HF _ (by repeat (first | exact Ext.refl _ | assumption | refine Ext.alloc ?_ _ | refine Ext.drew ?_ | refine Ext.drewN ?_ _ | refine Ext.setCell ?_ (by first | omega | (dsimp only; omega) | (simp; done) | (simp; omega)) _ | refine Ext.trans ?_ (by assumption)))).out.mono ?_
    rintro e w2 ⟨vo, vi, rfl, h1, h2, hx2⟩
    have H1 := Lib.hid h1
    have H2 := Lib.hid h2
    clear h1 h2
    cases hk : fsK Q xs n
    · have Hk := Lib.hid hk
      rw [hk] at hm
      have Hm := Lib.hid hm
      have hvo := H2.out hk
      subst hvo
      clear hk hm
      go_wp2_with fail
      go_ret3
      refine ⟨.slice none 0 0, ?_, ?_, ?_⟩
      · rw [show rS Q xs n = 0 by unfold rS; rw [Hm.out]; rfl, Hm.out]; rfl
      · rw [show rG Q xs n = [] by unfold rG; rw [Hm.out]; rfl]; exact own_nil _ _ _ _
      · exact (by repeat (first | exact Ext.refl _ | assumption | refine Ext.alloc ?_ _ | refine Ext.drew ?_ | refine Ext.drewN ?_ _ | refine Ext.setCell ?_ (by first | omega | (dsimp only; omega) | (simp; done) | (simp; omega)) _ | refine Ext.trans ?_ (by assumption)))
    · rw [hk] at hm
      have Hm := Lib.hid hm
      have hr : Hid (rS Q xs n = (fsS Q xs n).s ∧ rG Q xs n = (fsS Q xs n).G) := Lib.hid ⟨by unfold rS; rw [hm]; rfl, by unfold rG; rw [hm]; rfl⟩
      have HO := Lib.hid (own_base (H1.out hk).1 (base' := w.heap.size) (by have := hx1.size; simp at this; omega))
      clear hk hm H1 H2
      go_wp2_with fail
      go_ret3
      refine ⟨vo, ?_, ?_, ?_⟩
      · rw [hr.out.1, Hm.out]; rfl
      · rw [hr.out.2]; exact HO.out
      · exact (by repeat (first | exact Ext.refl _ | assumption | refine Ext.alloc ?_ _ | refine Ext.drew ?_ | refine Ext.drewN ?_ _ | refine Ext.setCell ?_ (by first | omega | (dsimp only; omega) | (simp; done) | (simp; omega)) _ | refine Ext.trans ?_ (by assumption)))

set_option maxRecDepth 20000 in
set_option maxHeartbeats 4000000 in
theorem rotationsOf_any (q : Int) {v : Value} {n : Nat} {xs : List Int} (hn : n ≤ 2000000) (w : World) (h : RV w 3 v n xs) :
    Calls Try.prog 8 #[.agg #[.int .i64 q, v]] w fun e w' => ROut q n xs w e w' := by
  have HM := fun w' (hx : Ext w w') => Lib.hid (merged_any q hn w' (h.ext hx))
  have HIV : Hid (mgK q xs n = true → FsI q.toNat n (fsS q.toNat xs n)) := Lib.hid (fun hm => by
    cases hc : cOk q xs n
    · rw [mgK_no hc] at hm; cases hm
    · have hq := cOk_q hc
      obtain ⟨Q, rfl⟩ : ∃ Q : Nat, q = Q := ⟨q.toNat, by omega⟩
      rw [mgK_c hc] at hm
      exact fs_inv hc n (Nat.le_refl _) hm)
  have HRS : Hid (mgK q xs n = true → rS q xs n = (fsS q.toNat xs n).s ∧ rG q xs n = (fsS q.toNat xs n).G) := Lib.hid (fun hm => ⟨by unfold rS; rw [hm]; rfl, by unfold rG; rw [hm]; rfl⟩)
  have HRN : Hid (mgK q xs n = false → rS q xs n = 0 ∧ rG q xs n = []) := Lib.hid (fun hm => ⟨by unfold rS; rw [hm]; rfl, by unfold rG; rw [hm]; rfl⟩)
  obtain ⟨_, a, cap, rfl, _, _, _⟩ := h
  go_enter Try.func8, Try.ntmps8
  go_wp2_with fail
  refine (HM _ (by repeat (first | exact Ext.refl _ | assumption | refine Ext.alloc ?_ _ | refine Ext.drew ?_ | refine Ext.drewN ?_ _ | refine Ext.setCell ?_ (by first | omega | (dsimp only; omega) | (simp; done) | (simp; omega)) _ | refine Ext.trans ?_ (by assumption)))).out.mono ?_
  rintro e w1 ⟨M, lo, hi, vv, rfl, h1, h2, hx1⟩
  have H1 := Lib.hid h1
  have hs1 : w.heap.size + 1 ≤ M := by simpa using h2
  have HX1 : Hid (Ext w w1) := Lib.hid (by repeat (first | exact Ext.refl _ | assumption | refine Ext.alloc ?_ _ | refine Ext.drew ?_ | refine Ext.drewN ?_ _ | refine Ext.setCell ?_ (by first | omega | (dsimp only; omega) | (simp; done) | (simp; omega)) _ | refine Ext.trans ?_ (by assumption)))
  clear h1 h2 hx1
  obtain ⟨σ, hσ⟩ : ∃ σ, σ = fsS q.toNat xs n := ⟨_, rfl⟩
  obtain ⟨Q, hQ⟩ : ∃ Q, Q = q.toNat := ⟨_, rfl⟩
  rw [← hσ, ← hQ] at HIV H1
  rw [← hσ] at HRS
  clear hσ hQ
  cases hm : mgK q xs n
  · have Hm := Lib.hid hm
    have Hn := Lib.hid (HRN.out hm)
    rw [hm] at H1
    clear hm HRS HIV HM
    go_wp2_with fail
    go_ret3
    refine ⟨.slice none 0 0, ?_, ?_, HX1.out⟩
    · rw [Hn.out.1, Hm.out]; rfl
    · rw [Hn.out.2]; exact own_nil _ _ _ _
  · have Hr := Lib.hid (HRS.out hm)
    obtain ⟨gv, hms⟩ := H1.out hm
    have HI := Lib.hid (HIV.out hm)
    have hgl := HI.out.gl
    obtain ⟨ag, cg, rfl⟩ := hms.grp.shape
    obtain ⟨zs, g1, g2, g3, g4⟩ := hms.grp
    have hq3 := cOk_q (q := q) (xs := xs) (n := n) (by
      have h := hm
      unfold mgK at h
      simp only [Bool.and_eq_true] at h
      exact h.1)
    have hgl4 : σ.G.length ≤ 400 := by omega
    have hlo := hms.lh
    have hml := hms.ml
    have G1 := Lib.hid g1
    have G4 := Lib.hid g4
    have hCM := Lib.hid hms.cell
    have zM := fun k => cell_of_row _ _ k _ _ _ hCM.out
    have lM := (Array.getElem?_eq_some_iff.1 hCM.out).1
    have Hm := Lib.hid hm
    clear hm g1 g2 g3 g4 hms H1 HRS HRN HIV HM hq3
    go_wp2_with fail
    go_loopw [7, 23] (fun u7 u23 wr => ∃ i : Nat, i ≤ σ.G.length ∧ u23 = .int .i64 i ∧ Hid (wr.ownsRow w1.heap.size 34 2 u7 i (IL (FC (σ.G.take i)))) ∧ Ext w1 wr) (fun _ u23 _ => σ.G.length - (intOf u23).toNat)
    case atStart => exact ⟨0, by omega, rfl, Lib.hid (World.ownsRow_lit w1 #[] 0 (Nat.le_refl _) (by decide) rfl), (Ext.refl _).alloc _⟩
    case round =>
      obtain ⟨i, hi2, rfl, HO2, hE2⟩ := hrel
      have HE2 := Lib.hid hE2
      obtain ⟨av2, cv2, rfl, _, _, _⟩ := own_shape HO2.out
      have hsr := hE2.size
      by_cases hlt2 : i < σ.G.length
      · have hlt3 : (i : Int) < σ.G.length := by omega
        obtain ⟨s, e0, e1, e2, e3, e4, os⟩ := G4.out i hlt2
        obtain ⟨ag2, cg2, ee, _, _, hg3⟩ := own_shape (own_ext G1.out hE2)
        injection ee with ee1 _ ee3
        subst ee1 ee3
        obtain ⟨Bg, rfl, hb1, hb2, hb3, hb4⟩ := hg3 (by omega)
        obtain ⟨sa, cs, rfl, _, _, _⟩ := own_shape os
        have y0 := hb3 _ _ e0
        have y1 := hb3 _ _ e1
        have y2 := hb3 _ _ e2
        have y3 := hb3 _ _ e3
        have y4 := hb3 _ _ e4
        have HT : Hid (IL (FC (σ.G.take (i + 1))) = IL (FC (σ.G.take i)) ++ IL (fcC (gAt σ.G i))) := by rw [List.take_add_one, List.getElem?_eq_getElem hlt2, gAt_get hlt2]; exact FC_snoc _ _
        clear e0 e1 e2 e3 e4 os hb3 hb4 hg3 hE2
        generalize gAt σ.G i = gg at *
        generalize gg.L.length = gl at *
        have hxx : Ext wr ((wr.alloc (.cells #[.int .i64 gg.t, .int .i64 gg.c, .int .u64 gg.v, .bool gg.p, .slice sa gl cs] 55 (0, 0))).alloc (.cells #[.int .i64 gg.t, .int .i64 gg.c] 34 (0, 0))) := (((Ext.refl wr).alloc _).alloc _)
        have HO3 := Lib.hid (own_ext HO2.out hxx)
        have M3 : ((wr.alloc (.cells #[.int .i64 gg.t, .int .i64 gg.c, .int .u64 gg.v, .bool gg.p, .slice sa gl cs] 55 (0, 0))).alloc (.cells #[.int .i64 gg.t, .int .i64 gg.c] 34 (0, 0))).heap[wr.heap.size + 1]? = some (.cells #[.int .i64 gg.t, .int .i64 gg.c] 34 (0, 0)) := heap_alloc_at _ _ _ (by simp)
        have HM3 := Lib.hid M3
        have hsz3 : w1.heap.size ≤ ((wr.alloc (.cells #[.int .i64 gg.t, .int .i64 gg.c, .int .u64 gg.v, .bool gg.p, .slice sa gl cs] 55 (0, 0))).alloc (.cells #[.int .i64 gg.t, .int .i64 gg.c] 34 (0, 0))).heap.size := Nat.le_trans HE2.out.size hxx.size
        have HXX := Lib.hid hxx
        clear M3 hxx
        go_upto_region 9 with (at_builtin; go_loud (refine wpList_append_rvt (base := w1.heap.size) rfl elt_Fd rfl (.slice av2 i cv2) i (FC (σ.G.take i)) rfl HO3.out _ 1 [gg.t, gg.c] rfl (rv_heap HM3.out rfl rfl (by omega) (by decide)) (by omega) hsz3 ?_); intro v5 w5 hown5 hgrow5 hiff5 hloc5)
        have hx5 : Ext w1 w5 := ext_grownB (HE2.out.trans HXX.out) hgrow5 HO3.out (Nat.le_refl _)
        have HO5 : Hid (w5.ownsRow w1.heap.size 34 2 v5 (i + 1) (IL (FC (σ.G.take (i + 1))))) := by
          rw [HT.out]
          have h5 := hown5
          rw [il_append] at h5
          exact h5
        have HX5 := Lib.hid hx5
        clear hown5 hgrow5 hiff5 hloc5 hx5
        go_wp2
        go_roundw
        case rel => exact ⟨i + 1, by omega, by go_num, HO5, HX5.out⟩
        case measure => simp [intOf]; omega
      · obtain rfl : σ.G.length = i := by omega
        have hCR := row_farM hCM.out HE2.out
        have zR := fun k => cell_of_row _ _ k _ _ _ hCR
        have lR := (Array.getElem?_eq_some_iff.1 hCR).1
        have HO4 := HO2.out
        rw [List.take_length] at HO4
        have HO6 := Lib.hid (own_base HO4 (base' := w.heap.size) (by have := HX1.out.size; omega))
        have HX9 := Lib.hid (HX1.out.trans HE2.out)
        clear HO4 hCR hE2 zM lM
        go_upto_region 10 with fail
        go_region
        all_goals
          go_wp2
          go_ret3
          refine ⟨.slice av2 σ.G.length cv2, ?_, ?_, HX9.out.drew⟩
          · rw [Hr.out.1, Hm.out]; rfl
          · rw [Hr.out.2]; exact own_ext HO6.out (Ext.refl _).drew

theorem rG_le (q : Int) (xs : List Int) (n : Nat) : (rG q xs n).length ≤ 400 := by
  unfold rG
  cases hm : mgK q xs n
  · exact Nat.zero_le _
  · have h := hm
    unfold mgK at h
    simp only [Bool.and_eq_true] at h
    have hq := cOk_q h.1
    obtain ⟨Q, rfl⟩ : ∃ Q : Nat, q = Q := ⟨q.toNat, by omega⟩
    have h1 := (fs_inv h.1 n (Nat.le_refl _) h.2).gl
    show (fsS Q xs n).G.length ≤ 400
    have : (fsS Q xs n).G.length ≤ n := h1
    omega
theorem s_rotationsOf_l (q : Int) {v : Value} {n : Nat} {xs : List Int} (hn : n ≤ 2000000) (w : World) (h : RV w 3 v n xs) :
    Calls Try.prog 9 #[.agg #[.int .i64 q, v]] w fun e w' => ∃ vo, e = .returned (.tuple #[vo, .int .i64 (rS q xs n : Nat), .bool (mgK q xs n)]) ∧ w'.ownsRow w.heap.size 34 2 vo (rG q xs n).length (IL (FC (rG q xs n))) ∧ Ext w w' := s_rotationsOf_any q hn w h
theorem rotationsOf_l (q : Int) {v : Value} {n : Nat} {xs : List Int} (hn : n ≤ 2000000) (w : World) (h : RV w 3 v n xs) :
    Calls Try.prog 8 #[.agg #[.int .i64 q, v]] w fun e w' => ∃ vo, e = .returned (.tuple #[vo, .int .i64 (rS q xs n : Nat), .bool (mgK q xs n)]) ∧ w'.ownsRow w.heap.size 34 2 vo (rG q xs n).length (IL (FC (rG q xs n))) ∧ Ext w w' := rotationsOf_any q hn w h

end Go.Proofs.Ytbddgeoaaklgpaa
