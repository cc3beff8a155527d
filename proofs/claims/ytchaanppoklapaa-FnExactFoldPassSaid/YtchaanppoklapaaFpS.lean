/- Folding: the reference's side. -/
import Derived.Test.YtchaanppoklapaaFpV
import Derived.Test.YtchaanppoklapaaRoS
import Derived.Test.YtchaanppoklapaaGateK
import Derived.Deep.RegionHeld3
namespace Go.Proofs.Ytchaanppoklapaa
open Go.RowKit Go.Lib
set_option linter.unusedVariables false
set_option linter.unusedSimpArgs false

theorem mkB_at {xs : List Int} {n j : Nat} (hj : j < n) : (mkB xs n n)[j]? = some (.bool (decide (0 < cfK (at3 xs (j * 3))))) := by
  simp [mkB, hj]
theorem fpG_take {G : List Gp} {a : Int} {j i : Nat} (hi : i < G.length) : fpG (G.take (i + 1)) a j = fpG (G.take i) a j ++ (if (gAt G i).t = j then rotL a (gAt G i).c else []) := by
  unfold fpG
  rw [List.take_add_one, List.getElem?_eq_getElem hi, gAt_get hi, List.flatMap_append]
  simp
theorem FC_at {G : List Gp} {i : Nat} (hi : i < G.length) : (IL (FC G))[i * 2]? = some (.int .i64 ((gAt G i).t : Int)) ∧ (IL (FC G))[i * 2 + 1]? = some (.int .i64 ((gAt G i).c : Int)) := by
  have h0 := fm_get (f := fcC) (k := 2) (fun _ => rfl) G i 0 hi (by decide)
  have h1 := fm_get (f := fcC) (k := 2) (fun _ => rfl) G i 1 hi (by decide)
  rw [gAt_get hi] at h0 h1
  simp only [IL, List.getElem?_map]
  exact ⟨by rw [show FC G = G.flatMap fcC from rfl, ← Nat.add_zero (i * 2), h0]; rfl, by rw [show FC G = G.flatMap fcC from rfl, h1]; rfl⟩

set_option maxRecDepth 20000 in
set_option maxHeartbeats 8000000 in
theorem s_foldPhases_any (q : Int) {v : Value} {n : Nat} {xs : List Int} (hn : n ≤ 2000000) (w : World) (h : RV w 3 v n xs) :
    Calls Try.prog 15 #[.agg #[.int .i64 q, v]] w fun e w' => ∃ v', e = .returned (.tuple #[.agg #[.int .i64 (fQ q xs n), v'], .bool (fOk q xs n)]) ∧ w'.ownsRow w.heap.size 72 3 v' (fN q xs n) (IL (fL q xs n)) ∧ Ext w w' := by
  have HV := fun w' (hx : Ext w w') => Lib.hid (l4Good_any q hn w' (h.ext hx))
  have HF := fun (Q : Nat) (hc : cOk Q xs n = true) w' (hx : Ext w w') => Lib.hid (l13Folds_any Q hc w' (h.ext hx))
  have HNO : Hid (fOk q xs n = false → fQ q xs n = 0 ∧ fN q xs n = 0 ∧ fL q xs n = []) := Lib.hid (fun h1 => by
    unfold fQ fN fL
    rw [h1]
    exact ⟨rfl, rfl, rfl⟩)
  have HNM : Hid (mOk q xs n = false → fOk q xs n = false) := Lib.hid (fun hm => by unfold fOk; rw [hm]; rfl)
  have HV0 := Lib.hid h
  obtain ⟨hl, a1, cap, rfl, p1, p2, hh⟩ := h
  have HH := Lib.hid hh
  have HL := Lib.hid hl
  clear hh hl
  obtain ⟨w2, hw2⟩ : ∃ x, x = (w.alloc (.cells #[.int .i64 q, .slice a1 n cap] 31 (0, 0))).alloc (.cells #[.int .i64 0, .slice none 0 0] 31 (0, 0)) := ⟨_, rfl⟩
  have HX2 : Hid (Ext w w2) := by rw [hw2]; exact Lib.hid (((Ext.refl w).alloc _).alloc _)
  have HB2 : Hid (w2.heap[w.heap.size]? = some (.cells #[.int .i64 q, .slice a1 n cap] 31 (0, 0))) := by rw [hw2]; exact Lib.hid (heap_alloc_lt (heap_alloc_new _ _))
  have HR2 : Hid (w2.heap[w.heap.size + 1]? = some (.cells #[.int .i64 0, .slice none 0 0] 31 (0, 0))) := by rw [hw2]; exact Lib.hid (heap_alloc_at _ _ _ (by simp))
  have HVV := HV w2 HX2.out
  have zb2 := fun k => cell_of_row _ _ k _ _ _ HB2.out
  have lb2 := (Array.getElem?_eq_some_iff.1 HB2.out).1
  have hw0 : w.heap.size ≤ w.heap.size + 1 := by omega
  clear HV
  go_enter Try.func15, Try.ntmps15
  go_upto_region 1 with fail
  rw [← hw2]
  clear hw2
  go_wp2_with fail
  refine HVV.out.mono ?_
  rintro e w3 ⟨rfl, hx3⟩
  have HX3 := Lib.hid (HX2.out.trans hx3)
  have hr3 := Lib.hid (row_farM HR2.out hx3)
  have hb3 := Lib.hid (row_farM HB2.out hx3)
  have zr3 := fun k => cell_of_row _ _ k _ _ _ hr3.out
  have fr3 := fun k => frozen_of_row _ _ k _ _ hr3.out
  have lr3 := (Array.getElem?_eq_some_iff.1 hr3.out).1
  have zb3 := fun k => cell_of_row _ _ k _ _ _ hb3.out
  have lb3 := (Array.getElem?_eq_some_iff.1 hb3.out).1
  clear hx3 zb2 lb2 HVV
  cases hc : cOk q xs n
  · have hm : mOk q xs n = false := by unfold mOk; rw [hc]; rfl
    have N0 := Lib.hid (HNM.out hm)
    obtain ⟨n1, n3, n4⟩ := HNO.out N0.out
    have N1 := Lib.hid n1
    have N3 := Lib.hid n3
    have N4 := Lib.hid n4
    clear n1 n3 n4 hm hc
    go_wp2
    refine bodyPost_ret (v := .tuple #[.agg #[.int .i64 0, .slice none 0 0], .bool false]) (by simp [results, Try.results15, go_sem, *]) rfl ?_
    refine ⟨.slice none 0 0, ?_, ?_, ?_⟩
    · rw [N1.out, N0.out]
    · rw [N3.out, N4.out]; exact own_nil _ _ _ _
    · exact (HX3.out.setCell hw0 _).setCell hw0 _
  have hqn := cOk_qn hc
  obtain ⟨Q, rfl⟩ : ∃ Q : Nat, q = Q := ⟨q.toNat, by omega⟩
  have HFF := HF Q hc w3 HX3.out
  have hmK : mOk Q xs n = fsK Q xs n := by unfold mOk; rw [hc]; rfl
  have HMK := Lib.hid hmK
  clear hmK hc HF
  go_wp2_with fail
  refine HFF.out.mono ?_
  rintro e w4 ⟨vo, vi, rfl, h1, h2, hx4⟩
  have H1 := Lib.hid h1
  have H2 := Lib.hid h2
  have HX4 := Lib.hid (HX3.out.trans hx4)
  have HX34 := Lib.hid hx4
  have hr4 := Lib.hid (row_farM hr3.out hx4)
  have hb4 := Lib.hid (row_farM hb3.out hx4)
  have zr4 := fun k => cell_of_row _ _ k _ _ _ hr4.out
  have fr4 := fun k => frozen_of_row _ _ k _ _ hr4.out
  have lr4 := (Array.getElem?_eq_some_iff.1 hr4.out).1
  have zb4 := fun k => cell_of_row _ _ k _ _ _ hb4.out
  have lb4 := (Array.getElem?_eq_some_iff.1 hb4.out).1
  clear h1 h2 hx4 HFF zr3 fr3 zb3 lb3
  cases hk : fsK Q xs n
  · rw [hk] at HMK
    have N0 := Lib.hid (HNM.out HMK.out)
    obtain ⟨n1, n3, n4⟩ := HNO.out N0.out
    have N1 := Lib.hid n1
    have N3 := Lib.hid n3
    have N4 := Lib.hid n4
    clear n1 n3 n4 hk
    go_wp2
    refine bodyPost_ret (v := .tuple #[.agg #[.int .i64 0, .slice none 0 0], .bool false]) (by simp [results, Try.results15, go_sem, *]) rfl ?_
    refine ⟨.slice none 0 0, ?_, ?_, ?_⟩
    · rw [N1.out, N0.out]
    · rw [N3.out, N4.out]; exact own_nil _ _ _ _
    · exact (HX4.out.setCell hw0 _).setCell hw0 _
  · rw [hk] at HMK
    have hm : mOk Q xs n = true := HMK.out
    obtain ⟨Q', hQQ, hQ1, hQ2, hn4, hI, hJ, hc, hk', hG⟩ := mOk_facts hm
    obtain rfl : Q' = Q := by omega
    have HI := Lib.hid hI
    have HJ := Lib.hid hJ
    have HFT : Hid (fpT Q' xs n = fpL (fsS Q' xs n).G xs n ++ phL (fsS Q' xs n).s) := rfl
    have HTL := Lib.hid (fpT_len Q' xs n)
    have HFO : Hid (fOk Q' xs n = decide (fpM Q' xs n ≤ 400)) := by unfold fOk; rw [hm]; exact Lib.hid rfl
    have HFQ : Hid (fOk Q' xs n = true → fQ Q' xs n = Q' ∧ fN Q' xs n = fpM Q' xs n ∧ fL Q' xs n = fpT Q' xs n) := Lib.hid (fun h1 => by
      unfold fQ fN fL
      rw [h1]
      exact ⟨rfl, rfl, rfl⟩)
    obtain ⟨OV, OI⟩ := H1.out hk
    have HOV := Lib.hid OV
    have HOI := Lib.hid OI
    obtain ⟨ao, co, rfl, _, _, ho3⟩ := own_shape OV
    obtain ⟨ai, ci, rfl, _, _, hi3⟩ := own_shape OI
    clear hm hI hJ hc hk' hG OV OI hk H1 H2 HMK hQQ ho3 hi3
    generalize fsS Q' xs n = σ at *
    have hgl := HI.out.gl
    have hgl4 : σ.G.length ≤ 400 := by omega
    have hs8 := HI.out.sb
    obtain ⟨w5, hw5⟩ : ∃ x, x = w4.alloc (.cells #[.int .i64 Q', .slice none 0 0] 31 (0, 0)) := ⟨_, rfl⟩
    have HX5 : Hid (Ext w4 w5) := by rw [hw5]; exact Lib.hid ((Ext.refl _).alloc _)
    have HB8 : Hid (w5.heap[w4.heap.size]? = some (.cells #[.int .i64 Q', .slice none 0 0] 31 (0, 0))) := by rw [hw5]; exact Lib.hid (heap_alloc_new _ _)
    have hs5 : w5.heap.size = w4.heap.size + 1 := by rw [hw5]; simp
    have hb5 := row_farM hb4.out HX5.out
    have zb5 := fun k => cell_of_row _ _ k _ _ _ hb5
    have lb5 := (Array.getElem?_eq_some_iff.1 hb5).1
    clear hb5
    go_upto_region 7 with fail
    rw [← hw5]
    clear hw5
    go_wp2_with fail
    clear zb5 lb5 zr4 fr4 zb4 lb4
    go_loopw [9, 10, 33] (fun _ _ u33 wr => ∃ (j m : Nat) (va : Value), j ≤ n ∧ u33 = .int .i64 j ∧ m ≤ j * 1000 ∧ Hid ((fpL σ.G xs j).length = m * 3) ∧ Hid (wr.heap[w4.heap.size]? = some (.cells #[.int .i64 Q', va] 31 (0, 0))) ∧ Hid (wr.ownsRow w5.heap.size 72 3 va m (IL (fpL σ.G xs j))) ∧ Ext w4 wr) (fun _ _ u33 _ => n - (intOf u33).toNat)
    case atStart => exact ⟨0, 0, .slice none 0 0, by omega, rfl, by omega, rfl, HB8, Lib.hid (own_nil _ _ _ _), HX5.out⟩
    case round =>
      obtain ⟨j, m0, va0, hj, rfl, hm0, HLN, HC, HO, hE⟩ := hrel
      have HE := Lib.hid hE
      obtain ⟨av0, cv0, rfl, _, _, _⟩ := own_shape HO.out
      obtain ⟨wO, hwO⟩ : ∃ x, x = wr := ⟨_, rfl⟩
      subst hwO
      have zCO := fun k => cell_of_row _ _ k _ _ _ HC.out
      have fCO := fun k => frozen_of_row _ _ k _ _ HC.out
      have lCO := (Array.getElem?_eq_some_iff.1 HC.out).1
      by_cases hlt : j < n
      · have hlt' : (j : Int) < n := by omega
        have hE1 := HX4.out.trans hE
        have HLS : Hid (fpL σ.G xs (j + 1) = fpL σ.G xs j ++ fpP σ.G (at3 xs (j * 3)) (at3 xs (j * 3 + 1)) (at3 xs (j * 3 + 2)) j) := rfl
        have HSM := Lib.hid (fp_same HJ.out hlt (at3 xs (j * 3 + 1)) (at3 xs (j * 3 + 2)))
        obtain ⟨_, _, ei, _, _, hi3⟩ := own_shape (own_ext HOI.out hE)
        injection ei with ei1 _ ei3
        subst ei1 ei3
        obtain ⟨Bi, rfl, hi1, hi2, hi4, _⟩ := hi3 (by omega)
        have zmk := hi4 _ _ (mkB_at (xs := xs) hlt)
        obtain ⟨b, off, rfl, hbk, hcell⟩ := HH.out (by omega)
        have hbr : b < wO.heap.size := by have := hE1.size; omega
        have z0 : wO.cell? ⟨b, off + j * 3, none⟩ = some (.int .i64 (at3 xs (j * 3))) := (hE1.cells.1 b (off + (j * 3)) hbk).trans (hcell _ _ (at3_get (by have := HL.out; omega)))
        have z1 : wO.cell? ⟨b, off + j * 3 + 1, none⟩ = some (.int .i64 (at3 xs (j * 3 + 1))) := (hE1.cells.1 b (off + (j * 3 + 1)) hbk).trans (hcell _ _ (at3_get (by have := HL.out; omega)))
        have z2 : wO.cell? ⟨b, off + j * 3 + 2, none⟩ = some (.int .i64 (at3 xs (j * 3 + 2))) := (hE1.cells.1 b (off + (j * 3 + 2)) hbk).trans (hcell _ _ (at3_get (by have := HL.out; omega)))
        clear hcell
        generalize at3 xs (j * 3) = k0 at *
        generalize at3 xs (j * 3 + 1) = a0 at *
        generalize at3 xs (j * 3 + 2) = b0 at *
        obtain ⟨w6, hw6⟩ : ∃ x, x = wO.alloc (.cells #[.int .i64 k0, .int .i64 a0, .int .i64 b0] 72 (0, 0)) := ⟨_, rfl⟩
        have HX6 : Hid (Ext wO w6) := by rw [hw6]; exact Lib.hid ((Ext.refl _).alloc _)
        have HG6 : Hid (w6.heap[wO.heap.size]? = some (.cells #[.int .i64 k0, .int .i64 a0, .int .i64 b0] 72 (0, 0))) := by rw [hw6]; exact Lib.hid (heap_alloc_new _ _)
        have HC6 := Lib.hid (row_farM HC.out HX6.out)
        have zC6 := fun k => cell_of_row _ _ k _ _ _ HC6.out
        have lC6 := (Array.getElem?_eq_some_iff.1 HC6.out).1
        have zG6 := fun k => cell_of_row _ _ k _ _ _ HG6.out
        have lG6 := (Array.getElem?_eq_some_iff.1 HG6.out).1
        have zmk6 := (HX6.out.cells.1 Bi _ (lt_of_cell zmk)).trans zmk
        have lmk6 := lt_of_cell zmk6
        have HO6 := Lib.hid (own_ext HO.out HX6.out)
        have HBk := Lib.hid (fun k (hk : (Value.slice av0 m0 cv0).ownBlock = some k) => HO.out.lt k hk)
        have hsE := hE.size
        have hlt4 : w4.heap.size < wO.heap.size := lCO
        clear hE hE1 hi3 hi4
        go_upto_region 10 with fail
        rw [← hw6]
        clear hw6 z0 z1 z2 zCO fCO lCO zmk
        by_cases hc0 : 0 < cfK k0
        focus
          have hd : decide (0 < cfK k0) = true := by simpa using hc0
          rw [hd] at zmk6
          rw [if_pos hc0, List.nil_append] at HSM
          obtain ⟨PRE, hPRE⟩ : ∃ P, P = fpL σ.G xs j := ⟨_, rfl⟩
          have HPP : Hid (PRE ++ fpG σ.G a0 j = fpL σ.G xs (j + 1)) := by rw [hPRE, HLS.out, HSM.out]; exact Lib.hid rfl
          have HPN : Hid (PRE.length = m0 * 3) := by rw [hPRE]; exact HLN
          have HPO : Hid (w6.ownsRow w5.heap.size 72 3 (.slice av0 m0 cv0) m0 (IL PRE)) := by rw [hPRE]; exact HO6
          have HPC := HC6
          have HPG := HG6
          have HPX := Lib.hid (HE.out.trans HX6.out)
          have HPB : Hid (∀ k, (Value.slice av0 m0 cv0).ownBlock = some k → k ≠ wO.heap.size) := Lib.hid (fun k hk => by have := (HBk.out k hk).2; omega)
          obtain ⟨mp, hmp⟩ : ∃ mp, mp = m0 := ⟨_, rfl⟩
          have hmp2 : mp ≤ j * 1000 + 1 := by omega
          have hmle : m0 ≤ mp := by omega
          clear hmp
          clear hd hc0 hPRE HSM HC6 HG6 HO6
          go_upto_region 12 with fail
        rotate_left
        focus
          have hd : decide (0 < cfK k0) = false := by simpa using hc0
          rw [hd] at zmk6
          rw [if_neg hc0] at HSM
          have hxx := (Ext.refl w6).alloc (.cells #[.int .i64 k0, .int .i64 a0, .int .i64 b0] 72 (0, 0))
          have HXX := Lib.hid hxx
          have HO7 := Lib.hid (own_ext HO6.out hxx)
          have HM7 := Lib.hid (heap_alloc_new w6 (.cells #[.int .i64 k0, .int .i64 a0, .int .i64 b0] 72 (0, 0)))
          have hb7 : w5.heap.size ≤ (w6.alloc (.cells #[.int .i64 k0, .int .i64 a0, .int .i64 b0] 72 (0, 0))).heap.size := by have := hxx.size; omega
          have HX67 := Lib.hid (HE.out.trans HX6.out)
          clear hxx hd hc0
          go_upto_region 12 with (at_builtin; go_loud (refine wpList_append_rvt (base := w5.heap.size) rfl elt_FG rfl (.slice av0 m0 cv0) m0 (fpL σ.G xs j) rfl HO7.out _ 1 [k0, a0, b0] rfl (rv_heap HM7.out rfl rfl (by omega) (by decide)) (by omega) hb7 ?_); intro v8 w8 hown8 hgrow8 hiff8 hloc8; have HC8 := Lib.hid (heap_grown hgrow8 (k := w4.heap.size) (row_farM HC6.out HXX.out) (fun e => by have h9 := (HBk.out _ e.symm).1; omega)); have HG8 := Lib.hid (heap_grown hgrow8 (k := wO.heap.size) (row_farM HG6.out HXX.out) (fun e => by have h9 := (HBk.out _ e.symm).2; omega)); have HE8 := Lib.hid (Ext.grown (HX67.out.trans HXX.out) hgrow8 (fun k hk => by have h9 := (HBk.out k hk).1; omega)); have HO8 := Lib.hid hown8; have HPB : Hid (∀ k, v8.ownBlock = some k → k ≠ wO.heap.size) := Lib.hid (fun k hk => by rcases hloc8 with h | h; (· rw [h] at hk; have := (HBk.out k hk).2; omega); (· rw [h] at hk; have h9 := Option.some.inj hk; have h8 := HXX.out.size; omega)); obtain ⟨a8, c8, rfl, _, _, _⟩ := own_shape hown8; have z8 := fun k => cell_of_row _ _ k _ _ _ HC8.out; have f8 := fun k => frozen_of_row _ _ k _ _ HC8.out; have l8 := (Array.getElem?_eq_some_iff.1 HC8.out).1; clear hown8 hgrow8 hiff8 hloc8)
          obtain ⟨PRE, hPRE⟩ : ∃ P, P = fpL σ.G xs j ++ [k0, a0, b0] := ⟨_, rfl⟩
          have HPP : Hid (PRE ++ fpG σ.G a0 j = fpL σ.G xs (j + 1)) := by rw [hPRE, HLS.out, ← HSM.out, List.append_assoc]; exact Lib.hid rfl
          have HPN : Hid (PRE.length = (m0 + 1) * 3) := by rw [hPRE, List.length_append, HLN.out]; exact Lib.hid (by simp; omega)
          rw [← hPRE] at HO8
          have HPO := Lib.hid (own_set HO8.out (p := ⟨w4.heap.size, 1, none⟩) (by show w4.heap.size < w5.heap.size; omega) (.slice a8 (m0 + 1) c8))
          have HPC := Lib.hid (heap_set_at HC8.out 1 (.slice a8 (m0 + 1) c8))
          have HPG := Lib.hid (heap_set_ne (p := ⟨w4.heap.size, 1, none⟩) (u := .slice a8 (m0 + 1) c8) (by show wO.heap.size ≠ w4.heap.size; omega) HG8.out)
          have HPX := Lib.hid (HE8.out.setCell (p := ⟨w4.heap.size, 1, none⟩) (Nat.le_refl _) (.slice a8 (m0 + 1) c8))
          obtain ⟨mp, hmp⟩ : ∃ mp, mp = m0 + 1 := ⟨_, rfl⟩
          have hmp2 : mp ≤ j * 1000 + 1 := by omega
          have hmle : m0 + 1 ≤ mp := by omega
          clear hmp
          clear hPRE HSM HC6 HG6 HO6 HC8 HG8 HE8 HO8 z8 f8 l8
        all_goals
          go_wp2_with fail
          go_loopw [12, 51] (fun _ u51 wr => ∃ (i m : Nat) (va : Value), i ≤ σ.G.length ∧ u51 = .int .i64 i ∧ m ≤ mp + i * 2 ∧ Hid ((PRE ++ fpG (σ.G.take i) a0 j).length = m * 3) ∧ Hid (wr.heap[w4.heap.size]? = some (.cells #[.int .i64 Q', va] 31 (0, 0))) ∧ Hid (wr.ownsRow w5.heap.size 72 3 va m (IL (PRE ++ fpG (σ.G.take i) a0 j))) ∧ Hid (wr.heap[wO.heap.size]? = some (.cells #[.int .i64 k0, .int .i64 a0, .int .i64 b0] 72 (0, 0))) ∧ Hid (∀ k, va.ownBlock = some k → k ≠ wO.heap.size) ∧ Ext w4 wr) (fun _ u51 _ => σ.G.length - (intOf u51).toNat)
          case atStart => exact ⟨0, _, _, by omega, rfl, by omega, by rw [show fpG (σ.G.take 0) a0 j = [] from rfl, List.append_nil]; exact HPN, HPC, by rw [show fpG (σ.G.take 0) a0 j = [] from rfl, List.append_nil]; exact HPO, HPG, HPB, HPX.out⟩
          case round =>
            obtain ⟨i, m, va, hi, rfl, hmi, HLNi, HCi, HOi, HGi, HBi, hE⟩ := hrel
            have HEi := Lib.hid hE
            obtain ⟨av, cv, rfl, _, _, _⟩ := own_shape HOi.out
            have hlGi := (Array.getElem?_eq_some_iff.1 HGi.out).1
            by_cases hil : i < σ.G.length
            · have hil' : (i : Int) < σ.G.length := by omega
              obtain ⟨_, _, eo, _, _, ho3⟩ := own_shape (own_ext HOV.out hE)
              injection eo with eo1 _ eo3
              subst eo1 eo3
              obtain ⟨Bo, rfl, ho1, ho2, ho4, _⟩ := ho3 (by omega)
              have y0 := ho4 _ _ (FC_at hil).1
              have y1 := ho4 _ _ (FC_at hil).2
              have HTK := Lib.hid (fpG_take (a := a0) (j := j) hil)
              have hc8 := (HI.out.gt i hil).2.1
              clear ho3 ho4
              generalize gAt σ.G i = g at *
              obtain ⟨TT, hTT⟩ : ∃ T, T = PRE ++ fpG (σ.G.take i) a0 j := ⟨_, rfl⟩
              have HTS : Hid (PRE ++ fpG (σ.G.take (i + 1)) a0 j = TT ++ (if g.t = j then rotL a0 g.c else [])) := by rw [HTK.out, hTT, List.append_assoc]; exact Lib.hid rfl
              rw [← hTT] at HLNi HOi
              obtain ⟨wf, hwf⟩ : ∃ x, x = wr.alloc (.cells #[.int .i64 g.t, .int .i64 g.c] 61 (0, 0)) := ⟨_, rfl⟩
              have HXf : Hid (Ext wr wf) := by rw [hwf]; exact Lib.hid ((Ext.refl _).alloc _)
              have HFf : Hid (wf.heap[wr.heap.size]? = some (.cells #[.int .i64 g.t, .int .i64 g.c] 61 (0, 0))) := by rw [hwf]; exact Lib.hid (heap_alloc_new _ _)
              have hf1 : wf.heap.size = wr.heap.size + 1 := by rw [hwf]; simp
              have HCf := Lib.hid (row_farM HCi.out HXf.out)
              have HGf := Lib.hid (row_farM HGi.out HXf.out)
              have HOf := Lib.hid (own_ext HOi.out HXf.out)
              have HEf := Lib.hid (HEi.out.trans HXf.out)
              have zFf := fun k => cell_of_row _ _ k _ _ _ HFf.out
              have lFf := (Array.getElem?_eq_some_iff.1 HFf.out).1
              clear hE hTT HTK
              go_upto_region 15 with fail
              rw [← hwf]
              clear hwf y0 y1
              by_cases ht : g.t = j
              · have HTE : Hid (PRE ++ fpG (σ.G.take (i + 1)) a0 j = TT ++ rotL a0 g.c) := by rw [HTS.out, if_pos ht]; exact Lib.hid rfl
                have HRO := fun W => Lib.hid (s_rotation_any a0 g.c hc8 W)
                have HRL := Lib.hid (rotL_len a0 g.c)
                have hr2 := rotK_len g.c
                have HBo : Hid (∀ k, (Value.slice av m cv).ownBlock = some k → (w5.heap.size ≤ k ∧ k < wr.heap.size) ∧ k ≠ wO.heap.size) := Lib.hid (fun k hk => ⟨HOi.out.lt k hk, HBi.out k hk⟩)
                have lGf := (Array.getElem?_eq_some_iff.1 HGf.out).1
                have lBf := (Array.getElem?_eq_some_iff.1 HCf.out).1
                have zBf : wf.cell? ⟨w4.heap.size, 1, none⟩ = some (.slice av m cv) := cell_of_row _ _ 1 _ _ _ HCf.out
                have HK : Hid (∀ W, Ext wf W → W.cell? ⟨wO.heap.size, 1, none⟩ = some (.int .i64 a0) ∧ W.cell? ⟨wr.heap.size, 1, none⟩ = some (.int .i64 g.c)) := Lib.hid (fun W hX => ⟨(hX.cells.1 _ 1 lGf).trans (cell_of_row _ _ 1 _ _ _ HGf.out), (hX.cells.1 _ 1 lFf).trans (zFf 1)⟩)
                generalize rotL a0 g.c = LR at *
                generalize (rotK g.c).length = lr at *
                have htj : ((g.t : Int) == (j : Int)) = true := by simp [ht]
                have htj2 : (g.t : Int) = (j : Int) := by omega
                clear ht HTS
                go_upto_region 16 with fail
                clear htj htj2 zFf
                refine wp_region_held_drew (S := (fun W => W.cell? ⟨wO.heap.size, 1, none⟩ = some (.int .i64 a0) ∧ W.cell? ⟨wr.heap.size, 1, none⟩ = some (.int .i64 g.c))) (by kernel_rfl) ?_ (fun hHeld => ?_)
                focus
                  exact HK.out _ (by repeat (first | (with_reducible refine Ext.setCell ?_ (by first | (simp; done) | (simp; omega)) _) | with_reducible refine Ext.alloc ?_ _ | with_reducible refine Ext.drew ?_ | with_reducible refine Ext.drewN ?_ _ | with_reducible assumption | with_reducible exact Ext.refl _ | with_reducible refine Ext.trans ?_ (by with_reducible assumption)))
                refine wpAnyH_take (i := 0) (v := ?_) rfl (by kernel_rfl) (by kernel_rfl) (by kernel_rfl) (fun _ _ _ h => h) (Or.inl ⟨by rfl, ?_⟩) (by assumption) ?_
                rotate_left
                focus
                  intro W hSw
                  try dsimp only at hSw
                  go_simp
                  try with_reducible rfl
                try simp only [Act.put, List.setIfInBounds_toArray, List.set_cons_zero, List.set_cons_succ]
                refine wpAnyH_take (i := 2) (v := ?_) rfl (by kernel_rfl) (by kernel_rfl) (by kernel_rfl) (fun _ _ _ h => h) (Or.inl ⟨by rfl, ?_⟩) (by assumption) ?_
                rotate_left
                focus
                  intro W hSw
                  try dsimp only at hSw
                  go_simp
                  try with_reducible rfl
                try simp only [Act.put, List.setIfInBounds_toArray, List.set_cons_zero, List.set_cons_succ]
                refine wpAnyH_take (i := 3) (v := ?_) rfl (by kernel_rfl) (by kernel_rfl) (by kernel_rfl) (fun _ _ _ h => h) (Or.inl ⟨by rfl, ?_⟩) (by assumption) ?_
                rotate_left
                focus
                  intro W hSw
                  try dsimp only at hSw
                  go_simp
                  try with_reducible rfl
                try simp only [Act.put, List.setIfInBounds_toArray, List.set_cons_zero, List.set_cons_succ]
                refine wpAnyH_take (i := 4) (v := ?_) rfl (by kernel_rfl) (by kernel_rfl) (by kernel_rfl) (fun _ _ _ h => h) (Or.inl ⟨by rfl, ?_⟩) (by assumption) ?_
                rotate_left
                focus
                  intro W hSw
                  try dsimp only at hSw
                  go_simp
                  try with_reducible rfl
                try simp only [Act.put, List.setIfInBounds_toArray, List.set_cons_zero, List.set_cons_succ]
                refine wpAnyH_take (i := 5) (v := ?_) rfl (by kernel_rfl) (by kernel_rfl) (by kernel_rfl) (fun _ _ _ h => h) (Or.inl ⟨by rfl, ?_⟩) (by assumption) ?_
                rotate_left
                focus
                  intro W hSw
                  try dsimp only at hSw
                  go_simp
                  try with_reducible rfl
                try simp only [Act.put, List.setIfInBounds_toArray, List.set_cons_zero, List.set_cons_succ]
                refine wpAnyH_ready (rs := [1, 6]) (by kernel_rfl) (by simp) ?_
                refine AllReadyH.cons rfl (fun K hK => ?_) ?_
                focus
                  go_simp
                  refine hK.out _ _ ?_ (fun hHeld => ?_)
                  focus
                    exact HK.out _ (by repeat (first | (with_reducible refine Ext.setCell ?_ (by first | (simp; done) | (simp; omega)) _) | with_reducible refine Ext.alloc ?_ _ | with_reducible refine Ext.drew ?_ | with_reducible refine Ext.drewN ?_ _ | with_reducible assumption | with_reducible exact Ext.refl _ | with_reducible refine Ext.trans ?_ (by with_reducible assumption)))
                  clear hK K
                  refine wpAnyH_ready (rs := [6]) (by kernel_rfl) (by simp) ?_
                  refine AllReadyH.cons rfl (fun K hK => ?_) AllReadyH.nil
                  go_simp
                  go_wp2_with (go_at_call 31; (with_reducible refine Calls.mono (HRO _).out ?_); rintro e w7 ⟨v7, rfl, o7, hx7⟩; have O7 := Lib.hid o7; obtain ⟨a7, c7, rfl, _, _, _⟩ := own_shape o7; clear o7; have hxf7 : Ext wf w7 := (by repeat (first | (with_reducible refine Ext.setCell ?_ (by first | (simp; done) | (simp; omega)) _) | with_reducible refine Ext.alloc ?_ _ | with_reducible refine Ext.drew ?_ | with_reducible refine Ext.drewN ?_ _ | with_reducible assumption | with_reducible exact Ext.refl _ | with_reducible refine Ext.trans ?_ (by with_reducible assumption))); have hz7 := hxf7.size; have zB7 := (hxf7.cells.1 _ 1 lBf).trans zBf)
                  refine hK.out _ _ ?_ (fun hHeld => ?_)
                  focus
                    exact HK.out _ hxf7
                  clear hK K
                  refine wpAnyH_ready (rs := [7]) (by kernel_rfl) (by simp) ?_
                  refine AllReadyH.cons rfl (fun K hK => ?_) AllReadyH.nil
                  refine step_append_rvt (base := w5.heap.size) rfl elt_FG rfl (.slice av m cv) m TT rfl ?_ (.slice a7 lr c7) lr LR rfl ?_ ?_ ?_ ?_
                  · exact own_ext HOf.out hxf7
                  · exact RV.own O7.out HRL.out
                  · omega
                  · omega
                  intro v8 w8 hown8 hgrow8 hiff8 hloc8
                  have HK8 : Hid (w8.cell? ⟨wO.heap.size, 1, none⟩ = some (.int .i64 a0) ∧ w8.cell? ⟨wr.heap.size, 1, none⟩ = some (.int .i64 g.c)) := Lib.hid ⟨(hgrow8.cell_far ⟨wO.heap.size, 1, none⟩ (by show wO.heap.size < w7.heap.size; omega) (fun e => by have h9 := (HBo.out _ e.symm).2; exact h9 rfl)).trans (HK.out w7 hxf7).1, (hgrow8.cell_far ⟨wr.heap.size, 1, none⟩ (by show wr.heap.size < w7.heap.size; omega) (fun e => by have h9 := (HBo.out _ e.symm).1.2; have h8 : wr.heap.size < wr.heap.size := h9; omega)).trans (HK.out w7 hxf7).2⟩
                  have HC8 := Lib.hid (heap_grown hgrow8 (k := w4.heap.size) (row_farM HCf.out hxf7) (fun e => by have h9 := (HBo.out _ e.symm).1.1; omega))
                  have HG8 := Lib.hid (heap_grown hgrow8 (k := wO.heap.size) (row_farM HGf.out hxf7) (fun e => (HBo.out _ e.symm).2 rfl))
                  have HE8 : Hid (Ext w4 w8) := Lib.hid (Ext.grown (HEf.out.trans hxf7) hgrow8 (fun k hk => by have h9 := (HBo.out k hk).1.1; omega))
                  have HO8 := Lib.hid hown8
                  have HPB8 : Hid (∀ k, v8.ownBlock = some k → k ≠ wO.heap.size) := Lib.hid (fun k hk => by rcases hloc8 with h | h; (· rw [h] at hk; exact (HBo.out k hk).2); (· rw [h] at hk; have h9 := Option.some.inj hk; omega))
                  obtain ⟨a8, c8, rfl, _, _, _⟩ := own_shape hown8
                  have z8 := fun k => cell_of_row _ _ k _ _ _ HC8.out
                  have f8 := fun k => frozen_of_row _ _ k _ _ HC8.out
                  have l8 := (Array.getElem?_eq_some_iff.1 HC8.out).1
                  have HK9 := Lib.hid (fun (u : Value) => (⟨(World.cell?_setCell_far _ _ _ _ (by show w4.heap.size ≠ wO.heap.size; omega)).trans HK8.out.1, (World.cell?_setCell_far _ _ _ _ (by show w4.heap.size ≠ wr.heap.size; omega)).trans HK8.out.2⟩ : (w8.setCell ⟨w4.heap.size, 1, none⟩ u).cell? ⟨wO.heap.size, 1, none⟩ = some (.int .i64 a0) ∧ (w8.setCell ⟨w4.heap.size, 1, none⟩ u).cell? ⟨wr.heap.size, 1, none⟩ = some (.int .i64 g.c)))
                  clear hown8 hgrow8 hiff8 hloc8
                  try go_simp
                  refine hK.out _ _ ?_ (fun hHeld => ?_)
                  focus
                    exact HK8.out
                  clear hK K
                  refine wpAnyH_take (i := 8) (v := ?_) rfl (by kernel_rfl) (by kernel_rfl) (by kernel_rfl) (fun _ _ _ h => h) (Or.inl ⟨by rfl, ?_⟩) (by assumption) ?_
                  rotate_left
                  focus
                    intro W hSw
                    try dsimp only at hSw
                    go_simp
                    try with_reducible rfl
                  try simp only [Act.put, List.setIfInBounds_toArray, List.set_cons_zero, List.set_cons_succ]
                  refine wpAnyH_ready (rs := [9]) (by kernel_rfl) (by simp) ?_
                  refine AllReadyH.cons rfl (fun K hK => ?_) AllReadyH.nil
                  go_simp
                  refine hK.out _ _ ?_ (fun hHeld => ?_)
                  focus
                    exact HK9.out _
                  clear hK K
                  refine wpAnyH_done (by kernel_rfl) ?_ _
                rotate_left
                refine AllReadyH.cons rfl (fun K hK => ?_) AllReadyH.nil
                focus
                  go_simp
                  go_wp2_with (go_at_call 31; (with_reducible refine Calls.mono (HRO _).out ?_); rintro e w7 ⟨v7, rfl, o7, hx7⟩; have O7 := Lib.hid o7; obtain ⟨a7, c7, rfl, _, _, _⟩ := own_shape o7; clear o7; have hxf7 : Ext wf w7 := (by repeat (first | (with_reducible refine Ext.setCell ?_ (by first | (simp; done) | (simp; omega)) _) | with_reducible refine Ext.alloc ?_ _ | with_reducible refine Ext.drew ?_ | with_reducible refine Ext.drewN ?_ _ | with_reducible assumption | with_reducible exact Ext.refl _ | with_reducible refine Ext.trans ?_ (by with_reducible assumption))); have hz7 := hxf7.size; have zB7 := (hxf7.cells.1 _ 1 lBf).trans zBf)
                  refine hK.out _ _ ?_ (fun hHeld => ?_)
                  focus
                    exact HK.out _ hxf7
                  clear hK K
                  refine wpAnyH_ready (rs := [1]) (by kernel_rfl) (by simp) ?_
                  refine AllReadyH.cons rfl (fun K hK => ?_) AllReadyH.nil
                  go_simp
                  refine hK.out _ _ ?_ (fun hHeld => ?_)
                  focus
                    exact HK.out _ hxf7
                  clear hK K
                  refine wpAnyH_ready (rs := [7]) (by kernel_rfl) (by simp) ?_
                  refine AllReadyH.cons rfl (fun K hK => ?_) AllReadyH.nil
                  refine step_append_rvt (base := w5.heap.size) rfl elt_FG rfl (.slice av m cv) m TT rfl ?_ (.slice a7 lr c7) lr LR rfl ?_ ?_ ?_ ?_
                  · exact own_ext HOf.out hxf7
                  · exact RV.own O7.out HRL.out
                  · omega
                  · omega
                  intro v8 w8 hown8 hgrow8 hiff8 hloc8
                  have HK8 : Hid (w8.cell? ⟨wO.heap.size, 1, none⟩ = some (.int .i64 a0) ∧ w8.cell? ⟨wr.heap.size, 1, none⟩ = some (.int .i64 g.c)) := Lib.hid ⟨(hgrow8.cell_far ⟨wO.heap.size, 1, none⟩ (by show wO.heap.size < w7.heap.size; omega) (fun e => by have h9 := (HBo.out _ e.symm).2; exact h9 rfl)).trans (HK.out w7 hxf7).1, (hgrow8.cell_far ⟨wr.heap.size, 1, none⟩ (by show wr.heap.size < w7.heap.size; omega) (fun e => by have h9 := (HBo.out _ e.symm).1.2; have h8 : wr.heap.size < wr.heap.size := h9; omega)).trans (HK.out w7 hxf7).2⟩
                  have HC8 := Lib.hid (heap_grown hgrow8 (k := w4.heap.size) (row_farM HCf.out hxf7) (fun e => by have h9 := (HBo.out _ e.symm).1.1; omega))
                  have HG8 := Lib.hid (heap_grown hgrow8 (k := wO.heap.size) (row_farM HGf.out hxf7) (fun e => (HBo.out _ e.symm).2 rfl))
                  have HE8 : Hid (Ext w4 w8) := Lib.hid (Ext.grown (HEf.out.trans hxf7) hgrow8 (fun k hk => by have h9 := (HBo.out k hk).1.1; omega))
                  have HO8 := Lib.hid hown8
                  have HPB8 : Hid (∀ k, v8.ownBlock = some k → k ≠ wO.heap.size) := Lib.hid (fun k hk => by rcases hloc8 with h | h; (· rw [h] at hk; exact (HBo.out k hk).2); (· rw [h] at hk; have h9 := Option.some.inj hk; omega))
                  obtain ⟨a8, c8, rfl, _, _, _⟩ := own_shape hown8
                  have z8 := fun k => cell_of_row _ _ k _ _ _ HC8.out
                  have f8 := fun k => frozen_of_row _ _ k _ _ HC8.out
                  have l8 := (Array.getElem?_eq_some_iff.1 HC8.out).1
                  have HK9 := Lib.hid (fun (u : Value) => (⟨(World.cell?_setCell_far _ _ _ _ (by show w4.heap.size ≠ wO.heap.size; omega)).trans HK8.out.1, (World.cell?_setCell_far _ _ _ _ (by show w4.heap.size ≠ wr.heap.size; omega)).trans HK8.out.2⟩ : (w8.setCell ⟨w4.heap.size, 1, none⟩ u).cell? ⟨wO.heap.size, 1, none⟩ = some (.int .i64 a0) ∧ (w8.setCell ⟨w4.heap.size, 1, none⟩ u).cell? ⟨wr.heap.size, 1, none⟩ = some (.int .i64 g.c)))
                  clear hown8 hgrow8 hiff8 hloc8
                  try go_simp
                  refine hK.out _ _ ?_ (fun hHeld => ?_)
                  focus
                    exact HK8.out
                  clear hK K
                  refine wpAnyH_take (i := 8) (v := ?_) rfl (by kernel_rfl) (by kernel_rfl) (by kernel_rfl) (fun _ _ _ h => h) (Or.inl ⟨by rfl, ?_⟩) (by assumption) ?_
                  rotate_left
                  focus
                    intro W hSw
                    try dsimp only at hSw
                    go_simp
                    try with_reducible rfl
                  try simp only [Act.put, List.setIfInBounds_toArray, List.set_cons_zero, List.set_cons_succ]
                  refine wpAnyH_ready (rs := [9]) (by kernel_rfl) (by simp) ?_
                  refine AllReadyH.cons rfl (fun K hK => ?_) AllReadyH.nil
                  go_simp
                  refine hK.out _ _ ?_ (fun hHeld => ?_)
                  focus
                    exact HK9.out _
                  clear hK K
                  refine wpAnyH_done (by kernel_rfl) ?_ _
                all_goals
                  have HN8 : Hid ((PRE ++ fpG (σ.G.take (i + 1)) a0 j).length = (m + lr) * 3) := by rw [HTE.out, List.length_append, HLNi.out, HRL.out]; exact Lib.hid (by omega)
                  rw [il_append] at HO8
                  have HO9 := Lib.hid (own_set HO8.out (p := ⟨w4.heap.size, 1, none⟩) (by show w4.heap.size < w5.heap.size; omega) (.slice a8 (m + lr) c8))
                  rw [← il_append, ← HTE.out] at HO9
                  have HC9 := Lib.hid (heap_set_at HC8.out 1 (.slice a8 (m + lr) c8))
                  have HG9 := Lib.hid (heap_set_ne (p := ⟨w4.heap.size, 1, none⟩) (u := .slice a8 (m + lr) c8) (by show wO.heap.size ≠ w4.heap.size; omega) HG8.out)
                  have HE9 := Lib.hid (HE8.out.setCell (p := ⟨w4.heap.size, 1, none⟩) (Nat.le_refl _) (.slice a8 (m + lr) c8))
                  go_wp2
                  go_roundw
                  case rel => exact ⟨i + 1, m + lr, _, by omega, by go_num, by omega, HN8, HC9, HO9, HG9, HPB8, HE9.out⟩
                  case measure => simp [intOf]; omega
              · have HTE : Hid (PRE ++ fpG (σ.G.take (i + 1)) a0 j = TT) := by rw [HTS.out, if_neg ht, List.append_nil]; exact Lib.hid rfl
                have htj : ((g.t : Int) == (j : Int)) = false := by simp; omega
                have htj2 : (g.t : Int) ≠ (j : Int) := by omega
                clear ht HTS
                go_wp2_with fail
                go_roundw
                case rel => exact ⟨i + 1, m, _, by omega, by go_num, by omega, by rw [HTE.out]; exact HLNi, HCf, by rw [HTE.out]; exact HOf, HGf, HBi, HEf.out⟩
                case measure => simp [intOf]; omega
            · obtain rfl : i = σ.G.length := by omega
              rw [List.take_length, HPP.out] at HLNi HOi
              clear hE
              go_wp2_with fail
              go_roundw
              case rel => exact ⟨j + 1, m, _, by omega, by go_num, by omega, HLNi, HCi, HOi, HEi.out⟩
              case measure => simp [intOf]; omega
      · obtain rfl : j = n := by omega
        go_wp2_with fail
        go_loopw [5] (fun u5 wr => ∃ (r m : Nat) (va : Value), r ≤ σ.s ∧ u5 = .int .i64 r ∧ m ≤ j * 1000 + 8 ∧ Hid ((fpL σ.G xs j ++ phL (σ.s - r)).length = m * 3) ∧ Hid (wr.heap[w4.heap.size]? = some (.cells #[.int .i64 Q', va] 31 (0, 0))) ∧ Hid (wr.ownsRow w5.heap.size 72 3 va m (IL (fpL σ.G xs j ++ phL (σ.s - r)))) ∧ Ext w4 wr) (fun u5 _ => (intOf u5).toNat)
        case atStart => exact ⟨σ.s, m0, _, by omega, rfl, by omega, by rw [Nat.sub_self, show phL 0 = [] from rfl, List.append_nil]; exact HLN, HC, by rw [Nat.sub_self, show phL 0 = [] from rfl, List.append_nil]; exact HO, HE.out⟩
        case round =>
          clear HC HO HLN hE HE zCO fCO lCO
          obtain ⟨r, m, va, hr, rfl, hm1, HLN, HC, HO, hE⟩ := hrel
          have HE := Lib.hid hE
          obtain ⟨av, cv, rfl, _, _, _⟩ := own_shape HO.out
          have zC := fun k => cell_of_row _ _ k _ _ _ HC.out
          have lC := (Array.getElem?_eq_some_iff.1 HC.out).1
          have hsE := hE.size
          clear hE
          by_cases hr0 : 0 < r
          · have hr1 : (0 : Int) < (r : Int) := by omega
            have hPS : Hid (fpL σ.G xs j ++ phL (σ.s - (r - 1)) = (fpL σ.G xs j ++ phL (σ.s - r)) ++ [12, 0, 0]) := by
              rw [show σ.s - (r - 1) = (σ.s - r) + 1 by omega, List.append_assoc]
              exact Lib.hid rfl
            obtain ⟨TT, hTT⟩ : ∃ T, T = fpL σ.G xs j ++ phL (σ.s - r) := ⟨_, rfl⟩
            rw [← hTT] at HLN HO hPS
            have hxx := (Ext.refl wr).alloc (.cells #[.int .i64 12, .int .i64 0, .int .i64 0] 72 (0, 0))
            have HXX := Lib.hid hxx
            have HO7 := Lib.hid (own_ext HO.out hxx)
            have HM7 := Lib.hid (heap_alloc_new wr (.cells #[.int .i64 12, .int .i64 0, .int .i64 0] 72 (0, 0)))
            have hb7 : w5.heap.size ≤ (wr.alloc (.cells #[.int .i64 12, .int .i64 0, .int .i64 0] 72 (0, 0))).heap.size := by have := hxx.size; omega
            have HBk := Lib.hid (fun k (hk : (Value.slice av m cv).ownBlock = some k) => HO.out.lt k hk)
            clear hxx hTT
            go_upto_region 20 with (at_builtin; go_loud (refine wpList_append_rvt (base := w5.heap.size) rfl elt_FG rfl (.slice av m cv) m TT rfl HO7.out _ 1 [12, 0, 0] rfl (rv_heap HM7.out rfl rfl (by omega) (by decide)) (by omega) hb7 ?_); intro v8 w8 hown8 hgrow8 hiff8 hloc8; have HC8 := Lib.hid (heap_grown hgrow8 (k := w4.heap.size) (row_farM HC.out HXX.out) (fun e => by have h9 := (HBk.out _ e.symm).1; omega)); have HE8 := Lib.hid (Ext.grown (HE.out.trans HXX.out) hgrow8 (fun k hk => by have h9 := (HBk.out k hk).1; omega)); have HO8 := Lib.hid hown8; obtain ⟨a8, c8, rfl, _, _, _⟩ := own_shape hown8; have z8 := fun k => cell_of_row _ _ k _ _ _ HC8.out; have f8 := fun k => frozen_of_row _ _ k _ _ HC8.out; have l8 := (Array.getElem?_eq_some_iff.1 HC8.out).1; clear hown8 hgrow8 hiff8 hloc8)
            have HN9 : Hid ((fpL σ.G xs j ++ phL (σ.s - (r - 1))).length = (m + 1) * 3) := by rw [hPS.out, List.length_append, HLN.out]; exact Lib.hid (by simp; omega)
            rw [← hPS.out] at HO8
            have HO9 := Lib.hid (own_set HO8.out (p := ⟨w4.heap.size, 1, none⟩) (by show w4.heap.size < w5.heap.size; omega) (.slice a8 (m + 1) c8))
            have HC9 := Lib.hid (heap_set_at HC8.out 1 (.slice a8 (m + 1) c8))
            have HE9 := Lib.hid (HE8.out.setCell (p := ⟨w4.heap.size, 1, none⟩) (Nat.le_refl _) (.slice a8 (m + 1) c8))
            have hm9 : m + 1 ≤ j * 1000 + 8 := by
              have h1 := HTL.out
              have h2 := HN9.out
              have h3 := fpL_len σ.G xs j
              obtain ⟨m3, h4, h5⟩ := h3
              rw [List.length_append, h5, phL_len] at h2
              omega
            go_wp2
            go_roundw
            case rel => exact ⟨r - 1, m + 1, _, by omega, by go_num, hm9, HN9, HC9, HO9, HE9.out⟩
            case measure => simp [intOf]; omega
          · obtain rfl : r = 0 := by omega
            rw [Nat.sub_zero, ← HFT.out] at HLN HO
            have hmM : m = fpM Q' xs j := by
              have h1 := HTL.out
              rw [HLN.out] at h1
              omega
            have hr4' := Lib.hid (row_farM hr4.out HE.out)
            have zr9 := fun k => cell_of_row _ _ k _ _ _ hr4'.out
            have fr9 := fun k => frozen_of_row _ _ k _ _ hr4'.out
            have lr9 := (Array.getElem?_eq_some_iff.1 hr4'.out).1
            have HX9 := Lib.hid (HX4.out.trans HE.out)
            by_cases hm4 : m ≤ 400
            · have hok : fOk Q' xs j = true := by rw [HFO.out, ← hmM]; simpa using hm4
              have Hok := Lib.hid hok
              have HQ := Lib.hid (HFQ.out hok)
              have HMM := Lib.hid hmM
              have hm4' : ¬ (400 : Int) < (m : Int) := by omega
              clear hok hmM
              go_wp2_with fail
              refine bodyPost_ret (v := .tuple #[.agg #[.int .i64 Q', .slice av m cv], .bool true]) (by simp [results, Try.results15, go_sem, *]) rfl ?_
              refine ⟨.slice av m cv, ?_, ?_, (HX9.out.setCell hw0 _).setCell hw0 _⟩
              · rw [HQ.out.1, Hok.out]
              · rw [HQ.out.2.1, HQ.out.2.2, ← HMM.out]
                exact own_base (own_set (own_set HO.out (by show w.heap.size + 1 < w5.heap.size; omega) _) (by show w.heap.size + 1 < w5.heap.size; omega) _) (by omega)
            · have hok : fOk Q' xs j = false := by rw [HFO.out, ← hmM]; simpa using hm4
              have N0 := Lib.hid hok
              obtain ⟨n1, n3, n4⟩ := HNO.out hok
              have N1 := Lib.hid n1
              have N3 := Lib.hid n3
              have N4 := Lib.hid n4
              have hm4' : (400 : Int) < (m : Int) := by omega
              clear n1 n3 n4 hok hmM
              go_wp2_with fail
              refine bodyPost_ret (v := .tuple #[.agg #[.int .i64 0, .slice none 0 0], .bool false]) (by simp [results, Try.results15, go_sem, *]) rfl ?_
              refine ⟨.slice none 0 0, ?_, ?_, (HX9.out.setCell hw0 _).setCell hw0 _⟩
              · rw [N1.out, N0.out]
              · rw [N3.out, N4.out]; exact own_nil _ _ _ _

end Go.Proofs.Ytchaanppoklapaa
