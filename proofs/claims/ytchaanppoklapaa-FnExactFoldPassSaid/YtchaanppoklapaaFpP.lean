/- Folding: the program's side. -/
import Derived.Test.YtchaanppoklapaaFpV
import Derived.Test.YtchaanppoklapaaRoP
import Derived.Test.YtchaanppoklapaaRoL
import Derived.Test.YtchaanppoklapaaNodes
namespace Go.Proofs.Ytchaanppoklapaa
open Go.RowKit Go.Lib
set_option linter.unusedVariables false
set_option linter.unusedSimpArgs false

theorem allTo_allF {f : Nat → Bool} : ∀ {n : Nat}, (∀ j, j < n → f j = true) → allTo f n = true
  | 0, _ => rfl
  | n + 1, h => by rw [allTo_succ, allTo_allF (fun j hj => h j (by omega)), h n (by omega)]; rfl
theorem at3_ofNat {L : List Nat} {k : Nat} (h : k < L.length) : at3 (L.map Int.ofNat) k = (L[k] : Int) := by
  simp [at3, List.getD_eq_getElem?_getD, h]
theorem hasTo_ofNat (L : List Nat) (j : Nat) : hasTo (L.map Int.ofNat) (j : Int) L.length = L.contains j := by
  rw [Bool.eq_iff_iff]
  constructor
  · intro h
    rw [List.contains_iff_mem]
    refine Classical.byContradiction fun hn => ?_
    unfold hasTo at h
    rw [allTo_allF (fun k hk => by
      rw [at3_ofNat hk]
      have : L[k] ≠ j := fun e => hn (e ▸ List.getElem_mem hk)
      simp
      omega)] at h
    cases h
  · intro h
    rw [List.contains_iff_mem] at h
    obtain ⟨k, hk, e⟩ := List.getElem_of_mem h
    exact hasTo_at (k := k) (by rw [at3_ofNat hk, e]; simp) hk

set_option maxHeartbeats 1000000 in
theorem fp1_any (x : Int) (B : Nat) (t c v : Int) (q : Bool) {a : Option Addr} {n m : Nat} {ys : List Int} (hn : n ≤ 2000000) (w : World) (h : RV w 1 (.slice a n m) n ys) (hB : w.heap[B]? = some (.cells #[.int .i64 x] 3 (0, 0))) :
    Calls Try.prog 33 #[.agg #[.int .i64 t, .int .i64 c, .int .u64 v, .bool q, .slice a n m], .pointer (some ⟨B, 0, none⟩)] w fun e w' => e = .returned (.bool (hasTo ys x n)) ∧ Ext w w' := by
  have HC := fun w' (hx : Ext w w') => Lib.hid (contains_any x hn w' (h.ext hx))
  have z : ∀ q, w.cell? ⟨B, q, none⟩ = (#[.int .i64 x] : Array Value)[q]? := fun q => cell_of_row _ _ _ _ _ _ hB
  have l := (Array.getElem?_eq_some_iff.1 hB).1
  clear hB
  go_enter Try.func33, Try.ntmps33
  go_wp2_with fail
  refine (HC _ (by repeat (first | exact Ext.refl _ | assumption | refine Ext.alloc ?_ _ | refine Ext.drew ?_ | refine Ext.drewN ?_ _ | refine Ext.setCell ?_ (by first | omega | (dsimp only; omega) | (simp; done) | (simp; omega)) _ | refine Ext.trans ?_ (by assumption)))).out.mono ?_
  rintro e w1 ⟨rfl, rfl⟩
  go_wp2
  go_ret
  exact ⟨rfl, (by repeat (first | exact Ext.refl _ | assumption | refine Ext.alloc ?_ _ | refine Ext.drew ?_ | refine Ext.drewN ?_ _ | refine Ext.setCell ?_ (by first | omega | (dsimp only; omega) | (simp; done) | (simp; omega)) _ | refine Ext.trans ?_ (by assumption)))⟩

/-- where the first group with a gate stands, or -1 -/
def fdJ (G : List Gp) (j : Nat) : Int := if fdL G j < G.length then (fdL G j : Int) else -1

set_option maxRecDepth 20000 in
set_option maxHeartbeats 2000000 in
theorem index2_any (x : Nat) (B : Nat) {lo : Nat} {v : Value} {G : List Gp} (hn : G.length ≤ 2000000) (hL : ∀ i, i < G.length → (gAt G i).L.length ≤ 2000000) (w : World) (h : GRS w lo v G) (hB : w.heap[B]? = some (.cells #[.int .i64 x] 3 (0, 0))) :
    Calls Try.prog 32 #[v, .func (.func 33) #[] #[.pointer (some ⟨B, 0, none⟩)]] w fun e w' => e = .returned (.int .i64 (fdJ G x)) ∧ Ext w w' := by
  have HC := fun t c v q (a : Option Addr) (n m : Nat) (ys : List Int) (hn : n ≤ 2000000) w' (hx : Ext w w') (hr : RV w' 1 (.slice a n m) n ys) => Lib.hid (fp1_any x B t c v q hn w' hr (row_farM hB hx))
  obtain ⟨zs, h1, h2, h3, h4⟩ := h
  have H1 := Lib.hid h1
  have H4 := Lib.hid h4
  have HLL := Lib.hid hL
  obtain ⟨ag, cg, rfl, _, _, _⟩ := own_shape h1
  have HF : Hid (fdJ G x = if fdL G x < G.length then (fdL G x : Int) else -1) := rfl
  have HN := Lib.hid (fdL_le G x)
  clear h1 h3 h4 h2 hB hL
  go_enter Try.func32, Try.ntmps32
  go_wp2
  go_loopw [5, 8] (fun _ i wr => ∃ j : Nat, j ≤ G.length ∧ i = .int .i64 j ∧ Hid (j ≤ fdL G x) ∧ Ext w wr) (fun _ i _ => G.length - (intOf i).toNat)
  case atStart => exact ⟨0, by omega, rfl, Nat.zero_le _, Ext.refl _⟩
  case round =>
    obtain ⟨j, hj, rfl, HO, hE⟩ := hrel
    have HE := Lib.hid hE
    by_cases hlt : j < G.length
    · have hlt' : (j : Int) < G.length := by omega
      obtain ⟨s, e0, e1, e2, e3, e4, os⟩ := H4.out j hlt
      obtain ⟨ag2, cg2, ee, _, _, hg3⟩ := own_shape (own_ext H1.out hE)
      injection ee with ee1 _ ee3
      subst ee1 ee3
      obtain ⟨Bg, rfl, hb1, hb2, hb3, hb4⟩ := hg3 (by omega)
      have hrv := RV.own (own_ext os hE) (by simp : ((gAt G j).L.map Int.ofNat).length = (gAt G j).L.length * 1)
      obtain ⟨sa, cs, rfl, _, _, _⟩ := own_shape os
      have y0 := hb3 _ _ e0
      have y1 := hb3 _ _ e1
      have y2 := hb3 _ _ e2
      have y3 := hb3 _ _ e3
      have y4 := hb3 _ _ e4
      have HA := Lib.hid (fun (h : ((gAt G j).L.contains x) = true) => (show fdL G x = j from by
        have h9 := HO.out
        rw [List.contains_iff_mem] at h
        by_cases e : j = fdL G x
        · exact e.symm
        · exact absurd h (fdL_no (by omega))))
      have HB := Lib.hid (fun (h : ((gAt G j).L.contains x) = false) => (show j + 1 ≤ fdL G x from by
        have h9 := HO.out
        by_cases e : j = fdL G x
        · have h8 := fdL_at (G := G) (j := x) (by omega)
          rw [← e, ← List.contains_iff_mem, h] at h8
          cases h8
        · omega))
      have HD := HC (gAt G j).t (gAt G j).c (gAt G j).v (gAt G j).p sa _ cs _ (HLL.out j hlt) wr hE hrv
      rw [hasTo_ofNat] at HD
      clear e0 e1 e2 e3 e4 os hb3 hb4 hg3 hE hrv HC
      generalize gAt G j = g at *
      generalize hlg : g.L.length = gl at *
      cases hv : g.L.contains x
      · have HB2 := Lib.hid (HB.out hv)
        rw [hv] at HD
        clear hv HA HB hlg
        go_wp2_with fail
        refine HD.out.mono ?_
        rintro e w2 ⟨rfl, hx2⟩
        have HX := Lib.hid hx2
        clear hx2
        go_wp2
        go_roundw
        case rel => exact ⟨j + 1, by omega, by go_num, HB2, HE.out.trans HX.out⟩
        case measure => simp [intOf]; omega
      · have HA2 := Lib.hid (HA.out hv)
        rw [hv] at HD
        clear hv HA HB hlg
        go_wp2_with fail
        refine HD.out.mono ?_
        rintro e w2 ⟨rfl, hx2⟩
        have HX := Lib.hid hx2
        clear hx2
        go_wp2
        go_ret
        refine ⟨?_, HE.out.trans HX.out⟩
        rw [HF.out, HA2.out, if_pos hlt]
        rfl
    · have hjl : j = G.length := by omega
      subst hjl
      go_wp2
      go_ret
      refine ⟨?_, HE.out⟩
      have h9 := HO.out
      rw [HF.out, if_neg (by omega)]
      rfl


open Go.RowKit Go.Lib
set_option linter.unusedVariables false
set_option linter.unusedSimpArgs false

set_option maxRecDepth 20000 in
set_option maxHeartbeats 8000000 in
theorem foldPhases_any (q : Int) {v : Value} {n : Nat} {xs : List Int} (hn : n ≤ 2000000) (w : World) (h : RV w 3 v n xs) :
    Calls Try.prog 16 #[.agg #[.int .i64 q, v]] w fun e w' => ∃ v', e = .returned (.tuple #[.agg #[.int .i64 (fQ q xs n), v'], .bool (fOk q xs n)]) ∧ w'.ownsRow w.heap.size 72 3 v' (fN q xs n) (IL (fL q xs n)) ∧ Ext w w' := by
  have HM := fun w' (hx : Ext w w') => Lib.hid (merged_any q hn w' (h.ext hx))
  have HNO : Hid (mOk q xs n = false → fQ q xs n = 0 ∧ fOk q xs n = false ∧ fN q xs n = 0 ∧ fL q xs n = []) := Lib.hid (fun hm => by
    have h1 : fOk q xs n = false := by unfold fOk; rw [hm]; rfl
    unfold fQ fN fL
    rw [h1]
    exact ⟨rfl, rfl, rfl, rfl⟩)
  have HV0 := Lib.hid h
  obtain ⟨hl, a1, cap, rfl, p1, p2, hh⟩ := h
  have HH := Lib.hid hh
  have HL := Lib.hid hl
  clear hh hl
  obtain ⟨w2, hw2⟩ : ∃ x, x = (w.alloc (.cells #[.int .i64 q, .slice a1 n cap] 31 (0, 0))).alloc (.cells #[.int .i64 0, .slice none 0 0] 31 (0, 0)) := ⟨_, rfl⟩
  have HX2 : Hid (Ext w w2) := by rw [hw2]; exact Lib.hid (((Ext.refl w).alloc _).alloc _)
  have HB2 : Hid (w2.heap[w.heap.size]? = some (.cells #[.int .i64 q, .slice a1 n cap] 31 (0, 0))) := by rw [hw2]; exact Lib.hid (heap_alloc_lt (heap_alloc_new _ _))
  have HR2 : Hid (w2.heap[w.heap.size + 1]? = some (.cells #[.int .i64 0, .slice none 0 0] 31 (0, 0))) := by rw [hw2]; exact Lib.hid (heap_alloc_at _ _ _ (by simp))
  have HMM := HM w2 HX2.out
  have zb2 := fun k => cell_of_row _ _ k _ _ _ HB2.out
  have lb2 := (Array.getElem?_eq_some_iff.1 HB2.out).1
  have lr2 := (Array.getElem?_eq_some_iff.1 HR2.out).1
  clear HM
  go_enter Try.func16, Try.ntmps16
  go_upto_region 1 with fail
  rw [← hw2]
  clear hw2
  go_wp2_with fail
  refine HMM.out.mono ?_
  rintro e w3 ⟨M, lo, hi, vv, rfl, h1, h2, hx3⟩
  have H1 := Lib.hid h1
  have HX3 := Lib.hid hx3
  have hr3 := Lib.hid (row_farM HR2.out hx3)
  have hb3 := Lib.hid (row_farM HB2.out hx3)
  have zr3 := fun k => cell_of_row _ _ k _ _ _ hr3.out
  have fr3 := fun k => frozen_of_row _ _ k _ _ hr3.out
  have lr3 := (Array.getElem?_eq_some_iff.1 hr3.out).1
  have zb3 := fun k => cell_of_row _ _ k _ _ _ hb3.out
  have lb3 := (Array.getElem?_eq_some_iff.1 hb3.out).1
  have hMw : w2.heap.size ≤ M := h2
  have HE3 := Lib.hid (HX2.out.trans hx3)
  clear h1 h2 hx3 zb2 lb2 HMM
  cases hm : mOk q xs n
  · obtain ⟨n1, n2, n3, n4⟩ := HNO.out hm
    have N1 := Lib.hid n1
    have N2 := Lib.hid n2
    have N3 := Lib.hid n3
    have N4 := Lib.hid n4
    clear n1 n2 n3 n4 hm
    go_wp2
    refine bodyPost_ret (v := .tuple #[.agg #[.int .i64 0, .slice none 0 0], .bool false]) (by simp [results, Try.results16, go_sem, *]) rfl ?_
    refine ⟨.slice none 0 0, ?_, ?_, ?_⟩
    · rw [N1.out, N2.out]
    · rw [N3.out, N4.out]; exact own_nil _ _ _ _
    · exact HE3.out.setCell (by show w.heap.size ≤ w.heap.size + 1; omega) _ |>.setCell (by show w.heap.size ≤ w.heap.size + 1; omega) _
  · obtain ⟨Q, rfl, hQ1, hQ2, hn4, hI, hJ, hc, hk, hG⟩ := mOk_facts hm
    have Hm := Lib.hid hm
    have HI := Lib.hid hI
    have HFT : Hid (fpT Q xs n = fpL (fsS Q xs n).G xs n ++ phL (fsS Q xs n).s) := rfl
    have HTL := Lib.hid (fpT_len Q xs n)
    have HTO := Lib.hid (fpT_ok hm)
    obtain ⟨gv, hms⟩ := H1.out hm
    have hms' : MS w3 M lo hi Q vv gv (fsS Q xs n) := hms
    generalize fsS Q xs n = σ at *
    have hgl := HI.out.gl
    have hgl4 : σ.G.length ≤ 400 := by omega
    obtain ⟨ag, cg, rfl⟩ := hms'.grp.shape
    have HC := Lib.hid (fun W (hX : Ext w3 W) => (hms'.ext hX).cell)
    have HGR := Lib.hid (fun W (hX : Ext w3 W) => (hms'.ext hX).grp)
    have lM3 := (Array.getElem?_eq_some_iff.1 hms'.cell).1
    have hs8 := HI.out.sb
    clear hm hI hJ hc hk hG hms hms' H1 HNO
    go_wp2_with fail
    go_loopw [6, 7, 8, 9, 22] (fun u6 _ _ _ u22 wr => ∃ j m : Nat, j ≤ n ∧ u22 = .int .i64 j ∧ m ≤ j * 2 ∧ Hid ((fpL σ.G xs j).length = m * 3) ∧ Hid (wr.ownsRow w3.heap.size 72 3 u6 m (IL (fpL σ.G xs j))) ∧ Ext w3 wr) (fun _ _ _ _ u22 _ => n - (intOf u22).toNat)
    case atStart => exact ⟨0, 0, by omega, rfl, by omega, rfl, Lib.hid (World.ownsRow_lit w3 #[] 0 (Nat.le_refl _) (by decide) rfl), (Ext.refl _).alloc _⟩
    case round =>
      obtain ⟨j, m, hj, rfl, hm2, HLN, HO, hE⟩ := hrel
      have HE := Lib.hid hE
      obtain ⟨av, cv, rfl, _, _, _⟩ := own_shape HO.out
      by_cases hlt : j < n
      · have hlt' : (j : Int) < n := by omega
        have hE1 := HE3.out.trans hE
        have HLS : Hid (fpL σ.G xs (j + 1) = fpL σ.G xs j ++ fpP σ.G (at3 xs (j * 3)) (at3 xs (j * 3 + 1)) (at3 xs (j * 3 + 2)) j) := rfl
        have HPL := Lib.hid (fpP_len σ.G (at3 xs (j * 3)) (at3 xs (j * 3 + 1)) (at3 xs (j * 3 + 2)) j)
        obtain ⟨b, off, rfl, hbk, hcell⟩ := HH.out (by omega)
        have hbr : b < wr.heap.size := by have := hE1.size; omega
        have z0 : wr.cell? ⟨b, off + j * 3, none⟩ = some (.int .i64 (at3 xs (j * 3))) := (hE1.cells.1 b (off + (j * 3)) hbk).trans (hcell _ _ (at3_get (by have := HL.out; omega)))
        have z1 : wr.cell? ⟨b, off + j * 3 + 1, none⟩ = some (.int .i64 (at3 xs (j * 3 + 1))) := (hE1.cells.1 b (off + (j * 3 + 1)) hbk).trans (hcell _ _ (at3_get (by have := HL.out; omega)))
        have z2 : wr.cell? ⟨b, off + j * 3 + 2, none⟩ = some (.int .i64 (at3 xs (j * 3 + 2))) := (hE1.cells.1 b (off + (j * 3 + 2)) hbk).trans (hcell _ _ (at3_get (by have := HL.out; omega)))
        clear hcell
        have HFD : Hid (fdJ σ.G j = if fdL σ.G j < σ.G.length then (fdL σ.G j : Int) else -1) := rfl
        have HFP : Hid (fpP σ.G (at3 xs (j * 3)) (at3 xs (j * 3 + 1)) (at3 xs (j * 3 + 2)) j = if fdL σ.G j < σ.G.length then (if (gAt σ.G (fdL σ.G j)).t = j then rotL (at3 xs (j * 3 + 1)) (gAt σ.G (fdL σ.G j)).c else []) else [at3 xs (j * 3), at3 xs (j * 3 + 1), at3 xs (j * 3 + 2)]) := rfl
        generalize at3 xs (j * 3) = k0 at *
        generalize at3 xs (j * 3 + 1) = a0 at *
        generalize at3 xs (j * 3 + 2) = b0 at *
        obtain ⟨wA, hwA⟩ : ∃ x, x = (wr.alloc (.cells #[.int .i64 j] 3 (0, 0))).alloc (.cells #[.int .i64 k0, .int .i64 a0, .int .i64 b0] 72 (0, 0)) := ⟨_, rfl⟩
        have HXA : Hid (Ext wr wA) := by rw [hwA]; exact Lib.hid (((Ext.refl wr).alloc _).alloc _)
        have HJA : Hid (wA.heap[wr.heap.size]? = some (.cells #[.int .i64 j] 3 (0, 0))) := by rw [hwA]; exact Lib.hid (heap_alloc_lt (heap_alloc_new _ _))
        have HGA : Hid (wA.heap[wr.heap.size + 1]? = some (.cells #[.int .i64 k0, .int .i64 a0, .int .i64 b0] 72 (0, 0))) := by rw [hwA]; exact Lib.hid (heap_alloc_at _ _ _ (by simp))
        have HEA := Lib.hid (hE.trans HXA.out)
        have HIX := Lib.hid (index2_any j wr.heap.size (by omega) (fun i hi => by have := (HI.out.gt i hi).2.2.1; omega) wA (HGR.out wA HEA.out) HJA.out)
        have hCA := HC.out wA HEA.out
        have zMA := fun k => cell_of_row _ _ k _ _ _ hCA
        have lMA := (Array.getElem?_eq_some_iff.1 hCA).1
        clear hE hE1 hCA
        go_upto_region 8 with fail
        rw [← hwA]
        clear hwA z0 z1 z2
        go_wp2_with fail
        refine HIX.out.mono ?_
        rintro e w4 ⟨rfl, hx4⟩
        have HX4 := Lib.hid (HEA.out.trans hx4)
        have HG4 := Lib.hid (row_farM HGA.out hx4)
        have HJ4 := Lib.hid (row_farM HJA.out hx4)
        have HXR := Lib.hid (HXA.out.trans hx4)
        have HO4 := Lib.hid (own_ext HO.out HXR.out)
        have zG4 := fun k => cell_of_row _ _ k _ _ _ HG4.out
        have lG4 := (Array.getElem?_eq_some_iff.1 HG4.out).1
        have zJ4 := fun k => cell_of_row _ _ k _ _ _ HJ4.out
        have lJ4 := (Array.getElem?_eq_some_iff.1 HJ4.out).1
        have hC4 := HC.out w4 HX4.out
        have zM4 := fun k => cell_of_row _ _ k _ _ _ hC4
        have lM4 := (Array.getElem?_eq_some_iff.1 hC4).1
        have hs34 := HX4.out.size
        clear HIX hx4 zMA lMA hC4 HJA HGA
        rw [HFD.out]
        by_cases hf : fdL σ.G j < σ.G.length
        · rw [if_pos hf]
          have hfp := HFP.out
          rw [if_pos hf] at hfp
          obtain ⟨i, hi⟩ : ∃ i, i = fdL σ.G j := ⟨_, rfl⟩
          rw [← hi] at hf hfp ⊢
          obtain ⟨zs, g1, _, _, g4⟩ := HGR.out w4 HX4.out
          obtain ⟨s, e0, e1, e2, e3, e4, os⟩ := g4 i hf
          obtain ⟨ag2, cg2, ee, _, _, hg3⟩ := own_shape g1
          injection ee with ee1 _ ee3
          subst ee1 ee3
          obtain ⟨Bg, rfl, hb1, hb2, hb3', hb4⟩ := hg3 (by omega)
          have hBg3 : Bg < w3.heap.size := by
            obtain ⟨zq, q1, _⟩ := HGR.out w3 (Ext.refl _)
            exact (q1.lt Bg rfl).2
          have y0 := hb3' _ _ e0
          have y1 := hb3' _ _ e1
          have hc8 := (HI.out.gt i hf).2.1
          have Hfp := Lib.hid hfp
          have hf' : (i : Int) < σ.G.length := by omega
          clear e0 e1 e2 e3 e4 os hb3' hb4 hg3 g1 g4 hi hfp HFD HFP
          generalize gAt σ.G i = g at *
          by_cases ht : g.t = j
          · have ht1 : ((g.t : Int) == (j : Int)) = true := by simp [ht]
            have hfp := Hfp.out
            rw [if_pos ht] at hfp
            have HF2 := Lib.hid hfp
            rw [ht] at y0
            clear hfp ht ht1 Hfp
            have HBo := Lib.hid (fun k (hk : (Value.slice av m cv).ownBlock = some k) => HO.out.lt k hk)
            have HK : Hid (∀ W, Ext w4 W → W.cell? ⟨wr.heap.size + 1, 1, none⟩ = some (.int .i64 a0) ∧ W.cell? ⟨M, 2, none⟩ = some (.slice (some ⟨Bg, 0, none⟩) σ.G.length cg) ∧ W.cell? ⟨Bg, i * 5 + 1, none⟩ = some (.int .i64 g.c)) := Lib.hid (fun W hX => ⟨(hX.cells.1 _ 1 lG4).trans (zG4 1), (hX.cells.1 _ 2 lM4).trans (zM4 2), (hX.cells.1 _ _ (lt_of_cell y1)).trans y1⟩)
            have HRO := fun W => Lib.hid (rotation_any a0 g.c hc8 W)
            have HRL := Lib.hid (rotL_len a0 g.c)
            have hr2 := rotK_len g.c
            have hwrs : wr.heap.size + 1 < w4.heap.size := lG4
            generalize rotL a0 g.c = LR at *
            generalize (rotK g.c).length = lr at *
            have hyB := lt_of_cell y1
            go_upto_region 11 with fail
            go_region
            all_goals go_upto_region 12 with fail
            all_goals
              go_region_held3 (fun W => W.cell? ⟨wr.heap.size + 1, 1, none⟩ = some (.int .i64 a0) ∧ W.cell? ⟨M, 2, none⟩ = some (.slice (some ⟨Bg, 0, none⟩) σ.G.length cg) ∧ W.cell? ⟨Bg, i * 5 + 1, none⟩ = some (.int .i64 g.c)) (first | exact HK6.out | exact HK.out _ (by repeat (first | (with_reducible refine Ext.setCell ?_ (by first | (simp; done) | (simp; omega)) _) | with_reducible refine Ext.alloc ?_ _ | with_reducible refine Ext.drew ?_ | with_reducible refine Ext.drewN ?_ _ | with_reducible assumption | with_reducible exact Ext.refl _ | with_reducible refine Ext.trans ?_ (by with_reducible assumption))))
                (first
                | (go_at_call 35; (with_reducible refine Calls.mono (HRO _).out ?_); rintro e w5 ⟨v5, rfl, o5, hx5⟩; have O5 := Lib.hid o5; obtain ⟨a5, c5, rfl, _, _, _⟩ := own_shape o5; clear o5; have hx45 : Ext w4 w5 := (by repeat (first | (with_reducible refine Ext.setCell ?_ (by first | (simp; done) | (simp; omega)) _) | with_reducible refine Ext.alloc ?_ _ | with_reducible refine Ext.drew ?_ | with_reducible refine Ext.drewN ?_ _ | with_reducible assumption | with_reducible exact Ext.refl _ | with_reducible refine Ext.trans ?_ (by with_reducible assumption))); have hz5 := hx45.size)
                | (refine step_append_rvt (base := w3.heap.size) rfl elt_FG rfl (.slice av m cv) m (fpL σ.G xs j) rfl ?_ (.slice a5 lr c5) lr LR rfl ?_ ?_ ?_ ?_
                   · exact own_ext HO4.out hx45
                   · exact RV.own O5.out HRL.out
                   · omega
                   · omega
                   intro v6 w6 hown6 hgrow6 hiff6 hloc6
                   have HK6 : Hid (w6.cell? ⟨wr.heap.size + 1, 1, none⟩ = some (.int .i64 a0) ∧ w6.cell? ⟨M, 2, none⟩ = some (.slice (some ⟨Bg, 0, none⟩) σ.G.length cg) ∧ w6.cell? ⟨Bg, i * 5 + 1, none⟩ = some (.int .i64 g.c)) := Lib.hid ⟨(hgrow6.cell_far ⟨wr.heap.size + 1, 1, none⟩ (by show wr.heap.size + 1 < w5.heap.size; omega) (fun e => by have h9 := HBo.out _ e.symm; have h8 : wr.heap.size + 1 < wr.heap.size := h9.2; omega)).trans (HK.out w5 hx45).1, (hgrow6.cell_far ⟨M, 2, none⟩ (by show M < w5.heap.size; omega) (fun e => by have h9 := HBo.out _ e.symm; have h8 : w3.heap.size ≤ M := h9.1; omega)).trans (HK.out w5 hx45).2.1, (hgrow6.cell_far ⟨Bg, i * 5 + 1, none⟩ (by show Bg < w5.heap.size; omega) (fun e => by have h9 := HBo.out _ e.symm; have h8 : w3.heap.size ≤ Bg := h9.1; omega)).trans (HK.out w5 hx45).2.2⟩
                   have HE6 : Hid (Ext w3 w6) := Lib.hid (Ext.grown (HX4.out.trans hx45) hgrow6 (fun k hk => (HBo.out k hk).1))
                   rw [← HF2.out, ← HLS.out] at hown6
                   have HO6 := Lib.hid hown6
                   obtain ⟨a6, c6, rfl, _, _, _⟩ := own_shape hown6
                   clear hown6 hgrow6 hiff6 hloc6))
            all_goals
              have HN6 : Hid ((fpL σ.G xs (j + 1)).length = (m + lr) * 3) := by rw [HLS.out, HF2.out, List.length_append, HLN.out, HRL.out]; exact Lib.hid (by omega)
              go_wp2
              go_roundw
              case rel => exact ⟨j + 1, m + lr, by omega, by go_num, by omega, HN6, HO6, HE6.out⟩
              case measure => simp [intOf]; omega
          · have ht1 : ((g.t : Int) == (j : Int)) = false := by simp; omega
            have ht2 : (g.t : Int) ≠ j := by omega
            have hfp := Hfp.out
            rw [if_neg ht] at hfp
            have HLE : Hid (fpL σ.G xs (j + 1) = fpL σ.G xs j) := by rw [HLS.out, hfp, List.append_nil]; exact Lib.hid rfl
            clear hfp ht Hfp
            go_upto_region 11 with fail
            go_region
            all_goals
              go_wp2
              go_roundw
              case rel => exact ⟨j + 1, m, by omega, by go_num, by omega, by rw [HLE.out]; exact HLN, by rw [HLE.out]; exact Lib.hid (own_ext HO4.out (Ext.refl _).drew), HX4.out.drew⟩
              case measure => simp [intOf]; omega
        · rw [if_neg hf]
          have HF2 : Hid (fpL σ.G xs (j + 1) = fpL σ.G xs j ++ [k0, a0, b0]) := by rw [HLS.out, HFP.out, if_neg hf]; exact Lib.hid rfl
          have hxx := (Ext.refl w4).alloc (.cells #[.int .i64 k0, .int .i64 a0, .int .i64 b0] 72 (0, 0))
          have HXX := Lib.hid hxx
          have HO5 := Lib.hid (own_ext HO4.out hxx)
          have HM5 := Lib.hid (heap_alloc_new w4 (.cells #[.int .i64 k0, .int .i64 a0, .int .i64 b0] 72 (0, 0)))
          have hb5 : w3.heap.size ≤ (w4.alloc (.cells #[.int .i64 k0, .int .i64 a0, .int .i64 b0] 72 (0, 0))).heap.size := Nat.le_trans hs34 hxx.size
          clear hxx hf HFD HFP
          go_upto_region 13 with (at_builtin; go_loud (refine wpList_append_rvt (base := w3.heap.size) rfl elt_FG rfl (.slice av m cv) m (fpL σ.G xs j) rfl HO5.out _ 1 [k0, a0, b0] rfl (rv_heap HM5.out rfl rfl (by omega) (by decide)) (by omega) hb5 ?_); intro v6 w6 hown6 hgrow6 hiff6 hloc6)
          have HE6 := Lib.hid (ext_grownB (HX4.out.trans HXX.out) hgrow6 HO5.out (Nat.le_refl _))
          rw [← HF2.out] at hown6
          have HO6 := Lib.hid hown6
          have HN6 : Hid ((fpL σ.G xs (j + 1)).length = (m + 1) * 3) := by rw [HF2.out, List.length_append, HLN.out]; exact Lib.hid (by simp; omega)
          clear hown6 hgrow6 hiff6 hloc6
          go_wp2
          go_roundw
          case rel => exact ⟨j + 1, m + 1, by omega, by go_num, by omega, HN6, HO6, HE6.out⟩
          case measure => simp [intOf]; omega
      · obtain rfl : j = n := by omega
        have hms : m + σ.s = fpM Q xs j := by
          have h1 := HTL.out
          rw [HFT.out, List.length_append, HLN.out, phL_len] at h1
          omega
        have HMS := Lib.hid hms
        have HBo := Lib.hid (fun k (hk : (Value.slice av m cv).ownBlock = some k) => HO.out.lt k hk)
        have HK : Hid (∀ W, Ext wr W → W.cell? ⟨w.heap.size, 0, none⟩ = some (.int .i64 Q) ∧ W.cell? ⟨M, 3, none⟩ = some (.int .i64 σ.s)) := Lib.hid (fun W hX => ⟨((HE.out.trans hX).cells.1 _ 0 lb3).trans (zb3 0), ((HE.out.trans hX).cells.1 _ 3 lM3).trans (cell_of_row _ _ 3 _ _ _ (HC.out w3 (Ext.refl _)))⟩)
        have HPH := fun W => Lib.hid (phases_any σ.s (by omega) W)
        have hmT : fpM Q xs j ≤ 2000000 := by omega
        have HCI := fun W v (r : RV W 3 v (fpM Q xs j) (fpT Q xs j)) => Lib.hid (show Calls Try.prog 36 #[.int .i64 Q, v] W (fun e w' => ∃ v', e = .returned (.tuple #[.agg #[.int .i64 (fQ Q xs j), v'], .bool (fOk Q xs j)]) ∧ w'.ownsRow W.heap.size 72 3 v' (fN Q xs j) (IL (fL Q xs j)) ∧ Ext W w') from by
          have h9 := circuitIfF_any Q hmT W r
          rw [HTO.out] at h9
          exact h9)
        have hsr := HE.out.size
        have hRr := row_farM hr3.out HE.out
        have HRR := Lib.hid hRr
        clear hRr hE hms
        go_upto_region 14 with fail
        go_region_held3 (fun W => W.cell? ⟨w.heap.size, 0, none⟩ = some (.int .i64 Q) ∧ W.cell? ⟨M, 3, none⟩ = some (.int .i64 σ.s)) (first | exact HK8.out _ _ | exact HK7.out | exact HK6.out | exact HK.out _ (by repeat (first | (with_reducible refine Ext.setCell ?_ (by first | (simp; done) | (simp; omega)) _) | with_reducible refine Ext.alloc ?_ _ | with_reducible refine Ext.drew ?_ | with_reducible refine Ext.drewN ?_ _ | with_reducible assumption | with_reducible exact Ext.refl _ | with_reducible refine Ext.trans ?_ (by with_reducible assumption))))
          (first
          | (go_at_call 37; (with_reducible refine Calls.mono (HPH _).out ?_); rintro e w5 ⟨v5, rfl, o5, hx5⟩; have O5 := Lib.hid o5; obtain ⟨a5, c5, rfl, _, _, _⟩ := own_shape o5; clear o5; have hx45 : Ext wr w5 := (by repeat (first | (with_reducible refine Ext.setCell ?_ (by first | (simp; done) | (simp; omega)) _) | with_reducible refine Ext.alloc ?_ _ | with_reducible refine Ext.drew ?_ | with_reducible refine Ext.drewN ?_ _ | with_reducible assumption | with_reducible exact Ext.refl _ | with_reducible refine Ext.trans ?_ (by with_reducible assumption))); have hz5 := hx45.size)
          | (go_at_call 36; (with_reducible refine Calls.mono (HCI _ _ HRV6.out).out ?_); rintro e w7 ⟨v7, rfl, o7, hx7⟩; have O7 := Lib.hid o7; obtain ⟨a7, c7, rfl, _, _, _⟩ := own_shape o7; clear o7; have HR7 := Lib.hid (row_farM HR6.out hx7); have zr7 := fun k => cell_of_row _ _ k _ _ _ HR7.out; have fr7 := fun k => frozen_of_row _ _ k _ _ HR7.out; have lr7 := (Array.getElem?_eq_some_iff.1 HR7.out).1; have HK7 : Hid (w7.cell? ⟨w.heap.size, 0, none⟩ = some (.int .i64 Q) ∧ w7.cell? ⟨M, 3, none⟩ = some (.int .i64 σ.s)) := Lib.hid ⟨(hx7.cells.1 _ 0 (lt_of_cell HK6.out.1)).trans HK6.out.1, (hx7.cells.1 _ 3 (lt_of_cell HK6.out.2)).trans HK6.out.2⟩; have HX7 := Lib.hid (HE6.out.trans hx7); have hs67 := hx7.size; have HK8 := Lib.hid (fun (u v : Value) => (⟨(World.cell?_setCell_far _ _ _ _ (by show w.heap.size + 1 ≠ w.heap.size; omega)).trans ((World.cell?_setCell_far _ _ _ _ (by show w.heap.size + 1 ≠ w.heap.size; omega)).trans HK7.out.1), (World.cell?_setCell_far _ _ _ _ (by show w.heap.size + 1 ≠ M; omega)).trans ((World.cell?_setCell_far _ _ _ _ (by show w.heap.size + 1 ≠ M; omega)).trans HK7.out.2)⟩ : ((w7.setCell ⟨w.heap.size + 1, 0, none⟩ u).setCell ⟨w.heap.size + 1, 1, none⟩ v).cell? ⟨w.heap.size, 0, none⟩ = some (.int .i64 Q) ∧ ((w7.setCell ⟨w.heap.size + 1, 0, none⟩ u).setCell ⟨w.heap.size + 1, 1, none⟩ v).cell? ⟨M, 3, none⟩ = some (.int .i64 σ.s))))
          | (refine step_append_rvt (base := w3.heap.size) rfl elt_FG rfl (.slice av m cv) m (fpL σ.G xs j) rfl ?_ (.slice a5 σ.s c5) σ.s (phL σ.s) rfl ?_ ?_ ?_ ?_
             · exact own_ext HO.out hx45
             · exact RV.own O5.out (phL_len _)
             · omega
             · omega
             intro v6 w6 hown6 hgrow6 hiff6 hloc6
             have HK6 : Hid (w6.cell? ⟨w.heap.size, 0, none⟩ = some (.int .i64 Q) ∧ w6.cell? ⟨M, 3, none⟩ = some (.int .i64 σ.s)) := Lib.hid ⟨(hgrow6.cell_far ⟨w.heap.size, 0, none⟩ (by show w.heap.size < w5.heap.size; omega) (fun e => by have h9 := HBo.out _ e.symm; have h8 : w3.heap.size ≤ w.heap.size := h9.1; omega)).trans (HK.out w5 hx45).1, (hgrow6.cell_far ⟨M, 3, none⟩ (by show M < w5.heap.size; omega) (fun e => by have h9 := HBo.out _ e.symm; have h8 : w3.heap.size ≤ M := h9.1; omega)).trans (HK.out w5 hx45).2⟩
             have HR6 := Lib.hid (heap_grown hgrow6 (k := w.heap.size + 1) (row_farM HRR.out hx45) (fun e => by have h9 := (HBo.out _ e.symm).1; omega))
             have HE6 : Hid (Ext w w6) := Lib.hid (HE3.out.trans (Ext.grown (HE.out.trans hx45) hgrow6 (fun k hk => (HBo.out k hk).1)))
             have HRV6 : Hid (RV w6 3 v6 (fpM Q xs j) (fpT Q xs j)) := Lib.hid (by
               rw [HFT.out, ← HMS.out]
               exact RV.own hown6 (by rw [List.length_append, HLN.out, phL_len]; omega))
             have hs56 := hgrow6.size
             obtain ⟨a6, c6, rfl, _, _, _⟩ := own_shape hown6
             clear hown6 hgrow6 hiff6 hloc6))
        all_goals
          go_wp2
          refine bodyPost_ret (v := .tuple #[.agg #[.int .i64 (fQ Q xs j), .slice a7 (fN Q xs j) c7], .bool (fOk Q xs j)]) (by simp [results, Try.results16, go_sem, *]) rfl ?_
          refine ⟨.slice a7 (fN Q xs j) c7, rfl, own_base (own_set (own_set O7.out (by show w.heap.size + 1 < w6.heap.size; omega) _) (by show w.heap.size + 1 < w6.heap.size; omega) _) (by omega), (HX7.out.setCell (by show w.heap.size ≤ w.heap.size + 1; omega) _).setCell (by show w.heap.size ≤ w.heap.size + 1; omega) _⟩

end Go.Proofs.Ytchaanppoklapaa
