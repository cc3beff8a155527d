/- Folding: the program's side. -/
import Derived.Test.YtbddgeoaaklgpaaFpV
import Derived.Test.YtbddgeoaaklgpaaRoP
import Derived.Test.YtbddgeoaaklgpaaRoL
import Derived.Test.YtbddgeoaaklgpaaGate
import Derived.Test.YtbddgeoaaklgpaaRoS
import Derived.Deep.RegionHeld3
namespace Go.Proofs.Ytbddgeoaaklgpaa
open Go.RowKit Go.Lib
set_option linter.unusedVariables false
set_option linter.unusedSimpArgs false

theorem allTo_allF {f : Nat → Bool} : ∀ {n : Nat}, (∀ j, j < n → f j = true) → allTo f n = true
  | 0, _ => rfl
  | n + 1, h => by rw [allTo_succ, allTo_allF (fun j hj => h j (by omega)), h n (by omega)]; rfl
theorem at3_ofNat {L : List Nat} {k : Nat} (h : k < L.length) : at3 (L.map Int.ofNat) k = (L[k] : Int) := by
  simp [at3, List.getD_eq_getElem?_getD, h]
theorem hasTo_ofNat (L : List Nat) (j : Nat) : hasTo (L.map Int.ofNat) (j : Int) L.length = L.contains j := by
  rw [Bool.eq_iff_iff]
  constructor
  · intro h
    rw [List.contains_iff_mem]
    refine Classical.byContradiction fun hn => ?_
    unfold hasTo at h
    rw [allTo_allF (fun k hk => by
      rw [at3_ofNat hk]
      have : L[k] ≠ j := fun e => hn (e ▸ List.getElem_mem hk)
      simp
      omega)] at h
    cases h
  · intro h
    rw [List.contains_iff_mem] at h
    obtain ⟨k, hk, e⟩ := List.getElem_of_mem h
    exact hasTo_at (k := k) (by rw [at3_ofNat hk, e]; simp) hk

set_option maxHeartbeats 1000000 in
theorem fp1_any (x : Int) (B : Nat) (t c v : Int) (q : Bool) {a : Option Addr} {n m : Nat} {ys : List Int} (hn : n ≤ 2000000) (w : World) (h : RV w 1 (.slice a n m) n ys) (hB : w.heap[B]? = some (.cells #[.int .i64 x] 3 (0, 0))) :
    Calls Try.prog 23 #[.agg #[.int .i64 t, .int .i64 c, .int .u64 v, .bool q, .slice a n m], .pointer (some ⟨B, 0, none⟩)] w fun e w' => e = .returned (.bool (hasTo ys x n)) ∧ Ext w w' := by
  have HC := fun w' (hx : Ext w w') => Lib.hid (contains_any x hn w' (h.ext hx))
  have z : ∀ q, w.cell? ⟨B, q, none⟩ = (#[.int .i64 x] : Array Value)[q]? := fun q => cell_of_row _ _ _ _ _ _ hB
  have l := (Array.getElem?_eq_some_iff.1 hB).1
  clear hB
  go_enter Try.func23, Try.ntmps23
  go_wp2_with fail
  refine (HC _ (by repeat (first | exact Ext.refl _ | assumption | refine Ext.alloc ?_ _ | refine Ext.drew ?_ | refine Ext.drewN ?_ _ | refine Ext.setCell ?_ (by first | omega | (dsimp only; omega) | (simp; done) | (simp; omega)) _ | refine Ext.trans ?_ (by assumption)))).out.mono ?_
  rintro e w1 ⟨rfl, rfl⟩
  go_wp2
  go_ret
  exact ⟨rfl, (by repeat (first | exact Ext.refl _ | assumption | refine Ext.alloc ?_ _ | refine Ext.drew ?_ | refine Ext.drewN ?_ _ | refine Ext.setCell ?_ (by first | omega | (dsimp only; omega) | (simp; done) | (simp; omega)) _ | refine Ext.trans ?_ (by assumption)))⟩

/-- where the first group with a gate stands, or -1 -/
def fdJ (G : List Gp) (j : Nat) : Int := if fdL G j < G.length then (fdL G j : Int) else -1

set_option maxRecDepth 20000 in
set_option maxHeartbeats 2000000 in
theorem index2_any (x : Nat) (B : Nat) {lo : Nat} {v : Value} {G : List Gp} (hn : G.length ≤ 2000000) (hL : ∀ i, i < G.length → (gAt G i).L.length ≤ 2000000) (w : World) (h : GRS w lo v G) (hB : w.heap[B]? = some (.cells #[.int .i64 x] 3 (0, 0))) :
    Calls Try.prog 22 #[v, .func (.func 23) #[] #[.pointer (some ⟨B, 0, none⟩)]] w fun e w' => e = .returned (.int .i64 (fdJ G x)) ∧ Ext w w' := by
  have HC := fun t c v q (a : Option Addr) (n m : Nat) (ys : List Int) (hn : n ≤ 2000000) w' (hx : Ext w w') (hr : RV w' 1 (.slice a n m) n ys) => Lib.hid (fp1_any x B t c v q hn w' hr (row_farM hB hx))
  obtain ⟨zs, h1, h2, h3, h4⟩ := h
  have H1 := Lib.hid h1
  have H4 := Lib.hid h4
  have HLL := Lib.hid hL
  obtain ⟨ag, cg, rfl, _, _, _⟩ := own_shape h1
  have HF : Hid (fdJ G x = if fdL G x < G.length then (fdL G x : Int) else -1) := rfl
  have HN := Lib.hid (fdL_le G x)
  clear h1 h3 h4 h2 hB hL
  go_enter Try.func22, Try.ntmps22
  go_wp2
  go_loopw [5, 8] (fun _ i wr => ∃ j : Nat, j ≤ G.length ∧ i = .int .i64 j ∧ Hid (j ≤ fdL G x) ∧ Ext w wr) (fun _ i _ => G.length - (intOf i).toNat)
  case atStart => exact ⟨0, by omega, rfl, Nat.zero_le _, Ext.refl _⟩
  case round =>
    obtain ⟨j, hj, rfl, HO, hE⟩ := hrel
    have HE := Lib.hid hE
    by_cases hlt : j < G.length
    · have hlt' : (j : Int) < G.length := by omega
      obtain ⟨s, e0, e1, e2, e3, e4, os⟩ := H4.out j hlt
      obtain ⟨ag2, cg2, ee, _, _, hg3⟩ := own_shape (own_ext H1.out hE)
      injection ee with ee1 _ ee3
      subst ee1 ee3
      obtain ⟨Bg, rfl, hb1, hb2, hb3, hb4⟩ := hg3 (by omega)
      have hrv := RV.own (own_ext os hE) (by simp : ((gAt G j).L.map Int.ofNat).length = (gAt G j).L.length * 1)
      obtain ⟨sa, cs, rfl, _, _, _⟩ := own_shape os
      have y0 := hb3 _ _ e0
      have y1 := hb3 _ _ e1
      have y2 := hb3 _ _ e2
      have y3 := hb3 _ _ e3
      have y4 := hb3 _ _ e4
      have HA := Lib.hid (fun (h : ((gAt G j).L.contains x) = true) => (show fdL G x = j from by
        have h9 := HO.out
        rw [List.contains_iff_mem] at h
        by_cases e : j = fdL G x
        · exact e.symm
        · exact absurd h (fdL_no (by omega))))
      have HB := Lib.hid (fun (h : ((gAt G j).L.contains x) = false) => (show j + 1 ≤ fdL G x from by
        have h9 := HO.out
        by_cases e : j = fdL G x
        · have h8 := fdL_at (G := G) (j := x) (by omega)
          rw [← e, ← List.contains_iff_mem, h] at h8
          cases h8
        · omega))
      have HD := HC (gAt G j).t (gAt G j).c (gAt G j).v (gAt G j).p sa _ cs _ (HLL.out j hlt) wr hE hrv
      rw [hasTo_ofNat] at HD
      clear e0 e1 e2 e3 e4 os hb3 hb4 hg3 hE hrv HC
      generalize gAt G j = g at *
      generalize hlg : g.L.length = gl at *
      cases hv : g.L.contains x
      · have HB2 := Lib.hid (HB.out hv)
        rw [hv] at HD
        clear hv HA HB hlg
        go_wp2_with fail
        refine HD.out.mono ?_
        rintro e w2 ⟨rfl, hx2⟩
        have HX := Lib.hid hx2
        clear hx2
        go_wp2
        go_roundw
        case rel => exact ⟨j + 1, by omega, by go_num, HB2, HE.out.trans HX.out⟩
        case measure => simp [intOf]; omega
      · have HA2 := Lib.hid (HA.out hv)
        rw [hv] at HD
        clear hv HA HB hlg
        go_wp2_with fail
        refine HD.out.mono ?_
        rintro e w2 ⟨rfl, hx2⟩
        have HX := Lib.hid hx2
        clear hx2
        go_wp2
        go_ret
        refine ⟨?_, HE.out.trans HX.out⟩
        rw [HF.out, HA2.out, if_pos hlt]
        rfl
    · have hjl : j = G.length := by omega
      subst hjl
      go_wp2
      go_ret
      refine ⟨?_, HE.out⟩
      have h9 := HO.out
      rw [HF.out, if_neg (by omega)]
      rfl


open Go.RowKit Go.Lib
set_option linter.unusedVariables false
set_option linter.unusedSimpArgs false

set_option maxRecDepth 20000 in
set_option maxHeartbeats 8000000 in
theorem foldPhases_any (q : Int) {v : Value} {n : Nat} {xs : List Int} (hn : n ≤ 2000000) (w : World) (h : RV w 3 v n xs) :
    Calls Try.prog 6 #[.agg #[.int .i64 q, v]] w fun e w' => ∃ v', e = .returned (.tuple #[.agg #[.int .i64 (fQ q xs n), v'], .bool (fOk q xs n)]) ∧ w'.ownsRow w.heap.size 47 3 v' (fN q xs n) (IL (fL q xs n)) ∧ Ext w w' := by
  have HM := fun w' (hx : Ext w w') => Lib.hid (merged_any q hn w' (h.ext hx))
  have HNO : Hid (mgK q xs n = false → fQ q xs n = 0 ∧ fOk q xs n = false ∧ fN q xs n = 0 ∧ fL q xs n = []) := Lib.hid (fun hm => by
    have h1 : fOk q xs n = false := by unfold fOk; rw [hm]; rfl
    unfold fQ fN fL
    rw [h1]
    exact ⟨rfl, rfl, rfl, rfl⟩)
  have HV0 := Lib.hid h
  obtain ⟨hl, a1, cap, rfl, p1, p2, hh⟩ := h
  have HH := Lib.hid hh
  have HL := Lib.hid hl
  clear hh hl
  obtain ⟨w2, hw2⟩ : ∃ x, x = (w.alloc (.cells #[.int .i64 q, .slice a1 n cap] 25 (0, 0))).alloc (.cells #[.int .i64 0, .slice none 0 0] 25 (0, 0)) := ⟨_, rfl⟩
  have HX2 : Hid (Ext w w2) := by rw [hw2]; exact Lib.hid (((Ext.refl w).alloc _).alloc _)
  have HB2 : Hid (w2.heap[w.heap.size]? = some (.cells #[.int .i64 q, .slice a1 n cap] 25 (0, 0))) := by rw [hw2]; exact Lib.hid (heap_alloc_lt (heap_alloc_new _ _))
  have HR2 : Hid (w2.heap[w.heap.size + 1]? = some (.cells #[.int .i64 0, .slice none 0 0] 25 (0, 0))) := by rw [hw2]; exact Lib.hid (heap_alloc_at _ _ _ (by simp))
  have HMM := HM w2 HX2.out
  have zb2 := fun k => cell_of_row _ _ k _ _ _ HB2.out
  have lb2 := (Array.getElem?_eq_some_iff.1 HB2.out).1
  have lr2 := (Array.getElem?_eq_some_iff.1 HR2.out).1
  clear HM
  go_enter Try.func6, Try.ntmps6
  go_upto_region 1 with fail
  rw [← hw2]
  clear hw2
  go_wp2_with fail
  refine HMM.out.mono ?_
  rintro e w3 ⟨M, lo, hi, vv, rfl, h1, h2, hx3⟩
  have H1 := Lib.hid h1
  have HX3 := Lib.hid hx3
  have hr3 := Lib.hid (row_farM HR2.out hx3)
  have hb3 := Lib.hid (row_farM HB2.out hx3)
  have zr3 := fun k => cell_of_row _ _ k _ _ _ hr3.out
  have fr3 := fun k => frozen_of_row _ _ k _ _ hr3.out
  have lr3 := (Array.getElem?_eq_some_iff.1 hr3.out).1
  have zb3 := fun k => cell_of_row _ _ k _ _ _ hb3.out
  have lb3 := (Array.getElem?_eq_some_iff.1 hb3.out).1
  have hMw : w2.heap.size ≤ M := h2
  have HE3 := Lib.hid (HX2.out.trans hx3)
  clear h1 h2 hx3 zb2 lb2 HMM
  cases hm : mgK q xs n
  · obtain ⟨n1, n2, n3, n4⟩ := HNO.out hm
    have N1 := Lib.hid n1
    have N2 := Lib.hid n2
    have N3 := Lib.hid n3
    have N4 := Lib.hid n4
    clear n1 n2 n3 n4 hm
    go_wp2
    refine bodyPost_ret (v := .tuple #[.agg #[.int .i64 0, .slice none 0 0], .bool false]) (by simp [results, Try.results6, go_sem, *]) rfl ?_
    refine ⟨.slice none 0 0, ?_, ?_, ?_⟩
    · rw [N1.out, N2.out]
    · rw [N3.out, N4.out]; exact own_nil _ _ _ _
    · exact HE3.out.setCell (by show w.heap.size ≤ w.heap.size + 1; omega) _ |>.setCell (by show w.heap.size ≤ w.heap.size + 1; omega) _
  · obtain ⟨Q, rfl, hQ1, hQ2, hn4, hI, hJ, hc, hk, hG⟩ := mgK_facts hm
    have Hm := Lib.hid hm
    have HI := Lib.hid hI
    have HFT : Hid (fpT Q xs n = fpL (fsS Q xs n).G xs n ++ phL (fsS Q xs n).s) := rfl
    have HTL := Lib.hid (fpT_len Q xs n)
    have HTO := Lib.hid (fpT_ok hm)
    obtain ⟨gv, hms⟩ := H1.out hm
    have hms' : MS w3 M lo hi Q vv gv (fsS Q xs n) := hms
    generalize fsS Q xs n = σ at *
    have hgl := HI.out.gl
    have hgl4 : σ.G.length ≤ 400 := by omega
    obtain ⟨ag, cg, rfl⟩ := hms'.grp.shape
    have HC := Lib.hid (fun W (hX : Ext w3 W) => (hms'.ext hX).cell)
    have HGR := Lib.hid (fun W (hX : Ext w3 W) => (hms'.ext hX).grp)
    have lM3 := (Array.getElem?_eq_some_iff.1 hms'.cell).1
    have hs8 := HI.out.sb
    clear hm hI hJ hc hk hG hms hms' H1 HNO
    go_wp2_with fail
    go_loopw [6, 7, 8, 9, 22] (fun u6 _ _ _ u22 wr => ∃ j m : Nat, j ≤ n ∧ u22 = .int .i64 j ∧ m ≤ j * 2 ∧ Hid ((fpL σ.G xs j).length = m * 3) ∧ Hid (wr.ownsRow w3.heap.size 47 3 u6 m (IL (fpL σ.G xs j))) ∧ Ext w3 wr) (fun _ _ _ _ u22 _ => n - (intOf u22).toNat)
    case atStart => exact ⟨0, 0, by omega, rfl, by omega, rfl, Lib.hid (World.ownsRow_lit w3 #[] 0 (Nat.le_refl _) (by decide) rfl), (Ext.refl _).alloc _⟩
    case round =>
      obtain ⟨j, m, hj, rfl, hm2, HLN, HO, hE⟩ := hrel
      have HE := Lib.hid hE
      obtain ⟨av, cv, rfl, _, _, _⟩ := own_shape HO.out
      by_cases hlt : j < n
      · have hlt' : (j : Int) < n := by omega
        have hE1 := HE3.out.trans hE
        have HLS : Hid (fpL σ.G xs (j + 1) = fpL σ.G xs j ++ fpP σ.G (at3 xs (j * 3)) (at3 xs (j * 3 + 1)) (at3 xs (j * 3 + 2)) j) := rfl
        have HPL := Lib.hid (fpP_len σ.G (at3 xs (j * 3)) (at3 xs (j * 3 + 1)) (at3 xs (j * 3 + 2)) j)
        obtain ⟨b, off, rfl, hbk, hcell⟩ := HH.out (by omega)
        have hbr : b < wr.heap.size := by have := hE1.size; omega
        have z0 : wr.cell? ⟨b, off + j * 3, none⟩ = some (.int .i64 (at3 xs (j * 3))) := (hE1.cells.1 b (off + (j * 3)) hbk).trans (hcell _ _ (at3_get (by have := HL.out; omega)))
        have z1 : wr.cell? ⟨b, off + j * 3 + 1, none⟩ = some (.int .i64 (at3 xs (j * 3 + 1))) := (hE1.cells.1 b (off + (j * 3 + 1)) hbk).trans (hcell _ _ (at3_get (by have := HL.out; omega)))
        have z2 : wr.cell? ⟨b, off + j * 3 + 2, none⟩ = some (.int .i64 (at3 xs (j * 3 + 2))) := (hE1.cells.1 b (off + (j * 3 + 2)) hbk).trans (hcell _ _ (at3_get (by have := HL.out; omega)))
        clear hcell
        have HFD : Hid (fdJ σ.G j = if fdL σ.G j < σ.G.length then (fdL σ.G j : Int) else -1) := rfl
        have HFP : Hid (fpP σ.G (at3 xs (j * 3)) (at3 xs (j * 3 + 1)) (at3 xs (j * 3 + 2)) j = if fdL σ.G j < σ.G.length then (if (gAt σ.G (fdL σ.G j)).t = j then rotL (at3 xs (j * 3 + 1)) (gAt σ.G (fdL σ.G j)).c else []) else [at3 xs (j * 3), at3 xs (j * 3 + 1), at3 xs (j * 3 + 2)]) := rfl
        generalize at3 xs (j * 3) = k0 at *
        generalize at3 xs (j * 3 + 1) = a0 at *
        generalize at3 xs (j * 3 + 2) = b0 at *
        obtain ⟨wA, hwA⟩ : ∃ x, x = (wr.alloc (.cells #[.int .i64 j] 3 (0, 0))).alloc (.cells #[.int .i64 k0, .int .i64 a0, .int .i64 b0] 47 (0, 0)) := ⟨_, rfl⟩
        have HXA : Hid (Ext wr wA) := by rw [hwA]; exact Lib.hid (((Ext.refl wr).alloc _).alloc _)
        have HJA : Hid (wA.heap[wr.heap.size]? = some (.cells #[.int .i64 j] 3 (0, 0))) := by rw [hwA]; exact Lib.hid (heap_alloc_lt (heap_alloc_new _ _))
        have HGA : Hid (wA.heap[wr.heap.size + 1]? = some (.cells #[.int .i64 k0, .int .i64 a0, .int .i64 b0] 47 (0, 0))) := by rw [hwA]; exact Lib.hid (heap_alloc_at _ _ _ (by simp))
        have HEA := Lib.hid (hE.trans HXA.out)
        have HIX := Lib.hid (index2_any j wr.heap.size (by omega) (fun i hi => by have := (HI.out.gt i hi).2.2.1; omega) wA (HGR.out wA HEA.out) HJA.out)
        have hCA := HC.out wA HEA.out
        have zMA := fun k => cell_of_row _ _ k _ _ _ hCA
        have lMA := (Array.getElem?_eq_some_iff.1 hCA).1
        clear hE hE1 hCA
        go_upto_region 8 with fail
        rw [← hwA]
        clear hwA z0 z1 z2
        go_wp2_with fail
        refine HIX.out.mono ?_
        rintro e w4 ⟨rfl, hx4⟩
        have HX4 := Lib.hid (HEA.out.trans hx4)
        have HG4 := Lib.hid (row_farM HGA.out hx4)
        have HJ4 := Lib.hid (row_farM HJA.out hx4)
        have HXR := Lib.hid (HXA.out.trans hx4)
        have HO4 := Lib.hid (own_ext HO.out HXR.out)
        have zG4 := fun k => cell_of_row _ _ k _ _ _ HG4.out
        have lG4 := (Array.getElem?_eq_some_iff.1 HG4.out).1
        have zJ4 := fun k => cell_of_row _ _ k _ _ _ HJ4.out
        have lJ4 := (Array.getElem?_eq_some_iff.1 HJ4.out).1
        have hC4 := HC.out w4 HX4.out
        have zM4 := fun k => cell_of_row _ _ k _ _ _ hC4
        have lM4 := (Array.getElem?_eq_some_iff.1 hC4).1
        have hs34 := HX4.out.size
        clear HIX hx4 zMA lMA hC4 HJA HGA
        rw [HFD.out]
        by_cases hf : fdL σ.G j < σ.G.length
        · rw [if_pos hf]
          have hfp := HFP.out
          rw [if_pos hf] at hfp
          obtain ⟨i, hi⟩ : ∃ i, i = fdL σ.G j := ⟨_, rfl⟩
          rw [← hi] at hf hfp ⊢
          obtain ⟨zs, g1, _, _, g4⟩ := HGR.out w4 HX4.out
          obtain ⟨s, e0, e1, e2, e3, e4, os⟩ := g4 i hf
          obtain ⟨ag2, cg2, ee, _, _, hg3⟩ := own_shape g1
          injection ee with ee1 _ ee3
          subst ee1 ee3
          obtain ⟨Bg, rfl, hb1, hb2, hb3', hb4⟩ := hg3 (by omega)
          have hBg3 : Bg < w3.heap.size := by
            obtain ⟨zq, q1, _⟩ := HGR.out w3 (Ext.refl _)
            exact (q1.lt Bg rfl).2
          have y0 := hb3' _ _ e0
          have y1 := hb3' _ _ e1
          have hc8 := (HI.out.gt i hf).2.1
          have Hfp := Lib.hid hfp
          have hf' : (i : Int) < σ.G.length := by omega
          clear e0 e1 e2 e3 e4 os hb3' hb4 hg3 g1 g4 hi hfp HFD HFP
          generalize gAt σ.G i = g at *
          by_cases ht : g.t = j
          · have ht1 : ((g.t : Int) == (j : Int)) = true := by simp [ht]
            have hfp := Hfp.out
            rw [if_pos ht] at hfp
            have HF2 := Lib.hid hfp
            rw [ht] at y0
            clear hfp ht ht1 Hfp
            have HBo := Lib.hid (fun k (hk : (Value.slice av m cv).ownBlock = some k) => HO.out.lt k hk)
            have HK : Hid (∀ W, Ext w4 W → W.cell? ⟨wr.heap.size + 1, 1, none⟩ = some (.int .i64 a0) ∧ W.cell? ⟨M, 2, none⟩ = some (.slice (some ⟨Bg, 0, none⟩) σ.G.length cg) ∧ W.cell? ⟨Bg, i * 5 + 1, none⟩ = some (.int .i64 g.c)) := Lib.hid (fun W hX => ⟨(hX.cells.1 _ 1 lG4).trans (zG4 1), (hX.cells.1 _ 2 lM4).trans (zM4 2), (hX.cells.1 _ _ (lt_of_cell y1)).trans y1⟩)
            have HRO := fun W => Lib.hid (rotation_any a0 g.c hc8 W)
            have HRL := Lib.hid (rotL_len a0 g.c)
            have hr2 := rotK_len g.c
            have hwrs : wr.heap.size + 1 < w4.heap.size := lG4
            generalize rotL a0 g.c = LR at *
            generalize (rotK g.c).length = lr at *
            have hyB := lt_of_cell y1
            go_upto_region 11 with fail
            go_region
            all_goals go_upto_region 12 with fail
            all_goals
              go_region_held3 (fun W => W.cell? ⟨wr.heap.size + 1, 1, none⟩ = some (.int .i64 a0) ∧ W.cell? ⟨M, 2, none⟩ = some (.slice (some ⟨Bg, 0, none⟩) σ.G.length cg) ∧ W.cell? ⟨Bg, i * 5 + 1, none⟩ = some (.int .i64 g.c)) (first | exact HK6.out | exact HK.out _ (by repeat (first | (with_reducible refine Ext.setCell ?_ (by first | (simp; done) | (simp; omega)) _) | with_reducible refine Ext.alloc ?_ _ | with_reducible refine Ext.drew ?_ | with_reducible refine Ext.drewN ?_ _ | with_reducible assumption | with_reducible exact Ext.refl _ | with_reducible refine Ext.trans ?_ (by with_reducible assumption))))
                (first
                | (go_at_call 25; (with_reducible refine Calls.mono (HRO _).out ?_); rintro e w5 ⟨v5, rfl, o5, hx5⟩; have O5 := Lib.hid o5; obtain ⟨a5, c5, rfl, _, _, _⟩ := own_shape o5; clear o5; have hx45 : Ext w4 w5 := (by repeat (first | (with_reducible refine Ext.setCell ?_ (by first | (simp; done) | (simp; omega)) _) | with_reducible refine Ext.alloc ?_ _ | with_reducible refine Ext.drew ?_ | with_reducible refine Ext.drewN ?_ _ | with_reducible assumption | with_reducible exact Ext.refl _ | with_reducible refine Ext.trans ?_ (by with_reducible assumption))); have hz5 := hx45.size)
                | (refine step_append_rvt (base := w3.heap.size) rfl elt_FG rfl (.slice av m cv) m (fpL σ.G xs j) rfl ?_ (.slice a5 lr c5) lr LR rfl ?_ ?_ ?_ ?_
                   · exact own_ext HO4.out hx45
                   · exact RV.own O5.out HRL.out
                   · omega
                   · omega
                   intro v6 w6 hown6 hgrow6 hiff6 hloc6
                   have HK6 : Hid (w6.cell? ⟨wr.heap.size + 1, 1, none⟩ = some (.int .i64 a0) ∧ w6.cell? ⟨M, 2, none⟩ = some (.slice (some ⟨Bg, 0, none⟩) σ.G.length cg) ∧ w6.cell? ⟨Bg, i * 5 + 1, none⟩ = some (.int .i64 g.c)) := Lib.hid ⟨(hgrow6.cell_far ⟨wr.heap.size + 1, 1, none⟩ (by show wr.heap.size + 1 < w5.heap.size; omega) (fun e => by have h9 := HBo.out _ e.symm; have h8 : wr.heap.size + 1 < wr.heap.size := h9.2; omega)).trans (HK.out w5 hx45).1, (hgrow6.cell_far ⟨M, 2, none⟩ (by show M < w5.heap.size; omega) (fun e => by have h9 := HBo.out _ e.symm; have h8 : w3.heap.size ≤ M := h9.1; omega)).trans (HK.out w5 hx45).2.1, (hgrow6.cell_far ⟨Bg, i * 5 + 1, none⟩ (by show Bg < w5.heap.size; omega) (fun e => by have h9 := HBo.out _ e.symm; have h8 : w3.heap.size ≤ Bg := h9.1; omega)).trans (HK.out w5 hx45).2.2⟩
                   have HE6 : Hid (Ext w3 w6) := Lib.hid (Ext.grown (HX4.out.trans hx45) hgrow6 (fun k hk => (HBo.out k hk).1))
                   rw [← HF2.out, ← HLS.out] at hown6
                   have HO6 := Lib.hid hown6
                   obtain ⟨a6, c6, rfl, _, _, _⟩ := own_shape hown6
                   clear hown6 hgrow6 hiff6 hloc6))
            all_goals
              have HN6 : Hid ((fpL σ.G xs (j + 1)).length = (m + lr) * 3) := by rw [HLS.out, HF2.out, List.length_append, HLN.out, HRL.out]; exact Lib.hid (by omega)
              go_wp2
              go_roundw
              case rel => exact ⟨j + 1, m + lr, by omega, by go_num, by omega, HN6, HO6, HE6.out⟩
              case measure => simp [intOf]; omega
          · have ht1 : ((g.t : Int) == (j : Int)) = false := by simp; omega
            have ht2 : (g.t : Int) ≠ j := by omega
            have hfp := Hfp.out
            rw [if_neg ht] at hfp
            have HLE : Hid (fpL σ.G xs (j + 1) = fpL σ.G xs j) := by rw [HLS.out, hfp, List.append_nil]; exact Lib.hid rfl
            clear hfp ht Hfp
            go_upto_region 11 with fail
            go_region
            all_goals
              go_wp2
              go_roundw
              case rel => exact ⟨j + 1, m, by omega, by go_num, by omega, by rw [HLE.out]; exact HLN, by rw [HLE.out]; exact Lib.hid (own_ext HO4.out (Ext.refl _).drew), HX4.out.drew⟩
              case measure => simp [intOf]; omega
        · rw [if_neg hf]
          have HF2 : Hid (fpL σ.G xs (j + 1) = fpL σ.G xs j ++ [k0, a0, b0]) := by rw [HLS.out, HFP.out, if_neg hf]; exact Lib.hid rfl
          have hxx := (Ext.refl w4).alloc (.cells #[.int .i64 k0, .int .i64 a0, .int .i64 b0] 47 (0, 0))
          have HXX := Lib.hid hxx
          have HO5 := Lib.hid (own_ext HO4.out hxx)
          have HM5 := Lib.hid (heap_alloc_new w4 (.cells #[.int .i64 k0, .int .i64 a0, .int .i64 b0] 47 (0, 0)))
          have hb5 : w3.heap.size ≤ (w4.alloc (.cells #[.int .i64 k0, .int .i64 a0, .int .i64 b0] 47 (0, 0))).heap.size := Nat.le_trans hs34 hxx.size
          clear hxx hf HFD HFP
          go_upto_region 13 with (at_builtin; go_loud (refine wpList_append_rvt (base := w3.heap.size) rfl elt_FG rfl (.slice av m cv) m (fpL σ.G xs j) rfl HO5.out _ 1 [k0, a0, b0] rfl (rv_heap HM5.out rfl rfl (by omega) (by decide)) (by omega) hb5 ?_); intro v6 w6 hown6 hgrow6 hiff6 hloc6)
          have HE6 := Lib.hid (ext_grownB (HX4.out.trans HXX.out) hgrow6 HO5.out (Nat.le_refl _))
          rw [← HF2.out] at hown6
          have HO6 := Lib.hid hown6
          have HN6 : Hid ((fpL σ.G xs (j + 1)).length = (m + 1) * 3) := by rw [HF2.out, List.length_append, HLN.out]; exact Lib.hid (by simp; omega)
          clear hown6 hgrow6 hiff6 hloc6
          go_wp2
          go_roundw
          case rel => exact ⟨j + 1, m + 1, by omega, by go_num, by omega, HN6, HO6, HE6.out⟩
          case measure => simp [intOf]; omega
      · obtain rfl : j = n := by omega
        have hms : m + σ.s = fpM Q xs j := by
          have h1 := HTL.out
          rw [HFT.out, List.length_append, HLN.out, phL_len] at h1
          omega
        have HMS := Lib.hid hms
        have HBo := Lib.hid (fun k (hk : (Value.slice av m cv).ownBlock = some k) => HO.out.lt k hk)
        have HK : Hid (∀ W, Ext wr W → W.cell? ⟨w.heap.size, 0, none⟩ = some (.int .i64 Q) ∧ W.cell? ⟨M, 3, none⟩ = some (.int .i64 σ.s)) := Lib.hid (fun W hX => ⟨((HE.out.trans hX).cells.1 _ 0 lb3).trans (zb3 0), ((HE.out.trans hX).cells.1 _ 3 lM3).trans (cell_of_row _ _ 3 _ _ _ (HC.out w3 (Ext.refl _)))⟩)
        have HPH := fun W => Lib.hid (phases_any σ.s (by omega) W)
        have hmT : fpM Q xs j ≤ 2000000 := by omega
        have HCI := fun W v (r : RV W 3 v (fpM Q xs j) (fpT Q xs j)) => Lib.hid (show Calls Try.prog 26 #[.int .i64 Q, v] W (fun e w' => ∃ v', e = .returned (.tuple #[.agg #[.int .i64 (fQ Q xs j), v'], .bool (fOk Q xs j)]) ∧ w'.ownsRow W.heap.size 47 3 v' (fN Q xs j) (IL (fL Q xs j)) ∧ Ext W w') from by
          have h9 := circuitIfF_any Q hmT W r
          rw [HTO.out] at h9
          exact h9)
        have hsr := HE.out.size
        have hRr := row_farM hr3.out HE.out
        have HRR := Lib.hid hRr
        clear hRr hE hms
        go_upto_region 14 with fail
        go_region_held3 (fun W => W.cell? ⟨w.heap.size, 0, none⟩ = some (.int .i64 Q) ∧ W.cell? ⟨M, 3, none⟩ = some (.int .i64 σ.s)) (first | exact HK8.out _ _ | exact HK7.out | exact HK6.out | exact HK.out _ (by repeat (first | (with_reducible refine Ext.setCell ?_ (by first | (simp; done) | (simp; omega)) _) | with_reducible refine Ext.alloc ?_ _ | with_reducible refine Ext.drew ?_ | with_reducible refine Ext.drewN ?_ _ | with_reducible assumption | with_reducible exact Ext.refl _ | with_reducible refine Ext.trans ?_ (by with_reducible assumption))))
          (first
          | (go_at_call 27; (with_reducible refine Calls.mono (HPH _).out ?_); rintro e w5 ⟨v5, rfl, o5, hx5⟩; have O5 := Lib.hid o5; obtain ⟨a5, c5, rfl, _, _, _⟩ := own_shape o5; clear o5; have hx45 : Ext wr w5 := (by repeat (first | (with_reducible refine Ext.setCell ?_ (by first | (simp; done) | (simp; omega)) _) | with_reducible refine Ext.alloc ?_ _ | with_reducible refine Ext.drew ?_ | with_reducible refine Ext.drewN ?_ _ | with_reducible assumption | with_reducible exact Ext.refl _ | with_reducible refine Ext.trans ?_ (by with_reducible assumption))); have hz5 := hx45.size)
          | (go_at_call 26; (with_reducible refine Calls.mono (HCI _ _ HRV6.out).out ?_); rintro e w7 ⟨v7, rfl, o7, hx7⟩; have O7 := Lib.hid o7; obtain ⟨a7, c7, rfl, _, _, _⟩ := own_shape o7; clear o7; have HR7 := Lib.hid (row_farM HR6.out hx7); have zr7 := fun k => cell_of_row _ _ k _ _ _ HR7.out; have fr7 := fun k => frozen_of_row _ _ k _ _ HR7.out; have lr7 := (Array.getElem?_eq_some_iff.1 HR7.out).1; have HK7 : Hid (w7.cell? ⟨w.heap.size, 0, none⟩ = some (.int .i64 Q) ∧ w7.cell? ⟨M, 3, none⟩ = some (.int .i64 σ.s)) := Lib.hid ⟨(hx7.cells.1 _ 0 (lt_of_cell HK6.out.1)).trans HK6.out.1, (hx7.cells.1 _ 3 (lt_of_cell HK6.out.2)).trans HK6.out.2⟩; have HX7 := Lib.hid (HE6.out.trans hx7); have hs67 := hx7.size; have HK8 := Lib.hid (fun (u v : Value) => (⟨(World.cell?_setCell_far _ _ _ _ (by show w.heap.size + 1 ≠ w.heap.size; omega)).trans ((World.cell?_setCell_far _ _ _ _ (by show w.heap.size + 1 ≠ w.heap.size; omega)).trans HK7.out.1), (World.cell?_setCell_far _ _ _ _ (by show w.heap.size + 1 ≠ M; omega)).trans ((World.cell?_setCell_far _ _ _ _ (by show w.heap.size + 1 ≠ M; omega)).trans HK7.out.2)⟩ : ((w7.setCell ⟨w.heap.size + 1, 0, none⟩ u).setCell ⟨w.heap.size + 1, 1, none⟩ v).cell? ⟨w.heap.size, 0, none⟩ = some (.int .i64 Q) ∧ ((w7.setCell ⟨w.heap.size + 1, 0, none⟩ u).setCell ⟨w.heap.size + 1, 1, none⟩ v).cell? ⟨M, 3, none⟩ = some (.int .i64 σ.s))))
          | (refine step_append_rvt (base := w3.heap.size) rfl elt_FG rfl (.slice av m cv) m (fpL σ.G xs j) rfl ?_ (.slice a5 σ.s c5) σ.s (phL σ.s) rfl ?_ ?_ ?_ ?_
             · exact own_ext HO.out hx45
             · exact RV.own O5.out (phL_len _)
             · omega
             · omega
             intro v6 w6 hown6 hgrow6 hiff6 hloc6
             have HK6 : Hid (w6.cell? ⟨w.heap.size, 0, none⟩ = some (.int .i64 Q) ∧ w6.cell? ⟨M, 3, none⟩ = some (.int .i64 σ.s)) := Lib.hid ⟨(hgrow6.cell_far ⟨w.heap.size, 0, none⟩ (by show w.heap.size < w5.heap.size; omega) (fun e => by have h9 := HBo.out _ e.symm; have h8 : w3.heap.size ≤ w.heap.size := h9.1; omega)).trans (HK.out w5 hx45).1, (hgrow6.cell_far ⟨M, 3, none⟩ (by show M < w5.heap.size; omega) (fun e => by have h9 := HBo.out _ e.symm; have h8 : w3.heap.size ≤ M := h9.1; omega)).trans (HK.out w5 hx45).2⟩
             have HR6 := Lib.hid (heap_grown hgrow6 (k := w.heap.size + 1) (row_farM HRR.out hx45) (fun e => by have h9 := (HBo.out _ e.symm).1; omega))
             have HE6 : Hid (Ext w w6) := Lib.hid (HE3.out.trans (Ext.grown (HE.out.trans hx45) hgrow6 (fun k hk => (HBo.out k hk).1)))
             have HRV6 : Hid (RV w6 3 v6 (fpM Q xs j) (fpT Q xs j)) := Lib.hid (by
               rw [HFT.out, ← HMS.out]
               exact RV.own hown6 (by rw [List.length_append, HLN.out, phL_len]; omega))
             have hs56 := hgrow6.size
             obtain ⟨a6, c6, rfl, _, _, _⟩ := own_shape hown6
             clear hown6 hgrow6 hiff6 hloc6))
        all_goals
          go_wp2
          refine bodyPost_ret (v := .tuple #[.agg #[.int .i64 (fQ Q xs j), .slice a7 (fN Q xs j) c7], .bool (fOk Q xs j)]) (by simp [results, Try.results6, go_sem, *]) rfl ?_
          refine ⟨.slice a7 (fN Q xs j) c7, rfl, own_base (own_set (own_set O7.out (by show w.heap.size + 1 < w6.heap.size; omega) _) (by show w.heap.size + 1 < w6.heap.size; omega) _) (by omega), (HX7.out.setCell (by show w.heap.size ≤ w.heap.size + 1; omega) _).setCell (by show w.heap.size ≤ w.heap.size + 1; omega) _⟩


open Go.RowKit Go.Lib
set_option linter.unusedVariables false
set_option linter.unusedSimpArgs false

theorem mkB_at {xs : List Int} {n j : Nat} (hj : j < n) : (mkB xs n n)[j]? = some (.bool (decide (0 < cfK (at3 xs (j * 3))))) := by
  simp [mkB, hj]
theorem fpG_take {G : List Gp} {a : Int} {j i : Nat} (hi : i < G.length) : fpG (G.take (i + 1)) a j = fpG (G.take i) a j ++ (if (gAt G i).t = j then rotL a (gAt G i).c else []) := by
  unfold fpG
  rw [List.take_add_one, List.getElem?_eq_getElem hi, gAt_get hi, List.flatMap_append]
  simp
theorem FC_at {G : List Gp} {i : Nat} (hi : i < G.length) : (IL (FC G))[i * 2]? = some (.int .i64 ((gAt G i).t : Int)) ∧ (IL (FC G))[i * 2 + 1]? = some (.int .i64 ((gAt G i).c : Int)) := by
  have h0 := fm_get (f := fcC) (k := 2) (fun _ => rfl) G i 0 hi (by decide)
  have h1 := fm_get (f := fcC) (k := 2) (fun _ => rfl) G i 1 hi (by decide)
  rw [gAt_get hi] at h0 h1
  simp only [IL, List.getElem?_map]
  exact ⟨by rw [show FC G = G.flatMap fcC from rfl, ← Nat.add_zero (i * 2), h0]; rfl, by rw [show FC G = G.flatMap fcC from rfl, h1]; rfl⟩

set_option maxRecDepth 20000 in
set_option maxHeartbeats 8000000 in
theorem s_foldPhases_any (q : Int) {v : Value} {n : Nat} {xs : List Int} (hn : n ≤ 2000000) (w : World) (h : RV w 3 v n xs) :
    Calls Try.prog 7 #[.agg #[.int .i64 q, v]] w fun e w' => ∃ v', e = .returned (.tuple #[.agg #[.int .i64 (fQ q xs n), v'], .bool (fOk q xs n)]) ∧ w'.ownsRow w.heap.size 47 3 v' (fN q xs n) (IL (fL q xs n)) ∧ Ext w w' := by
  have HV := fun w' (hx : Ext w w') => Lib.hid (l4Good_any q hn w' (h.ext hx))
  have HF := fun (Q : Nat) (hc : cOk Q xs n = true) w' (hx : Ext w w') => Lib.hid (l13Folds_any Q hc w' (h.ext hx))
  have HNO : Hid (fOk q xs n = false → fQ q xs n = 0 ∧ fN q xs n = 0 ∧ fL q xs n = []) := Lib.hid (fun h1 => by
    unfold fQ fN fL
    rw [h1]
    exact ⟨rfl, rfl, rfl⟩)
  have HNM : Hid (mgK q xs n = false → fOk q xs n = false) := Lib.hid (fun hm => by unfold fOk; rw [hm]; rfl)
  have HV0 := Lib.hid h
  obtain ⟨hl, a1, cap, rfl, p1, p2, hh⟩ := h
  have HH := Lib.hid hh
  have HL := Lib.hid hl
  clear hh hl
  obtain ⟨w2, hw2⟩ : ∃ x, x = (w.alloc (.cells #[.int .i64 q, .slice a1 n cap] 25 (0, 0))).alloc (.cells #[.int .i64 0, .slice none 0 0] 25 (0, 0)) := ⟨_, rfl⟩
  have HX2 : Hid (Ext w w2) := by rw [hw2]; exact Lib.hid (((Ext.refl w).alloc _).alloc _)
  have HB2 : Hid (w2.heap[w.heap.size]? = some (.cells #[.int .i64 q, .slice a1 n cap] 25 (0, 0))) := by rw [hw2]; exact Lib.hid (heap_alloc_lt (heap_alloc_new _ _))
  have HR2 : Hid (w2.heap[w.heap.size + 1]? = some (.cells #[.int .i64 0, .slice none 0 0] 25 (0, 0))) := by rw [hw2]; exact Lib.hid (heap_alloc_at _ _ _ (by simp))
  have HVV := HV w2 HX2.out
  have zb2 := fun k => cell_of_row _ _ k _ _ _ HB2.out
  have lb2 := (Array.getElem?_eq_some_iff.1 HB2.out).1
  have hw0 : w.heap.size ≤ w.heap.size + 1 := by omega
  clear HV
  go_enter Try.func7, Try.ntmps7
  go_upto_region 1 with fail
  rw [← hw2]
  clear hw2
  go_wp2_with fail
  refine HVV.out.mono ?_
  rintro e w3 ⟨rfl, hx3⟩
  have HX3 := Lib.hid (HX2.out.trans hx3)
  have hr3 := Lib.hid (row_farM HR2.out hx3)
  have hb3 := Lib.hid (row_farM HB2.out hx3)
  have zr3 := fun k => cell_of_row _ _ k _ _ _ hr3.out
  have fr3 := fun k => frozen_of_row _ _ k _ _ hr3.out
  have lr3 := (Array.getElem?_eq_some_iff.1 hr3.out).1
  have zb3 := fun k => cell_of_row _ _ k _ _ _ hb3.out
  have lb3 := (Array.getElem?_eq_some_iff.1 hb3.out).1
  clear hx3 zb2 lb2 HVV
  cases hc : cOk q xs n
  · have hm : mgK q xs n = false := by unfold mgK; rw [hc]; rfl
    have N0 := Lib.hid (HNM.out hm)
    obtain ⟨n1, n3, n4⟩ := HNO.out N0.out
    have N1 := Lib.hid n1
    have N3 := Lib.hid n3
    have N4 := Lib.hid n4
    clear n1 n3 n4 hm hc
    go_wp2
    refine bodyPost_ret (v := .tuple #[.agg #[.int .i64 0, .slice none 0 0], .bool false]) (by simp [results, Try.results7, go_sem, *]) rfl ?_
    refine ⟨.slice none 0 0, ?_, ?_, ?_⟩
    · rw [N1.out, N0.out]
    · rw [N3.out, N4.out]; exact own_nil _ _ _ _
    · exact (HX3.out.setCell hw0 _).setCell hw0 _
  have hqn := cOk_qn hc
  obtain ⟨Q, rfl⟩ : ∃ Q : Nat, q = Q := ⟨q.toNat, by omega⟩
  have HFF := HF Q hc w3 HX3.out
  have hmK : mgK Q xs n = fsK Q xs n := by unfold mgK; rw [hc]; rfl
  have HMK := Lib.hid hmK
  clear hmK hc HF
  go_wp2_with fail
  refine HFF.out.mono ?_
  rintro e w4 ⟨vo, vi, rfl, h1, h2, hx4⟩
  have H1 := Lib.hid h1
  have H2 := Lib.hid h2
  have HX4 := Lib.hid (HX3.out.trans hx4)
  have HX34 := Lib.hid hx4
  have hr4 := Lib.hid (row_farM hr3.out hx4)
  have hb4 := Lib.hid (row_farM hb3.out hx4)
  have zr4 := fun k => cell_of_row _ _ k _ _ _ hr4.out
  have fr4 := fun k => frozen_of_row _ _ k _ _ hr4.out
  have lr4 := (Array.getElem?_eq_some_iff.1 hr4.out).1
  have zb4 := fun k => cell_of_row _ _ k _ _ _ hb4.out
  have lb4 := (Array.getElem?_eq_some_iff.1 hb4.out).1
  clear h1 h2 hx4 HFF zr3 fr3 zb3 lb3
  cases hk : fsK Q xs n
  · rw [hk] at HMK
    have N0 := Lib.hid (HNM.out HMK.out)
    obtain ⟨n1, n3, n4⟩ := HNO.out N0.out
    have N1 := Lib.hid n1
    have N3 := Lib.hid n3
    have N4 := Lib.hid n4
    clear n1 n3 n4 hk
    go_wp2
    refine bodyPost_ret (v := .tuple #[.agg #[.int .i64 0, .slice none 0 0], .bool false]) (by simp [results, Try.results7, go_sem, *]) rfl ?_
    refine ⟨.slice none 0 0, ?_, ?_, ?_⟩
    · rw [N1.out, N0.out]
    · rw [N3.out, N4.out]; exact own_nil _ _ _ _
    · exact (HX4.out.setCell hw0 _).setCell hw0 _
  · rw [hk] at HMK
    have hm : mgK Q xs n = true := HMK.out
    obtain ⟨Q', hQQ, hQ1, hQ2, hn4, hI, hJ, hc, hk', hG⟩ := mgK_facts hm
    obtain rfl : Q' = Q := by omega
    have HI := Lib.hid hI
    have HJ := Lib.hid hJ
    have HFT : Hid (fpT Q' xs n = fpL (fsS Q' xs n).G xs n ++ phL (fsS Q' xs n).s) := rfl
    have HTL := Lib.hid (fpT_len Q' xs n)
    have HFO : Hid (fOk Q' xs n = decide (fpM Q' xs n ≤ 400)) := by unfold fOk; rw [hm]; exact Lib.hid rfl
    have HFQ : Hid (fOk Q' xs n = true → fQ Q' xs n = Q' ∧ fN Q' xs n = fpM Q' xs n ∧ fL Q' xs n = fpT Q' xs n) := Lib.hid (fun h1 => by
      unfold fQ fN fL
      rw [h1]
      exact ⟨rfl, rfl, rfl⟩)
    obtain ⟨OV, OI⟩ := H1.out hk
    have HOV := Lib.hid OV
    have HOI := Lib.hid OI
    obtain ⟨ao, co, rfl, _, _, ho3⟩ := own_shape OV
    obtain ⟨ai, ci, rfl, _, _, hi3⟩ := own_shape OI
    clear hm hI hJ hc hk' hG OV OI hk H1 H2 HMK hQQ ho3 hi3
    generalize fsS Q' xs n = σ at *
    have hgl := HI.out.gl
    have hgl4 : σ.G.length ≤ 400 := by omega
    have hs8 := HI.out.sb
    obtain ⟨w5, hw5⟩ : ∃ x, x = w4.alloc (.cells #[.int .i64 Q', .slice none 0 0] 25 (0, 0)) := ⟨_, rfl⟩
    have HX5 : Hid (Ext w4 w5) := by rw [hw5]; exact Lib.hid ((Ext.refl _).alloc _)
    have HB8 : Hid (w5.heap[w4.heap.size]? = some (.cells #[.int .i64 Q', .slice none 0 0] 25 (0, 0))) := by rw [hw5]; exact Lib.hid (heap_alloc_new _ _)
    have hs5 : w5.heap.size = w4.heap.size + 1 := by rw [hw5]; simp
    have hb5 := row_farM hb4.out HX5.out
    have zb5 := fun k => cell_of_row _ _ k _ _ _ hb5
    have lb5 := (Array.getElem?_eq_some_iff.1 hb5).1
    clear hb5
    go_upto_region 7 with fail
    rw [← hw5]
    clear hw5
    go_wp2_with fail
    clear zb5 lb5 zr4 fr4 zb4 lb4
    go_loopw [9, 10, 33] (fun _ _ u33 wr => ∃ (j m : Nat) (va : Value), j ≤ n ∧ u33 = .int .i64 j ∧ m ≤ j * 1000 ∧ Hid ((fpL σ.G xs j).length = m * 3) ∧ Hid (wr.heap[w4.heap.size]? = some (.cells #[.int .i64 Q', va] 25 (0, 0))) ∧ Hid (wr.ownsRow w5.heap.size 47 3 va m (IL (fpL σ.G xs j))) ∧ Ext w4 wr) (fun _ _ u33 _ => n - (intOf u33).toNat)
    case atStart => exact ⟨0, 0, .slice none 0 0, by omega, rfl, by omega, rfl, HB8, Lib.hid (own_nil _ _ _ _), HX5.out⟩
    case round =>
      obtain ⟨j, m0, va0, hj, rfl, hm0, HLN, HC, HO, hE⟩ := hrel
      have HE := Lib.hid hE
      obtain ⟨av0, cv0, rfl, _, _, _⟩ := own_shape HO.out
      obtain ⟨wO, hwO⟩ : ∃ x, x = wr := ⟨_, rfl⟩
      subst hwO
      have zCO := fun k => cell_of_row _ _ k _ _ _ HC.out
      have fCO := fun k => frozen_of_row _ _ k _ _ HC.out
      have lCO := (Array.getElem?_eq_some_iff.1 HC.out).1
      by_cases hlt : j < n
      · have hlt' : (j : Int) < n := by omega
        have hE1 := HX4.out.trans hE
        have HLS : Hid (fpL σ.G xs (j + 1) = fpL σ.G xs j ++ fpP σ.G (at3 xs (j * 3)) (at3 xs (j * 3 + 1)) (at3 xs (j * 3 + 2)) j) := rfl
        have HSM := Lib.hid (fp_same HJ.out hlt (at3 xs (j * 3 + 1)) (at3 xs (j * 3 + 2)))
        obtain ⟨_, _, ei, _, _, hi3⟩ := own_shape (own_ext HOI.out hE)
        injection ei with ei1 _ ei3
        subst ei1 ei3
        obtain ⟨Bi, rfl, hi1, hi2, hi4, _⟩ := hi3 (by omega)
        have zmk := hi4 _ _ (mkB_at (xs := xs) hlt)
        obtain ⟨b, off, rfl, hbk, hcell⟩ := HH.out (by omega)
        have hbr : b < wO.heap.size := by have := hE1.size; omega
        have z0 : wO.cell? ⟨b, off + j * 3, none⟩ = some (.int .i64 (at3 xs (j * 3))) := (hE1.cells.1 b (off + (j * 3)) hbk).trans (hcell _ _ (at3_get (by have := HL.out; omega)))
        have z1 : wO.cell? ⟨b, off + j * 3 + 1, none⟩ = some (.int .i64 (at3 xs (j * 3 + 1))) := (hE1.cells.1 b (off + (j * 3 + 1)) hbk).trans (hcell _ _ (at3_get (by have := HL.out; omega)))
        have z2 : wO.cell? ⟨b, off + j * 3 + 2, none⟩ = some (.int .i64 (at3 xs (j * 3 + 2))) := (hE1.cells.1 b (off + (j * 3 + 2)) hbk).trans (hcell _ _ (at3_get (by have := HL.out; omega)))
        clear hcell
        generalize at3 xs (j * 3) = k0 at *
        generalize at3 xs (j * 3 + 1) = a0 at *
        generalize at3 xs (j * 3 + 2) = b0 at *
        obtain ⟨w6, hw6⟩ : ∃ x, x = wO.alloc (.cells #[.int .i64 k0, .int .i64 a0, .int .i64 b0] 47 (0, 0)) := ⟨_, rfl⟩
        have HX6 : Hid (Ext wO w6) := by rw [hw6]; exact Lib.hid ((Ext.refl _).alloc _)
        have HG6 : Hid (w6.heap[wO.heap.size]? = some (.cells #[.int .i64 k0, .int .i64 a0, .int .i64 b0] 47 (0, 0))) := by rw [hw6]; exact Lib.hid (heap_alloc_new _ _)
        have HC6 := Lib.hid (row_farM HC.out HX6.out)
        have zC6 := fun k => cell_of_row _ _ k _ _ _ HC6.out
        have lC6 := (Array.getElem?_eq_some_iff.1 HC6.out).1
        have zG6 := fun k => cell_of_row _ _ k _ _ _ HG6.out
        have lG6 := (Array.getElem?_eq_some_iff.1 HG6.out).1
        have zmk6 := (HX6.out.cells.1 Bi _ (lt_of_cell zmk)).trans zmk
        have lmk6 := lt_of_cell zmk6
        have HO6 := Lib.hid (own_ext HO.out HX6.out)
        have HBk := Lib.hid (fun k (hk : (Value.slice av0 m0 cv0).ownBlock = some k) => HO.out.lt k hk)
        have hsE := hE.size
        have hlt4 : w4.heap.size < wO.heap.size := lCO
        clear hE hE1 hi3 hi4
        go_upto_region 10 with fail
        rw [← hw6]
        clear hw6 z0 z1 z2 zCO fCO lCO zmk
        by_cases hc0 : 0 < cfK k0
        focus
          have hd : decide (0 < cfK k0) = true := by simpa using hc0
          rw [hd] at zmk6
          rw [if_pos hc0, List.nil_append] at HSM
          obtain ⟨PRE, hPRE⟩ : ∃ P, P = fpL σ.G xs j := ⟨_, rfl⟩
          have HPP : Hid (PRE ++ fpG σ.G a0 j = fpL σ.G xs (j + 1)) := by rw [hPRE, HLS.out, HSM.out]; exact Lib.hid rfl
          have HPN : Hid (PRE.length = m0 * 3) := by rw [hPRE]; exact HLN
          have HPO : Hid (w6.ownsRow w5.heap.size 47 3 (.slice av0 m0 cv0) m0 (IL PRE)) := by rw [hPRE]; exact HO6
          have HPC := HC6
          have HPG := HG6
          have HPX := Lib.hid (HE.out.trans HX6.out)
          have HPB : Hid (∀ k, (Value.slice av0 m0 cv0).ownBlock = some k → k ≠ wO.heap.size) := Lib.hid (fun k hk => by have := (HBk.out k hk).2; omega)
          obtain ⟨mp, hmp⟩ : ∃ mp, mp = m0 := ⟨_, rfl⟩
          have hmp2 : mp ≤ j * 1000 + 1 := by omega
          have hmle : m0 ≤ mp := by omega
          clear hmp
          clear hd hc0 hPRE HSM HC6 HG6 HO6
          go_upto_region 12 with fail
        rotate_left
        focus
          have hd : decide (0 < cfK k0) = false := by simpa using hc0
          rw [hd] at zmk6
          rw [if_neg hc0] at HSM
          have hxx := (Ext.refl w6).alloc (.cells #[.int .i64 k0, .int .i64 a0, .int .i64 b0] 47 (0, 0))
          have HXX := Lib.hid hxx
          have HO7 := Lib.hid (own_ext HO6.out hxx)
          have HM7 := Lib.hid (heap_alloc_new w6 (.cells #[.int .i64 k0, .int .i64 a0, .int .i64 b0] 47 (0, 0)))
          have hb7 : w5.heap.size ≤ (w6.alloc (.cells #[.int .i64 k0, .int .i64 a0, .int .i64 b0] 47 (0, 0))).heap.size := by have := hxx.size; omega
          have HX67 := Lib.hid (HE.out.trans HX6.out)
          clear hxx hd hc0
          go_upto_region 12 with (at_builtin; go_loud (refine wpList_append_rvt (base := w5.heap.size) rfl elt_FG rfl (.slice av0 m0 cv0) m0 (fpL σ.G xs j) rfl HO7.out _ 1 [k0, a0, b0] rfl (rv_heap HM7.out rfl rfl (by omega) (by decide)) (by omega) hb7 ?_); intro v8 w8 hown8 hgrow8 hiff8 hloc8; have HC8 := Lib.hid (heap_grown hgrow8 (k := w4.heap.size) (row_farM HC6.out HXX.out) (fun e => by have h9 := (HBk.out _ e.symm).1; omega)); have HG8 := Lib.hid (heap_grown hgrow8 (k := wO.heap.size) (row_farM HG6.out HXX.out) (fun e => by have h9 := (HBk.out _ e.symm).2; omega)); have HE8 := Lib.hid (Ext.grown (HX67.out.trans HXX.out) hgrow8 (fun k hk => by have h9 := (HBk.out k hk).1; omega)); have HO8 := Lib.hid hown8; have HPB : Hid (∀ k, v8.ownBlock = some k → k ≠ wO.heap.size) := Lib.hid (fun k hk => by rcases hloc8 with h | h; (· rw [h] at hk; have := (HBk.out k hk).2; omega); (· rw [h] at hk; have h9 := Option.some.inj hk; have h8 := HXX.out.size; omega)); obtain ⟨a8, c8, rfl, _, _, _⟩ := own_shape hown8; have z8 := fun k => cell_of_row _ _ k _ _ _ HC8.out; have f8 := fun k => frozen_of_row _ _ k _ _ HC8.out; have l8 := (Array.getElem?_eq_some_iff.1 HC8.out).1; clear hown8 hgrow8 hiff8 hloc8)
          obtain ⟨PRE, hPRE⟩ : ∃ P, P = fpL σ.G xs j ++ [k0, a0, b0] := ⟨_, rfl⟩
          have HPP : Hid (PRE ++ fpG σ.G a0 j = fpL σ.G xs (j + 1)) := by rw [hPRE, HLS.out, ← HSM.out, List.append_assoc]; exact Lib.hid rfl
          have HPN : Hid (PRE.length = (m0 + 1) * 3) := by rw [hPRE, List.length_append, HLN.out]; exact Lib.hid (by simp; omega)
          rw [← hPRE] at HO8
          have HPO := Lib.hid (own_set HO8.out (p := ⟨w4.heap.size, 1, none⟩) (by show w4.heap.size < w5.heap.size; omega) (.slice a8 (m0 + 1) c8))
          have HPC := Lib.hid (heap_set_at HC8.out 1 (.slice a8 (m0 + 1) c8))
          have HPG := Lib.hid (heap_set_ne (p := ⟨w4.heap.size, 1, none⟩) (u := .slice a8 (m0 + 1) c8) (by show wO.heap.size ≠ w4.heap.size; omega) HG8.out)
          have HPX := Lib.hid (HE8.out.setCell (p := ⟨w4.heap.size, 1, none⟩) (Nat.le_refl _) (.slice a8 (m0 + 1) c8))
          obtain ⟨mp, hmp⟩ : ∃ mp, mp = m0 + 1 := ⟨_, rfl⟩
          have hmp2 : mp ≤ j * 1000 + 1 := by omega
          have hmle : m0 + 1 ≤ mp := by omega
          clear hmp
          clear hPRE HSM HC6 HG6 HO6 HC8 HG8 HE8 HO8 z8 f8 l8
        all_goals
          go_wp2_with fail
          go_loopw [12, 51] (fun _ u51 wr => ∃ (i m : Nat) (va : Value), i ≤ σ.G.length ∧ u51 = .int .i64 i ∧ m ≤ mp + i * 2 ∧ Hid ((PRE ++ fpG (σ.G.take i) a0 j).length = m * 3) ∧ Hid (wr.heap[w4.heap.size]? = some (.cells #[.int .i64 Q', va] 25 (0, 0))) ∧ Hid (wr.ownsRow w5.heap.size 47 3 va m (IL (PRE ++ fpG (σ.G.take i) a0 j))) ∧ Hid (wr.heap[wO.heap.size]? = some (.cells #[.int .i64 k0, .int .i64 a0, .int .i64 b0] 47 (0, 0))) ∧ Hid (∀ k, va.ownBlock = some k → k ≠ wO.heap.size) ∧ Ext w4 wr) (fun _ u51 _ => σ.G.length - (intOf u51).toNat)
          case atStart => exact ⟨0, _, _, by omega, rfl, by omega, by rw [show fpG (σ.G.take 0) a0 j = [] from rfl, List.append_nil]; exact HPN, HPC, by rw [show fpG (σ.G.take 0) a0 j = [] from rfl, List.append_nil]; exact HPO, HPG, HPB, HPX.out⟩
          case round =>
            obtain ⟨i, m, va, hi, rfl, hmi, HLNi, HCi, HOi, HGi, HBi, hE⟩ := hrel
            have HEi := Lib.hid hE
            obtain ⟨av, cv, rfl, _, _, _⟩ := own_shape HOi.out
            have hlGi := (Array.getElem?_eq_some_iff.1 HGi.out).1
            by_cases hil : i < σ.G.length
            · have hil' : (i : Int) < σ.G.length := by omega
              obtain ⟨_, _, eo, _, _, ho3⟩ := own_shape (own_ext HOV.out hE)
              injection eo with eo1 _ eo3
              subst eo1 eo3
              obtain ⟨Bo, rfl, ho1, ho2, ho4, _⟩ := ho3 (by omega)
              have y0 := ho4 _ _ (FC_at hil).1
              have y1 := ho4 _ _ (FC_at hil).2
              have HTK := Lib.hid (fpG_take (a := a0) (j := j) hil)
              have hc8 := (HI.out.gt i hil).2.1
              clear ho3 ho4
              generalize gAt σ.G i = g at *
              obtain ⟨TT, hTT⟩ : ∃ T, T = PRE ++ fpG (σ.G.take i) a0 j := ⟨_, rfl⟩
              have HTS : Hid (PRE ++ fpG (σ.G.take (i + 1)) a0 j = TT ++ (if g.t = j then rotL a0 g.c else [])) := by rw [HTK.out, hTT, List.append_assoc]; exact Lib.hid rfl
              rw [← hTT] at HLNi HOi
              obtain ⟨wf, hwf⟩ : ∃ x, x = wr.alloc (.cells #[.int .i64 g.t, .int .i64 g.c] 34 (0, 0)) := ⟨_, rfl⟩
              have HXf : Hid (Ext wr wf) := by rw [hwf]; exact Lib.hid ((Ext.refl _).alloc _)
              have HFf : Hid (wf.heap[wr.heap.size]? = some (.cells #[.int .i64 g.t, .int .i64 g.c] 34 (0, 0))) := by rw [hwf]; exact Lib.hid (heap_alloc_new _ _)
              have hf1 : wf.heap.size = wr.heap.size + 1 := by rw [hwf]; simp
              have HCf := Lib.hid (row_farM HCi.out HXf.out)
              have HGf := Lib.hid (row_farM HGi.out HXf.out)
              have HOf := Lib.hid (own_ext HOi.out HXf.out)
              have HEf := Lib.hid (HEi.out.trans HXf.out)
              have zFf := fun k => cell_of_row _ _ k _ _ _ HFf.out
              have lFf := (Array.getElem?_eq_some_iff.1 HFf.out).1
              clear hE hTT HTK
              go_upto_region 15 with fail
              rw [← hwf]
              clear hwf y0 y1
              by_cases ht : g.t = j
              · have HTE : Hid (PRE ++ fpG (σ.G.take (i + 1)) a0 j = TT ++ rotL a0 g.c) := by rw [HTS.out, if_pos ht]; exact Lib.hid rfl
                have HRO := fun W => Lib.hid (s_rotation_any a0 g.c hc8 W)
                have HRL := Lib.hid (rotL_len a0 g.c)
                have hr2 := rotK_len g.c
                have HBo : Hid (∀ k, (Value.slice av m cv).ownBlock = some k → (w5.heap.size ≤ k ∧ k < wr.heap.size) ∧ k ≠ wO.heap.size) := Lib.hid (fun k hk => ⟨HOi.out.lt k hk, HBi.out k hk⟩)
                have lGf := (Array.getElem?_eq_some_iff.1 HGf.out).1
                have lBf := (Array.getElem?_eq_some_iff.1 HCf.out).1
                have zBf : wf.cell? ⟨w4.heap.size, 1, none⟩ = some (.slice av m cv) := cell_of_row _ _ 1 _ _ _ HCf.out
                have HK : Hid (∀ W, Ext wf W → W.cell? ⟨wO.heap.size, 1, none⟩ = some (.int .i64 a0) ∧ W.cell? ⟨wr.heap.size, 1, none⟩ = some (.int .i64 g.c)) := Lib.hid (fun W hX => ⟨(hX.cells.1 _ 1 lGf).trans (cell_of_row _ _ 1 _ _ _ HGf.out), (hX.cells.1 _ 1 lFf).trans (zFf 1)⟩)
                generalize rotL a0 g.c = LR at *
                generalize (rotK g.c).length = lr at *
                have htj : ((g.t : Int) == (j : Int)) = true := by simp [ht]
                have htj2 : (g.t : Int) = (j : Int) := by omega
                clear ht HTS
                go_upto_region 16 with fail
                clear htj htj2 zFf
                refine wp_region_held_drew (S := (fun W => W.cell? ⟨wO.heap.size, 1, none⟩ = some (.int .i64 a0) ∧ W.cell? ⟨wr.heap.size, 1, none⟩ = some (.int .i64 g.c))) (by kernel_rfl) ?_ (fun hHeld => ?_)
                focus
                  exact HK.out _ (by repeat (first | (with_reducible refine Ext.setCell ?_ (by first | (simp; done) | (simp; omega)) _) | with_reducible refine Ext.alloc ?_ _ | with_reducible refine Ext.drew ?_ | with_reducible refine Ext.drewN ?_ _ | with_reducible assumption | with_reducible exact Ext.refl _ | with_reducible refine Ext.trans ?_ (by with_reducible assumption)))
                refine wpAnyH_take (i := 0) (v := ?_) rfl (by kernel_rfl) (by kernel_rfl) (by kernel_rfl) (fun _ _ _ h => h) (Or.inl ⟨by rfl, ?_⟩) (by assumption) ?_
                rotate_left
                focus
                  intro W hSw
                  try dsimp only at hSw
                  go_simp
                  try with_reducible rfl
                try simp only [Act.put, List.setIfInBounds_toArray, List.set_cons_zero, List.set_cons_succ]
                refine wpAnyH_take (i := 2) (v := ?_) rfl (by kernel_rfl) (by kernel_rfl) (by kernel_rfl) (fun _ _ _ h => h) (Or.inl ⟨by rfl, ?_⟩) (by assumption) ?_
                rotate_left
                focus
                  intro W hSw
                  try dsimp only at hSw
                  go_simp
                  try with_reducible rfl
                try simp only [Act.put, List.setIfInBounds_toArray, List.set_cons_zero, List.set_cons_succ]
                refine wpAnyH_take (i := 3) (v := ?_) rfl (by kernel_rfl) (by kernel_rfl) (by kernel_rfl) (fun _ _ _ h => h) (Or.inl ⟨by rfl, ?_⟩) (by assumption) ?_
                rotate_left
                focus
                  intro W hSw
                  try dsimp only at hSw
                  go_simp
                  try with_reducible rfl
                try simp only [Act.put, List.setIfInBounds_toArray, List.set_cons_zero, List.set_cons_succ]
                refine wpAnyH_take (i := 4) (v := ?_) rfl (by kernel_rfl) (by kernel_rfl) (by kernel_rfl) (fun _ _ _ h => h) (Or.inl ⟨by rfl, ?_⟩) (by assumption) ?_
                rotate_left
                focus
                  intro W hSw
                  try dsimp only at hSw
                  go_simp
                  try with_reducible rfl
                try simp only [Act.put, List.setIfInBounds_toArray, List.set_cons_zero, List.set_cons_succ]
                refine wpAnyH_take (i := 5) (v := ?_) rfl (by kernel_rfl) (by kernel_rfl) (by kernel_rfl) (fun _ _ _ h => h) (Or.inl ⟨by rfl, ?_⟩) (by assumption) ?_
                rotate_left
                focus
                  intro W hSw
                  try dsimp only at hSw
                  go_simp
                  try with_reducible rfl
                try simp only [Act.put, List.setIfInBounds_toArray, List.set_cons_zero, List.set_cons_succ]
                refine wpAnyH_ready (rs := [1, 6]) (by kernel_rfl) (by simp) ?_
                refine AllReadyH.cons rfl (fun K hK => ?_) ?_
                focus
                  go_simp
                  refine hK.out _ _ ?_ (fun hHeld => ?_)
                  focus
                    exact HK.out _ (by repeat (first | (with_reducible refine Ext.setCell ?_ (by first | (simp; done) | (simp; omega)) _) | with_reducible refine Ext.alloc ?_ _ | with_reducible refine Ext.drew ?_ | with_reducible refine Ext.drewN ?_ _ | with_reducible assumption | with_reducible exact Ext.refl _ | with_reducible refine Ext.trans ?_ (by with_reducible assumption)))
                  clear hK K
                  refine wpAnyH_ready (rs := [6]) (by kernel_rfl) (by simp) ?_
                  refine AllReadyH.cons rfl (fun K hK => ?_) AllReadyH.nil
                  go_simp
                  go_wp2_with (go_at_call 30; (with_reducible refine Calls.mono (HRO _).out ?_); rintro e w7 ⟨v7, rfl, o7, hx7⟩; have O7 := Lib.hid o7; obtain ⟨a7, c7, rfl, _, _, _⟩ := own_shape o7; clear o7; have hxf7 : Ext wf w7 := (by repeat (first | (with_reducible refine Ext.setCell ?_ (by first | (simp; done) | (simp; omega)) _) | with_reducible refine Ext.alloc ?_ _ | with_reducible refine Ext.drew ?_ | with_reducible refine Ext.drewN ?_ _ | with_reducible assumption | with_reducible exact Ext.refl _ | with_reducible refine Ext.trans ?_ (by with_reducible assumption))); have hz7 := hxf7.size; have zB7 := (hxf7.cells.1 _ 1 lBf).trans zBf)
                  refine hK.out _ _ ?_ (fun hHeld => ?_)
                  focus
                    exact HK.out _ hxf7
                  clear hK K
                  refine wpAnyH_ready (rs := [7]) (by kernel_rfl) (by simp) ?_
                  refine AllReadyH.cons rfl (fun K hK => ?_) AllReadyH.nil
                  refine step_append_rvt (base := w5.heap.size) rfl elt_FG rfl (.slice av m cv) m TT rfl ?_ (.slice a7 lr c7) lr LR rfl ?_ ?_ ?_ ?_
                  · exact own_ext HOf.out hxf7
                  · exact RV.own O7.out HRL.out
                  · omega
                  · omega
                  intro v8 w8 hown8 hgrow8 hiff8 hloc8
                  have HK8 : Hid (w8.cell? ⟨wO.heap.size, 1, none⟩ = some (.int .i64 a0) ∧ w8.cell? ⟨wr.heap.size, 1, none⟩ = some (.int .i64 g.c)) := Lib.hid ⟨(hgrow8.cell_far ⟨wO.heap.size, 1, none⟩ (by show wO.heap.size < w7.heap.size; omega) (fun e => by have h9 := (HBo.out _ e.symm).2; exact h9 rfl)).trans (HK.out w7 hxf7).1, (hgrow8.cell_far ⟨wr.heap.size, 1, none⟩ (by show wr.heap.size < w7.heap.size; omega) (fun e => by have h9 := (HBo.out _ e.symm).1.2; have h8 : wr.heap.size < wr.heap.size := h9; omega)).trans (HK.out w7 hxf7).2⟩
                  have HC8 := Lib.hid (heap_grown hgrow8 (k := w4.heap.size) (row_farM HCf.out hxf7) (fun e => by have h9 := (HBo.out _ e.symm).1.1; omega))
                  have HG8 := Lib.hid (heap_grown hgrow8 (k := wO.heap.size) (row_farM HGf.out hxf7) (fun e => (HBo.out _ e.symm).2 rfl))
                  have HE8 : Hid (Ext w4 w8) := Lib.hid (Ext.grown (HEf.out.trans hxf7) hgrow8 (fun k hk => by have h9 := (HBo.out k hk).1.1; omega))
                  have HO8 := Lib.hid hown8
                  have HPB8 : Hid (∀ k, v8.ownBlock = some k → k ≠ wO.heap.size) := Lib.hid (fun k hk => by rcases hloc8 with h | h; (· rw [h] at hk; exact (HBo.out k hk).2); (· rw [h] at hk; have h9 := Option.some.inj hk; omega))
                  obtain ⟨a8, c8, rfl, _, _, _⟩ := own_shape hown8
                  have z8 := fun k => cell_of_row _ _ k _ _ _ HC8.out
                  have f8 := fun k => frozen_of_row _ _ k _ _ HC8.out
                  have l8 := (Array.getElem?_eq_some_iff.1 HC8.out).1
                  have HK9 := Lib.hid (fun (u : Value) => (⟨(World.cell?_setCell_far _ _ _ _ (by show w4.heap.size ≠ wO.heap.size; omega)).trans HK8.out.1, (World.cell?_setCell_far _ _ _ _ (by show w4.heap.size ≠ wr.heap.size; omega)).trans HK8.out.2⟩ : (w8.setCell ⟨w4.heap.size, 1, none⟩ u).cell? ⟨wO.heap.size, 1, none⟩ = some (.int .i64 a0) ∧ (w8.setCell ⟨w4.heap.size, 1, none⟩ u).cell? ⟨wr.heap.size, 1, none⟩ = some (.int .i64 g.c)))
                  clear hown8 hgrow8 hiff8 hloc8
                  try go_simp
                  refine hK.out _ _ ?_ (fun hHeld => ?_)
                  focus
                    exact HK8.out
                  clear hK K
                  refine wpAnyH_take (i := 8) (v := ?_) rfl (by kernel_rfl) (by kernel_rfl) (by kernel_rfl) (fun _ _ _ h => h) (Or.inl ⟨by rfl, ?_⟩) (by assumption) ?_
                  rotate_left
                  focus
                    intro W hSw
                    try dsimp only at hSw
                    go_simp
                    try with_reducible rfl
                  try simp only [Act.put, List.setIfInBounds_toArray, List.set_cons_zero, List.set_cons_succ]
                  refine wpAnyH_ready (rs := [9]) (by kernel_rfl) (by simp) ?_
                  refine AllReadyH.cons rfl (fun K hK => ?_) AllReadyH.nil
                  go_simp
                  refine hK.out _ _ ?_ (fun hHeld => ?_)
                  focus
                    exact HK9.out _
                  clear hK K
                  refine wpAnyH_done (by kernel_rfl) ?_ _
                rotate_left
                refine AllReadyH.cons rfl (fun K hK => ?_) AllReadyH.nil
                focus
                  go_simp
                  go_wp2_with (go_at_call 30; (with_reducible refine Calls.mono (HRO _).out ?_); rintro e w7 ⟨v7, rfl, o7, hx7⟩; have O7 := Lib.hid o7; obtain ⟨a7, c7, rfl, _, _, _⟩ := own_shape o7; clear o7; have hxf7 : Ext wf w7 := (by repeat (first | (with_reducible refine Ext.setCell ?_ (by first | (simp; done) | (simp; omega)) _) | with_reducible refine Ext.alloc ?_ _ | with_reducible refine Ext.drew ?_ | with_reducible refine Ext.drewN ?_ _ | with_reducible assumption | with_reducible exact Ext.refl _ | with_reducible refine Ext.trans ?_ (by with_reducible assumption))); have hz7 := hxf7.size; have zB7 := (hxf7.cells.1 _ 1 lBf).trans zBf)
                  refine hK.out _ _ ?_ (fun hHeld => ?_)
                  focus
                    exact HK.out _ hxf7
                  clear hK K
                  refine wpAnyH_ready (rs := [1]) (by kernel_rfl) (by simp) ?_
                  refine AllReadyH.cons rfl (fun K hK => ?_) AllReadyH.nil
                  go_simp
                  refine hK.out _ _ ?_ (fun hHeld => ?_)
                  focus
                    exact HK.out _ hxf7
                  clear hK K
                  refine wpAnyH_ready (rs := [7]) (by kernel_rfl) (by simp) ?_
                  refine AllReadyH.cons rfl (fun K hK => ?_) AllReadyH.nil
                  refine step_append_rvt (base := w5.heap.size) rfl elt_FG rfl (.slice av m cv) m TT rfl ?_ (.slice a7 lr c7) lr LR rfl ?_ ?_ ?_ ?_
                  · exact own_ext HOf.out hxf7
                  · exact RV.own O7.out HRL.out
                  · omega
                  · omega
                  intro v8 w8 hown8 hgrow8 hiff8 hloc8
                  have HK8 : Hid (w8.cell? ⟨wO.heap.size, 1, none⟩ = some (.int .i64 a0) ∧ w8.cell? ⟨wr.heap.size, 1, none⟩ = some (.int .i64 g.c)) := Lib.hid ⟨(hgrow8.cell_far ⟨wO.heap.size, 1, none⟩ (by show wO.heap.size < w7.heap.size; omega) (fun e => by have h9 := (HBo.out _ e.symm).2; exact h9 rfl)).trans (HK.out w7 hxf7).1, (hgrow8.cell_far ⟨wr.heap.size, 1, none⟩ (by show wr.heap.size < w7.heap.size; omega) (fun e => by have h9 := (HBo.out _ e.symm).1.2; have h8 : wr.heap.size < wr.heap.size := h9; omega)).trans (HK.out w7 hxf7).2⟩
                  have HC8 := Lib.hid (heap_grown hgrow8 (k := w4.heap.size) (row_farM HCf.out hxf7) (fun e => by have h9 := (HBo.out _ e.symm).1.1; omega))
                  have HG8 := Lib.hid (heap_grown hgrow8 (k := wO.heap.size) (row_farM HGf.out hxf7) (fun e => (HBo.out _ e.symm).2 rfl))
                  have HE8 : Hid (Ext w4 w8) := Lib.hid (Ext.grown (HEf.out.trans hxf7) hgrow8 (fun k hk => by have h9 := (HBo.out k hk).1.1; omega))
                  have HO8 := Lib.hid hown8
                  have HPB8 : Hid (∀ k, v8.ownBlock = some k → k ≠ wO.heap.size) := Lib.hid (fun k hk => by rcases hloc8 with h | h; (· rw [h] at hk; exact (HBo.out k hk).2); (· rw [h] at hk; have h9 := Option.some.inj hk; omega))
                  obtain ⟨a8, c8, rfl, _, _, _⟩ := own_shape hown8
                  have z8 := fun k => cell_of_row _ _ k _ _ _ HC8.out
                  have f8 := fun k => frozen_of_row _ _ k _ _ HC8.out
                  have l8 := (Array.getElem?_eq_some_iff.1 HC8.out).1
                  have HK9 := Lib.hid (fun (u : Value) => (⟨(World.cell?_setCell_far _ _ _ _ (by show w4.heap.size ≠ wO.heap.size; omega)).trans HK8.out.1, (World.cell?_setCell_far _ _ _ _ (by show w4.heap.size ≠ wr.heap.size; omega)).trans HK8.out.2⟩ : (w8.setCell ⟨w4.heap.size, 1, none⟩ u).cell? ⟨wO.heap.size, 1, none⟩ = some (.int .i64 a0) ∧ (w8.setCell ⟨w4.heap.size, 1, none⟩ u).cell? ⟨wr.heap.size, 1, none⟩ = some (.int .i64 g.c)))
                  clear hown8 hgrow8 hiff8 hloc8
                  try go_simp
                  refine hK.out _ _ ?_ (fun hHeld => ?_)
                  focus
                    exact HK8.out
                  clear hK K
                  refine wpAnyH_take (i := 8) (v := ?_) rfl (by kernel_rfl) (by kernel_rfl) (by kernel_rfl) (fun _ _ _ h => h) (Or.inl ⟨by rfl, ?_⟩) (by assumption) ?_
                  rotate_left
                  focus
                    intro W hSw
                    try dsimp only at hSw
                    go_simp
                    try with_reducible rfl
                  try simp only [Act.put, List.setIfInBounds_toArray, List.set_cons_zero, List.set_cons_succ]
                  refine wpAnyH_ready (rs := [9]) (by kernel_rfl) (by simp) ?_
                  refine AllReadyH.cons rfl (fun K hK => ?_) AllReadyH.nil
                  go_simp
                  refine hK.out _ _ ?_ (fun hHeld => ?_)
                  focus
                    exact HK9.out _
                  clear hK K
                  refine wpAnyH_done (by kernel_rfl) ?_ _
                all_goals
                  have HN8 : Hid ((PRE ++ fpG (σ.G.take (i + 1)) a0 j).length = (m + lr) * 3) := by rw [HTE.out, List.length_append, HLNi.out, HRL.out]; exact Lib.hid (by omega)
                  rw [il_append] at HO8
                  have HO9 := Lib.hid (own_set HO8.out (p := ⟨w4.heap.size, 1, none⟩) (by show w4.heap.size < w5.heap.size; omega) (.slice a8 (m + lr) c8))
                  rw [← il_append, ← HTE.out] at HO9
                  have HC9 := Lib.hid (heap_set_at HC8.out 1 (.slice a8 (m + lr) c8))
                  have HG9 := Lib.hid (heap_set_ne (p := ⟨w4.heap.size, 1, none⟩) (u := .slice a8 (m + lr) c8) (by show wO.heap.size ≠ w4.heap.size; omega) HG8.out)
                  have HE9 := Lib.hid (HE8.out.setCell (p := ⟨w4.heap.size, 1, none⟩) (Nat.le_refl _) (.slice a8 (m + lr) c8))
                  go_wp2
                  go_roundw
                  case rel => exact ⟨i + 1, m + lr, _, by omega, by go_num, by omega, HN8, HC9, HO9, HG9, HPB8, HE9.out⟩
                  case measure => simp [intOf]; omega
              · have HTE : Hid (PRE ++ fpG (σ.G.take (i + 1)) a0 j = TT) := by rw [HTS.out, if_neg ht, List.append_nil]; exact Lib.hid rfl
                have htj : ((g.t : Int) == (j : Int)) = false := by simp; omega
                have htj2 : (g.t : Int) ≠ (j : Int) := by omega
                clear ht HTS
                go_wp2_with fail
                go_roundw
                case rel => exact ⟨i + 1, m, _, by omega, by go_num, by omega, by rw [HTE.out]; exact HLNi, HCf, by rw [HTE.out]; exact HOf, HGf, HBi, HEf.out⟩
                case measure => simp [intOf]; omega
            · obtain rfl : i = σ.G.length := by omega
              rw [List.take_length, HPP.out] at HLNi HOi
              clear hE
              go_wp2_with fail
              go_roundw
              case rel => exact ⟨j + 1, m, _, by omega, by go_num, by omega, HLNi, HCi, HOi, HEi.out⟩
              case measure => simp [intOf]; omega
      · obtain rfl : j = n := by omega
        go_wp2_with fail
        go_loopw [5] (fun u5 wr => ∃ (r m : Nat) (va : Value), r ≤ σ.s ∧ u5 = .int .i64 r ∧ m ≤ j * 1000 + 8 ∧ Hid ((fpL σ.G xs j ++ phL (σ.s - r)).length = m * 3) ∧ Hid (wr.heap[w4.heap.size]? = some (.cells #[.int .i64 Q', va] 25 (0, 0))) ∧ Hid (wr.ownsRow w5.heap.size 47 3 va m (IL (fpL σ.G xs j ++ phL (σ.s - r)))) ∧ Ext w4 wr) (fun u5 _ => (intOf u5).toNat)
        case atStart => exact ⟨σ.s, m0, _, by omega, rfl, by omega, by rw [Nat.sub_self, show phL 0 = [] from rfl, List.append_nil]; exact HLN, HC, by rw [Nat.sub_self, show phL 0 = [] from rfl, List.append_nil]; exact HO, HE.out⟩
        case round =>
          clear HC HO HLN hE HE zCO fCO lCO
          obtain ⟨r, m, va, hr, rfl, hm1, HLN, HC, HO, hE⟩ := hrel
          have HE := Lib.hid hE
          obtain ⟨av, cv, rfl, _, _, _⟩ := own_shape HO.out
          have zC := fun k => cell_of_row _ _ k _ _ _ HC.out
          have lC := (Array.getElem?_eq_some_iff.1 HC.out).1
          have hsE := hE.size
          clear hE
          by_cases hr0 : 0 < r
          · have hr1 : (0 : Int) < (r : Int) := by omega
            have hPS : Hid (fpL σ.G xs j ++ phL (σ.s - (r - 1)) = (fpL σ.G xs j ++ phL (σ.s - r)) ++ [12, 0, 0]) := by
              rw [show σ.s - (r - 1) = (σ.s - r) + 1 by omega, List.append_assoc]
              exact Lib.hid rfl
            obtain ⟨TT, hTT⟩ : ∃ T, T = fpL σ.G xs j ++ phL (σ.s - r) := ⟨_, rfl⟩
            rw [← hTT] at HLN HO hPS
            have hxx := (Ext.refl wr).alloc (.cells #[.int .i64 12, .int .i64 0, .int .i64 0] 47 (0, 0))
            have HXX := Lib.hid hxx
            have HO7 := Lib.hid (own_ext HO.out hxx)
            have HM7 := Lib.hid (heap_alloc_new wr (.cells #[.int .i64 12, .int .i64 0, .int .i64 0] 47 (0, 0)))
            have hb7 : w5.heap.size ≤ (wr.alloc (.cells #[.int .i64 12, .int .i64 0, .int .i64 0] 47 (0, 0))).heap.size := by have := hxx.size; omega
            have HBk := Lib.hid (fun k (hk : (Value.slice av m cv).ownBlock = some k) => HO.out.lt k hk)
            clear hxx hTT
            go_upto_region 20 with (at_builtin; go_loud (refine wpList_append_rvt (base := w5.heap.size) rfl elt_FG rfl (.slice av m cv) m TT rfl HO7.out _ 1 [12, 0, 0] rfl (rv_heap HM7.out rfl rfl (by omega) (by decide)) (by omega) hb7 ?_); intro v8 w8 hown8 hgrow8 hiff8 hloc8; have HC8 := Lib.hid (heap_grown hgrow8 (k := w4.heap.size) (row_farM HC.out HXX.out) (fun e => by have h9 := (HBk.out _ e.symm).1; omega)); have HE8 := Lib.hid (Ext.grown (HE.out.trans HXX.out) hgrow8 (fun k hk => by have h9 := (HBk.out k hk).1; omega)); have HO8 := Lib.hid hown8; obtain ⟨a8, c8, rfl, _, _, _⟩ := own_shape hown8; have z8 := fun k => cell_of_row _ _ k _ _ _ HC8.out; have f8 := fun k => frozen_of_row _ _ k _ _ HC8.out; have l8 := (Array.getElem?_eq_some_iff.1 HC8.out).1; clear hown8 hgrow8 hiff8 hloc8)
            have HN9 : Hid ((fpL σ.G xs j ++ phL (σ.s - (r - 1))).length = (m + 1) * 3) := by rw [hPS.out, List.length_append, HLN.out]; exact Lib.hid (by simp; omega)
            rw [← hPS.out] at HO8
            have HO9 := Lib.hid (own_set HO8.out (p := ⟨w4.heap.size, 1, none⟩) (by show w4.heap.size < w5.heap.size; omega) (.slice a8 (m + 1) c8))
            have HC9 := Lib.hid (heap_set_at HC8.out 1 (.slice a8 (m + 1) c8))
            have HE9 := Lib.hid (HE8.out.setCell (p := ⟨w4.heap.size, 1, none⟩) (Nat.le_refl _) (.slice a8 (m + 1) c8))
            have hm9 : m + 1 ≤ j * 1000 + 8 := by
              have h1 := HTL.out
              have h2 := HN9.out
              have h3 := fpL_len σ.G xs j
              obtain ⟨m3, h4, h5⟩ := h3
              rw [List.length_append, h5, phL_len] at h2
              omega
            go_wp2
            go_roundw
            case rel => exact ⟨r - 1, m + 1, _, by omega, by go_num, hm9, HN9, HC9, HO9, HE9.out⟩
            case measure => simp [intOf]; omega
          · obtain rfl : r = 0 := by omega
            rw [Nat.sub_zero, ← HFT.out] at HLN HO
            have hmM : m = fpM Q' xs j := by
              have h1 := HTL.out
              rw [HLN.out] at h1
              omega
            have hr4' := Lib.hid (row_farM hr4.out HE.out)
            have zr9 := fun k => cell_of_row _ _ k _ _ _ hr4'.out
            have fr9 := fun k => frozen_of_row _ _ k _ _ hr4'.out
            have lr9 := (Array.getElem?_eq_some_iff.1 hr4'.out).1
            have HX9 := Lib.hid (HX4.out.trans HE.out)
            by_cases hm4 : m ≤ 400
            · have hok : fOk Q' xs j = true := by rw [HFO.out, ← hmM]; simpa using hm4
              have Hok := Lib.hid hok
              have HQ := Lib.hid (HFQ.out hok)
              have HMM := Lib.hid hmM
              have hm4' : ¬ (400 : Int) < (m : Int) := by omega
              clear hok hmM
              go_wp2_with fail
              refine bodyPost_ret (v := .tuple #[.agg #[.int .i64 Q', .slice av m cv], .bool true]) (by simp [results, Try.results7, go_sem, *]) rfl ?_
              refine ⟨.slice av m cv, ?_, ?_, (HX9.out.setCell hw0 _).setCell hw0 _⟩
              · rw [HQ.out.1, Hok.out]
              · rw [HQ.out.2.1, HQ.out.2.2, ← HMM.out]
                exact own_base (own_set (own_set HO.out (by show w.heap.size + 1 < w5.heap.size; omega) _) (by show w.heap.size + 1 < w5.heap.size; omega) _) (by omega)
            · have hok : fOk Q' xs j = false := by rw [HFO.out, ← hmM]; simpa using hm4
              have N0 := Lib.hid hok
              obtain ⟨n1, n3, n4⟩ := HNO.out hok
              have N1 := Lib.hid n1
              have N3 := Lib.hid n3
              have N4 := Lib.hid n4
              have hm4' : (400 : Int) < (m : Int) := by omega
              clear n1 n3 n4 hok hmM
              go_wp2_with fail
              refine bodyPost_ret (v := .tuple #[.agg #[.int .i64 0, .slice none 0 0], .bool false]) (by simp [results, Try.results7, go_sem, *]) rfl ?_
              refine ⟨.slice none 0 0, ?_, ?_, (HX9.out.setCell hw0 _).setCell hw0 _⟩
              · rw [N1.out, N0.out]
              · rw [N3.out, N4.out]; exact own_nil _ _ _ _

end Go.Proofs.Ytbddgeoaaklgpaa
