/- The reference's sorted circuit (l24Foata, FoataOf, SameTrace). -/
import Derived.Test.YtbddgeoaaklgpaaTrT
namespace Go.Proofs.Ytbddgeoaaklgpaa
open Go.RowKit Go.Lib
set_option linter.unusedVariables false
set_option linter.unusedSimpArgs false

/-- the keys of the first j gates -/
def kfL (xs : List Int) : Nat → List Int
  | 0 => []
  | j + 1 => kfL xs j ++ [(tkey (lyA xs j, gN xs j) : Int)]
theorem kfL_len (xs : List Int) : ∀ n, (kfL xs n).length = n
  | 0 => rfl
  | n + 1 => by
    show (kfL xs n ++ _).length = _
    rw [List.length_append, kfL_len xs n]
    rfl
theorem kfL_at {xs : List Int} : ∀ {n j : Nat}, j < n → at3 (kfL xs n) j = tkey (lyA xs j, gN xs j)
  | n + 1, j, h => by
    show at3 (kfL xs n ++ [(tkey (lyA xs n, gN xs n) : Int)]) j = _
    unfold at3
    rw [List.getD_eq_getElem?_getD]
    by_cases hj : j < n
    · rw [List.getElem?_append_left (by rw [kfL_len]; exact hj), ← List.getD_eq_getElem?_getD]
      exact kfL_at hj
    · obtain rfl : j = n := by omega
      rw [List.getElem?_append_right (by rw [kfL_len]; omega), kfL_len, Nat.sub_self]
      rfl
theorem lyL_drop {xs : List Int} {m j : Nat} (h : j < m) : (lyL xs m).drop j = (lyA xs j : Int) :: (lyL xs m).drop (j + 1) := by
  rw [List.drop_eq_getElem_cons (by rw [lyL_len]; exact h)]
  congr 1
  have := lyL_at (xs := xs) h
  unfold at3 at this
  rw [List.getD_eq_getElem?_getD, List.getElem?_eq_getElem (by rw [lyL_len]; exact h)] at this
  exact this

set_option maxRecDepth 20000 in
set_option maxHeartbeats 8000000 in
theorem l24Foata_any (q : Nat) {v : Value} {m : Nat} {xs : List Int} (hc : cOk q xs m = true) (w : World) (h : RV w 3 v m xs) :
    Calls Try.prog 42 #[.agg #[.int .i64 q, v]] w fun e w' => ∃ v', e = .returned (.agg #[.int .i64 q, v']) ∧ w'.ownsRow w.heap.size 47 3 v' m (IL (tfl (tF (clG xs m)))) ∧ Ext w w' := by
  have HLY := fun w' (hx : Ext w w') => Lib.hid (l24Layers_any q hc w' (h.ext hx))
  have HSO := fun (v2 : Value) w' (hx : Ext w w') (h2 : RV w' 1 v2 m (kfL xs m)) => Lib.hid (l24Sort_any q hc w' (h.ext hx) h2 (fun j hj => kfL_at hj))
  have hm := (cOk_q1 hc).2.2
  have HKY : Hid (∀ i, i < m → (tkey (lyA xs i, gN xs i) : Int) = (lyA xs i : Int) * 5 + at3 xs (i * 3 + 1) ∧ 0 ≤ at3 xs (i * 3 + 1) ∧ at3 xs (i * 3 + 1) < 5) := Lib.hid (fun i hi => by
    have f := gOk_facts (cOk_gate hc hi) (cOk_q1 hc).1
    have q1 := cOk_q1 hc
    have e : (gN xs i).2.1 = (at3 xs (i * 3 + 1)).toNat := rfl
    unfold tkey
    simp only
    omega)
  obtain ⟨hl, a, cap, rfl, c1, c2, H⟩ := h
  have HH := Lib.hid H
  have HL := Lib.hid hl
  clear H hl hc
  obtain ⟨W1, hW1⟩ : ∃ W1, W1 = (w.alloc (.cells #[.int .i64 q, .slice a m cap] 25 (0, 0))).alloc (.cells #[.int .i64 0, .slice none 0 0] 25 (0, 0)) := ⟨_, rfl⟩
  have HB0 : Hid (W1.heap[w.heap.size]? = some (.cells #[.int .i64 q, .slice a m cap] 25 (0, 0))) := by rw [hW1]; exact heap_alloc_lt (heap_alloc_new _ _)
  have HBR : Hid (W1.heap[w.heap.size + 1]? = some (.cells #[.int .i64 0, .slice none 0 0] 25 (0, 0))) := by rw [hW1]; exact heap_alloc_at _ _ _ (by simp)
  have HE0 : Hid (Ext w W1) := by rw [hW1]; exact ((Ext.refl w).alloc _).alloc _
  have hs0 : w.heap.size + 1 < W1.heap.size := by rw [hW1]; simp
  have z0 := fun k => cell_of_row _ _ k _ _ _ HB0.out
  have l0 := (Array.getElem?_eq_some_iff.1 HB0.out).1
  go_enter Try.func42, Try.ntmps42
  go_upto_region 1 with fail
  rw [← hW1]
  clear hW1
  go_wp2_with fail
  refine (HLY _ HE0.out).out.mono ?_
  rintro e w2 ⟨vb, rfl, ho, hx2⟩
  clear z0 l0
  have HX2 := Lib.hid hx2
  obtain ⟨ab, cb, rfl, hb1, hb2, _⟩ := own_shape ho
  have hbx := (HX2.out.heap (Nat.lt_trans (Nat.lt_succ_self _) hs0)).trans HB0.out
  have z0 := fun k => cell_of_row _ _ k _ _ _ hbx
  have l0 := (Array.getElem?_eq_some_iff.1 hbx).1
  have HO2 : Hid (w2.ownsRow W1.heap.size 3 1 (.slice ab m cb) m (IL (kfL xs 0 ++ (lyL xs m).drop 0))) := Lib.hid (by simpa [kfL] using ho)
  clear ho hbx hx2
  go_wp2
  go_loopw [11] (fun i wr => ∃ j : Nat, j ≤ m ∧ i = .int .i64 j ∧ Hid (wr.ownsRow W1.heap.size 3 1 (.slice ab m cb) m (IL (kfL xs j ++ (lyL xs m).drop j))) ∧ Hid (Ext W1 wr)) (fun i _ => m - (intOf i).toNat)
  case atStart => exact ⟨0, by omega, rfl, HO2, HX2.out⟩
  case round =>
    clear z0 l0
    obtain ⟨i, hi, rfl, HO, HX⟩ := hrel
    have hbx := (HX.out.heap (Nat.lt_trans (Nat.lt_succ_self _) hs0)).trans HB0.out
    have z0 := fun k => cell_of_row _ _ k _ _ _ hbx
    have l0 := (Array.getElem?_eq_some_iff.1 hbx).1
    clear hbx
    have HE : Hid (Ext w wr) := HE0.out.trans HX.out
    by_cases hlt : i < m
    · have hlt' : (i : Int) < m := by omega
      obtain ⟨_, _, ee, _, _, hg⟩ := own_shape HO.out
      cases ee
      obtain ⟨gb, rfl, hgb1, hgb2, -, -⟩ := hg (by omega)
      obtain ⟨b, off, rfl, hbk, hcell⟩ := HH.out (by omega)
      have HCELL := Lib.hid hcell
      clear hcell
      have hbr : b < wr.heap.size := by have := HE.out.size; omega
      have z0 : wr.cell? ⟨b, off + i * 3, none⟩ = some (.int .i64 (at3 xs (i * 3))) := (HE.out.cells.1 b (off + (i * 3)) hbk).trans (HCELL.out _ _ (at3_get (by have := HL.out; omega)))
      have z1 : wr.cell? ⟨b, off + i * 3 + 1, none⟩ = some (.int .i64 (at3 xs (i * 3 + 1))) := (HE.out.cells.1 b (off + (i * 3 + 1)) hbk).trans (HCELL.out _ _ (at3_get (by have := HL.out; omega)))
      have z2 : wr.cell? ⟨b, off + i * 3 + 2, none⟩ = some (.int .i64 (at3 xs (i * 3 + 2))) := (HE.out.cells.1 b (off + (i * 3 + 2)) hbk).trans (HCELL.out _ _ (at3_get (by have := HL.out; omega)))
      have hdr := lyL_drop (xs := xs) hlt
      have HO1 := HO.out
      rw [hdr] at HO1
      have hkl := kfL_len xs i
      have hzb : wr.cell? ⟨gb, i, none⟩ = some (.int .i64 (lyA xs i : Nat)) := (World.ownsRow.cellAt HO1 i (by omega)).trans (by have := mid_get (kfL xs i) (lyA xs i : Nat) ((lyL xs m).drop (i + 1)); rw [hkl] at this; exact this)
      have hfb := World.ownsRow.frozenAt HO1
      obtain ⟨hK1, hK2, hK3⟩ := HKY.out i hlt
      have HST : Hid (∀ W : World, W.ownsRow W1.heap.size 3 1 (.slice (some ⟨gb, 0, none⟩) m cb) m (IL (kfL xs i ++ (lyA xs i : Int) :: (lyL xs m).drop (i + 1))) → (W.setCell ⟨gb, i, none⟩ (.int .i64 ((lyA xs i : Int) * 5 + at3 xs (i * 3 + 1)))).ownsRow W1.heap.size 3 1 (.slice (some ⟨gb, 0, none⟩) m cb) m (IL (kfL xs (i + 1) ++ (lyL xs m).drop (i + 1)))) := Lib.hid (fun W hW => by
        have hst := (World.ownsRow.stored hW i (.int .i64 ((lyA xs i : Int) * 5 + at3 xs (i * 3 + 1)))).1
        have e1 : (IL (kfL xs i ++ (lyA xs i : Int) :: (lyL xs m).drop (i + 1))).set i (.int .i64 ((lyA xs i : Int) * 5 + at3 xs (i * 3 + 1))) = IL (kfL xs (i + 1) ++ (lyL xs m).drop (i + 1)) := by
          rw [il_setT, ← hK1]
          have := set_mid (kfL xs i) (lyA xs i : Nat) (tkey (lyA xs i, gN xs i) : Nat) ((lyL xs m).drop (i + 1))
          rw [hkl] at this
          rw [this]
          show _ = IL ((kfL xs i ++ [(tkey (lyA xs i, gN xs i) : Int)]) ++ _)
          rw [List.append_assoc]
          rfl
        rw [e1] at hst
        exact hst)
      have hlb := lyA_bd xs i
      have HO1 := Lib.hid HO1
      generalize lyA xs i = y at *
      generalize at3 xs (i * 3 + 1) = a0 at *
      clear hK1 hkl hdr HO
      have hyb : (y : Int) ≤ 500 := by omega
      have hic : i < cb := by omega
      go_wp2
      go_region
      all_goals
        go_wp2
        go_roundw
        case rel =>
          refine ⟨i + 1, by omega, by go_num, ?_, ?_⟩
          · unfold Hid
            first | exact own_ext (HST.out _ HO1.out) (by repeat (first | (with_reducible refine Ext.setCell ?_ (by first | (simp; done) | (simp; omega)) _) | with_reducible refine Ext.alloc ?_ _ | with_reducible refine Ext.drew ?_ | with_reducible refine Ext.drewN ?_ _ | with_reducible assumption | with_reducible exact Ext.refl _ | with_reducible refine Ext.trans ?_ (by with_reducible assumption))) | exact HST.out _ (own_ext HO1.out (by repeat (first | (with_reducible refine Ext.setCell ?_ (by first | (simp; done) | (simp; omega)) _) | with_reducible refine Ext.alloc ?_ _ | with_reducible refine Ext.drew ?_ | with_reducible refine Ext.drewN ?_ _ | with_reducible assumption | with_reducible exact Ext.refl _ | with_reducible refine Ext.trans ?_ (by with_reducible assumption))))
          unfold Hid
          have hx := HX.out
          exact (by repeat (first | (with_reducible refine Ext.setCell ?_ (by first | (simp; done) | (simp; omega)) _) | with_reducible refine Ext.alloc ?_ _ | with_reducible refine Ext.drew ?_ | with_reducible refine Ext.drewN ?_ _ | with_reducible assumption | with_reducible exact Ext.refl _ | with_reducible refine Ext.trans ?_ (by with_reducible assumption)))
        case measure => simp [intOf]; omega
    · obtain rfl : i = m := by omega
      have hdn : (lyL xs i).drop i = [] := List.drop_eq_nil_of_le (by rw [lyL_len]; exact Nat.le_refl _)
      have HO1 := HO.out
      rw [hdn, List.append_nil] at HO1
      have R1 := RV.own HO1 (by rw [kfL_len]; omega : (kfL xs i).length = i * 1)
      go_wp2_with fail
      refine (HSO _ _ HE.out R1).out.mono ?_
      rintro e w3 ⟨v3, rfl, o3, hx3⟩
      obtain ⟨a3, c3, rfl, _, _, _⟩ := own_shape o3
      have O3 := Lib.hid o3
      have hbr := ((HX.out.trans hx3).heap hs0).trans HBR.out
      have zr := fun k => cell_of_row _ _ k _ _ _ hbr
      have fr := fun k => frozen_of_row _ _ k _ _ hbr
      have lr := (Array.getElem?_eq_some_iff.1 hbr).1
      have hx : Hid (Ext w w3) := HE.out.trans hx3
      have hsz := HE.out.size
      have hsz2 := HX.out.size
      clear hbr o3 hx3
      go_wp2
      refine bodyPost_ret (v := .agg #[.int .i64 q, .slice a3 i c3]) (by simp [results, Try.results42, go_sem, *]) rfl ?_
      have hx' := hx.out
      exact ⟨_, rfl, own_base (own_set (own_set O3.out (by simp; omega) _) (by simp; omega) _) (by omega), (by repeat (first | (with_reducible refine Ext.setCell ?_ (by first | (simp; done) | (simp; omega)) _) | with_reducible refine Ext.alloc ?_ _ | with_reducible refine Ext.drew ?_ | with_reducible refine Ext.drewN ?_ _ | with_reducible assumption | with_reducible exact Ext.refl _ | with_reducible refine Ext.trans ?_ (by with_reducible assumption)))⟩

theorem foL_no {q : Int} {xs : List Int} {n : Nat} (h : cOk q xs n = false) : foL q xs n = [] ∧ foN q xs n = 0 ∧ foQ q xs n = 0 := by
  unfold foL foN foQ
  rw [h]
  exact ⟨rfl, rfl, rfl⟩

set_option maxRecDepth 20000 in
theorem s_foataOf_any (q : Nat) {v : Value} {m : Nat} {xs : List Int} (hm : m ≤ 2000000) (w : World) (h : RV w 3 v m xs) :
    Calls Try.prog 18 #[.agg #[.int .i64 q, v]] w fun e w' => ∃ v', e = .returned (.tuple #[.agg #[.int .i64 (foQ q xs m), v'], .bool (cOk q xs m)]) ∧ w'.ownsRow w.heap.size 47 3 v' (foN q xs m) (IL (foL q xs m)) ∧ Ext w w' := by
  have HV := fun w' (hx : Ext w w') => Lib.hid (l4Good_any (q : Int) hm w' (h.ext hx))
  have HF := fun (hc : cOk q xs m = true) w' (hx : Ext w w') => Lib.hid (l24Foata_any q hc w' (h.ext hx))
  have HY : Hid (cOk q xs m = true → foL q xs m = tfl (tF (clG xs m)) ∧ foN q xs m = m ∧ foQ q xs m = q) := Lib.hid (fun hc => ⟨foL_yes hc, by unfold foN; rw [if_pos hc], by unfold foQ; rw [if_pos hc]⟩)
  have HN : Hid (cOk q xs m = false → foL q xs m = [] ∧ foN q xs m = 0 ∧ foQ q xs m = 0) := Lib.hid foL_no
  generalize foL q xs m = L at *
  generalize foN q xs m = N at *
  generalize foQ q xs m = Q at *
  generalize hok : cOk q xs m = ok at *
  clear hok
  obtain ⟨_, a, cap, rfl, _, _, _⟩ := h
  cases ok
  · obtain ⟨rfl, rfl, rfl⟩ := HN.out rfl
    clear HF
    go_enter Try.func18, Try.ntmps18
    go_wp2_with fail
    refine (HV _ (by repeat (first | (with_reducible refine Ext.setCell ?_ (by first | (simp; done) | (simp; omega)) _) | with_reducible refine Ext.alloc ?_ _ | with_reducible refine Ext.drew ?_ | with_reducible refine Ext.drewN ?_ _ | with_reducible assumption | with_reducible exact Ext.refl _ | with_reducible refine Ext.trans ?_ (by with_reducible assumption)))).out.mono ?_
    rintro e w1 ⟨rfl, hx1⟩
    obtain ⟨hc1, hf1⟩ := hx1.cells
    have hz1 := hx1.size
    try simp at hz1
    have hs1_0 := sz2 (a := w.heap.size) (b := w1.heap.size) (by omega)
    go_wp2
    refine bodyPost_ret (v := .tuple #[.agg #[.int .i64 0, .slice none 0 0], .bool false]) (by simp [results, Try.results18, go_sem, *]) rfl ?_
    exact ⟨_, rfl, own_nil _ _ _ _, (by repeat (first | (with_reducible refine Ext.setCell ?_ (by first | (simp; done) | (simp; omega)) _) | with_reducible refine Ext.alloc ?_ _ | with_reducible refine Ext.drew ?_ | with_reducible refine Ext.drewN ?_ _ | with_reducible assumption | with_reducible exact Ext.refl _ | with_reducible refine Ext.trans ?_ (by with_reducible assumption)))⟩
  · obtain ⟨rfl, rfl, rfl⟩ := HY.out rfl
    have HF' := fun w' (hx : Ext w w') => HF (by first | rfl | trivial) w' hx
    clear HF HN HY
    go_enter Try.func18, Try.ntmps18
    go_wp2_with fail
    refine (HV _ (by repeat (first | (with_reducible refine Ext.setCell ?_ (by first | (simp; done) | (simp; omega)) _) | with_reducible refine Ext.alloc ?_ _ | with_reducible refine Ext.drew ?_ | with_reducible refine Ext.drewN ?_ _ | with_reducible assumption | with_reducible exact Ext.refl _ | with_reducible refine Ext.trans ?_ (by with_reducible assumption)))).out.mono ?_
    rintro e w1 ⟨rfl, hx1⟩
    obtain ⟨hc1, hf1⟩ := hx1.cells
    have hz1 := hx1.size
    try simp at hz1
    have hs1_0 := sz2 (a := w.heap.size) (b := w1.heap.size) (by omega)
    have X1' : Ext w w1 := (by repeat (first | (with_reducible refine Ext.setCell ?_ (by first | (simp; done) | (simp; omega)) _) | with_reducible refine Ext.alloc ?_ _ | with_reducible refine Ext.drew ?_ | with_reducible refine Ext.drewN ?_ _ | with_reducible assumption | with_reducible exact Ext.refl _ | with_reducible refine Ext.trans ?_ (by with_reducible assumption)))
    have X1 := Lib.hid X1'
    clear X1'
    go_wp2_with fail
    refine (HF' _ X1.out).out.mono ?_
    rintro e w2 ⟨v2, rfl, o2, hx2⟩
    obtain ⟨hc2, hf2⟩ := hx2.cells
    have hz2 := hx2.size
    try simp at hz2
    have hs2_0 := sz2 (a := w.heap.size) (b := w2.heap.size) (by omega)
    obtain ⟨a2, c2, rfl, _, _, _⟩ := own_shape o2
    have O2 := Lib.hid o2
    have X2 : Hid (Ext w w2) := X1.out.trans hx2
    have hsz : w.heap.size + 2 ≤ w1.heap.size := by omega
    clear o2
    go_wp2
    refine bodyPost_ret (v := .tuple #[.agg #[.int .i64 q, .slice a2 N c2], .bool true]) (by simp [results, Try.results18, go_sem, *]) rfl ?_
    have hx' := X2.out
    exact ⟨_, rfl, own_base (own_set (own_set O2.out (by simp; omega) _) (by simp; omega) _) (by omega), (by repeat (first | (with_reducible refine Ext.setCell ?_ (by first | (simp; done) | (simp; omega)) _) | with_reducible refine Ext.alloc ?_ _ | with_reducible refine Ext.drew ?_ | with_reducible refine Ext.drewN ?_ _ | with_reducible assumption | with_reducible exact Ext.refl _ | with_reducible refine Ext.trans ?_ (by with_reducible assumption)))⟩

end Go.Proofs.Ytbddgeoaaklgpaa
