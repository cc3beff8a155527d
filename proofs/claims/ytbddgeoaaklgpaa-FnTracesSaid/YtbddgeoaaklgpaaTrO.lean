/- The program's sorted circuit (sortedBy, FoataOf). -/
import Derived.Test.YtbddgeoaaklgpaaTrZ
import Derived.Test.YtbddgeoaaklgpaaTrU
import Derived.Test.YtbddgeoaaklgpaaQwJ
namespace Go.Proofs.Ytbddgeoaaklgpaa
open Go.RowKit Go.Lib
set_option linter.unusedVariables false
set_option linter.unusedSimpArgs false

theorem tF_map {xs : List Int} {m : Nat} {O : List Nat} (h : O.map (prT xs) = tP (clG xs m)) : tF (clG xs m) = O.map (gN xs) := by
  unfold tF
  rw [← h, List.map_map]
  rfl
theorem nI_at {O : List Nat} {j : Nat} (h : j < O.length) : (IL (nI O))[j]? = some (.int .i64 (O[j] : Nat)) := by
  simp [IL, nI, h]

set_option maxRecDepth 20000 in
set_option maxHeartbeats 8000000 in
theorem sortedBy_any {ab cb : Nat} {q : Nat} {va v : Value} {m : Nat} {xs : List Int} (hc : cOk q xs m = true) (h20 : m < 20) (w : World) (hA : w.heap[ab]? = some (.cells #[va] 53 (0, 0))) (hC : w.heap[cb]? = some (.cells #[.int .i64 q, v] 25 (0, 0))) (ra : RV w 1 va m (lyL xs m)) (rc : RV w 3 v m xs) :
    Calls Try.prog 46 #[.agg #[.int .i64 q, v], .func (.func 47) #[] #[.pointer (some ⟨ab, 0, none⟩), .pointer (some ⟨cb, 0, none⟩)]] w fun e w' => ∃ v', e = .returned (.agg #[.int .i64 q, v']) ∧ w'.ownsRow w.heap.size 47 3 v' m (IL (tfl (tF (clG xs m)))) ∧ Ext w w' := by
  obtain ⟨W1, hW1⟩ : ∃ W1, W1 = ((w.alloc (.cells #[.int .i64 q, v] 25 (0, 0))).alloc (.cells #[.func (.func 47) #[] #[.pointer (some ⟨ab, 0, none⟩), .pointer (some ⟨cb, 0, none⟩)]] 86 (0, 0))).alloc (.cells #[.int .i64 0, .slice none 0 0] 25 (0, 0)) := ⟨_, rfl⟩
  have HE0 : Hid (Ext w W1) := by rw [hW1]; exact (((Ext.refl w).alloc _).alloc _).alloc _
  have HB0 : Hid (W1.heap[w.heap.size]? = some (.cells #[.int .i64 q, v] 25 (0, 0))) := by rw [hW1]; exact heap_alloc_lt (heap_alloc_lt (heap_alloc_new _ _))
  have HBK : Hid (W1.heap[w.heap.size + 1]? = some (.cells #[.func (.func 47) #[] #[.pointer (some ⟨ab, 0, none⟩), .pointer (some ⟨cb, 0, none⟩)]] 86 (0, 0))) := by rw [hW1]; exact heap_alloc_lt (heap_alloc_at _ _ _ (by simp))
  have HBR : Hid (W1.heap[w.heap.size + 2]? = some (.cells #[.int .i64 0, .slice none 0 0] 25 (0, 0))) := by rw [hW1]; exact heap_alloc_at _ _ _ (by simp)
  have hs0 : w.heap.size + 2 < W1.heap.size := by rw [hW1]; simp
  have hs1 : w.heap.size < W1.heap.size := by omega
  have HKY : Hid (KY ab cb (w.heap.size + 1) q va v m xs W1) := Lib.hid ⟨HBK.out, (HE0.out.heap (Array.getElem?_eq_some_iff.1 hA).1).trans hA, (HE0.out.heap (Array.getElem?_eq_some_iff.1 hC).1).trans hC, ra.ext HE0.out, rc.ext HE0.out⟩
  have HSO := fun (vo : Value) w' (hx : Ext W1 w') (hR : w'.ownsRow W1.heap.size 3 1 vo m (IL (rgI 0 m))) => Lib.hid (sortI_any hc h20 W1 HKY.out (Nat.le_refl _) w' hx hR)
  have HFM := fun (O : List Nat) (h : O.map (prT xs) = tP (clG xs m)) => Lib.hid (tF_map h)
  have HPL : Hid ((tP (clG xs m)).length = m) := Lib.hid (by unfold tP; rw [tsrt_len, tpl_len, clG_len]; simp)
  have HG3 : Hid (∀ i, i < m → tfl [gN xs i] = [at3 xs (i * 3), at3 xs (i * 3 + 1), at3 xs (i * 3 + 2)]) := Lib.hid (fun i hi => by
    have f := gOk_facts (cOk_gate hc hi) (cOk_q1 hc).1
    show [((at3 xs (i * 3)).toNat : Int), ((at3 xs (i * 3 + 1)).toNat : Int), ((at3 xs (i * 3 + 2)).toNat : Int)] = _
    rw [Int.toNat_of_nonneg (by omega), Int.toNat_of_nonneg (by omega), Int.toNat_of_nonneg (by omega)])
  obtain ⟨hl, a, cap, rfl, c1, c2, H⟩ := rc
  have HH := Lib.hid H
  have HL := Lib.hid hl
  clear H hl ra hA hC HKY hc
  have z0 := fun k => cell_of_row _ _ k _ _ _ HB0.out
  go_enter Try.func46, Try.ntmps46
  go_upto_region 1 with fail
  rw [← hW1]
  clear hW1
  go_upto_region 2 with fail
  obtain ⟨w2, hw2⟩ : ∃ w2, w2 = W1.alloc (.cells #[] 3) := ⟨_, rfl⟩
  have HO2 : Hid (w2.ownsRow W1.heap.size 3 1 (.slice (some ⟨W1.heap.size, 0, none⟩) 0 0) 0 (IL (nI (List.range' 0 0)))) := by rw [hw2]; exact World.ownsRow_lit W1 #[] 0 (Nat.le_refl _) (by decide) rfl
  have HX2 : Hid (Ext W1 w2) := by rw [hw2]; exact (Ext.refl _).alloc _
  rw [← hw2]
  clear hw2 z0
  have hbx := (HX2.out.heap hs1).trans HB0.out
  have z0 := fun k => cell_of_row _ _ k _ _ _ hbx
  have l0 := (Array.getElem?_eq_some_iff.1 hbx).1
  clear hbx
  go_wp2
  go_loopw [5, 14] (fun s5 i wr => ∃ j : Nat, j ≤ m ∧ i = .int .i64 j ∧ Hid (wr.ownsRow W1.heap.size 3 1 s5 j (IL (nI (List.range' 0 j)))) ∧ Hid (Ext W1 wr)) (fun _ i _ => m - (intOf i).toNat)
  case atStart => exact ⟨0, by omega, rfl, HO2, HX2.out⟩
  case round =>
    clear z0 l0
    obtain ⟨j, hj, rfl, HO, HX⟩ := hrel
    obtain ⟨ao, co, rfl, _, _, _⟩ := own_shape HO.out
    have hsz := HX.out.size
    by_cases hlt : j < m
    · have hlt' : (j : Int) < m := by omega
      have HRN : Hid (nI (List.range' 0 (j + 1)) = nI (List.range' 0 j) ++ [(j : Int)]) := Lib.hid (by
        rw [List.range'_concat, nI_app]
        simp [nI])
      go_wp2_with (at_builtin; refine wpList_append_rvt (base := W1.heap.size) rfl elt_iT rfl (.slice ao j co) j (nI (List.range' 0 j)) rfl (own_ext HO.out ((Ext.refl _).alloc _)) (.slice (some ⟨wr.heap.size, 0, none⟩) 1 1) 1 [(j : Int)] rfl (rv_heap (heap_alloc_new _ _) rfl rfl (by omega) (by decide)) (by omega) (by simp; omega) ?_; intro v5 w5 hown5 hgrow5 hiff5 hloc5; obtain ⟨a5, c5, rfl, _, _, _⟩ := own_shape hown5; have HO5 := Lib.hid hown5; have HX5 : Hid (Ext W1 w5) := (ext_grownB (HX.out.alloc _) hgrow5 (own_ext HO.out ((Ext.refl _).alloc _)) (Nat.le_refl _)); clear hown5 hgrow5 hiff5 hloc5)
      go_roundw
      case rel =>
        refine ⟨j + 1, by omega, by go_num, ?_, HX5.out⟩
        unfold Hid
        rw [HRN.out]
        exact HO5.out
      case measure => simp [intOf]; omega
    · obtain rfl : j = m := by omega
      go_wp2_with fail
      refine (HSO _ _ HX.out HO.out).out.mono ?_
      rintro e w4 ⟨rfl, O, hO, hOm, ho4, hx4⟩
      have HO4 := Lib.hid ho4
      have HX4 := Lib.hid hx4
      have HF := Lib.hid (HFM O hO).out
      have hOl : O.length = j := by have := congrArg List.length hO; rw [List.length_map, HPL.out] at this; exact this
      have HOM := Lib.hid hOm
      have hb4 := (HX4.out.heap hs1).trans HB0.out
      have z0 := fun k => cell_of_row _ _ k _ _ _ hb4
      have l0 := (Array.getElem?_eq_some_iff.1 hb4).1
      clear ho4 hx4 hO hOm hb4 HO HX hsz HSO HFM HX2 HO2
      go_upto_region 9 with fail
      obtain ⟨w5, hw5⟩ : ∃ w5, w5 = w4.alloc (.cells #[.int .i64 q, .slice none 0 0] 25) := ⟨_, rfl⟩
      rw [← hw5]
      have HB5 : Hid (w5.heap[w4.heap.size]? = some (.cells #[.int .i64 q, .slice none 0 0] 25 (0, 0))) := by rw [hw5]; exact heap_alloc_new _ _
      have HX5 : Hid (Ext w4 w5) := by rw [hw5]; exact (Ext.refl _).alloc _
      clear hw5 z0 l0
      go_wp2
      go_loopw [9, 30] (fun _ i wr => ∃ (t : Nat) (vm : Value), t ≤ j ∧ i = .int .i64 t ∧ Hid (wr.ownsRow (w4.heap.size + 1) 47 3 vm t (IL (tfl ((O.take t).map (gN xs))))) ∧ Hid (wr.heap[w4.heap.size]? = some (.cells #[.int .i64 q, vm] 25 (0, 0))) ∧ Hid (Ext w4 wr)) (fun _ i _ => j - (intOf i).toNat)
      case atStart => exact ⟨0, .slice none 0 0, by omega, rfl, own_nil _ _ _ _, HB5.out, HX5.out⟩
      case round =>
        obtain ⟨t, vm, ht, rfl, HG, HBm, HX⟩ := hrel
        obtain ⟨am, cm, rfl, _, _, _⟩ := own_shape HG.out
        have hbr := (HX.out.heap (Nat.lt_of_lt_of_le hs1 HX4.out.size)).trans ((HX4.out.heap hs1).trans HB0.out)
        have z0' := fun k => cell_of_row _ _ k _ _ _ hbr
        have l0 := (Array.getElem?_eq_some_iff.1 hbr).1
        have z7 := fun k => cell_of_row _ _ k _ _ _ HBm.out
        have f7 := fun k => frozen_of_row _ _ k _ _ HBm.out
        have l7 := (Array.getElem?_eq_some_iff.1 HBm.out).1
        have hne : w.heap.size ≠ w4.heap.size := by have := HX4.out.size; omega
        by_cases hlt2 : t < j
        · have hlt3 : (t : Int) < (j : Int) := by omega
          have HE : Hid (Ext w wr) := HE0.out.trans (HX4.out.trans HX.out)
          have htO : t < O.length := by omega
          have hom := HOM.out O[t] (List.getElem_mem htO)
          obtain ⟨_, _, ee, hc1, hc2, hg⟩ := own_shape (own_ext HO4.out HX.out)
          cases ee
          obtain ⟨go, rfl, hg1, hg2, hg3, -⟩ := hg (by omega)
          have zo := hg3 t _ (nI_at htO)
          have HTK : Hid (tfl ((O.take (t + 1)).map (gN xs)) = tfl ((O.take t).map (gN xs)) ++ [at3 xs (O[t] * 3), at3 xs (O[t] * 3 + 1), at3 xs (O[t] * 3 + 2)]) := Lib.hid (by
            rw [List.take_add_one, List.getElem?_eq_getElem htO, Option.toList_some, List.map_append, tfl_app]
            rw [show List.map (gN xs) [O[t]] = [gN xs O[t]] from rfl, HG3.out _ hom])
          generalize O[t] = o at *
          obtain ⟨b, off, rfl, hbk, hcell⟩ := HH.out (by omega)
          have HCELL := Lib.hid hcell
          clear hcell
          have hbr : b < wr.heap.size := by have := HE.out.size; omega
          have z0 : wr.cell? ⟨b, off + o * 3, none⟩ = some (.int .i64 (at3 xs (o * 3))) := (HE.out.cells.1 b (off + (o * 3)) hbk).trans (HCELL.out _ _ (at3_get (by have := HL.out; omega)))
          have z1 : wr.cell? ⟨b, off + o * 3 + 1, none⟩ = some (.int .i64 (at3 xs (o * 3 + 1))) := (HE.out.cells.1 b (off + (o * 3 + 1)) hbk).trans (HCELL.out _ _ (at3_get (by have := HL.out; omega)))
          have z2 : wr.cell? ⟨b, off + o * 3 + 2, none⟩ = some (.int .i64 (at3 xs (o * 3 + 2))) := (HE.out.cells.1 b (off + (o * 3 + 2)) hbk).trans (HCELL.out _ _ (at3_get (by have := HL.out; omega)))
          have hom' : (o : Int) < (j : Int) := by omega
          have hoc : o < cap := by omega
          have htc : t < co := by omega
          generalize at3 xs (o * 3) = k0 at *
          generalize at3 xs (o * 3 + 1) = a0 at *
          generalize at3 xs (o * 3 + 2) = b0 at *
          go_wp2
          go_region_law
              (first
               | (refine step_append_rvt (base := w4.heap.size + 1) rfl elt_CG rfl (.slice am t cm) t (tfl ((O.take t).map (gN xs))) rfl ?_ (.slice (some ⟨wr.drew.heap.size, 0, none⟩) 1 1) 1 [k0, a0, b0] rfl ?_ ?_ ?_ ?_
                  · exact own_ext HG.out ((Ext.refl wr).drew.alloc _)
                  · exact rv_heap (heap_alloc_new _ _) rfl rfl (by omega) (by decide)
                  · omega
                  · (simp; omega)
                  intro v5 w5 hown5 hgrow5 hiff5 hloc5
                  obtain ⟨a5, c5, rfl, _, _, _⟩ := own_shape hown5
                  have HO5 : Hid (w5.ownsRow (w4.heap.size + 1) 47 3 (.slice a5 (t + 1) c5) (t + 1) (IL (tfl ((O.take t).map (gN xs)) ++ [k0, a0, b0]))) := hown5
                  have hfar : ∀ k, (Value.slice am t cm).ownBlock = some k → w4.heap.size + 1 ≤ k := fun k hk => (HG.out.lt k hk).1
                  have HB5 : Hid (w5.heap[w4.heap.size]? = some (.cells #[.int .i64 q, .slice am t cm] 25 (0, 0))) := heap_grown hgrow5 (heap_alloc_lt HBm.out) (fun e => by have := hfar _ e.symm; omega)
                  have HX5 : Hid (Ext w4 w5) := ext_grownB (HX.out.drew.alloc _) hgrow5 (own_ext HG.out ((Ext.refl wr).drew.alloc _)) (by omega)
                  have hs5 : w4.heap.size < w5.heap.size := (Array.getElem?_eq_some_iff.1 HB5.out).1
                  have z75 : ∀ k, w5.cell? ⟨w4.heap.size, k, none⟩ = (#[.int .i64 q, .slice am t cm] : Array Value)[k]? := fun k => cell_of_row _ _ k _ _ _ HB5.out
                  have f75 : ∀ k, w5.frozen? ⟨w4.heap.size, k, none⟩ = false := fun k => frozen_of_row _ _ k _ _ HB5.out
                  clear hown5 hgrow5 hiff5 hloc5 hfar))
          all_goals
            go_wp2
            go_roundw
            case rel =>
              refine ⟨t + 1, .slice a5 (t + 1) c5, by omega, by go_num, ?_, heap_set_at HB5.out 1 _, ?_⟩
              · unfold Hid
                rw [HTK.out]
                exact own_set HO5.out (by simp) _
              · unfold Hid
                have hx := HX5.out
                exact (by repeat (first | (with_reducible refine Ext.setCell ?_ (by first | (simp; done) | (simp; omega)) _) | with_reducible refine Ext.alloc ?_ _ | with_reducible refine Ext.drew ?_ | with_reducible refine Ext.drewN ?_ _ | with_reducible assumption | with_reducible exact Ext.refl _ | with_reducible refine Ext.trans ?_ (by with_reducible assumption)))
            case measure => simp [intOf]; omega
        · obtain rfl : t = j := by omega
          have hbq := (HX.out.heap (Nat.lt_of_lt_of_le hs0 HX4.out.size)).trans ((HX4.out.heap hs0).trans HBR.out)
          have zr : ∀ k, World.cell? _ ⟨w.heap.size + 1 + 1, k, none⟩ = (#[.int .i64 0, .slice none 0 0] : Array Value)[k]? := fun k => cell_of_row _ _ k _ _ _ hbq
          have fr : ∀ k, World.frozen? _ ⟨w.heap.size + 1 + 1, k, none⟩ = false := fun k => frozen_of_row _ _ k _ _ hbq
          have lr : w.heap.size + 1 + 1 < _ := (Array.getElem?_eq_some_iff.1 hbq).1
          have hxE : Hid (Ext w wr) := HE0.out.trans (HX4.out.trans HX.out)
          have hT : O.take t = O := by rw [← hOl]; exact List.take_length
          have HG' := HG.out
          rw [hT, ← HF.out] at HG'
          have HG' := Lib.hid HG'
          have h4 := HX4.out.size
          clear hbq z0'
          go_wp2
          refine bodyPost_ret (v := .agg #[.int .i64 q, .slice am t cm]) (by simp [results, Try.results46, go_sem, *]) rfl ?_
          have hx := hxE.out
          exact ⟨_, rfl, own_base (own_set (own_set HG'.out (by simp; omega) _) (by simp; omega) _) (by omega), (by repeat (first | (with_reducible refine Ext.setCell ?_ (by first | (simp; done) | (simp; omega)) _) | with_reducible refine Ext.alloc ?_ _ | with_reducible refine Ext.drew ?_ | with_reducible refine Ext.drewN ?_ _ | with_reducible assumption | with_reducible exact Ext.refl _ | with_reducible refine Ext.trans ?_ (by with_reducible assumption)))⟩

set_option maxRecDepth 20000 in
set_option maxHeartbeats 4000000 in
theorem foataOf_any (q : Nat) {v : Value} {m : Nat} {xs : List Int} (h20 : m < 20) (w : World) (h : RV w 3 v m xs) :
    Calls Try.prog 17 #[.agg #[.int .i64 q, v]] w fun e w' => ∃ v', e = .returned (.tuple #[.agg #[.int .i64 (foQ q xs m), v'], .bool (cOk q xs m)]) ∧ w'.ownsRow w.heap.size 47 3 v' (foN q xs m) (IL (foL q xs m)) ∧ Ext w w' := by
  have HV := fun w' (hx : Ext w w') => Lib.hid (isValidCircuit_any (q : Int) (by omega) w' (h.ext hx))
  have HF := fun (hc : cOk q xs m = true) w' (hx : Ext w w') => Lib.hid (layers_any q hc w' (h.ext hx))
  have HB := fun (hc : cOk q xs m = true) (ab cb : Nat) (va : Value) w' (hx : Ext w w') (hA : w'.heap[ab]? = some (.cells #[va] 53 (0, 0))) (hC : w'.heap[cb]? = some (.cells #[.int .i64 q, v] 25 (0, 0))) (ra : RV w' 1 va m (lyL xs m)) => Lib.hid (sortedBy_any hc h20 w' hA hC ra (h.ext hx))
  have HY : Hid (cOk q xs m = true → foL q xs m = tfl (tF (clG xs m)) ∧ foN q xs m = m ∧ foQ q xs m = q) := Lib.hid (fun hc => ⟨foL_yes hc, by unfold foN; rw [if_pos hc], by unfold foQ; rw [if_pos hc]⟩)
  have HN : Hid (cOk q xs m = false → foL q xs m = [] ∧ foN q xs m = 0 ∧ foQ q xs m = 0) := Lib.hid foL_no
  have HLL := lyL_len xs m
  generalize foL q xs m = L at *
  generalize foN q xs m = N at *
  generalize foQ q xs m = Q at *
  generalize hok : cOk q xs m = ok at *
  clear hok
  obtain ⟨_, a, cap, rfl, _, _, _⟩ := h
  cases ok
  · obtain ⟨rfl, rfl, rfl⟩ := HN.out rfl
    clear HF HB
    go_enter Try.func17, Try.ntmps17
    go_wp2_with fail
    refine (HV _ (by repeat (first | (with_reducible refine Ext.setCell ?_ (by first | (simp; done) | (simp; omega)) _) | with_reducible refine Ext.alloc ?_ _ | with_reducible refine Ext.drew ?_ | with_reducible refine Ext.drewN ?_ _ | with_reducible assumption | with_reducible exact Ext.refl _ | with_reducible refine Ext.trans ?_ (by with_reducible assumption)))).out.mono ?_
    rintro e w1 ⟨rfl, hx1⟩
    obtain ⟨hc1, hf1⟩ := hx1.cells
    have hz1 := hx1.size
    try simp at hz1
    have hs1_0 := sz2 (a := w.heap.size) (b := w1.heap.size) (by omega)
    go_wp2
    refine bodyPost_ret (v := .tuple #[.agg #[.int .i64 0, .slice none 0 0], .bool false]) (by simp [results, Try.results17, go_sem, *]) rfl ?_
    exact ⟨_, rfl, own_nil _ _ _ _, (by repeat (first | (with_reducible refine Ext.setCell ?_ (by first | (simp; done) | (simp; omega)) _) | with_reducible refine Ext.alloc ?_ _ | with_reducible refine Ext.drew ?_ | with_reducible refine Ext.drewN ?_ _ | with_reducible assumption | with_reducible exact Ext.refl _ | with_reducible refine Ext.trans ?_ (by with_reducible assumption)))⟩
  · obtain ⟨rfl, rfl, rfl⟩ := HY.out rfl
    have HF' := fun w' (hx : Ext w w') => HF (by first | rfl | trivial) w' hx
    have HB' := fun ab cb va w' (hx : Ext w w') => HB (by first | rfl | trivial) ab cb va w' hx
    clear HF HN HY HB
    obtain ⟨W1, hW1⟩ : ∃ W1, W1 = (w.alloc (.cells #[.int .i64 q, .slice a N cap] 25 (0, 0))).alloc (.cells #[.int .i64 0, .slice none 0 0] 25 (0, 0)) := ⟨_, rfl⟩
    have HA : Hid (W1.heap[w.heap.size]? = some (.cells #[.int .i64 q, .slice a N cap] 25 (0, 0))) := by rw [hW1]; exact heap_alloc_lt (heap_alloc_new _ _)
    have HR : Hid (W1.heap[w.heap.size + 1]? = some (.cells #[.int .i64 0, .slice none 0 0] 25 (0, 0))) := by rw [hW1]; exact heap_alloc_at _ _ _ (by simp)
    have HE0 : Hid (Ext w W1) := by rw [hW1]; exact ((Ext.refl w).alloc _).alloc _
    have hs0 : w.heap.size + 1 < W1.heap.size := by rw [hW1]; simp
    have hs1 : w.heap.size < W1.heap.size := by omega
    have z0 := fun k => cell_of_row _ _ k _ _ _ HA.out
    go_enter Try.func17, Try.ntmps17
    go_upto_region 1 with fail
    rw [← hW1]
    clear hW1
    go_wp2_with fail
    refine (HV _ HE0.out).out.mono ?_
    rintro e w1 ⟨rfl, hx1⟩
    have X1 := Lib.hid hx1
    have ha1 := (X1.out.heap hs1).trans HA.out
    have z1 := fun k => cell_of_row _ _ k _ _ _ ha1
    have l1 := (Array.getElem?_eq_some_iff.1 ha1).1
    clear hx1 z0 ha1
    go_wp2_with fail
    refine (HF' _ (HE0.out.trans X1.out)).out.mono ?_
    rintro e w2 ⟨va, rfl, oa, hx2⟩
    have RA := Lib.hid (RV.own oa (by omega : (lyL xs N).length = N * 1))
    obtain ⟨aa, ca, rfl, _, _, _⟩ := own_shape oa
    have X2 : Hid (Ext W1 w2) := X1.out.trans hx2
    have ha2 := Lib.hid ((X2.out.heap hs1).trans HA.out)
    have z2 := fun k => cell_of_row _ _ k _ _ _ ha2.out
    have l2 := (Array.getElem?_eq_some_iff.1 ha2.out).1
    clear hx2 z1 oa
    go_wp2_with fail
    refine (HB' w2.heap.size w.heap.size _ _ ((HE0.out.trans X2.out).alloc _) (heap_alloc_new _ _) (heap_alloc_lt ha2.out) (RA.out.ext ((Ext.refl _).alloc _))).out.mono ?_
    rintro e w3 ⟨v3, rfl, o3, hx3⟩
    obtain ⟨a3, c3, rfl, _, _, _⟩ := own_shape o3
    have O3 := Lib.hid o3
    have X3 : Hid (Ext W1 w3) := (X2.out.alloc _).trans hx3
    have hr3 := (X3.out.heap hs0).trans HR.out
    have zr := fun k => cell_of_row _ _ k _ _ _ hr3
    have fr := fun k => frozen_of_row _ _ k _ _ hr3
    have lr := (Array.getElem?_eq_some_iff.1 hr3).1
    have hxx : Hid (Ext w w3) := HE0.out.trans X3.out
    have h2s := X2.out.size
    clear o3 hx3 hr3 z2
    go_wp2
    refine bodyPost_ret (v := .tuple #[.agg #[.int .i64 q, .slice a3 N c3], .bool true]) (by simp [results, Try.results17, go_sem, *]) rfl ?_
    have hx := hxx.out
    exact ⟨_, rfl, own_base (own_set (own_set O3.out (by simp; omega) _) (by simp; omega) _) (by simp; omega), (by repeat (first | (with_reducible refine Ext.setCell ?_ (by first | (simp; done) | (simp; omega)) _) | with_reducible refine Ext.alloc ?_ _ | with_reducible refine Ext.drew ?_ | with_reducible refine Ext.drewN ?_ _ | with_reducible assumption | with_reducible exact Ext.refl _ | with_reducible refine Ext.trans ?_ (by with_reducible assumption)))⟩

end Go.Proofs.Ytbddgeoaaklgpaa
