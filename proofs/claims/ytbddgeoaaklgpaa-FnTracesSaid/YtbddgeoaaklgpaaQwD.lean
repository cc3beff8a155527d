/- A cell of a gate's matrix: the closure of GateMatrix. -/
import Derived.Test.YtbddgeoaaklgpaaQwA
import Derived.Deep.RegionLaw
import Derived.Deep.Cut
namespace Go.Proofs.Ytbddgeoaaklgpaa
open Go.RowKit
set_option linter.unusedVariables false
set_option linter.unusedSimpArgs false

theorem step_callsQ {P : Program} {ops : Array Oper} {o : Oper} {a : Act} {w : World} {K : Act → World → Prop} {Q : Exit → Act → World → Prop} {R : Prop} (hgd : o.guard = none) {f : FuncId} {args : Array Value} {post : Ending → World → Prop}
    (hrun : (execOp a.eval o).run P w = .ok (.enter f args) w) (hc : Calls P f args w post) (h : ∀ e w', post e w' → ∃ v, e = .returned v ∧ K (a.put o.dst v) w') :
    if Region.wanted o (yielded ops a.tmps) = true then Oper.wp P o a w K Q else R := by
  have hw : Region.wanted o (yielded ops a.tmps) = true := by simp [Region.wanted, hgd]
  rw [if_pos hw]
  unfold Oper.wp
  rw [hrun, Oper.upon_enter]
  refine hc.mono ?_
  intro e w' hp
  obtain ⟨v, rfl, hk⟩ := h e w' hp
  exact hk

set_option maxRecDepth 20000 in
set_option maxHeartbeats 4000000 in
theorem gm1_any (n k a b i j : Nat) (h1 : 1 ≤ n) (hn : n ≤ 3) (hk : 1 ≤ k ∧ k ≤ 12) (ha : a < n) (hb : b < n) (hi : i < 2 ^ n) (hj : j < 2 ^ n) (b1 b2 : Nat) (w : World)
    (hb1 : w.heap[b1]? = some (.cells #[.int .i64 k, .int .i64 a, .int .i64 b] 47 (0, 0))) (hb2 : w.heap[b2]? = some (.cells #[.int .i64 n] 3 (0, 0))) :
    Calls Try.prog 93 #[.int .i64 i, .int .i64 j, .pointer (some ⟨b1, 0, none⟩), .pointer (some ⟨b2, 0, none⟩)] w fun e w' => e = .returned (.tuple #[.agg #[.int .i64 (gcV n k a b i j).1.a, .int .i64 (gcV n k a b i j).1.b, .int .i64 (gcV n k a b i j).1.c, .int .i64 (gcV n k a b i j).1.d, .int .i64 ((gcV n k a b i j).2 : Nat)], .bool true]) ∧ Ext w w' := by
  have h8 : 2 ^ n ≤ 8 := (dim_q h1 hn).2
  have hi64 : i < 64 := Nat.lt_of_lt_of_le hi (Nat.le_trans h8 (by decide))
  have hj64 : j < 64 := Nat.lt_of_lt_of_le hj (Nat.le_trans h8 (by decide))
  have HT := fun w' => Lib.hid (same_ext (isTwo_any (k : Int) w'))
  have HC := fun w' => Lib.hid (comesFrom_any n k a b i h1 hn ha hb hi w')
  have HA := fun w' => Lib.hid (same_ext (bitOf_any n i a (by omega) ha hi64 w'))
  have HB := fun w' => Lib.hid (same_ext (bitOf_any n i b (by omega) hb hi64 w'))
  have HJ := fun w' => Lib.hid (same_ext (bitOf_any n j a (by omega) ha hj64 w'))
  have HF := fun w' => Lib.hid (same_ext (flipped_any n i a (by omega) ha hi64 w'))
  have bx := bq_le n i a
  have by' := bq_le n j a
  have HS := fun b w' => Lib.hid (same_ext (small_any b w'))
  have HE := fun (h : k ≤ 8) w' => Lib.hid (entry_any k (bq n i a) (bq n j a) ⟨hk.1, h⟩ bx by' w')
  have HP1 : ∀ w', Hid (Calls Try.prog 94 #[.int .i64 1] w' fun e w'' => e = .returned (.agg #[.int .i64 0, .int .i64 1, .int .i64 0, .int .i64 0, .int .i64 0]) ∧ Ext w' w'') := fun w' => phase_any 1 (by decide) w'
  have HP0 : ∀ w', Hid (Calls Try.prog 94 #[.int .i64 0] w' fun e w'' => e = .returned (.agg #[.int .i64 1, .int .i64 0, .int .i64 0, .int .i64 0, .int .i64 0]) ∧ Ext w' w'') := fun w' => phase_any 0 (by decide) w'
  have HP4 : ∀ w', Hid (Calls Try.prog 94 #[.int .i64 4] w' fun e w'' => e = .returned (.agg #[.int .i64 (-1), .int .i64 0, .int .i64 0, .int .i64 0, .int .i64 0]) ∧ Ext w' w'') := fun w' => phase_any 4 (by decide) w'
  have HG : Hid (gcV n k a b i j = if k = 12 then (if i = j then (wp 1, 0) else (R4.zero, 0)) else if 9 ≤ k ∧ k ≤ 11 then (if cfr n k a b i = j then (wp (4 * (if k = 10 ∧ bq n i a = 1 ∧ bq n i b = 1 then 1 else 0)), 0) else (R4.zero, 0))
    else if i = j ∨ fl n i a = j then entV k (bq n i a) (bq n j a) else (R4.zero, 0)) := Lib.hid (by unfold gcV; rfl)
  have hbz := bq_le n i b
  have hxy : Hid (i = j → bq n i a = bq n j a) := Lib.hid (fun h => by rw [h])
  have HB1 := Lib.hid hb1
  have HB2 := Lib.hid hb2
  generalize gcV n k a b i j = G at *
  obtain ⟨⟨ga, gb, gc, gd⟩, ge⟩ := G
  generalize entV k (bq n i a) (bq n j a) = En at *
  obtain ⟨⟨ea, eb, ec, ed⟩, ee⟩ := En
  dsimp only at HE
  generalize bq n i a = x at *
  generalize bq n j a = y at *
  generalize bq n i b = z at *
  generalize fl n i a = u at *
  generalize cfr n k a b i = c at *
  clear hi hj h8 hi64 hj64
  have l1 := (Array.getElem?_eq_some_iff.1 hb1).1
  have l2 := (Array.getElem?_eq_some_iff.1 hb2).1
  have z1 := fun k => cell_of_row _ _ k _ _ _ hb1
  have z2 := fun k => cell_of_row _ _ k _ _ _ hb2
  have ne1 : b1 ≠ w.heap.size := by omega
  have ne2 : b2 ≠ w.heap.size := by omega
  clear hb1 hb2
  by_cases k12 : k = 12
  · subst k12
    clear HT HC HA HB HJ HF HS HE HP0 HP4
    by_cases hij : i = j
    · subst hij
      have hG : ((⟨0, 1, 0, 0⟩, 0) : R4 × Nat) = (⟨ga, gb, gc, gd⟩, ge) := (HG.out.trans (by rw [if_pos rfl, if_pos rfl]; rfl)).symm
      cases hG
      clear HG
      go_enter Try.func93, Try.ntmps93
      go_wp2_with fail
      refine ((HP1 _).out).mono ?_
      rintro e w1 ⟨rfl, hx1⟩
      obtain ⟨hc1, hf1⟩ := hx1.cells
      have hz1 := hx1.size
      try simp at hz1
      have hs1_0 := sz1 (a := w.heap.size) (b := w1.heap.size) (by omega)
      have l1_1 : b1 < w1.heap.size := by omega
      have l2_1 : b2 < w1.heap.size := by omega
      go_wp2
      refine bodyPost_ret (v := .tuple #[.agg #[.int .i64 0, .int .i64 1, .int .i64 0, .int .i64 0, .int .i64 0], .bool true]) (by simp [results, Try.results93, go_sem, *]) rfl ?_
      exact ⟨rfl, (by repeat (first | (with_reducible refine Ext.setCell ?_ (by first | (simp; done) | (simp; omega)) _) | with_reducible refine Ext.alloc ?_ _ | with_reducible refine Ext.drew ?_ | with_reducible refine Ext.drewN ?_ _ | with_reducible assumption | with_reducible exact Ext.refl _ | with_reducible refine Ext.trans ?_ (by with_reducible assumption)))⟩
    · have hij' : ¬ ((i : Int) = j) := by omega
      have hG : ((⟨0, 0, 0, 0⟩, 0) : R4 × Nat) = (⟨ga, gb, gc, gd⟩, ge) := (HG.out.trans (by rw [if_pos rfl, if_neg hij]; rfl)).symm
      cases hG
      clear HG
      go_enter Try.func93, Try.ntmps93
      go_wp2
      refine bodyPost_ret (v := .tuple #[.agg #[.int .i64 0, .int .i64 0, .int .i64 0, .int .i64 0, .int .i64 0], .bool true]) (by simp [results, Try.results93, go_sem, *]) rfl ?_
      exact ⟨rfl, (by repeat (first | (with_reducible refine Ext.setCell ?_ (by first | (simp; done) | (simp; omega)) _) | with_reducible refine Ext.alloc ?_ _ | with_reducible refine Ext.drew ?_ | with_reducible refine Ext.drewN ?_ _ | with_reducible assumption | with_reducible exact Ext.refl _ | with_reducible refine Ext.trans ?_ (by with_reducible assumption)))⟩
  have k12' : ¬ ((k : Int) = 12) := by omega
  by_cases k9 : 9 ≤ k ∧ k ≤ 11
  · have HT9 : ∀ w', Hid (Calls Try.prog 87 #[.int .i64 k] w' fun e w'' => e = .returned (.bool true) ∧ Ext w' w'') := fun w' => by
      have h := HT w'
      rw [Wn_iff.2 (by omega)] at h
      exact h
    clear HT HJ HF HE HP1
    by_cases hc : c = j
    · subst hc
      by_cases k10 : k = 10
      · subst k10
        by_cases hx : x = 1
        · subst hx
          by_cases hz : z = 1
          · subst hz
            have hG : ((⟨-1, 0, 0, 0⟩, 0) : R4 × Nat) = (⟨ga, gb, gc, gd⟩, ge) := (HG.out.trans (by rw [if_neg k12, if_pos k9, if_pos rfl, if_pos ⟨rfl, rfl, rfl⟩]; rfl)).symm
            cases hG
            clear HG
            go_enter Try.func93, Try.ntmps93
            go_wp2_with fail
            refine ((HT9 _).out).mono ?_
            rintro e w1 ⟨rfl, hx1⟩
            obtain ⟨hc1, hf1⟩ := hx1.cells
            have hz1 := hx1.size
            try simp at hz1
            have hs1_0 := sz1 (a := w.heap.size) (b := w1.heap.size) (by omega)
            have l1_1 : b1 < w1.heap.size := by omega
            have l2_1 : b2 < w1.heap.size := by omega
            go_wp2_with fail
            refine ((HC _).out).mono ?_
            rintro e w2 ⟨rfl, hx2⟩
            obtain ⟨hc2, hf2⟩ := hx2.cells
            have hz2 := hx2.size
            try simp at hz2
            have hs2_0 := sz1 (a := w.heap.size) (b := w2.heap.size) (by omega)
            have l1_2 : b1 < w2.heap.size := by omega
            have l2_2 : b2 < w2.heap.size := by omega
            go_wp2_with fail
            refine ((HA _).out).mono ?_
            rintro e w3 ⟨rfl, hx3⟩
            obtain ⟨hc3, hf3⟩ := hx3.cells
            have hz3 := hx3.size
            try simp at hz3
            have hs3_0 := sz1 (a := w.heap.size) (b := w3.heap.size) (by omega)
            have l1_3 : b1 < w3.heap.size := by omega
            have l2_3 : b2 < w3.heap.size := by omega
            go_wp2_with fail
            refine ((HB _).out).mono ?_
            rintro e w4 ⟨rfl, hx4⟩
            obtain ⟨hc4, hf4⟩ := hx4.cells
            have hz4 := hx4.size
            try simp at hz4
            have hs4_0 := sz1 (a := w.heap.size) (b := w4.heap.size) (by omega)
            have l1_4 : b1 < w4.heap.size := by omega
            have l2_4 : b2 < w4.heap.size := by omega
            go_wp2_with fail
            refine ((HS true _).out).mono ?_
            rintro e w5 ⟨rfl, hx5⟩
            obtain ⟨hc5, hf5⟩ := hx5.cells
            have hz5 := hx5.size
            try simp at hz5
            have hs5_0 := sz1 (a := w.heap.size) (b := w5.heap.size) (by omega)
            have l1_5 : b1 < w5.heap.size := by omega
            have l2_5 : b2 < w5.heap.size := by omega
            go_wp2_with fail
            refine ((HP4 _).out).mono ?_
            rintro e w6 ⟨rfl, hx6⟩
            obtain ⟨hc6, hf6⟩ := hx6.cells
            have hz6 := hx6.size
            try simp at hz6
            have hs6_0 := sz1 (a := w.heap.size) (b := w6.heap.size) (by omega)
            have l1_6 : b1 < w6.heap.size := by omega
            have l2_6 : b2 < w6.heap.size := by omega
            go_wp2
            refine bodyPost_ret (v := .tuple #[.agg #[.int .i64 (-1), .int .i64 0, .int .i64 0, .int .i64 0, .int .i64 0], .bool true]) (by simp [results, Try.results93, go_sem, *]) rfl ?_
            exact ⟨rfl, (by repeat (first | (with_reducible refine Ext.setCell ?_ (by first | (simp; done) | (simp; omega)) _) | with_reducible refine Ext.alloc ?_ _ | with_reducible refine Ext.drew ?_ | with_reducible refine Ext.drewN ?_ _ | with_reducible assumption | with_reducible exact Ext.refl _ | with_reducible refine Ext.trans ?_ (by with_reducible assumption)))⟩
          · obtain rfl : z = 0 := by omega
            have hG : ((⟨1, 0, 0, 0⟩, 0) : R4 × Nat) = (⟨ga, gb, gc, gd⟩, ge) := (HG.out.trans (by rw [if_neg k12, if_pos k9, if_pos rfl, if_neg (fun h => by cases h.2.2)]; rfl)).symm
            cases hG
            clear HG
            go_enter Try.func93, Try.ntmps93
            go_wp2_with fail
            refine ((HT9 _).out).mono ?_
            rintro e w1 ⟨rfl, hx1⟩
            obtain ⟨hc1, hf1⟩ := hx1.cells
            have hz1 := hx1.size
            try simp at hz1
            have hs1_0 := sz1 (a := w.heap.size) (b := w1.heap.size) (by omega)
            have l1_1 : b1 < w1.heap.size := by omega
            have l2_1 : b2 < w1.heap.size := by omega
            go_wp2_with fail
            refine ((HC _).out).mono ?_
            rintro e w2 ⟨rfl, hx2⟩
            obtain ⟨hc2, hf2⟩ := hx2.cells
            have hz2 := hx2.size
            try simp at hz2
            have hs2_0 := sz1 (a := w.heap.size) (b := w2.heap.size) (by omega)
            have l1_2 : b1 < w2.heap.size := by omega
            have l2_2 : b2 < w2.heap.size := by omega
            go_wp2_with fail
            refine ((HA _).out).mono ?_
            rintro e w3 ⟨rfl, hx3⟩
            obtain ⟨hc3, hf3⟩ := hx3.cells
            have hz3 := hx3.size
            try simp at hz3
            have hs3_0 := sz1 (a := w.heap.size) (b := w3.heap.size) (by omega)
            have l1_3 : b1 < w3.heap.size := by omega
            have l2_3 : b2 < w3.heap.size := by omega
            go_wp2_with fail
            refine ((HB _).out).mono ?_
            rintro e w4 ⟨rfl, hx4⟩
            obtain ⟨hc4, hf4⟩ := hx4.cells
            have hz4 := hx4.size
            try simp at hz4
            have hs4_0 := sz1 (a := w.heap.size) (b := w4.heap.size) (by omega)
            have l1_4 : b1 < w4.heap.size := by omega
            have l2_4 : b2 < w4.heap.size := by omega
            go_wp2_with fail
            refine ((HS false _).out).mono ?_
            rintro e w5 ⟨rfl, hx5⟩
            obtain ⟨hc5, hf5⟩ := hx5.cells
            have hz5 := hx5.size
            try simp at hz5
            have hs5_0 := sz1 (a := w.heap.size) (b := w5.heap.size) (by omega)
            have l1_5 : b1 < w5.heap.size := by omega
            have l2_5 : b2 < w5.heap.size := by omega
            go_wp2_with fail
            refine ((HP0 _).out).mono ?_
            rintro e w6 ⟨rfl, hx6⟩
            obtain ⟨hc6, hf6⟩ := hx6.cells
            have hz6 := hx6.size
            try simp at hz6
            have hs6_0 := sz1 (a := w.heap.size) (b := w6.heap.size) (by omega)
            have l1_6 : b1 < w6.heap.size := by omega
            have l2_6 : b2 < w6.heap.size := by omega
            go_wp2
            refine bodyPost_ret (v := .tuple #[.agg #[.int .i64 1, .int .i64 0, .int .i64 0, .int .i64 0, .int .i64 0], .bool true]) (by simp [results, Try.results93, go_sem, *]) rfl ?_
            exact ⟨rfl, (by repeat (first | (with_reducible refine Ext.setCell ?_ (by first | (simp; done) | (simp; omega)) _) | with_reducible refine Ext.alloc ?_ _ | with_reducible refine Ext.drew ?_ | with_reducible refine Ext.drewN ?_ _ | with_reducible assumption | with_reducible exact Ext.refl _ | with_reducible refine Ext.trans ?_ (by with_reducible assumption)))⟩
        · obtain rfl : x = 0 := by omega
          have hG : ((⟨1, 0, 0, 0⟩, 0) : R4 × Nat) = (⟨ga, gb, gc, gd⟩, ge) := (HG.out.trans (by rw [if_neg k12, if_pos k9, if_pos rfl, if_neg (fun h => by cases h.2.1)]; rfl)).symm
          cases hG
          clear HG
          go_enter Try.func93, Try.ntmps93
          go_wp2_with fail
          refine ((HT9 _).out).mono ?_
          rintro e w1 ⟨rfl, hx1⟩
          obtain ⟨hc1, hf1⟩ := hx1.cells
          have hz1 := hx1.size
          try simp at hz1
          have hs1_0 := sz1 (a := w.heap.size) (b := w1.heap.size) (by omega)
          have l1_1 : b1 < w1.heap.size := by omega
          have l2_1 : b2 < w1.heap.size := by omega
          go_wp2_with fail
          refine ((HC _).out).mono ?_
          rintro e w2 ⟨rfl, hx2⟩
          obtain ⟨hc2, hf2⟩ := hx2.cells
          have hz2 := hx2.size
          try simp at hz2
          have hs2_0 := sz1 (a := w.heap.size) (b := w2.heap.size) (by omega)
          have l1_2 : b1 < w2.heap.size := by omega
          have l2_2 : b2 < w2.heap.size := by omega
          go_wp2_with fail
          refine ((HA _).out).mono ?_
          rintro e w3 ⟨rfl, hx3⟩
          obtain ⟨hc3, hf3⟩ := hx3.cells
          have hz3 := hx3.size
          try simp at hz3
          have hs3_0 := sz1 (a := w.heap.size) (b := w3.heap.size) (by omega)
          have l1_3 : b1 < w3.heap.size := by omega
          have l2_3 : b2 < w3.heap.size := by omega
          go_wp2_with fail
          refine ((HS false _).out).mono ?_
          rintro e w5 ⟨rfl, hx5⟩
          obtain ⟨hc5, hf5⟩ := hx5.cells
          have hz5 := hx5.size
          try simp at hz5
          have hs5_0 := sz1 (a := w.heap.size) (b := w5.heap.size) (by omega)
          have l1_5 : b1 < w5.heap.size := by omega
          have l2_5 : b2 < w5.heap.size := by omega
          go_wp2_with fail
          refine ((HP0 _).out).mono ?_
          rintro e w6 ⟨rfl, hx6⟩
          obtain ⟨hc6, hf6⟩ := hx6.cells
          have hz6 := hx6.size
          try simp at hz6
          have hs6_0 := sz1 (a := w.heap.size) (b := w6.heap.size) (by omega)
          have l1_6 : b1 < w6.heap.size := by omega
          have l2_6 : b2 < w6.heap.size := by omega
          go_wp2
          refine bodyPost_ret (v := .tuple #[.agg #[.int .i64 1, .int .i64 0, .int .i64 0, .int .i64 0, .int .i64 0], .bool true]) (by simp [results, Try.results93, go_sem, *]) rfl ?_
          exact ⟨rfl, (by repeat (first | (with_reducible refine Ext.setCell ?_ (by first | (simp; done) | (simp; omega)) _) | with_reducible refine Ext.alloc ?_ _ | with_reducible refine Ext.drew ?_ | with_reducible refine Ext.drewN ?_ _ | with_reducible assumption | with_reducible exact Ext.refl _ | with_reducible refine Ext.trans ?_ (by with_reducible assumption)))⟩
      · have k10' : ¬ ((k : Int) = 10) := by omega
        have hG : ((⟨1, 0, 0, 0⟩, 0) : R4 × Nat) = (⟨ga, gb, gc, gd⟩, ge) := (HG.out.trans (by rw [if_neg k12, if_pos k9, if_pos rfl, if_neg (fun h => k10 h.1)]; rfl)).symm
        cases hG
        clear HG
        go_enter Try.func93, Try.ntmps93
        go_wp2_with fail
        refine ((HT9 _).out).mono ?_
        rintro e w1 ⟨rfl, hx1⟩
        obtain ⟨hc1, hf1⟩ := hx1.cells
        have hz1 := hx1.size
        try simp at hz1
        have hs1_0 := sz1 (a := w.heap.size) (b := w1.heap.size) (by omega)
        have l1_1 : b1 < w1.heap.size := by omega
        have l2_1 : b2 < w1.heap.size := by omega
        go_wp2_with fail
        refine ((HC _).out).mono ?_
        rintro e w2 ⟨rfl, hx2⟩
        obtain ⟨hc2, hf2⟩ := hx2.cells
        have hz2 := hx2.size
        try simp at hz2
        have hs2_0 := sz1 (a := w.heap.size) (b := w2.heap.size) (by omega)
        have l1_2 : b1 < w2.heap.size := by omega
        have l2_2 : b2 < w2.heap.size := by omega
        go_wp2_with fail
        refine ((HS false _).out).mono ?_
        rintro e w5 ⟨rfl, hx5⟩
        obtain ⟨hc5, hf5⟩ := hx5.cells
        have hz5 := hx5.size
        try simp at hz5
        have hs5_0 := sz1 (a := w.heap.size) (b := w5.heap.size) (by omega)
        have l1_5 : b1 < w5.heap.size := by omega
        have l2_5 : b2 < w5.heap.size := by omega
        go_wp2_with fail
        refine ((HP0 _).out).mono ?_
        rintro e w6 ⟨rfl, hx6⟩
        obtain ⟨hc6, hf6⟩ := hx6.cells
        have hz6 := hx6.size
        try simp at hz6
        have hs6_0 := sz1 (a := w.heap.size) (b := w6.heap.size) (by omega)
        have l1_6 : b1 < w6.heap.size := by omega
        have l2_6 : b2 < w6.heap.size := by omega
        go_wp2
        refine bodyPost_ret (v := .tuple #[.agg #[.int .i64 1, .int .i64 0, .int .i64 0, .int .i64 0, .int .i64 0], .bool true]) (by simp [results, Try.results93, go_sem, *]) rfl ?_
        exact ⟨rfl, (by repeat (first | (with_reducible refine Ext.setCell ?_ (by first | (simp; done) | (simp; omega)) _) | with_reducible refine Ext.alloc ?_ _ | with_reducible refine Ext.drew ?_ | with_reducible refine Ext.drewN ?_ _ | with_reducible assumption | with_reducible exact Ext.refl _ | with_reducible refine Ext.trans ?_ (by with_reducible assumption)))⟩
    · have hc' : ¬ ((c : Int) = j) := by omega
      have hG : ((⟨0, 0, 0, 0⟩, 0) : R4 × Nat) = (⟨ga, gb, gc, gd⟩, ge) := (HG.out.trans (by rw [if_neg k12, if_pos k9, if_neg hc]; rfl)).symm
      cases hG
      clear HG
      go_enter Try.func93, Try.ntmps93
      go_wp2_with fail
      refine ((HT9 _).out).mono ?_
      rintro e w1 ⟨rfl, hx1⟩
      obtain ⟨hc1, hf1⟩ := hx1.cells
      have hz1 := hx1.size
      try simp at hz1
      have hs1_0 := sz1 (a := w.heap.size) (b := w1.heap.size) (by omega)
      have l1_1 : b1 < w1.heap.size := by omega
      have l2_1 : b2 < w1.heap.size := by omega
      go_wp2_with fail
      refine ((HC _).out).mono ?_
      rintro e w2 ⟨rfl, hx2⟩
      obtain ⟨hc2, hf2⟩ := hx2.cells
      have hz2 := hx2.size
      try simp at hz2
      have hs2_0 := sz1 (a := w.heap.size) (b := w2.heap.size) (by omega)
      have l1_2 : b1 < w2.heap.size := by omega
      have l2_2 : b2 < w2.heap.size := by omega
      go_wp2
      refine bodyPost_ret (v := .tuple #[.agg #[.int .i64 0, .int .i64 0, .int .i64 0, .int .i64 0, .int .i64 0], .bool true]) (by simp [results, Try.results93, go_sem, *]) rfl ?_
      exact ⟨rfl, (by repeat (first | (with_reducible refine Ext.setCell ?_ (by first | (simp; done) | (simp; omega)) _) | with_reducible refine Ext.alloc ?_ _ | with_reducible refine Ext.drew ?_ | with_reducible refine Ext.drewN ?_ _ | with_reducible assumption | with_reducible exact Ext.refl _ | with_reducible refine Ext.trans ?_ (by with_reducible assumption)))⟩
  have k8 : k ≤ 8 := by omega
  have HT8 : ∀ w', Hid (Calls Try.prog 87 #[.int .i64 k] w' fun e w'' => e = .returned (.bool false) ∧ Ext w' w'') := fun w' => by
    have h := HT w'
    rw [Wn_not.2 (by omega)] at h
    exact h
  have HE8 := HE k8
  clear HT HC HB HE HP1 HP0 HP4 HS
  by_cases hij : i = j
  · subst hij
    obtain rfl : x = y := hxy.out rfl
    have hG : ((⟨ea, eb, ec, ed⟩, ee) : R4 × Nat) = (⟨ga, gb, gc, gd⟩, ge) := (HG.out.trans (by rw [if_neg k12, if_neg k9, if_pos (Or.inl rfl)])).symm
    cases hG
    clear HG
    go_enter Try.func93, Try.ntmps93
    go_wp2_with fail
    refine ((HT8 _).out).mono ?_
    rintro e w1 ⟨rfl, hx1⟩
    obtain ⟨hc1, hf1⟩ := hx1.cells
    have hz1 := hx1.size
    try simp at hz1
    have hs1_0 := sz1 (a := w.heap.size) (b := w1.heap.size) (by omega)
    have l1_1 : b1 < w1.heap.size := by omega
    have l2_1 : b2 < w1.heap.size := by omega
    have hxW : Ext w w1 := ((Ext.refl w).alloc _).trans hx1
    have HZ : Hid (w1.heap[w.heap.size]? = some (.cells #[.int .i64 0, .int .i64 0, .int .i64 0, .int .i64 0, .int .i64 0] 107 (0, 0))) := Lib.hid ((Ext.heap hx1 (by simp)).trans (heap_alloc_new _ _))
    go_wp2
    refine wp_region_madePC (m := 75) (w) (by kernel_rfl) (by kernel_rfl) (by rfl) (by exact hxW) (fun hxc => ?_)
    repeat (refine mw_quiet ?_; apply Exists.intro; refine ⟨fun σ => ?_, ?_⟩; (first | (go_simp; rfl) | (go_simp; intro x; first | (go_at_call 97; with_reducible exact (HA _).out) | (go_at_call 97; with_reducible exact (HJ _).out) | (go_at_call 99; with_reducible exact (HE8 _).out) | (go_at_call 97; exact (HA _).out) | (go_at_call 97; exact (HJ _).out) | (go_at_call 99; exact (HE8 _).out))); simp only [Act.put, List.setIfInBounds_toArray, List.set_cons_succ, List.set_cons_zero, List.nil_append, List.cons_append])
    refine mw_put (w.heap.size) 107 #[.int .i64 0, .int .i64 0, .int .i64 0, .int .i64 0, .int .i64 0] #[.int .i64 ga, .int .i64 gb, .int .i64 gc, .int .i64 gd, .int .i64 ge] rfl (by first | (simp; done) | (simp; omega)) (HZ.out) (fun σ x hc => ?_) ?_
    · have hcell : ∀ k, x.w.cell? ⟨w.heap.size, k, none⟩ = (#[.int .i64 0, .int .i64 0, .int .i64 0, .int .i64 0, .int .i64 0] : Array Value)[k]? := fun k => cell_of_row _ _ _ _ _ _ hc
      have hfr : ∀ k, x.w.frozen? ⟨w.heap.size, k, none⟩ = false := fun k => frozen_of_row _ _ _ _ _ hc
      apply Exists.intro
      refine ⟨?_, ?_⟩
      · go_simp
        rfl
      · exact (((((Fill.start hc).set 0 _).set 1 _).set 2 _).set 3 _).set 4 _
    simp only [Act.put, List.nil_append, List.cons_append]
    repeat (refine mw_quiet ?_; apply Exists.intro; refine ⟨fun σ => ?_, ?_⟩; (first | (go_simp; rfl) | (go_simp; intro x; first | (go_at_call 97; with_reducible exact (HA _).out) | (go_at_call 97; with_reducible exact (HJ _).out) | (go_at_call 99; with_reducible exact (HE8 _).out) | (go_at_call 97; exact (HA _).out) | (go_at_call 97; exact (HJ _).out) | (go_at_call 99; exact (HE8 _).out))); simp only [Act.put, List.setIfInBounds_toArray, List.set_cons_succ, List.set_cons_zero, List.nil_append, List.cons_append])
    refine ⟨by kernel_rfl, fun σ w8 hF8 => ?_⟩
    have hx8 := hF8.ext
    have hP8 := hF8.put 13 (undef) (w.heap.size) 107 #[.int .i64 0, .int .i64 0, .int .i64 0, .int .i64 0, .int .i64 0] #[.int .i64 ga, .int .i64 gb, .int .i64 gc, .int .i64 gd, .int .i64 ge] (by decide) rfl
    clear hF8 hxc
    have hPc8 : ∀ j, w8.cell? ⟨w.heap.size, j, none⟩ = (#[.int .i64 ga, .int .i64 gb, .int .i64 gc, .int .i64 gd, .int .i64 ge] : Array Value)[j]? := fun j => cell_of_row _ _ _ _ _ _ hP8
    have hPf8 : ∀ j, w8.frozen? ⟨w.heap.size, j, none⟩ = false := fun j => frozen_of_row _ _ _ _ _ hP8
    clear hP8
    obtain ⟨hc8, hf8⟩ := hx8.cells
    have hz8 := hx8.size
    try simp at hz8
    go_wp2
    refine bodyPost_ret (v := .tuple #[.agg #[.int .i64 ga, .int .i64 gb, .int .i64 gc, .int .i64 gd, .int .i64 ge], .bool true]) (by simp [results, Try.results93, go_sem, *]) rfl ?_
    exact ⟨rfl, hx8⟩
  · have hij' : ¬ ((i : Int) = j) := by omega
    by_cases hu : u = j
    · subst hu
      have hG : ((⟨ea, eb, ec, ed⟩, ee) : R4 × Nat) = (⟨ga, gb, gc, gd⟩, ge) := (HG.out.trans (by rw [if_neg k12, if_neg k9, if_pos (Or.inr rfl)])).symm
      cases hG
      clear HG
      go_enter Try.func93, Try.ntmps93
      go_wp2_with fail
      refine ((HT8 _).out).mono ?_
      rintro e w1 ⟨rfl, hx1⟩
      obtain ⟨hc1, hf1⟩ := hx1.cells
      have hz1 := hx1.size
      try simp at hz1
      have hs1_0 := sz1 (a := w.heap.size) (b := w1.heap.size) (by omega)
      have l1_1 : b1 < w1.heap.size := by omega
      have l2_1 : b2 < w1.heap.size := by omega
      go_wp2_with fail
      refine ((HF _).out).mono ?_
      rintro e w2 ⟨rfl, hx2⟩
      obtain ⟨hc2, hf2⟩ := hx2.cells
      have hz2 := hx2.size
      try simp at hz2
      have hs2_0 := sz1 (a := w.heap.size) (b := w2.heap.size) (by omega)
      have l1_2 : b1 < w2.heap.size := by omega
      have l2_2 : b2 < w2.heap.size := by omega
      have hxW : Ext w w2 := (((Ext.refl w).alloc _).trans hx1).trans hx2
      have HZ : Hid (w2.heap[w.heap.size]? = some (.cells #[.int .i64 0, .int .i64 0, .int .i64 0, .int .i64 0, .int .i64 0] 107 (0, 0))) := Lib.hid ((Ext.heap (hx1.trans hx2) (by simp)).trans (heap_alloc_new _ _))
      go_wp2
      refine wp_region_madePC (m := 75) (w) (by kernel_rfl) (by kernel_rfl) (by rfl) (by exact hxW) (fun hxc => ?_)
      repeat (refine mw_quiet ?_; apply Exists.intro; refine ⟨fun σ => ?_, ?_⟩; (first | (go_simp; rfl) | (go_simp; intro x; first | (go_at_call 97; with_reducible exact (HA _).out) | (go_at_call 97; with_reducible exact (HJ _).out) | (go_at_call 99; with_reducible exact (HE8 _).out) | (go_at_call 97; exact (HA _).out) | (go_at_call 97; exact (HJ _).out) | (go_at_call 99; exact (HE8 _).out))); simp only [Act.put, List.setIfInBounds_toArray, List.set_cons_succ, List.set_cons_zero, List.nil_append, List.cons_append])
      refine mw_put (w.heap.size) 107 #[.int .i64 0, .int .i64 0, .int .i64 0, .int .i64 0, .int .i64 0] #[.int .i64 ga, .int .i64 gb, .int .i64 gc, .int .i64 gd, .int .i64 ge] rfl (by first | (simp; done) | (simp; omega)) (HZ.out) (fun σ x hc => ?_) ?_
      · have hcell : ∀ k, x.w.cell? ⟨w.heap.size, k, none⟩ = (#[.int .i64 0, .int .i64 0, .int .i64 0, .int .i64 0, .int .i64 0] : Array Value)[k]? := fun k => cell_of_row _ _ _ _ _ _ hc
        have hfr : ∀ k, x.w.frozen? ⟨w.heap.size, k, none⟩ = false := fun k => frozen_of_row _ _ _ _ _ hc
        apply Exists.intro
        refine ⟨?_, ?_⟩
        · go_simp
          rfl
        · exact (((((Fill.start hc).set 0 _).set 1 _).set 2 _).set 3 _).set 4 _
      simp only [Act.put, List.nil_append, List.cons_append]
      repeat (refine mw_quiet ?_; apply Exists.intro; refine ⟨fun σ => ?_, ?_⟩; (first | (go_simp; rfl) | (go_simp; intro x; first | (go_at_call 97; with_reducible exact (HA _).out) | (go_at_call 97; with_reducible exact (HJ _).out) | (go_at_call 99; with_reducible exact (HE8 _).out) | (go_at_call 97; exact (HA _).out) | (go_at_call 97; exact (HJ _).out) | (go_at_call 99; exact (HE8 _).out))); simp only [Act.put, List.setIfInBounds_toArray, List.set_cons_succ, List.set_cons_zero, List.nil_append, List.cons_append])
      refine ⟨by kernel_rfl, fun σ w8 hF8 => ?_⟩
      have hx8 := hF8.ext
      have hP8 := hF8.put 13 (undef) (w.heap.size) 107 #[.int .i64 0, .int .i64 0, .int .i64 0, .int .i64 0, .int .i64 0] #[.int .i64 ga, .int .i64 gb, .int .i64 gc, .int .i64 gd, .int .i64 ge] (by decide) rfl
      clear hF8 hxc
      have hPc8 : ∀ j, w8.cell? ⟨w.heap.size, j, none⟩ = (#[.int .i64 ga, .int .i64 gb, .int .i64 gc, .int .i64 gd, .int .i64 ge] : Array Value)[j]? := fun j => cell_of_row _ _ _ _ _ _ hP8
      have hPf8 : ∀ j, w8.frozen? ⟨w.heap.size, j, none⟩ = false := fun j => frozen_of_row _ _ _ _ _ hP8
      clear hP8
      obtain ⟨hc8, hf8⟩ := hx8.cells
      have hz8 := hx8.size
      try simp at hz8
      go_wp2
      refine bodyPost_ret (v := .tuple #[.agg #[.int .i64 ga, .int .i64 gb, .int .i64 gc, .int .i64 gd, .int .i64 ge], .bool true]) (by simp [results, Try.results93, go_sem, *]) rfl ?_
      exact ⟨rfl, hx8⟩
    · have hu' : ¬ ((u : Int) = j) := by omega
      have hij2 : ((i : Int) == j) = false := by simpa using hij'
      have hu2 : ((u : Int) == j) = false := by simpa using hu'
      have hG : ((⟨0, 0, 0, 0⟩, 0) : R4 × Nat) = (⟨ga, gb, gc, gd⟩, ge) := (HG.out.trans (by rw [if_neg k12, if_neg k9, if_neg (fun h => by rcases h with h | h; exact hij h; exact hu h)]; rfl)).symm
      cases hG
      clear HG
      go_enter Try.func93, Try.ntmps93
      go_wp2_with fail
      refine ((HT8 _).out).mono ?_
      rintro e w1 ⟨rfl, hx1⟩
      obtain ⟨hc1, hf1⟩ := hx1.cells
      have hz1 := hx1.size
      try simp at hz1
      have hs1_0 := sz1 (a := w.heap.size) (b := w1.heap.size) (by omega)
      have l1_1 : b1 < w1.heap.size := by omega
      have l2_1 : b2 < w1.heap.size := by omega
      go_wp2_with fail
      refine ((HF _).out).mono ?_
      rintro e w2 ⟨rfl, hx2⟩
      obtain ⟨hc2, hf2⟩ := hx2.cells
      have hz2 := hx2.size
      try simp at hz2
      have hs2_0 := sz1 (a := w.heap.size) (b := w2.heap.size) (by omega)
      have l1_2 : b1 < w2.heap.size := by omega
      have l2_2 : b2 < w2.heap.size := by omega
      go_wp2
      refine bodyPost_ret (v := .tuple #[.agg #[.int .i64 0, .int .i64 0, .int .i64 0, .int .i64 0, .int .i64 0], .bool true]) (by simp [results, Try.results93, go_sem, *]) rfl ?_
      exact ⟨rfl, (by repeat (first | (with_reducible refine Ext.setCell ?_ (by first | (simp; done) | (simp; omega)) _) | with_reducible refine Ext.alloc ?_ _ | with_reducible refine Ext.drew ?_ | with_reducible refine Ext.drewN ?_ _ | with_reducible assumption | with_reducible exact Ext.refl _ | with_reducible refine Ext.trans ?_ (by with_reducible assumption)))⟩

end Go.Proofs.Ytbddgeoaaklgpaa
