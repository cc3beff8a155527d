/- The program's layers. -/
import Derived.Test.YtbddgeoaaklgpaaTrN
namespace Go.Proofs.Ytbddgeoaaklgpaa
open Go.RowKit Go.Lib
set_option linter.unusedVariables false
set_option linter.unusedSimpArgs false

/-- the five qubits' layers -/
def laL (S : Nat → Nat) : List Int := [(S 0 : Int), (S 1 : Int), (S 2 : Int), (S 3 : Int), (S 4 : Int)]
theorem laL_get (S : Nat → Nat) {p : Nat} (hp : p < 5) : (IL (laL S))[p]? = some (.int .i64 (S p : Nat)) := by
  have : p = 0 ∨ p = 1 ∨ p = 2 ∨ p = 3 ∨ p = 4 := by omega
  rcases this with rfl | rfl | rfl | rfl | rfl <;> rfl
def uS (S : Nat → Nat) (p v : Nat) : Nat → Nat := fun q => if q = p then v else S q
theorem laL_set (S : Nat → Nat) {p : Nat} (hp : p < 5) (v : Nat) : (IL (laL S)).toArray.setIfInBounds p (.int .i64 (v : Nat)) = (IL (laL (uS S p v))).toArray := by
  have : p = 0 ∨ p = 1 ∨ p = 2 ∨ p = 3 ∨ p = 4 := by omega
  rcases this with rfl | rfl | rfl | rfl | rfl <;> rfl
theorem tq_len (g : G3) : (tq g).length ≤ 2 := by
  unfold tq
  split
  · simp
  split <;> simp
/-- the layer from the first j qubits; the state with the first j qubits set -/
def pmx (S : Nat → Nat) (Q : List Nat) : Nat → Nat
  | 0 => 0
  | j + 1 => max (pmx S Q j) (S (Q.getD j 0) + 1)
def pup (S : Nat → Nat) (Q : List Nat) (v : Nat) : Nat → (Nat → Nat)
  | 0 => S
  | j + 1 => uS (pup S Q v j) (Q.getD j 0) v
theorem pmx_all (S : Nat → Nat) (g : G3) : pmx S (tq g) (tq g).length = tly S g := by
  obtain ⟨k, a, b⟩ := g
  by_cases h12 : k = 12
  · subst h12; rfl
  by_cases h9 : 9 ≤ k ∧ k ≤ 11
  · rw [tq_two h9]
    show max (max 0 (S a + 1)) (S b + 1) = (if k = 12 then 0 else if 9 ≤ k ∧ k ≤ 11 then max (S a + 1) (S b + 1) else S a + 1)
    rw [if_neg h12, if_pos h9, Nat.zero_max]
  · rw [tq_one h12 h9]
    show max 0 (S a + 1) = (if k = 12 then 0 else if 9 ≤ k ∧ k ≤ 11 then max (S a + 1) (S b + 1) else S a + 1)
    rw [if_neg h12, if_neg h9, Nat.zero_max]
theorem pup_all (S : Nat → Nat) (g : G3) : pup S (tq g) (tly S g) (tq g).length = tup S g := by
  funext q
  unfold tup
  generalize tly S g = v
  obtain ⟨k, a, b⟩ := g
  by_cases h12 : k = 12
  · subst h12; rfl
  by_cases h9 : 9 ≤ k ∧ k ≤ 11
  · rw [tq_two h9]
    show (if q = b then v else if q = a then v else S q) = if q ∈ [a, b] then v else S q
    by_cases h1 : q = b
    · simp [h1]
    · by_cases h2 : q = a
      · simp [h2]
      · simp [h1, h2]
  · rw [tq_one h12 h9]
    show (if q = a then v else S q) = if q ∈ [a] then v else S q
    by_cases h2 : q = a
    · simp [h2]
    · simp [h2]
theorem pmx_bd {S : Nat → Nat} {Q : List Nat} {B : Nat} (h : ∀ q, S q ≤ B) : ∀ j, pmx S Q j ≤ B + 1
  | 0 => Nat.zero_le _
  | j + 1 => by
    have := pmx_bd (Q := Q) h j
    have := h (Q.getD j 0)
    show max _ _ ≤ _
    omega
theorem at3_map {Q : List Nat} {j : Nat} : at3 (Q.map fun (q : Nat) => (q : Int)) j = (Q.getD j 0 : Nat) := by
  unfold at3
  rw [List.getD_eq_getElem?_getD, List.getD_eq_getElem?_getD, List.getElem?_map]
  cases Q[j]? <;> rfl
theorem zeros_drop (n i : Nat) (h : i < n) : List.replicate (n - i) (0 : Int) = 0 :: List.replicate (n - (i + 1)) 0 := by
  rw [show n - i = n - (i + 1) + 1 by omega, List.replicate_succ]

theorem set_midX : ∀ (A : List Int) (h z : Int) (B : List Int), (A ++ h :: B).set A.length z = A ++ z :: B
  | [], h, z, B => rfl
  | x :: A, h, z, B => by
    show (x :: (A ++ h :: B)).set (A.length + 1) z = x :: (A ++ z :: B)
    rw [List.set_cons_succ, set_midX A h z B]
theorem mid_getX (A : List Int) (z : Int) (B : List Int) : (IL (A ++ z :: B))[A.length]? = some (.int .i64 z) := by
  simp [IL]
/-- the state of the program's loop: the layers so far, the qubits' layers -/
structure LS (b : Nat) (vo : Value) (m : Nat) (L : List Int) (bl : Nat) (S : Nat → Nat) (w : World) : Prop where
  own : w.ownsRow b 3 1 vo m (IL L)
  la : w.heap[bl]? = some (.cells (IL (laL S)).toArray 114 (0, 0))
  df : ∀ k, vo.ownBlock = some k → k ≠ bl
section
variable {b : Nat} {vo : Value} {m : Nat} {L : List Int} {bl : Nat} {S : Nat → Nat} {w : World}
theorem LS.ext {w' : World} (h : LS b vo m L bl S w) (hx : Ext w w') : LS b vo m L bl S w' := ⟨own_ext h.own hx, (hx.heap (Array.getElem?_eq_some_iff.1 h.la).1).trans h.la, h.df⟩
theorem LS.setO {g c : Nat} (h : LS b (.slice (some ⟨g, 0, none⟩) m c) m L bl S w) (j : Nat) (z : Int) : LS b (.slice (some ⟨g, 0, none⟩) m c) m (L.set j z) bl S (w.setCell ⟨g, j, none⟩ (.int .i64 z)) := by
  have s := World.ownsRow.stored h.own j (.int .i64 z)
  have e : (IL L).set j (.int .i64 z) = IL (L.set j z) := by simp [IL, List.map_set]
  rw [e] at s
  exact ⟨s.1, heap_grown s.2 h.la (fun e => by cases e; exact h.df bl rfl rfl), h.df⟩
theorem LS.setL (h : LS b vo m L bl S w) {p : Nat} (hp : p < 5) (v : Nat) : LS b vo m L bl (uS S p v) (w.setCell ⟨bl, p, none⟩ (.int .i64 (v : Nat))) := by
  refine ⟨?_, ?_, h.df⟩
  · have hl := (Array.getElem?_eq_some_iff.1 h.la).1
    refine World.ownsRow.kept h.own (row := some bl) ⟨rfl, rfl, rfl, by simp, fun k _ hk => heap_setCell_other w ⟨bl, p, none⟩ k _ (fun e => hk (by simp [e]))⟩ ?_
    rcases hb : vo.ownBlock with _ | k
    · exact .inl rfl
    · exact .inr (fun e => h.df k hb (by cases e; rfl))
  · rw [← laL_set S hp v]
    exact heap_set_at h.la p _
theorem LS.cell (h : LS b vo m L bl S w) {p : Nat} (hp : p < 5) : w.cell? ⟨bl, p, none⟩ = some (.int .i64 (S p : Nat)) := by
  rw [cell_of_row _ _ p _ _ _ h.la]
  have := laL_get S hp
  simpa using this
theorem LS.fro (h : LS b vo m L bl S w) (p : Nat) : w.frozen? ⟨bl, p, none⟩ = false := frozen_of_row _ _ p _ _ h.la
theorem LS.lt (h : LS b vo m L bl S w) : bl < w.heap.size := (Array.getElem?_eq_some_iff.1 h.la).1
end

set_option maxRecDepth 20000 in
set_option maxHeartbeats 8000000 in
theorem layers_any (q : Nat) {v : Value} {m : Nat} {xs : List Int} (hc : cOk q xs m = true) (w : World) (h : RV w 3 v m xs) :
    Calls Try.prog 45 #[.agg #[.int .i64 q, v]] w fun e w' => ∃ v', e = .returned v' ∧ w'.ownsRow w.heap.size 3 1 v' m (IL (lyL xs m)) ∧ Ext w w' := by
  have HQ := fun k a b w' => Lib.hid (qubitsOf_any k a b w')
  have HQL : Hid (∀ i, i < m → qL (at3 xs (i * 3)) (at3 xs (i * 3 + 1)) (at3 xs (i * 3 + 2)) = (tq (gN xs i)).map fun (q : Nat) => (q : Int)) := Lib.hid (fun i hi => by
    have f := gOk_facts (cOk_gate hc hi) (cOk_q1 hc).1
    exact qL_ql3 (by omega) (by omega) (by omega))
  have HQ5 : Hid (∀ i, i < m → ∀ j, j < (tq (gN xs i)).length → (tq (gN xs i)).getD j 0 < 5) := Lib.hid (fun i hi j hj => by
    have f := gOk_facts (cOk_gate hc hi) (cOk_q1 hc).1
    have q1 := cOk_q1 hc
    have hm : (tq (gN xs i)).getD j 0 ∈ tq (gN xs i) := by
      rw [List.getD_eq_getElem?_getD, List.getElem?_eq_getElem hj]
      exact List.getElem_mem hj
    generalize (tq (gN xs i)).getD j 0 = p at *
    unfold tq at hm
    have e1 : (gN xs i).2.1 = (at3 xs (i * 3 + 1)).toNat := rfl
    have e2 : (gN xs i).2.2 = (at3 xs (i * 3 + 2)).toNat := rfl
    split at hm
    · cases hm
    split at hm
    · simp only [List.mem_cons, List.not_mem_nil, or_false] at hm
      omega
    · simp only [List.mem_cons, List.not_mem_nil, or_false] at hm
      omega)
  have hm := (cOk_q1 hc).2.2
  obtain ⟨i0, hi, hz0, hz1, hz2⟩ := info_parts info_int
  obtain ⟨hl, a, cap, rfl, c1, c2, H⟩ := h
  have HH := Lib.hid H
  have HL := Lib.hid hl
  clear H hl hc
  obtain ⟨W0, hW0⟩ : ∃ W0, W0 = w.alloc (.cells #[.int .i64 q, .slice a m cap] 25 (0, 0)) := ⟨_, rfl⟩
  have HB0 : Hid (W0.heap[w.heap.size]? = some (.cells #[.int .i64 q, .slice a m cap] 25 (0, 0))) := by rw [hW0]; exact heap_alloc_new _ _
  have HE0 : Hid (Ext w W0) := by rw [hW0]; exact (Ext.refl w).alloc _
  have hs0 : w.heap.size < W0.heap.size := by rw [hW0]; simp
  have z0 := fun k => cell_of_row _ _ k _ _ _ HB0.out
  have HMZ : Hid ((madeCells (Value.int .i64 0).cells (m * 1)).toList = IL (List.replicate m 0)) := Lib.hid (by
    have e : (Value.int .i64 0).cells = #[.int .i64 0] := rfl
    rw [e, Nat.mul_one, toList_madeCells_one]
    simp [IL])
  go_enter Try.func45, Try.ntmps45
  go_upto_region 1 with fail
  rw [← hW0]
  clear hW0
  go_upto_region 2 with (at_make; refine wpList_make_full _ rfl _ _ _ rfl W0.heap.size 3 i0 (.int .i64 0) 1 Try.underlying53 hi hz0 hz1 .i64 .i64 _ _ m rfl rfl rfl rfl (by rw [hz2]; omega) (by simp only [maxLen]; omega) (Nat.le_refl _) ?_; intro w1 own1 hg1; rw [HMZ.out] at own1; have HO1 := Lib.hid own1; have HX1 : Hid (Ext W0 w1) := (Ext.grown (Ext.refl W0) hg1 (fun k hk => by cases hk)); clear own1 hg1)
  have hlt1 : W0.heap.size < w1.heap.size := (World.ownsRow.lt HO1.out W0.heap.size rfl).2
  obtain ⟨w2, hw2⟩ : ∃ w2, w2 = w1.alloc (.cells #[.int .i64 0, .int .i64 0, .int .i64 0, .int .i64 0, .int .i64 0] 114) := ⟨_, rfl⟩
  rw [← hw2]
  have HS2 : Hid (LS W0.heap.size (.slice (some ⟨W0.heap.size, 0, none⟩) m m) m (lyL xs 0 ++ List.replicate (m - 0) 0) w1.heap.size (tS xs 0) w2) := by
    rw [hw2]
    exact ⟨own_ext (by simpa [lyL] using HO1.out) ((Ext.refl _).alloc _), heap_alloc_new _ _, fun k hk => by cases hk; simp; omega⟩
  have HX2 : Hid (Ext W0 w2) := by rw [hw2]; exact HX1.out.alloc _
  clear hw2 HO1 HX1 HMZ z0
  generalize w1.heap.size = bl at *
  have hbx := (HX2.out.heap hs0).trans HB0.out
  have z0 := fun k => cell_of_row _ _ k _ _ _ hbx
  have l0 := (Array.getElem?_eq_some_iff.1 hbx).1
  clear hbx
  go_wp2
  go_loopw [19] (fun i wr => ∃ j : Nat, j ≤ m ∧ i = .int .i64 j ∧ Hid (LS W0.heap.size (.slice (some ⟨W0.heap.size, 0, none⟩) m m) m (lyL xs j ++ List.replicate (m - j) 0) bl (tS xs j) wr) ∧ Hid (Ext W0 wr)) (fun i _ => m - (intOf i).toNat)
  case atStart => exact ⟨0, by omega, rfl, HS2, HX2.out⟩
  case round =>
    clear z0 l0
    rename World => wA
    obtain ⟨i, hi, rfl, HS, HX⟩ := hrel
    have HE : Hid (Ext w wA) := HE0.out.trans HX.out
    by_cases hlt : i < m
    · have hlt' : (i : Int) < m := by omega
      obtain ⟨b, off, rfl, hbk, hcell⟩ := HH.out (by omega)
      have HCELL := Lib.hid hcell
      clear hcell
      have hbr : b < wA.heap.size := by have := HE.out.size; omega
      have z0 : wA.cell? ⟨b, off + i * 3, none⟩ = some (.int .i64 (at3 xs (i * 3))) := (HE.out.cells.1 b (off + (i * 3)) hbk).trans (HCELL.out _ _ (at3_get (by have := HL.out; omega)))
      have z1 : wA.cell? ⟨b, off + i * 3 + 1, none⟩ = some (.int .i64 (at3 xs (i * 3 + 1))) := (HE.out.cells.1 b (off + (i * 3 + 1)) hbk).trans (HCELL.out _ _ (at3_get (by have := HL.out; omega)))
      have z2 : wA.cell? ⟨b, off + i * 3 + 2, none⟩ = some (.int .i64 (at3 xs (i * 3 + 2))) := (HE.out.cells.1 b (off + (i * 3 + 2)) hbk).trans (HCELL.out _ _ (at3_get (by have := HL.out; omega)))
      have HQ' := fun w' => HQ (at3 xs (i * 3)) (at3 xs (i * 3 + 1)) (at3 xs (i * 3 + 2)) w'
      rw [HQL.out i hlt] at HQ'
      simp only [List.length_map] at HQ'
      have HQ5i := Lib.hid (HQ5.out i hlt)
      have HPM : Hid (pmx (tS xs i) (tq (gN xs i)) (tq (gN xs i)).length = lyA xs i) := pmx_all _ _
      have HPU : Hid (pup (tS xs i) (tq (gN xs i)) (lyA xs i) (tq (gN xs i)).length = tS xs (i + 1)) := by unfold Hid; rw [tS_succ]; exact pup_all _ _
      have HSB := Lib.hid (tS_bd xs i)
      have HLS : Hid (lyL xs (i + 1) = lyL xs i ++ [(lyA xs i : Int)]) := rfl
      have hly := lyA_bd xs i
      have HRQ := fun (w' : World) base v (h : w'.ownsRow base 3 1 v (tq (gN xs i)).length (IL ((tq (gN xs i)).map fun (q : Nat) => (q : Int)))) => RV.own h (by rw [List.length_map]; omega)
      have HS' := HS.out
      rw [zeros_drop m i hlt] at HS'
      have HSi := Lib.hid HS'
      clear HS' HS
      have hll := lyL_len xs i
      have hQ2 := tq_len (gN xs i)
      obtain ⟨T, hT⟩ : ∃ T, tS xs (i + 1) = T := ⟨_, rfl⟩
      rw [hT] at HPU
      have HT := Lib.hid hT
      clear hT
      generalize lyA xs i = y at *
      generalize tq (gN xs i) = Q at *
      generalize tS xs i = U at *
      generalize at3 xs (i * 3) = k0 at *
      generalize at3 xs (i * 3 + 1) = a0 at *
      generalize at3 xs (i * 3 + 2) = b0 at *
      obtain ⟨w1', hw1⟩ : ∃ w1, w1 = wA.alloc (.cells #[.int .i64 k0, .int .i64 a0, .int .i64 b0] 47) := ⟨_, rfl⟩
      have HB1 : Hid (w1'.heap[wA.heap.size]? = some (.cells #[.int .i64 k0, .int .i64 a0, .int .i64 b0] 47 (0, 0))) := by rw [hw1]; exact heap_alloc_new _ _
      have HX1 : Hid (Ext wA w1') := by rw [hw1]; exact (Ext.refl wA).alloc _
      go_upto_region 5 with fail
      rw [← hw1]
      clear hw1 z0 z1 z2
      have z6 := fun k => cell_of_row _ _ k _ _ _ HB1.out
      have l6 := (Array.getElem?_eq_some_iff.1 HB1.out).1
      go_wp2_with fail
      refine (HQ' _).out.mono ?_
      rintro e w3 ⟨vq, rfl, oq, hx3⟩
      have HS3 := Lib.hid (HSi.out.ext (HX1.out.trans hx3))
      have HX3 : Hid (Ext W0 w3) := HX.out.trans (HX1.out.trans hx3)
      have HB3 := Lib.hid ((hx3.heap l6).trans HB1.out)
      obtain ⟨aq, cq, rfl, d3, d4, hgq⟩ := own_shape oq
      have HGQ := Lib.hid hgq
      have hA0 : W0.heap.size < wA.heap.size := by have := (World.ownsRow.lt HSi.out.own W0.heap.size rfl).2; exact this
      have hbA := HSi.out.lt
      have hs1' := HX1.out.size
      clear oq hx3 z6 hgq
      go_wp2
      go_loopw [8, 27] (fun _ j wr => ∃ j' : Nat, j' ≤ Q.length ∧ j = .int .i64 j' ∧ Hid (LS W0.heap.size (.slice (some ⟨W0.heap.size, 0, none⟩) m m) m (lyL xs i ++ (pmx U Q j' : Int) :: List.replicate (m - (i + 1)) 0) bl U wr) ∧ Hid (GX [W0.heap.size] w3 wr)) (fun _ j _ => Q.length - (intOf j).toNat)
      case atStart => exact ⟨0, by omega, rfl, HS3, GX.refl _ _⟩
      case round =>
        obtain ⟨j, hj, rfl, HSr, HG⟩ := hrel
        have hpb := pmx_bd (Q := Q) HSB.out j
        by_cases hlj : j < Q.length
        · have hlj' : (j : Int) < (Q.length : Int) := by omega
          obtain ⟨gq, rfl, hg1, hg2, hgc, -⟩ := HGQ.out (by omega)
          have hq5 := HQ5i.out j hlj
          have hzq : wr.cell? ⟨gq, j, none⟩ = some (.int .i64 ((Q.getD j 0 : Nat) : Int)) := (HG.out.cell gq j hg2 (by simp; omega)).trans (hgc j _ (by rw [at3_get (by rw [List.length_map]; exact hlj), at3_map]))
          have HPS : Hid (pmx U Q (j + 1) = max (pmx U Q j) (U (Q.getD j 0) + 1)) := rfl
          have hub := HSB.out (Q.getD j 0)
          generalize Q.getD j 0 = p at *
          have hzl := HSr.out.cell hq5
          have hfl := HSr.out.fro
          have hll2 := HSr.out.lt
          have hzo : wr.cell? ⟨W0.heap.size, i, none⟩ = some (.int .i64 (pmx U Q j : Nat)) := (World.ownsRow.cellAt HSr.out.own i (by omega)).trans (by have := mid_getX (lyL xs i) (pmx U Q j : Nat) (List.replicate (m - (i + 1)) 0); rw [hll] at this; exact this)
          have hfo := World.ownsRow.frozenAt HSr.out.own
          have hlo := (World.ownsRow.lt HSr.out.own W0.heap.size rfl).2
          have hne : W0.heap.size ≠ bl := fun e => HSr.out.df W0.heap.size rfl e
          have HT1 : Hid (∀ z : Int, (lyL xs i ++ (pmx U Q j : Int) :: List.replicate (m - (i + 1)) 0).set i z = lyL xs i ++ z :: List.replicate (m - (i + 1)) 0) := Lib.hid (fun z => by have := set_midX (lyL xs i) (pmx U Q j : Nat) z (List.replicate (m - (i + 1)) 0); rw [hll] at this; exact this)
          have HSr' := HSr
          generalize pmx U Q j = x at *
          generalize U p = u at *
          have hx5 : (x : Int) ≤ 500 := by omega
          have hu5 : (u : Int) ≤ 500 := by omega
          have hp5 : (p : Int) < 5 := by omega
          have hic : i < m := hlt
          have hjc : j < cq := by omega
          go_wp2
          go_region
          all_goals
            go_wp2
            go_roundw
            case rel =>
              refine ⟨j + 1, by omega, by go_num, ?_, ?_⟩
              · have e : (if (x : Int) < (u : Int) + 1 then (u : Int) + 1 else (x : Int)) = ((max x (u + 1) : Nat) : Int) := by split <;> omega
                have h9 := (HSr'.out.setO i (max x (u + 1) : Nat)).ext ((Ext.refl _).drew)
                rw [HT1.out] at h9
                unfold Hid
                rw [HPS.out, e]
                exact h9
              · unfold Hid
                have hg := HG.out
                exact (by repeat (first | (with_reducible refine GX.setCell ?_ (by first | (simp; done) | (simp; omega)) _) | with_reducible refine GX.alloc ?_ _ | with_reducible refine GX.drew ?_ | with_reducible refine GX.drewN ?_ _ | with_reducible assumption | with_reducible exact GX.refl _ _ | with_reducible refine GX.ext ?_ (by with_reducible assumption) | with_reducible refine GX.trans ?_ (by with_reducible assumption)))
            case measure => simp [intOf]; omega
        · obtain rfl : j = Q.length := by omega
          have HS4 := HSr.out
          rw [HPM.out] at HS4
          have HS4 := Lib.hid HS4
          rename World => w4
          have X4 : Hid (Ext W0 w4) := ((GX.ofExt (S := [W0.heap.size]) HX3.out).trans HG.out).toExt (by simp)
          have l63 : wA.heap.size < w3.heap.size := (Array.getElem?_eq_some_iff.1 HB3.out).1
          have hb4 := (HG.out.heap l63 (by simp; omega)).trans HB3.out
          have z6 := fun k => cell_of_row _ _ k _ _ _ hb4
          have l6 := (Array.getElem?_eq_some_iff.1 hb4).1
          clear hb4 HSr HG HGQ HS3 hpb
          go_wp2_with fail
          refine (HQ' _).out.mono ?_
          rintro e w5 ⟨vq, rfl, oq, hx5⟩
          have HS5 := Lib.hid (HS4.out.ext hx5)
          have X5 : Hid (Ext W0 w5) := X4.out.trans hx5
          obtain ⟨aq2, cq2, rfl, d5, d6, hgq⟩ := own_shape oq
          have HGQ := Lib.hid hgq
          have hb4 := HS4.out.lt
          clear oq hx5 z6 hgq l6 X4 HS4
          go_wp2
          go_loopw [10, 47] (fun _ j wr => ∃ j' : Nat, j' ≤ Q.length ∧ j = .int .i64 j' ∧ Hid (LS W0.heap.size (.slice (some ⟨W0.heap.size, 0, none⟩) m m) m (lyL xs i ++ (y : Int) :: List.replicate (m - (i + 1)) 0) bl (pup U Q y j') wr) ∧ Hid (GX [bl] w5 wr)) (fun _ j _ => Q.length - (intOf j).toNat)
          case atStart => exact ⟨0, by omega, rfl, HS5, GX.refl _ _⟩
          case round =>
            obtain ⟨j, hj, rfl, HSr, HG⟩ := hrel
            by_cases hlj : j < Q.length
            · have hlj' : (j : Int) < (Q.length : Int) := by omega
              obtain ⟨gq, rfl, hg1, hg2, hgc, -⟩ := HGQ.out (by omega)
              have hq5 := HQ5i.out j hlj
              have hzq : wr.cell? ⟨gq, j, none⟩ = some (.int .i64 ((Q.getD j 0 : Nat) : Int)) := (HG.out.cell gq j hg2 (by simp; omega)).trans (hgc j _ (by rw [at3_get (by rw [List.length_map]; exact hlj), at3_map]))
              have HPS : Hid (pup U Q y (j + 1) = uS (pup U Q y j) (Q.getD j 0) y) := rfl
              generalize Q.getD j 0 = p at *
              have hzl := HSr.out.cell hq5
              have hfl := HSr.out.fro
              have hll2 := HSr.out.lt
              have hzo : wr.cell? ⟨W0.heap.size, i, none⟩ = some (.int .i64 (y : Nat)) := (World.ownsRow.cellAt HSr.out.own i (by omega)).trans (by have := mid_getX (lyL xs i) (y : Nat) (List.replicate (m - (i + 1)) 0); rw [hll] at this; exact this)
              have hlo := (World.ownsRow.lt HSr.out.own W0.heap.size rfl).2
              have hne : W0.heap.size ≠ bl := fun e => HSr.out.df W0.heap.size rfl e
              have hp5 : (p : Int) < 5 := by omega
              have hjc : j < cq2 := by omega
              have HS9 := Lib.hid (HSr.out.setL hq5 y)
              rw [← HPS.out] at HS9
              go_wp2
              go_roundw
              case rel =>
                refine ⟨j + 1, by omega, by go_num, HS9.out, ?_⟩
                unfold Hid
                have hg := HG.out
                exact (by repeat (first | (with_reducible refine GX.setCell ?_ (by first | (simp; done) | (simp; omega)) _) | with_reducible refine GX.alloc ?_ _ | with_reducible refine GX.drew ?_ | with_reducible refine GX.drewN ?_ _ | with_reducible assumption | with_reducible exact GX.refl _ _ | with_reducible refine GX.ext ?_ (by with_reducible assumption) | with_reducible refine GX.trans ?_ (by with_reducible assumption)))
              case measure => simp [intOf]; omega
            · obtain rfl : j = Q.length := by omega
              have HS6 := HSr.out
              rw [HPU.out] at HS6
              have HS6 := Lib.hid HS6
              have X6 : Hid (Ext W0 wr) := ((GX.ofExt (S := [bl]) X5.out).trans HG.out).toExt (by simp; omega)
              clear HSr HG HGQ HS5 X5
              go_wp2
              go_roundw
              case rel =>
                refine ⟨i + 1, by omega, by go_num, ?_, X6.out⟩
                unfold Hid
                rw [HT.out, HLS.out, List.append_assoc]
                exact HS6.out
              case measure => simp [intOf]; omega
    · obtain rfl : i = m := by omega
      have HO := HS.out.own
      rw [Nat.sub_self, List.replicate_zero, List.append_nil] at HO
      go_wp2
      go_ret
      exact ⟨_, rfl, own_base HO (by omega), HE.out⟩

end Go.Proofs.Ytbddgeoaaklgpaa
