/- AddMatrix: the reference's side. -/
import Derived.Test.YtnlhonlfkmpleaaAdM
import Derived.Test.YtnlhonlfkmpleaaWra
namespace Go.Proofs.Ytnlhonlfkmpleaa
open Go.RowKit Go.Lib
set_option linter.unusedVariables false
set_option linter.unusedSimpArgs false

theorem matrix_good (bc : Nat) (r c : Int) (a : Option Addr) (n cap : Nat) (w : World) (h : w.heap[bc]? = some (.cells #[.bool false] 84 (0, 0))) :
    Calls Try.prog 80 #[.pointer (some ⟨bc, 0, none⟩), .agg #[.int .i64 r, .int .i64 c, .slice a n cap]] w fun en w' => en = .returned (.tuple #[.agg #[.int .i64 r, .int .i64 c, .slice a n cap], .bool true]) ∧ Ext w w' := by
  have hl : bc < w.heap.size := (Array.getElem?_eq_some_iff.1 h).1
  have z : ∀ k, w.cell? ⟨bc, k, none⟩ = (#[.bool false] : Array Value)[k]? := fun k => cell_of_row _ _ _ _ _ _ h
  clear h
  go_enter Try.func80, Try.ntmps80
  go_wp2
  refine bodyPost_ret (v := .tuple #[.agg #[.int .i64 r, .int .i64 c, .slice a n cap], .bool true]) (by simp [results, Try.results80, go_sem, *]) rfl ?_
  exact ⟨rfl, (by repeat (first | (with_reducible refine Ext.setCell ?_ (by first | (simp; done) | (simp; omega)) _) | with_reducible refine Ext.alloc ?_ _ | with_reducible refine Ext.drew ?_ | with_reducible refine Ext.drewN ?_ _ | with_reducible assumption | with_reducible exact Ext.refl _ | with_reducible refine Ext.trans ?_ (by with_reducible assumption)))⟩
theorem matrix_bad (bc : Nat) (r c : Int) (a : Option Addr) (n cap : Nat) (w : World) (h : w.heap[bc]? = some (.cells #[.bool true] 84 (0, 0))) :
    Calls Try.prog 80 #[.pointer (some ⟨bc, 0, none⟩), .agg #[.int .i64 r, .int .i64 c, .slice a n cap]] w fun en w' => en = .returned (.tuple #[.agg #[.int .i64 0, .int .i64 0, .slice none 0 0], .bool false]) ∧ Ext w w' := by
  have hl : bc < w.heap.size := (Array.getElem?_eq_some_iff.1 h).1
  have z : ∀ k, w.cell? ⟨bc, k, none⟩ = (#[.bool true] : Array Value)[k]? := fun k => cell_of_row _ _ _ _ _ _ h
  clear h
  go_enter Try.func80, Try.ntmps80
  go_wp2
  refine bodyPost_ret (v := .tuple #[.agg #[.int .i64 0, .int .i64 0, .slice none 0 0], .bool false]) (by simp [results, Try.results80, go_sem, *]) rfl ?_
  exact ⟨rfl, (by repeat (first | (with_reducible refine Ext.setCell ?_ (by first | (simp; done) | (simp; omega)) _) | with_reducible refine Ext.alloc ?_ _ | with_reducible refine Ext.drew ?_ | with_reducible refine Ext.drewN ?_ _ | with_reducible assumption | with_reducible exact Ext.refl _ | with_reducible refine Ext.trans ?_ (by with_reducible assumption)))⟩

/-- the state of a loop that gathers cells: the failure's mark, the matrix in its box, its cells a row of its own -/
structure SR (r c : Int) (w : World) (β : Bool) (L : List Int) (k : Nat) (v : Value) (wr : World) : Prop where
  own : wr.ownsRow (w.heap.size + 2) 34 5 v k (IL L)
  bad : wr.heap[w.heap.size]? = some (.cells #[.bool β] 84 (0, 0))
  out : wr.heap[w.heap.size + 1]? = some (.cells #[.int .i64 r, .int .i64 c, v] 51 (0, 0))
  ext : Ext w wr
theorem SR.lt {r c : Int} {w : World} {β : Bool} {L : List Int} {k : Nat} {v : Value} {wr : World} (h : SR r c w β L k v wr) : w.heap.size + 1 < wr.heap.size := (Array.getElem?_eq_some_iff.1 h.out).1
theorem SR.gx {r c : Int} {w : World} {β β' : Bool} {L : List Int} {k : Nat} {v : Value} {wr wa : World} (h : SR r c w β L k v wr) (hg : GX [w.heap.size, w.heap.size + 1] wr wa) (hb : wa.heap[w.heap.size]? = some (.cells #[.bool β'] 84 (0, 0)))
    (ho : wa.heap[w.heap.size + 1]? = some (.cells #[.int .i64 r, .int .i64 c, v] 51 (0, 0))) : SR r c w β' L k v wa :=
  ⟨own_gx h.own hg (by simp), hb, ho, ((GX.ofExt (S := [w.heap.size, w.heap.size + 1]) h.ext).trans hg).toExt (by simp)⟩
theorem SR.step {r c : Int} {w : World} {β : Bool} {L L' : List Int} {k k' : Nat} {v v' : Value} {wr wa wb : World} (h : SR r c w β L k v wr) (hx : Ext wr wa) (hg : wa.grownBy wb v.ownBlock) (hown : wb.ownsRow (w.heap.size + 2) 34 5 v' k' (IL L')) :
    SR r c w β L' k' v' (wb.setCell ⟨w.heap.size + 1, 2, none⟩ v') := by
  have hl := h.lt
  have hs := hx.size
  have hb : ∀ j, v.ownBlock = some j → w.heap.size + 2 ≤ j := fun j hj => (h.own.lt j hj).1
  refine ⟨own_set hown (by simp) _, heap_set_ne (by simp) ((hg.block _ (by omega) (fun e => by have := hb _ e.symm; omega)).trans ((hx.heap (by omega)).trans h.bad)), ?_, Ext.setCell (Ext.grown (h.ext.trans hx) hg (fun j hj => by have := hb j hj; omega)) (by simp) _⟩
  exact heap_set_at ((hg.block _ (by omega) (fun e => by have := hb _ e.symm; omega)).trans ((hx.heap (by omega)).trans h.out)) 2 v'

theorem news_heap {w : World} {B : Nat} {t : TypeId} {c : Array Value} {xs : List Value} (h : w.heap[B]? = some (.cells c t (0, 0))) (hx : c.toList = xs) : ∀ j u, xs[j]? = some u → w.cell? ((⟨B, 0, none⟩ : Addr).add j) = some u := by
  subst hx
  intro j u hu
  rw [show (⟨B, 0, none⟩ : Addr).add j = ⟨B, j, none⟩ by unfold Addr.add; split <;> simp_all]
  rw [cell_of_row _ _ _ _ _ _ h]
  simpa using hu
/-- has a sum failed so far -/
def bdTo (xs ys : List Int) (n : Nat) : Bool := !(allTo (fun p => !(dyBad (dyAt xs p) (exAt xs p).toNat (dyAt ys p) (exAt ys p).toNat)) n)
theorem bdTo_succ (xs ys : List Int) (n : Nat) : bdTo xs ys (n + 1) = (bdTo xs ys n || dyBad (dyAt xs n) (exAt xs n).toNat (dyAt ys n) (exAt ys n).toNat) := by
  unfold bdTo
  rw [allTo_succ]
  simp
def smL (xs ys : List Int) (n : Nat) : List Int := moL (fun p => dyX (dyAt xs p) (exAt xs p).toNat (dyAt ys p) (exAt ys p).toNat) (fun p => (dyE (dyAt xs p) (exAt xs p).toNat (dyAt ys p) (exAt ys p).toNat : Int)) n
theorem smL_succ (xs ys : List Int) (n : Nat) : IL (smL xs ys (n + 1)) = IL (smL xs ys n) ++ [.int .i64 (dyX (dyAt xs n) (exAt xs n).toNat (dyAt ys n) (exAt ys n).toNat).a, .int .i64 (dyX (dyAt xs n) (exAt xs n).toNat (dyAt ys n) (exAt ys n).toNat).b,
    .int .i64 (dyX (dyAt xs n) (exAt xs n).toNat (dyAt ys n) (exAt ys n).toNat).c, .int .i64 (dyX (dyAt xs n) (exAt xs n).toNat (dyAt ys n) (exAt ys n).toNat).d, .int .i64 (dyE (dyAt xs n) (exAt xs n).toNat (dyAt ys n) (exAt ys n).toNat : Int)] := moL_succ _ _ _
theorem sum_same {xs ys : List Int} {n : Nat} (hx : mOk xs n = true) (hy : mOk ys n = true) : amTo xs ys n = !(bdTo xs ys n) ∧ (bdTo xs ys n = false → amLM xs ys n = smL xs ys n) := by
  have h1 : ∀ k, k < n → adOk (dyAt xs k) (exAt xs k) (dyAt ys k) (exAt ys k) = !(dyBad (dyAt xs k) (exAt xs k).toNat (dyAt ys k) (exAt ys k).toNat) := fun k hk => by
    unfold adOk
    rw [mOk_at hx hk, mOk_at hy hk]
    rfl
  refine ⟨?_, fun h => ?_⟩
  · unfold amTo bdTo
    rw [Bool.not_not]
    exact allTo_congr h1
  · have h2 : allTo (fun p => !(dyBad (dyAt xs p) (exAt xs p).toNat (dyAt ys p) (exAt ys p).toNat)) n = true := by
      unfold bdTo at h
      simpa using h
    unfold amLM smL
    refine moL_congr fun k hk => ?_
    have h3 := h1 k hk
    rw [allTo_at h2 hk] at h3
    unfold adX adE
    rw [h3]
    exact ⟨rfl, rfl⟩

set_option maxRecDepth 20000 in
set_option maxHeartbeats 4000000 in
theorem s_addMatrix_any (r c r' c' : Int) {v1 v2 : Value} {n m : Nat} {xs ys : List Int} (hn : n ≤ 2000000) (hm : m ≤ 2000000) (w : World) (h1 : RV w 5 v1 n xs) (h2 : RV w 5 v2 m ys) :
    Calls Try.prog 37 #[.agg #[.int .i64 r, .int .i64 c, v1], .agg #[.int .i64 r', .int .i64 c', v2]] w fun en w' => ∃ v, en = .returned (.tuple #[.agg #[.int .i64 (ifZ (amOkM r c n xs r' c' m ys) r), .int .i64 (ifZ (amOkM r c n xs r' c' m ys) c), v], .bool (amOkM r c n xs r' c' m ys)]) ∧
      w'.ownsRow w.heap.size 34 5 v (ifN (amOkM r c n xs r' c' m ys) n) (IL (ifL (amOkM r c n xs r' c' m ys) (amLM xs ys n))) ∧ Ext w w' := by
  obtain ⟨i0, hi, iz0, iz1, iz2⟩ := info_parts info_dyadic
  have HV1 := fun w' (hx : Ext w w') => Lib.hid (l3Good_any r c w' (h1.ext hx))
  have HV2 := fun w' (hx : Ext w w') => Lib.hid (l3Good_any r' c' w' (h2.ext hx))
  have HO : Hid (amOkM r c n xs r' c' m ys = ((mGood r c n xs && (mGood r' c' m ys && ((r == r') && (c == c')))) && amTo xs ys n)) := rfl
  obtain ⟨hlx, a1, cap1, rfl, p1, p2, hhx⟩ := h1
  obtain ⟨hly, a2, cap2, rfl, p3, p4, hhy⟩ := h2
  have HX := Lib.hid hhx
  have HY := Lib.hid hhy
  have HLX := Lib.hid hlx
  have HLY := Lib.hid hly
  clear hhx hhy hlx hly
  cases g1 : mGood r c n xs
  · rw [g1] at HV1 HO
    have HF : Hid (amOkM r c n xs r' c' m ys = false) := HO.out.trans (by simp)
    go_enter Try.func37, Try.ntmps37
    go_wp2_with fail
    refine ((HV1 _ (by repeat (first | exact Ext.refl _ | assumption | refine Ext.alloc ?_ _ | refine Ext.drew ?_ | refine Ext.drewN ?_ _ | refine Ext.setCell ?_ (by first | omega | (dsimp only; omega) | (simp; done) | (simp; omega)) _ | refine Ext.trans ?_ (by assumption)))).out).mono ?_
    rintro e w1 ⟨rfl, hx1⟩
    obtain ⟨hc1, hf1⟩ := hx1.cells
    have hz1 := hx1.size
    try simp at hz1
    have hs1_0 := sz3 (a := w.heap.size) (b := w1.heap.size) (by omega)
    go_wp2
    refine bodyPost_ret (v := .tuple #[.agg #[.int .i64 0, .int .i64 0, .slice none 0 0], .bool false]) (by simp [results, Try.results37, go_sem, *]) rfl ?_
    rw [HF.out]
    exact ⟨_, rfl, own_nil _ _ _ _, (by repeat (first | (with_reducible refine Ext.setCell ?_ (by first | (simp; done) | (simp; omega)) _) | with_reducible refine Ext.alloc ?_ _ | with_reducible refine Ext.drew ?_ | with_reducible refine Ext.drewN ?_ _ | with_reducible assumption | with_reducible exact Ext.refl _ | with_reducible refine Ext.trans ?_ (by with_reducible assumption)))⟩
  cases g2 : mGood r' c' m ys
  · rw [g1] at HV1 HO
    rw [g2] at HV2 HO
    have HF : Hid (amOkM r c n xs r' c' m ys = false) := HO.out.trans (by simp)
    go_enter Try.func37, Try.ntmps37
    go_wp2_with fail
    refine ((HV1 _ (by repeat (first | exact Ext.refl _ | assumption | refine Ext.alloc ?_ _ | refine Ext.drew ?_ | refine Ext.drewN ?_ _ | refine Ext.setCell ?_ (by first | omega | (dsimp only; omega) | (simp; done) | (simp; omega)) _ | refine Ext.trans ?_ (by assumption)))).out).mono ?_
    rintro e w1 ⟨rfl, hx1⟩
    obtain ⟨hc1, hf1⟩ := hx1.cells
    have hz1 := hx1.size
    try simp at hz1
    have hs1_0 := sz3 (a := w.heap.size) (b := w1.heap.size) (by omega)
    go_wp2_with fail
    refine ((HV2 _ (by repeat (first | exact Ext.refl _ | assumption | refine Ext.alloc ?_ _ | refine Ext.drew ?_ | refine Ext.drewN ?_ _ | refine Ext.setCell ?_ (by first | omega | (dsimp only; omega) | (simp; done) | (simp; omega)) _ | refine Ext.trans ?_ (by assumption)))).out).mono ?_
    rintro e w2 ⟨rfl, hx2⟩
    obtain ⟨hc2, hf2⟩ := hx2.cells
    have hz2 := hx2.size
    try simp at hz2
    have hs2_0 := sz3 (a := w.heap.size) (b := w2.heap.size) (by omega)
    go_wp2
    refine bodyPost_ret (v := .tuple #[.agg #[.int .i64 0, .int .i64 0, .slice none 0 0], .bool false]) (by simp [results, Try.results37, go_sem, *]) rfl ?_
    rw [HF.out]
    exact ⟨_, rfl, own_nil _ _ _ _, (by repeat (first | (with_reducible refine Ext.setCell ?_ (by first | (simp; done) | (simp; omega)) _) | with_reducible refine Ext.alloc ?_ _ | with_reducible refine Ext.drew ?_ | with_reducible refine Ext.drewN ?_ _ | with_reducible assumption | with_reducible exact Ext.refl _ | with_reducible refine Ext.trans ?_ (by with_reducible assumption)))⟩
  by_cases g3 : r = r'
  case neg =>
    rw [g1] at HV1 HO
    rw [g2] at HV2 HO
    have HF : Hid (amOkM r c n xs r' c' m ys = false) := HO.out.trans (by simp [g3])
    go_enter Try.func37, Try.ntmps37
    go_wp2_with fail
    refine ((HV1 _ (by repeat (first | exact Ext.refl _ | assumption | refine Ext.alloc ?_ _ | refine Ext.drew ?_ | refine Ext.drewN ?_ _ | refine Ext.setCell ?_ (by first | omega | (dsimp only; omega) | (simp; done) | (simp; omega)) _ | refine Ext.trans ?_ (by assumption)))).out).mono ?_
    rintro e w1 ⟨rfl, hx1⟩
    obtain ⟨hc1, hf1⟩ := hx1.cells
    have hz1 := hx1.size
    try simp at hz1
    have hs1_0 := sz3 (a := w.heap.size) (b := w1.heap.size) (by omega)
    go_wp2_with fail
    refine ((HV2 _ (by repeat (first | exact Ext.refl _ | assumption | refine Ext.alloc ?_ _ | refine Ext.drew ?_ | refine Ext.drewN ?_ _ | refine Ext.setCell ?_ (by first | omega | (dsimp only; omega) | (simp; done) | (simp; omega)) _ | refine Ext.trans ?_ (by assumption)))).out).mono ?_
    rintro e w2 ⟨rfl, hx2⟩
    obtain ⟨hc2, hf2⟩ := hx2.cells
    have hz2 := hx2.size
    try simp at hz2
    have hs2_0 := sz3 (a := w.heap.size) (b := w2.heap.size) (by omega)
    go_wp2
    refine bodyPost_ret (v := .tuple #[.agg #[.int .i64 0, .int .i64 0, .slice none 0 0], .bool false]) (by simp [results, Try.results37, go_sem, *]) rfl ?_
    rw [HF.out]
    exact ⟨_, rfl, own_nil _ _ _ _, (by repeat (first | (with_reducible refine Ext.setCell ?_ (by first | (simp; done) | (simp; omega)) _) | with_reducible refine Ext.alloc ?_ _ | with_reducible refine Ext.drew ?_ | with_reducible refine Ext.drewN ?_ _ | with_reducible assumption | with_reducible exact Ext.refl _ | with_reducible refine Ext.trans ?_ (by with_reducible assumption)))⟩
  by_cases g4 : c = c'
  case neg =>
    rw [g1] at HV1 HO
    rw [g2] at HV2 HO
    have HF : Hid (amOkM r c n xs r' c' m ys = false) := HO.out.trans (by simp [g4])
    subst g3
    go_enter Try.func37, Try.ntmps37
    go_wp2_with fail
    refine ((HV1 _ (by repeat (first | exact Ext.refl _ | assumption | refine Ext.alloc ?_ _ | refine Ext.drew ?_ | refine Ext.drewN ?_ _ | refine Ext.setCell ?_ (by first | omega | (dsimp only; omega) | (simp; done) | (simp; omega)) _ | refine Ext.trans ?_ (by assumption)))).out).mono ?_
    rintro e w1 ⟨rfl, hx1⟩
    obtain ⟨hc1, hf1⟩ := hx1.cells
    have hz1 := hx1.size
    try simp at hz1
    have hs1_0 := sz3 (a := w.heap.size) (b := w1.heap.size) (by omega)
    go_wp2_with fail
    refine ((HV2 _ (by repeat (first | exact Ext.refl _ | assumption | refine Ext.alloc ?_ _ | refine Ext.drew ?_ | refine Ext.drewN ?_ _ | refine Ext.setCell ?_ (by first | omega | (dsimp only; omega) | (simp; done) | (simp; omega)) _ | refine Ext.trans ?_ (by assumption)))).out).mono ?_
    rintro e w2 ⟨rfl, hx2⟩
    obtain ⟨hc2, hf2⟩ := hx2.cells
    have hz2 := hx2.size
    try simp at hz2
    have hs2_0 := sz3 (a := w.heap.size) (b := w2.heap.size) (by omega)
    go_wp2
    refine bodyPost_ret (v := .tuple #[.agg #[.int .i64 0, .int .i64 0, .slice none 0 0], .bool false]) (by simp [results, Try.results37, go_sem, *]) rfl ?_
    rw [HF.out]
    exact ⟨_, rfl, own_nil _ _ _ _, (by repeat (first | (with_reducible refine Ext.setCell ?_ (by first | (simp; done) | (simp; omega)) _) | with_reducible refine Ext.alloc ?_ _ | with_reducible refine Ext.drew ?_ | with_reducible refine Ext.drewN ?_ _ | with_reducible assumption | with_reducible exact Ext.refl _ | with_reducible refine Ext.trans ?_ (by with_reducible assumption)))⟩
  subst g3
  subst g4
  rw [g1] at HV1 HO
  rw [g2] at HV2 HO
  simp only [beq_self_eq_true, Bool.true_and] at HO
  obtain ⟨d1, d2, e1, mx⟩ := mGood_facts g1
  obtain ⟨_, _, e2, my⟩ := mGood_facts g2
  obtain ⟨R, rfl⟩ := nat_of_dim d1
  obtain ⟨C, rfl⟩ := nat_of_dim d2
  have bR := dim_bd d1
  have bC := dim_bd d2
  obtain rfl : n = m := by omega
  have hn2 : n ≤ 1024 := by
    have := mul_bd (a := (R : Int)) (b := (C : Int)) (A := 32) (B := 32) (by omega) (by omega) (by omega) (by omega)
    omega
  obtain ⟨ss1, ss2⟩ := sum_same mx my
  have HS1 := Lib.hid ss1
  have HS2 := Lib.hid ss2
  have MX := Lib.hid mx
  have MY := Lib.hid my
  clear ss1 ss2 mx my e1 e2 g1 g2 d1 d2
  go_enter Try.func37, Try.ntmps37
  go_wp2_with fail
  refine ((HV1 _ (by repeat (first | exact Ext.refl _ | assumption | refine Ext.alloc ?_ _ | refine Ext.drew ?_ | refine Ext.drewN ?_ _ | refine Ext.setCell ?_ (by first | omega | (dsimp only; omega) | (simp; done) | (simp; omega)) _ | refine Ext.trans ?_ (by assumption)))).out).mono ?_
  rintro e w1 ⟨rfl, hx1⟩
  obtain ⟨hc1, hf1⟩ := hx1.cells
  have hz1 := hx1.size
  try simp at hz1
  have hs1_0 := sz3 (a := w.heap.size) (b := w1.heap.size) (by omega)
  go_wp2_with fail
  refine ((HV2 _ (by repeat (first | exact Ext.refl _ | assumption | refine Ext.alloc ?_ _ | refine Ext.drew ?_ | refine Ext.drewN ?_ _ | refine Ext.setCell ?_ (by first | omega | (dsimp only; omega) | (simp; done) | (simp; omega)) _ | refine Ext.trans ?_ (by assumption)))).out).mono ?_
  rintro e w2 ⟨rfl, hx2⟩
  obtain ⟨hc2, hf2⟩ := hx2.cells
  have hz2 := hx2.size
  try simp at hz2
  have hs2_0 := sz3 (a := w.heap.size) (b := w2.heap.size) (by omega)
  have hb1 : w2.heap[w.heap.size]? = some (.cells #[.int .i64 R, .int .i64 C, .slice a1 n cap1] 51 (0, 0)) := (hx2.heap (by omega)).trans ((hx1.heap (by simp <;> omega)).trans (heap_alloc_lt (heap_alloc_lt (heap_alloc_new _ _))))
  have hb2 : w2.heap[w.heap.size + 1]? = some (.cells #[.int .i64 R, .int .i64 C, .slice a2 n cap2] 51 (0, 0)) := (hx2.heap (by omega)).trans ((hx1.heap (by simp <;> omega)).trans (heap_alloc_lt (heap_alloc_at _ _ _ (by simp))))
  have hb3 : w2.heap[w.heap.size + 1 + 1]? = some (.cells #[.int .i64 0, .int .i64 0, .slice none 0 0] 51 (0, 0)) := (hx2.heap (by omega)).trans ((hx1.heap (by simp <;> omega)).trans (heap_alloc_at _ _ _ (by simp)))
  have hE2 : Ext w w2 := (by repeat (first | (with_reducible refine Ext.setCell ?_ (by first | (simp; done) | (simp; omega)) _) | with_reducible refine Ext.alloc ?_ _ | with_reducible refine Ext.drew ?_ | with_reducible refine Ext.drewN ?_ _ | with_reducible assumption | with_reducible exact Ext.refl _ | with_reducible refine Ext.trans ?_ (by with_reducible assumption)))
  go_wp2
  go_loopw [8, 42] (fun _ i wr => ∃ (j : Nat) (v : Value), j ≤ n ∧ i = .int .i64 j ∧ SR R C w2 (bdTo xs ys j) (smL xs ys j) j v wr) (fun _ i _ => n - (intOf i).toNat)
  case atStart =>
    exact ⟨0, .slice none 0 0, by omega, rfl, ⟨own_nil _ _ _ _, heap_alloc_lt (heap_alloc_new _ _), heap_alloc_at _ _ _ (by simp), (by repeat (first | exact Ext.refl _ | assumption | refine Ext.alloc ?_ _ | refine Ext.drew ?_ | refine Ext.drewN ?_ _ | refine Ext.setCell ?_ (by first | omega | (dsimp only; omega) | (simp; done) | (simp; omega)) _ | refine Ext.trans ?_ (by assumption)))⟩⟩
  case round =>
    obtain ⟨j, v, hj, rfl, hS⟩ := hrel
    obtain ⟨av, cv, rfl, _, _, _⟩ := own_shape hS.own
    have HS := Lib.hid hS
    have hsz := hS.lt
    have hs0 : w2.heap.size < wr.heap.size := by omega
    have hE : Ext w wr := hE2.trans hS.ext
    have hB1 : wr.heap[w.heap.size]? = some (.cells #[.int .i64 R, .int .i64 C, .slice a1 n cap1] 51 (0, 0)) := (hS.ext.heap (by omega)).trans hb1
    have hB2 : wr.heap[w.heap.size + 1]? = some (.cells #[.int .i64 R, .int .i64 C, .slice a2 n cap2] 51 (0, 0)) := (hS.ext.heap (by omega)).trans hb2
    have hB3 : wr.heap[w.heap.size + 1 + 1]? = some (.cells #[.int .i64 0, .int .i64 0, .slice none 0 0] 51 (0, 0)) := (hS.ext.heap (by omega)).trans hb3
    clear hS hc1 hf1 hc2 hf2
    by_cases hlt : j < n
    · have hlt' : (j : Int) < n := by omega
      obtain ⟨r1, u1, u2, _⟩ := GD_rg (mOk_at MX.out hlt)
      obtain ⟨r2, u3, u4, _⟩ := GD_rg (mOk_at MY.out hlt)
      have HB := Lib.hid (bdTo_succ xs ys j)
      have HL := Lib.hid (smL_succ xs ys j)
      have hADD := fun (β : Bool) (w' : World) (h : w'.heap[w2.heap.size]? = some (.cells #[.bool β] 84 (0, 0))) => Lib.hid (add_any w2.heap.size β (dyAt xs j) (exAt xs j).toNat (dyAt ys j) (exAt ys j).toNat r1 (by omega) r2 (by omega) w' h)
      have t1 : ((exAt xs j).toNat : Int) = exAt xs j := Int.toNat_of_nonneg u1
      have t2 : ((exAt ys j).toNat : Int) = exAt ys j := Int.toNat_of_nonneg u3
      simp only [t1, t2] at hADD
      clear t1 t2 r1 r2 u1 u2 u3 u4
      generalize dyX (dyAt xs j) (exAt xs j).toNat (dyAt ys j) (exAt ys j).toNat = Q at *
      generalize dyE (dyAt xs j) (exAt xs j).toNat (dyAt ys j) (exAt ys j).toNat = q at *
      generalize dyBad (dyAt xs j) (exAt xs j).toNat (dyAt ys j) (exAt ys j).toNat = bb at *
      generalize bdTo xs ys j = β at *
      have HADD := hADD β
      unfold dyAt exAt at HADD
      simp only at HADD
      clear hADD
      obtain ⟨bx, offx, rfl, hbkx, hcellx⟩ := HX.out (by omega)
      have hbrx : bx < wr.heap.size := by have := hE.size; omega
      have zx0 : wr.cell? ⟨bx, offx + j * 5, none⟩ = some (.int .i64 (at3 xs (j * 5))) := (hE.cells.1 bx (offx + (j * 5)) hbkx).trans (hcellx _ _ (at3_get (by have := HLX.out; omega)))
      have zx1 : wr.cell? ⟨bx, offx + j * 5 + 1, none⟩ = some (.int .i64 (at3 xs (j * 5 + 1))) := (hE.cells.1 bx (offx + (j * 5 + 1)) hbkx).trans (hcellx _ _ (at3_get (by have := HLX.out; omega)))
      have zx2 : wr.cell? ⟨bx, offx + j * 5 + 2, none⟩ = some (.int .i64 (at3 xs (j * 5 + 2))) := (hE.cells.1 bx (offx + (j * 5 + 2)) hbkx).trans (hcellx _ _ (at3_get (by have := HLX.out; omega)))
      have zx3 : wr.cell? ⟨bx, offx + j * 5 + 3, none⟩ = some (.int .i64 (at3 xs (j * 5 + 3))) := (hE.cells.1 bx (offx + (j * 5 + 3)) hbkx).trans (hcellx _ _ (at3_get (by have := HLX.out; omega)))
      have zx4 : wr.cell? ⟨bx, offx + j * 5 + 4, none⟩ = some (.int .i64 (at3 xs (j * 5 + 4))) := (hE.cells.1 bx (offx + (j * 5 + 4)) hbkx).trans (hcellx _ _ (at3_get (by have := HLX.out; omega)))
      clear hcellx
      obtain ⟨bz, offz, rfl, hbkz, hcellz⟩ := HY.out (by omega)
      have hbrz : bz < wr.heap.size := by have := hE.size; omega
      have zz0 : wr.cell? ⟨bz, offz + j * 5, none⟩ = some (.int .i64 (at3 ys (j * 5))) := (hE.cells.1 bz (offz + (j * 5)) hbkz).trans (hcellz _ _ (at3_get (by have := HLY.out; omega)))
      have zz1 : wr.cell? ⟨bz, offz + j * 5 + 1, none⟩ = some (.int .i64 (at3 ys (j * 5 + 1))) := (hE.cells.1 bz (offz + (j * 5 + 1)) hbkz).trans (hcellz _ _ (at3_get (by have := HLY.out; omega)))
      have zz2 : wr.cell? ⟨bz, offz + j * 5 + 2, none⟩ = some (.int .i64 (at3 ys (j * 5 + 2))) := (hE.cells.1 bz (offz + (j * 5 + 2)) hbkz).trans (hcellz _ _ (at3_get (by have := HLY.out; omega)))
      have zz3 : wr.cell? ⟨bz, offz + j * 5 + 3, none⟩ = some (.int .i64 (at3 ys (j * 5 + 3))) := (hE.cells.1 bz (offz + (j * 5 + 3)) hbkz).trans (hcellz _ _ (at3_get (by have := HLY.out; omega)))
      have zz4 : wr.cell? ⟨bz, offz + j * 5 + 4, none⟩ = some (.int .i64 (at3 ys (j * 5 + 4))) := (hE.cells.1 bz (offz + (j * 5 + 4)) hbkz).trans (hcellz _ _ (at3_get (by have := HLY.out; omega)))
      clear hcellz
      generalize at3 xs (j * 5) = x0 at *
      generalize at3 xs (j * 5 + 1) = x1 at *
      generalize at3 xs (j * 5 + 2) = x2 at *
      generalize at3 xs (j * 5 + 3) = x3 at *
      generalize at3 xs (j * 5 + 4) = x4 at *
      generalize at3 ys (j * 5) = y0 at *
      generalize at3 ys (j * 5 + 1) = y1 at *
      generalize at3 ys (j * 5 + 2) = y2 at *
      generalize at3 ys (j * 5 + 3) = y3 at *
      generalize at3 ys (j * 5 + 4) = y4 at *
      have zb1 : ∀ k, wr.cell? ⟨w.heap.size, k, none⟩ = (#[.int .i64 R, .int .i64 C, .slice (some ⟨bx, offx, none⟩) n cap1] : Array Value)[k]? := fun k => cell_of_row _ _ _ _ _ _ hB1
      have zb2 : ∀ k, wr.cell? ⟨w.heap.size + 1, k, none⟩ = (#[.int .i64 R, .int .i64 C, .slice (some ⟨bz, offz, none⟩) n cap2] : Array Value)[k]? := fun k => cell_of_row _ _ _ _ _ _ hB2
      go_wp2
      refine Wr.wp_region_wra (m := 68) (fun n => .slice (some ⟨n, 0, none⟩) 1 1) 34 #[.int .i64 Q.a, .int .i64 Q.b, .int .i64 Q.c, .int .i64 Q.d, .int .i64 q] [⟨w2.heap.size, 84, #[.bool β]⟩, ⟨w2.heap.size + 1, 51, #[.int .i64 R, .int .i64 C, .slice av j cv]⟩] (by kernel_rfl) (by kernel_rfl) rfl (by simp; try omega) ?_ ?_
      · intro s hs
        rcases s with _ | _ | s
        · exact (show (World.heap _)[w2.heap.size]? = some (Obj.cells #[.bool β] 84 (0, 0)) from HS.out.bad)
        · exact (show (World.heap _)[w2.heap.size + 1]? = some (Obj.cells #[.int .i64 R, .int .i64 C, .slice av j cv] 51 (0, 0)) from HS.out.out)
        · simp at hs
          try omega
      refine Wr.wa_old (w.heap.size) (by first | omega | (simp; done) | (simp; omega)) (by first | (simp; done) | (simp; omega)) (fun hold0 => ?_)
      refine Wr.wa_old (w.heap.size + 1) (by first | omega | (simp; done) | (simp; omega)) (by first | (simp; done) | (simp; omega)) (fun hold1 => ?_)
      refine Wr.wa_old (bx) (by first | omega | (simp; done) | (simp; omega)) (by first | (simp; done) | (simp; omega)) (fun hold2 => ?_)
      refine Wr.wa_old (bz) (by first | omega | (simp; done) | (simp; omega)) (by first | (simp; done) | (simp; omega)) (fun hold3 => ?_)
      (refine Wr.wa_plain ?_; apply Exists.intro; refine ⟨?_, ?_⟩; (first | (go_simp; (try intro x); (try go_bits); rfl)); simp only [Act.put, List.setIfInBounds_toArray, List.set_cons_succ, List.set_cons_zero, List.nil_append, List.cons_append])
      refine Wr.wa_read 1 (w2.heap.size + 1) 51 #[.int .i64 R, .int .i64 C, .slice av j cv] (by simp) rfl rfl rfl (fun hr => ?_)
      apply Exists.intro
      refine ⟨?_, ?_⟩
      · go_simp
        (try intro x)
        (try go_bits)
        rfl
      clear hr
      simp only [Act.put, List.setIfInBounds_toArray, List.set_cons_succ, List.set_cons_zero, List.nil_append, List.cons_append]
      (refine Wr.wa_plain ?_; apply Exists.intro; refine ⟨?_, ?_⟩; (first | (go_simp; (try intro x); (try go_bits); rfl)); simp only [Act.put, List.setIfInBounds_toArray, List.set_cons_succ, List.set_cons_zero, List.nil_append, List.cons_append])
      (refine Wr.wa_plain ?_; apply Exists.intro; refine ⟨?_, ?_⟩; (first | (go_simp; (try intro x); (try go_bits); rfl)); simp only [Act.put, List.setIfInBounds_toArray, List.set_cons_succ, List.set_cons_zero, List.nil_append, List.cons_append])
      (refine Wr.wa_plain ?_; apply Exists.intro; refine ⟨?_, ?_⟩; (first | (go_simp; (try intro x); (try go_bits); rfl)); simp only [Act.put, List.setIfInBounds_toArray, List.set_cons_succ, List.set_cons_zero, List.nil_append, List.cons_append])
      (refine Wr.wa_plain ?_; apply Exists.intro; refine ⟨?_, ?_⟩; (first | (go_simp; (try intro x); (try go_bits); rfl)); simp only [Act.put, List.setIfInBounds_toArray, List.set_cons_succ, List.set_cons_zero, List.nil_append, List.cons_append])
      (refine Wr.wa_plain ?_; apply Exists.intro; refine ⟨?_, ?_⟩; (first | (go_simp; (try intro x); (try go_bits); rfl)); simp only [Act.put, List.setIfInBounds_toArray, List.set_cons_succ, List.set_cons_zero, List.nil_append, List.cons_append])
      (refine Wr.wa_plain ?_; apply Exists.intro; refine ⟨?_, ?_⟩; (first | (go_simp; (try intro x); (try go_bits); rfl)); simp only [Act.put, List.setIfInBounds_toArray, List.set_cons_succ, List.set_cons_zero, List.nil_append, List.cons_append])
      (refine Wr.wa_plain ?_; apply Exists.intro; refine ⟨?_, ?_⟩; (first | (go_simp; (try intro x); (try go_bits); rfl)); simp only [Act.put, List.setIfInBounds_toArray, List.set_cons_succ, List.set_cons_zero, List.nil_append, List.cons_append])
      (refine Wr.wa_plain ?_; apply Exists.intro; refine ⟨?_, ?_⟩; (first | (go_simp; (try intro x); (try go_bits); rfl)); simp only [Act.put, List.setIfInBounds_toArray, List.set_cons_succ, List.set_cons_zero, List.nil_append, List.cons_append])
      (refine Wr.wa_plain ?_; apply Exists.intro; refine ⟨?_, ?_⟩; (first | (go_simp; (try intro x); (try go_bits); rfl)); simp only [Act.put, List.setIfInBounds_toArray, List.set_cons_succ, List.set_cons_zero, List.nil_append, List.cons_append])
      (refine Wr.wa_plain ?_; apply Exists.intro; refine ⟨?_, ?_⟩; (first | (go_simp; (try intro x); (try go_bits); rfl)); simp only [Act.put, List.setIfInBounds_toArray, List.set_cons_succ, List.set_cons_zero, List.nil_append, List.cons_append])
      (refine Wr.wa_plain ?_; apply Exists.intro; refine ⟨?_, ?_⟩; (first | (go_simp; (try intro x); (try go_bits); rfl)); simp only [Act.put, List.setIfInBounds_toArray, List.set_cons_succ, List.set_cons_zero, List.nil_append, List.cons_append])
      refine Wr.wa_call (.agg #[.int .i64 Q.a, .int .i64 Q.b, .int .i64 Q.c, .int .i64 Q.d, .int .i64 q]) 0 (w2.heap.size) 84 #[.bool β] #[.bool (or β bb)] rfl (by simp) rfl rfl rfl (fun x => ?_) ?_
      · apply Exists.intro
        apply Exists.intro
        refine ⟨?_, ?_⟩
        · go_simp
          (try go_bits)
          first | rfl | exact ⟨rfl, rfl⟩
        · exact (HADD _ x.2.2).out
      simp only [Act.put, List.setIfInBounds_toArray, List.set_cons_succ, List.set_cons_zero, List.nil_append, List.cons_append]
      refine Wr.wa_stop (fun _ => by kernel_rfl) (by kernel_rfl) (by rfl) (fun W hW => ?_) (fun w3 B3 hg3 hs3 hB3 hm3 => ?_)
      · first | (go_simp; done) | (go_simp; rfl)
      simp only [Act.put, List.setIfInBounds_toArray, List.set_cons_succ, List.set_cons_zero, List.nil_append, List.cons_append]
      have hb3_0 : w3.heap[w2.heap.size]? = some (.cells #[.bool (or β bb)] 84 (0, 0)) := hs3 0 (by simp)
      have hb3_1 : w3.heap[w2.heap.size + 1]? = some (.cells #[.int .i64 R, .int .i64 C, .slice av j cv] 51 (0, 0)) := hs3 1 (by simp)
      clear hs3
      simp only [List.map_cons, List.map_nil] at hg3
      have HS3 := Lib.hid (HS.out.gx hg3 hb3_0 hb3_1)
      have hlB : B3 < w3.heap.size := (Array.getElem?_eq_some_iff.1 hm3).1
      have hl3 : w2.heap.size + 1 < w3.heap.size := HS3.out.lt
      have f3 : ∀ k, w3.frozen? ⟨w2.heap.size + 1, k, none⟩ = false := fun k => frozen_of_row _ _ _ _ _ HS3.out.out
      have z3 : ∀ k, w3.cell? ⟨w2.heap.size + 1, k, none⟩ = (#[.int .i64 R, .int .i64 C, .slice av j cv] : Array Value)[k]? := fun k => cell_of_row _ _ _ _ _ _ HS3.out.out
      have hfar : ∀ k, (Value.slice av j cv).ownBlock = some k → k ≠ w2.heap.size + 1 := fun k hk => by have := (HS3.out.own.lt k hk).1; omega
      clear HADD hb3_0 hb3_1 zb1 zb2
      go_wp2_with go_loud (at_builtin; refine wpList_append_lies _ rfl (.tmp 46) (.tmp 59) _ rfl (w2.heap.size + 2) 34 i0 (.agg #[.int .i64 0, .int .i64 0, .int .i64 0, .int .i64 0, .int .i64 0]) 5 40 Try.underlying49 hi iz0 iz1 iz2 rfl (by decide) _ j (IL (smL xs ys j)) (by rfl) HS3.out.own ⟨B3, 0, none⟩ 1 1 [.int .i64 Q.a, .int .i64 Q.b, .int .i64 Q.c, .int .i64 Q.d, .int .i64 q] (by rfl) (by rfl) (news_heap hm3 rfl) (by intro u hu; simp at hu; rcases hu with rfl | rfl | rfl | rfl | rfl <;> rfl) (by decide) (by first | omega | (simp only [maxLen] <;> omega)) (by omega) (by first | omega | (simp <;> omega)) _ (by rfl) ?_; intro g2 cap w4 hown2 hgrow hat hlt2; have f4 : ∀ k, w4.frozen? ⟨w2.heap.size + 1, k, none⟩ = false := fun k => (hgrow.frozen_far ⟨w2.heap.size + 1, k, none⟩ (by first | omega | (simp <;> omega)) (fun e => hfar _ e.symm rfl)).trans (f3 k); have z4 : ∀ k, w4.cell? ⟨w2.heap.size + 1, k, none⟩ = (#[.int .i64 R, .int .i64 C, .slice av j cv] : Array Value)[k]? := fun k => (hgrow.cell_far ⟨w2.heap.size + 1, k, none⟩ (by first | omega | (simp <;> omega)) (fun e => hfar _ e.symm rfl)).trans (z3 k))
      go_roundw
      case rel =>
        refine ⟨j + 1, .slice (some ⟨g2, 0, none⟩) (j + 1) cap, by omega, by go_num, ?_⟩
        rw [← HL.out] at hown2
        rw [HB.out]
        exact HS3.out.step (Ext.refl w3) hgrow hown2
      case measure => simp [intOf]; omega
    · obtain rfl : j = n := by omega
      have HBAD := Lib.hid HS.out.bad
      have zo : ∀ k, wr.cell? ⟨w2.heap.size + 1, k, none⟩ = (#[.int .i64 R, .int .i64 C, .slice av j cv] : Array Value)[k]? := fun k => cell_of_row _ _ _ _ _ _ HS.out.out
      have zr : ∀ k, wr.cell? ⟨w.heap.size + 1 + 1, k, none⟩ = (#[.int .i64 0, .int .i64 0, .slice none 0 0] : Array Value)[k]? := fun k => cell_of_row _ _ _ _ _ _ hB3
      have fr : ∀ k, wr.frozen? ⟨w.heap.size + 1 + 1, k, none⟩ = false := fun k => frozen_of_row _ _ _ _ _ hB3
      have hlr : w.heap.size + 1 + 1 < wr.heap.size := (Array.getElem?_eq_some_iff.1 hB3).1
      have hEw := Lib.hid hE
      cases hbd : bdTo xs ys j
      · rw [hbd] at HBAD HS1 HS2
        have HOT : Hid (amOkM R C j xs R C j ys = true) := HO.out.trans HS1.out
        have HLL : Hid (amLM xs ys j = smL xs ys j) := HS2.out rfl
        go_wp2_with fail
        refine (matrix_good w2.heap.size R C av j cv _ HBAD.out).mono ?_
        rintro e w5 ⟨rfl, hx5⟩
        have hE5 : Ext w w5 := hEw.out.trans hx5
        have HW5 := Lib.hid (own_ext HS.out.own hx5)
        have hlr5 : w.heap.size + 1 + 1 < w5.heap.size := by have := hx5.size; omega
        have zr5 : ∀ k, w5.cell? ⟨w.heap.size + 1 + 1, k, none⟩ = (#[.int .i64 0, .int .i64 0, .slice none 0 0] : Array Value)[k]? := fun k => cell_of_row _ _ _ _ _ _ ((hx5.heap hlr).trans hB3)
        have fr5 : ∀ k, w5.frozen? ⟨w.heap.size + 1 + 1, k, none⟩ = false := fun k => frozen_of_row _ _ _ _ _ ((hx5.heap hlr).trans hB3)
        go_wp2
        refine bodyPost_ret (v := .tuple #[.agg #[.int .i64 R, .int .i64 C, .slice av j cv], .bool true]) (by simp [results, Try.results37, go_sem, *]) rfl ?_
        rw [HOT.out, HLL.out]
        exact ⟨_, rfl, own_base (own_set (own_set (own_set HW5.out (by simp; omega) _) (by simp; omega) _) (by simp; omega) _) (by omega), (by repeat (first | (with_reducible refine Ext.setCell ?_ (by first | (simp; done) | (simp; omega)) _) | with_reducible refine Ext.alloc ?_ _ | with_reducible refine Ext.drew ?_ | with_reducible refine Ext.drewN ?_ _ | with_reducible assumption | with_reducible exact Ext.refl _ | with_reducible refine Ext.trans ?_ (by with_reducible assumption)))⟩
      · rw [hbd] at HBAD HS1
        have HOT : Hid (amOkM R C j xs R C j ys = false) := HO.out.trans HS1.out
        go_wp2_with fail
        refine (matrix_bad w2.heap.size R C av j cv _ HBAD.out).mono ?_
        rintro e w5 ⟨rfl, hx5⟩
        have hE5 : Ext w w5 := hEw.out.trans hx5
        have hlr5 : w.heap.size + 1 + 1 < w5.heap.size := by have := hx5.size; omega
        have zr5 : ∀ k, w5.cell? ⟨w.heap.size + 1 + 1, k, none⟩ = (#[.int .i64 0, .int .i64 0, .slice none 0 0] : Array Value)[k]? := fun k => cell_of_row _ _ _ _ _ _ ((hx5.heap hlr).trans hB3)
        have fr5 : ∀ k, w5.frozen? ⟨w.heap.size + 1 + 1, k, none⟩ = false := fun k => frozen_of_row _ _ _ _ _ ((hx5.heap hlr).trans hB3)
        go_wp2
        refine bodyPost_ret (v := .tuple #[.agg #[.int .i64 0, .int .i64 0, .slice none 0 0], .bool false]) (by simp [results, Try.results37, go_sem, *]) rfl ?_
        rw [HOT.out]
        exact ⟨_, rfl, own_nil _ _ _ _, (by repeat (first | (with_reducible refine Ext.setCell ?_ (by first | (simp; done) | (simp; omega)) _) | with_reducible refine Ext.alloc ?_ _ | with_reducible refine Ext.drew ?_ | with_reducible refine Ext.drewN ?_ _ | with_reducible assumption | with_reducible exact Ext.refl _ | with_reducible refine Ext.trans ?_ (by with_reducible assumption)))⟩

end Go.Proofs.Ytnlhonlfkmpleaa
