/- The draw of the law on canonical phases; scaling, equality of matrices in the reference. -/
import Derived.Test.YtamiploliebplaaDoorCnD
import Derived.Test.YtamiploliebplaaDoorCopM
import Derived.Deep.AppendLies
namespace Go.Proofs.YtamiploliebplaaDoor
open Go.RowKit Go.Lib
set_option linter.unusedVariables false
set_option linter.unusedSimpArgs false

theorem cu_newC {w : World} {v : Value} {n : Nat} (h : BY w.heap.size w v n) (o : Obj) : CU (w.heap.size + 1) v n 0 ((w.alloc o).alloc (.cells #[v, .int .i64 0, .int .u64 0] 57)) := by
  have := cu_new (h.later ((Ext.refl w).alloc o))
  rwa [show (w.alloc o).heap.size = w.heap.size + 1 by simp] at this
theorem made_dyad : (madeCells (Value.agg #[.int .i64 0, .int .i64 0, .int .i64 0, .int .i64 0, .int .i64 0]).cells 10).toList = IL (List.replicate 10 0) := by
  simp [madeCells, IL, Value.cells, List.range_succ, List.replicate]

set_option maxRecDepth 20000 in
set_option maxHeartbeats 8000000 in
theorem drawCanonicalPhase_any (v : Value) (n : Nat) (w : World) (h : BY w.heap.size w v n) :
    Calls Tryd.prog 11 #[v] w fun e w' => ∃ (r c : Int) (a1 : Option Addr) (m c1 : Nat), e = .returned (.agg #[.int .i64 r, .int .i64 c, .slice a1 m c1]) ∧ m ≤ 16 ∧ (∃ L, RV w' 5 (.slice a1 m c1) m L) ∧ Ext w w' := by
  have HC := Lib.hid (cu_newC h (.cells #[.int .i64 0, .int .i64 0, .slice none 0 0] 30))
  have hP := fun a m w' (hc : CU (w.heap.size + 1) v n a w') (hb : 0 ≤ a ∧ a ≤ 900000000) (hm : m ≤ 65536) => Lib.hid (pick_any (w.heap.size + 1) v n a m w' hc hb hm)
  have hM := fun a w' (hc : CU (w.heap.size + 1) v n a w') (hb : 0 ≤ a ∧ a ≤ 400000000) => Lib.hid (curAnyMatrix_any (w.heap.size + 1) v n a w' hc hb)
  have hT := fun a w' (hc : CU (w.heap.size + 1) v n a w') (hb : 0 ≤ a ∧ a ≤ 300000000) => Lib.hid (curTurned_any (w.heap.size + 1) v n a w' hc hb)
  obtain ⟨i0, hi, hz0, hz1, hz2⟩ := info_parts info_dyadic
  obtain ⟨ad, cap, rfl⟩ := h.noarg
  clear h
  go_enter Tryd.func11, Tryd.ntmps11
  go_wp2_with fail
  refine ((hT _ _ HC.out (by omega)).out).mono ?_
  rintro e w1 ⟨r, c, a1, m, c1, r', c', a2, m', c2, rfl, hMP⟩
  obtain ⟨m0, L, k1, hm16, hMV, r1, s1, hg1, hc1⟩ := hMP
  have HM1 := Lib.hid (hMV.base (lo' := w.heap.size + 2) (by simp))
  obtain ⟨-, aa, cc, ee, -, -, -⟩ := hMV
  obtain ⟨rfl, rfl, rfl⟩ : a1 = aa ∧ m = m0 ∧ c1 = cc := by simpa using ee
  have HC1 := Lib.hid hc1
  have HG1 : Hid (GX [w.heap.size + 1] (w.alloc (.cells #[.int .i64 0, .int .i64 0, .slice none 0 0] 30)) w1) := ((GX.refl [w.heap.size + 1] _).alloc _).trans (GX.ofGrown hg1)
  have hl1 := hc1.lt
  clear hg1 hc1 ee
  go_wp2_with fail
  refine ((hP _ _ _ ((HC1.out.box _).box _) (by omega) (by omega)).out).mono ?_
  rintro e w2 ⟨y, k2, rfl, p2, q2, r2, s2, hg2, hc2⟩
  have HC2 := Lib.hid hc2
  have HG2 := Lib.hid (((HG1.out.alloc (.cells #[.int .i64 r, .int .i64 c, .slice a1 m c1] 30)).alloc (.cells #[.int .i64 r', .int .i64 c', .slice a2 m' c2] 30)).trans (GX.ofGrown hg2))
  have HBX : Hid (w2.heap[w1.heap.size]? = some (.cells #[.int .i64 r, .int .i64 c, .slice a1 m c1] 30 (0, 0))) := ((GX.ofGrown hg2).heap (by simp; omega) (by simp; omega)).trans (heap_alloc_lt (heap_alloc_new _ _))
  have HM2 := Lib.hid (HM1.out.gx ((((GX.refl [w.heap.size + 1] w1).alloc (.cells #[.int .i64 r, .int .i64 c, .slice a1 m c1] 30)).alloc (.cells #[.int .i64 r', .int .i64 c', .slice a2 m' c2] 30)).trans (GX.ofGrown hg2)) (by simp))
  have HB0 : Hid (w2.heap[w.heap.size]? = some (.cells #[.int .i64 0, .int .i64 0, .slice none 0 0] 30 (0, 0))) := (HG2.out.heap (by simp) (by simp)).trans (heap_alloc_new _ _)
  have HE2 : Hid (Ext w w2) := (((GX.refl [w.heap.size + 1] w).alloc _).trans HG2.out).toExt (by simp)
  have hne : w.heap.size ≠ w1.heap.size := by omega
  have hl2 := hc2.lt
  clear hg2 hc2 q2 HC HG1 HC1 HM1
  have zx := fun k => cell_of_row _ _ k _ _ _ HBX.out
  have fx := fun k => frozen_of_row _ _ k _ _ HBX.out
  have z0 := fun k => cell_of_row _ _ k _ _ _ HB0.out
  have f0 := fun k => frozen_of_row _ _ k _ _ HB0.out
  have lx := (Array.getElem?_eq_some_iff.1 HBX.out).1
  have l0 := (Array.getElem?_eq_some_iff.1 HB0.out).1
  have hE := HE2.out
  by_cases h0 : y = 0
  · have k0 : (y == 0) = true := by simpa using h0
    clear h0
    go_wp2_with fail
    refine ((hM _ _ HC2.out (by omega)).out).mono ?_
    rintro e w3 ⟨r3, c3, vm, rfl, m3, L3, k3, h3, hMV, r3', s3, hg3, hc3⟩
    have HM3 := Lib.hid (hMV.base (lo' := w2.heap.size) (by omega))
    obtain ⟨-, a3, cc3, rfl, -, -, -⟩ := hMV
    have HBX3 : Hid (w3.heap[w1.heap.size]? = some (.cells #[.int .i64 r, .int .i64 c, .slice a1 m c1] 30 (0, 0))) := ((GX.ofGrown hg3).heap lx (by simp; omega)).trans HBX.out
    have HB03 : Hid (w3.heap[w.heap.size]? = some (.cells #[.int .i64 0, .int .i64 0, .slice none 0 0] 30 (0, 0))) := ((GX.ofGrown hg3).heap l0 (by simp)).trans HB0.out
    have hE3 : Hid (Ext w w3) := ((GX.ofExt HE2.out).trans (GX.ofGrown hg3)).toExt (by simp)
    have hs3 := hg3.size
    clear hg3 hc3 zx fx z0 f0 hE
    have zx := fun k => cell_of_row _ _ k _ _ _ HBX3.out
    have fx := fun k => frozen_of_row _ _ k _ _ HBX3.out
    have z0 := fun k => cell_of_row _ _ k _ _ _ HB03.out
    have f0 := fun k => frozen_of_row _ _ k _ _ HB03.out
    have lx3 := (Array.getElem?_eq_some_iff.1 HBX3.out).1
    have l03 := (Array.getElem?_eq_some_iff.1 HB03.out).1
    have hE := hE3.out
    go_wp2
    refine bodyPost_ret (v := .agg #[.int .i64 r3, .int .i64 c3, .slice a3 m3 cc3]) (by simp [results, Tryd.results11, go_sem, *]) rfl ?_
    exact ⟨_, _, _, _, _, rfl, h3, ⟨L3, ((((((HM3.out.set (by exact lx) _).set (by exact lx) _).set (by exact lx) _).set (by exact l0) _).set (by exact l0) _).set (by exact l0) _).rv⟩, (by repeat (first | (with_reducible refine Ext.setCell ?_ (by first | (simp; done) | (simp; omega)) _) | with_reducible refine Ext.alloc ?_ _ | with_reducible refine Ext.drew ?_ | with_reducible refine Ext.drewN ?_ _ | with_reducible assumption | with_reducible exact Ext.refl _ | with_reducible refine Ext.trans ?_ (by with_reducible assumption)))⟩
  have k0 : (y == 0) = false := by simpa using h0
  by_cases h1 : y = 1
  · have k1 : (y == 1) = true := by simpa using h1
    clear h0 h1
    go_upto_region 7 with fail
    go_wp2_with (at_make; refine wpList_make_full _ rfl _ _ _ rfl w2.heap.size 46 i0 (.agg #[.int .i64 0, .int .i64 0, .int .i64 0, .int .i64 0, .int .i64 0]) 5 Tryd.underlying28 hi hz0 hz1 .i64 .i64 _ _ 2 rfl rfl rfl rfl (by rw [hz2]; omega) (by simp only [maxLen]; omega) (Nat.le_refl _) ?_; intro w3 own3 hg3; rw [made_dyad] at own3; have HBX3 := (hg3.block _ lx (by simp)).trans HBX.out; have HB03 := (hg3.block _ l0 (by simp)).trans HB0.out; have hE3 := Ext.grown hE hg3 (fun k hk => by cases hk); have zx3 := fun k => cell_of_row _ _ k _ _ _ HBX3; have fx3 := fun k => frozen_of_row _ _ k _ _ HBX3; have z03 := fun k => cell_of_row _ _ k _ _ _ HB03; have f03 := fun k => frozen_of_row _ _ k _ _ HB03; have lx3 := (Array.getElem?_eq_some_iff.1 HBX3).1; have l03 := (Array.getElem?_eq_some_iff.1 HB03).1; have O3 := Lib.hid own3; clear own3 hg3 HBX3 HB03)
    refine bodyPost_ret (v := .agg #[.int .i64 1, .int .i64 2, .slice (some ⟨w2.heap.size, 0, none⟩) 2 2]) (by simp [results, Tryd.results11, go_sem, *]) rfl ?_
    have hM := MV.own O3.out (by simp)
    exact ⟨_, _, _, _, _, rfl, by omega, ⟨_, ((((((hM.set (by exact lx) _).set (by exact lx) _).set (by exact lx) _).set (by exact l0) _).set (by exact l0) _).set (by exact l0) _).rv⟩, (by repeat (first | (with_reducible refine Ext.setCell ?_ (by first | (simp; done) | (simp; omega)) _) | with_reducible refine Ext.alloc ?_ _ | with_reducible refine Ext.drew ?_ | with_reducible refine Ext.drewN ?_ _ | with_reducible assumption | with_reducible exact Ext.refl _ | with_reducible refine Ext.trans ?_ (by with_reducible assumption)))⟩
  have k1 : (y == 1) = false := by simpa using h1
  clear h0 h1
  go_wp2
  refine bodyPost_ret (v := .agg #[.int .i64 r, .int .i64 c, .slice a1 m c1]) (by simp [results, Tryd.results11, go_sem, *]) rfl ?_
  exact ⟨_, _, _, _, _, rfl, hm16, ⟨L, (((HM2.out.set (by simp) _).set (by simp) _).set (by simp) _).rv⟩, (by repeat (first | (with_reducible refine Ext.setCell ?_ (by first | (simp; done) | (simp; omega)) _) | with_reducible refine Ext.alloc ?_ _ | with_reducible refine Ext.drew ?_ | with_reducible refine Ext.drewN ?_ _ | with_reducible assumption | with_reducible exact Ext.refl _ | with_reducible refine Ext.trans ?_ (by with_reducible assumption)))⟩


open Go.RowKit Go.Lib
set_option linter.unusedVariables false
set_option linter.unusedSimpArgs false

theorem matrix_goodC (bc : Nat) (r c : Int) (a : Option Addr) (n cap : Nat) (w : World) (h : w.heap[bc]? = some (.cells #[.bool false] 72 (0, 0))) :
    Calls Tryd.prog 40 #[.pointer (some ⟨bc, 0, none⟩), .agg #[.int .i64 r, .int .i64 c, .slice a n cap]] w fun en w' => en = .returned (.tuple #[.agg #[.int .i64 r, .int .i64 c, .slice a n cap], .bool true]) ∧ Ext w w' := by
  have hl : bc < w.heap.size := (Array.getElem?_eq_some_iff.1 h).1
  have z : ∀ k, w.cell? ⟨bc, k, none⟩ = (#[.bool false] : Array Value)[k]? := fun k => cell_of_row _ _ _ _ _ _ h
  clear h
  go_enter Tryd.func40, Tryd.ntmps40
  go_wp2
  refine bodyPost_ret (v := .tuple #[.agg #[.int .i64 r, .int .i64 c, .slice a n cap], .bool true]) (by simp [results, Tryd.results40, go_sem, *]) rfl ?_
  exact ⟨rfl, (by repeat (first | (with_reducible refine Ext.setCell ?_ (by first | (simp; done) | (simp; omega)) _) | with_reducible refine Ext.alloc ?_ _ | with_reducible refine Ext.drew ?_ | with_reducible refine Ext.drewN ?_ _ | with_reducible assumption | with_reducible exact Ext.refl _ | with_reducible refine Ext.trans ?_ (by with_reducible assumption)))⟩
/-- the state of a loop that gathers cells: the failure's mark, the matrix in its box, its cells a row of its own -/
structure SRc (r c : Int) (w : World) (β : Bool) (L : List Int) (k : Nat) (v : Value) (wr : World) : Prop where
  own : wr.ownsRow (w.heap.size + 2) 46 5 v k (IL L)
  bad : wr.heap[w.heap.size]? = some (.cells #[.bool β] 72 (0, 0))
  out : wr.heap[w.heap.size + 1]? = some (.cells #[.int .i64 r, .int .i64 c, v] 30 (0, 0))
  ext : Ext w wr
theorem SRc.lt {r c : Int} {w : World} {β : Bool} {L : List Int} {k : Nat} {v : Value} {wr : World} (h : SRc r c w β L k v wr) : w.heap.size + 1 < wr.heap.size := (Array.getElem?_eq_some_iff.1 h.out).1
theorem SRc.gx {r c : Int} {w : World} {β β' : Bool} {L : List Int} {k : Nat} {v : Value} {wr wa : World} (h : SRc r c w β L k v wr) (hg : GX [w.heap.size, w.heap.size + 1] wr wa) (hb : wa.heap[w.heap.size]? = some (.cells #[.bool β'] 72 (0, 0)))
    (ho : wa.heap[w.heap.size + 1]? = some (.cells #[.int .i64 r, .int .i64 c, v] 30 (0, 0))) : SRc r c w β' L k v wa :=
  ⟨own_gx h.own hg (by simp), hb, ho, ((GX.ofExt (S := [w.heap.size, w.heap.size + 1]) h.ext).trans hg).toExt (by simp)⟩
theorem SRc.step {r c : Int} {w : World} {β : Bool} {L L' : List Int} {k k' : Nat} {v v' : Value} {wr wa wb : World} (h : SRc r c w β L k v wr) (hx : Ext wr wa) (hg : wa.grownBy wb v.ownBlock) (hown : wb.ownsRow (w.heap.size + 2) 46 5 v' k' (IL L')) :
    SRc r c w β L' k' v' (wb.setCell ⟨w.heap.size + 1, 2, none⟩ v') := by
  have hl := h.lt
  have hs := hx.size
  have hb : ∀ j, v.ownBlock = some j → w.heap.size + 2 ≤ j := fun j hj => (h.own.lt j hj).1
  refine ⟨own_set hown (by simp) _, heap_set_ne (by simp) ((hg.block _ (by omega) (fun e => by have := hb _ e.symm; omega)).trans ((hx.heap (by omega)).trans h.bad)), ?_, Ext.setCell (Ext.grown (h.ext.trans hx) hg (fun j hj => by have := hb j hj; omega)) (by simp) _⟩
  exact heap_set_at ((hg.block _ (by omega) (fun e => by have := hb _ e.symm; omega)).trans ((hx.heap (by omega)).trans h.out)) 2 v'

theorem news_heapC {w : World} {B : Nat} {t : TypeId} {c : Array Value} {xs : List Value} (h : w.heap[B]? = some (.cells c t (0, 0))) (hx : c.toList = xs) : ∀ j u, xs[j]? = some u → w.cell? ((⟨B, 0, none⟩ : Addr).add j) = some u := by
  subst hx
  intro j u hu
  rw [show (⟨B, 0, none⟩ : Addr).add j = ⟨B, j, none⟩ by unfold Addr.add; split <;> simp_all]
  rw [cell_of_row _ _ _ _ _ _ h]
  simpa using hu
theorem mv_phase {x : R4} {e : Int} (h : GD x e = true) (k : Nat) : mvX x e.toNat (turns k R4.one) 0 = turns k x ∧ (mvE x e.toNat (turns k R4.one) 0 : Int) = e ∧ mvBad x e.toNat (turns k R4.one) 0 = false := by
  obtain ⟨ho, h1, h2⟩ := mu_phase h k
  obtain ⟨m1, m2⟩ := mu_true ho
  rw [m1] at h1
  rw [m2] at h2
  unfold muOk at ho
  simp only [Bool.and_eq_true, Bool.not_eq_true'] at ho
  exact ⟨h1, h2, ho.2⟩
theorem one_rg (k : Nat) : (turns k R4.one).rg = true := by rw [rg_turns]; decide
theorem s_mulOmega_one (k : Nat) (hk : k ≤ 7) (w : World) :
    Calls Tryd.prog 15 #[.agg #[.int .i64 1, .int .i64 0, .int .i64 0, .int .i64 0], .int .i64 k] w fun e w' => e = .returned (.tuple #[.agg #[.int .i64 (turns k R4.one).a, .int .i64 (turns k R4.one).b, .int .i64 (turns k R4.one).c, .int .i64 (turns k R4.one).d], .bool true]) ∧ Ext w w' := by
  have HG := fun w' => Lib.hid (l1Good_any 1 0 0 0 w')
  rw [show Rg 1 0 0 0 = true by decide] at HG
  have HI := fun w' => Lib.hid (l1In_any k (-1000) 1000 w')
  rw [show Wn k (-1000) 1000 = true from Wn_iff.2 (by omega)] at HI
  have HT := fun w' => Lib.hid (l1Turn_any R4.one (by decide) k hk w')
  simp only [show R4.one.a = 1 from rfl, show R4.one.b = 0 from rfl, show R4.one.c = 0 from rfl, show R4.one.d = 0 from rfl] at HT
  generalize turns k R4.one = T at *
  obtain ⟨t1, t2, t3, t4⟩ := T
  dsimp only at *
  go_enter Tryd.func15, Tryd.ntmps15
  go_wp2_with fail
  refine ((HG _).out).mono ?_
  rintro e w1 ⟨rfl, hx1⟩
  obtain ⟨hc1, hf1⟩ := hx1.cells
  have hz1 := hx1.size
  try simp at hz1
  have hs1_0 := sz2 (a := w.heap.size) (b := w1.heap.size) (by omega)
  go_wp2_with (go_at_call 36; ((with_reducible refine ((HI _).out).mono ?_); rintro e w' ⟨rfl, rfl⟩))
  refine ((HT _).out).mono ?_
  rintro e w2 ⟨rfl, hx2⟩
  obtain ⟨hc2, hf2⟩ := hx2.cells
  have hz2 := hx2.size
  try simp at hz2
  have hs2_0 := sz2 (a := w.heap.size) (b := w2.heap.size) (by omega)
  go_wp2
  refine bodyPost_ret (v := .tuple #[.agg #[.int .i64 t1, .int .i64 t2, .int .i64 t3, .int .i64 t4], .bool true]) (by simp [results, Tryd.results15, go_sem, *]) rfl ?_
  exact ⟨rfl, (by repeat (first | (with_reducible refine Ext.setCell ?_ (by first | (simp; done) | (simp; omega)) _) | with_reducible refine Ext.alloc ?_ _ | with_reducible refine Ext.drew ?_ | with_reducible refine Ext.drewN ?_ _ | with_reducible assumption | with_reducible exact Ext.refl _ | with_reducible refine Ext.trans ?_ (by with_reducible assumption)))⟩

theorem SRc.later {r c : Int} {w : World} {β : Bool} {L : List Int} {k : Nat} {v : Value} {wr wa : World} (h : SRc r c w β L k v wr) (hx : Ext wr wa) : SRc r c w β L k v wa :=
  ⟨own_ext h.own hx, (hx.heap (Array.getElem?_eq_some_iff.1 h.bad).1).trans h.bad, (hx.heap (Array.getElem?_eq_some_iff.1 h.out).1).trans h.out, h.ext.trans hx⟩
theorem cpM_succ (xs : List Int) (k n : Nat) : IL (cpM xs k (n + 1)) = IL (cpM xs k n) ++ [.int .i64 (turns k (dyAt xs n)).a, .int .i64 (turns k (dyAt xs n)).b, .int .i64 (turns k (dyAt xs n)).c, .int .i64 (turns k (dyAt xs n)).d, .int .i64 (exAt xs n)] := moL_succ _ _ _

set_option maxRecDepth 20000 in
set_option maxHeartbeats 8000000 in
theorem s_scaleMatrix_phase (r c : Int) {v1 : Value} {n : Nat} {xs : List Int} (hn : n ≤ 2000000) (hg : mGood r c n xs = true) (k : Nat) (hk : k ≤ 7) (w : World) (h1 : RV w 5 v1 n xs) :
    Calls Tryd.prog 16 #[.agg #[.int .i64 r, .int .i64 c, v1], .agg #[.int .i64 (turns k R4.one).a, .int .i64 (turns k R4.one).b, .int .i64 (turns k R4.one).c, .int .i64 (turns k R4.one).d, .int .i64 0]] w fun en w' => ∃ v, en = .returned (.tuple #[.agg #[.int .i64 r, .int .i64 c, v], .bool true]) ∧
      w'.ownsRow w.heap.size 46 5 v n (IL (cpM xs k n)) ∧ Ext w w' := by
  obtain ⟨i0, hi, iz0, iz1, iz2⟩ := info_parts info_dyadic
  have HV1 := fun w' (hx : Ext w w') => Lib.hid (l3Good_any r c w' (h1.ext hx))
  rw [hg] at HV1
  obtain ⟨d1, d2, e1, mx⟩ := mGood_facts hg
  have MX := Lib.hid mx
  have HV2 := fun w' => Lib.hid (l2Good_any (turns k R4.one).a (turns k R4.one).b (turns k R4.one).c (turns k R4.one).d 0 w')
  rw [show GD ⟨(turns k R4.one).a, (turns k R4.one).b, (turns k R4.one).c, (turns k R4.one).d⟩ 0 = true from phase_gd k] at HV2
  have HMUL := fun (bc : Nat) (X : R4) (e : Int) (hX : GD X e = true) (w' : World) (hb : w'.heap[bc]? = some (.cells #[.bool false] 72 (0, 0))) => Lib.hid (by
    have hh := GD_rg hX
    obtain ⟨m1, m2, m3⟩ := mv_phase hX k
    have t1 : (e.toNat : Int) = e := Int.toNat_of_nonneg hh.2.1
    have h := mul_any bc false X e.toNat (turns k R4.one) 0 hh.1 (by omega) (one_rg k) (by omega) w' hb
    rw [m1, m2, m3, t1] at h
    exact h : Calls Tryd.prog 39 #[.pointer (some ⟨bc, 0, none⟩), .agg #[.int .i64 X.a, .int .i64 X.b, .int .i64 X.c, .int .i64 X.d, .int .i64 e], .agg #[.int .i64 (turns k R4.one).a, .int .i64 (turns k R4.one).b, .int .i64 (turns k R4.one).c, .int .i64 (turns k R4.one).d, .int .i64 0]] w' fun en w'' =>
      en = .returned (.agg #[.int .i64 (turns k X).a, .int .i64 (turns k X).b, .int .i64 (turns k X).c, .int .i64 (turns k X).d, .int .i64 e]) ∧ w'.grownBy w'' (some bc) ∧ w''.heap[bc]? = some (.cells #[.bool false] 72 (0, 0)))
  obtain ⟨T, hT⟩ : ∃ T, turns k R4.one = T := ⟨_, rfl⟩
  rw [hT] at HV2 HMUL ⊢
  obtain ⟨t1, t2, t3, t4⟩ := T
  dsimp only at HV2 HMUL ⊢
  obtain ⟨hlx, a1, cap1, rfl, p1, p2, hhx⟩ := h1
  have HX := Lib.hid hhx
  have HLX := Lib.hid hlx
  clear hhx hlx hT mx e1 hg d1 d2
  go_enter Tryd.func16, Tryd.ntmps16
  go_wp2_with fail
  refine ((HV1 _ (by repeat (first | exact Ext.refl _ | assumption | refine Ext.alloc ?_ _ | refine Ext.drew ?_ | refine Ext.drewN ?_ _ | refine Ext.setCell ?_ (by first | omega | (dsimp only; omega) | (simp; done) | (simp; omega)) _ | refine Ext.trans ?_ (by assumption)))).out).mono ?_
  rintro e w1 ⟨rfl, hx1⟩
  obtain ⟨hc1, hf1⟩ := hx1.cells
  have hz1 := hx1.size
  try simp at hz1
  have hs1_0 := sz3 (a := w.heap.size) (b := w1.heap.size) (by omega)
  go_wp2_with fail
  refine ((HV2 _).out).mono ?_
  rintro e w2 ⟨rfl, hx2⟩
  obtain ⟨hc2, hf2⟩ := hx2.cells
  have hz2 := hx2.size
  try simp at hz2
  have hs2_0 := sz3 (a := w.heap.size) (b := w2.heap.size) (by omega)
  have hb1 : w2.heap[w.heap.size]? = some (.cells #[.int .i64 r, .int .i64 c, .slice a1 n cap1] 30 (0, 0)) := (hx2.heap (by omega)).trans ((hx1.heap (by simp <;> omega)).trans (heap_alloc_lt (heap_alloc_lt (heap_alloc_new _ _))))
  have hb2 : w2.heap[w.heap.size + 1]? = some (.cells #[.int .i64 t1, .int .i64 t2, .int .i64 t3, .int .i64 t4, .int .i64 0] 46 (0, 0)) := (hx2.heap (by omega)).trans ((hx1.heap (by simp <;> omega)).trans (heap_alloc_lt (heap_alloc_at _ _ _ (by simp))))
  have hb3 : w2.heap[w.heap.size + 1 + 1]? = some (.cells #[.int .i64 0, .int .i64 0, .slice none 0 0] 30 (0, 0)) := (hx2.heap (by omega)).trans ((hx1.heap (by simp <;> omega)).trans (heap_alloc_at _ _ _ (by simp)))
  have hE2 : Ext w w2 := (by repeat (first | (with_reducible refine Ext.setCell ?_ (by first | (simp; done) | (simp; omega)) _) | with_reducible refine Ext.alloc ?_ _ | with_reducible refine Ext.drew ?_ | with_reducible refine Ext.drewN ?_ _ | with_reducible assumption | with_reducible exact Ext.refl _ | with_reducible refine Ext.trans ?_ (by with_reducible assumption)))
  go_wp2
  go_loopw [9, 29] (fun _ i wr => ∃ (j : Nat) (v : Value), j ≤ n ∧ i = .int .i64 j ∧ SRc r c w2 false (cpM xs k j) j v wr) (fun _ i _ => n - (RowKit.intOf i).toNat)
  case atStart =>
    exact ⟨0, .slice none 0 0, by omega, rfl, ⟨own_nil _ _ _ _, heap_alloc_lt (heap_alloc_new _ _), heap_alloc_at _ _ _ (by simp), (by repeat (first | exact Ext.refl _ | assumption | refine Ext.alloc ?_ _ | refine Ext.drew ?_ | refine Ext.drewN ?_ _ | refine Ext.setCell ?_ (by first | omega | (dsimp only; omega) | (simp; done) | (simp; omega)) _ | refine Ext.trans ?_ (by assumption)))⟩⟩
  case round =>
    obtain ⟨j, v, hj, rfl, hS⟩ := hrel
    obtain ⟨av, cv, rfl, _, _, _⟩ := own_shape hS.own
    have HS := Lib.hid hS
    have hsz := hS.lt
    have hs0 : w2.heap.size < wr.heap.size := by omega
    have hE : Ext w wr := hE2.trans hS.ext
    have hB1 : wr.heap[w.heap.size]? = some (.cells #[.int .i64 r, .int .i64 c, .slice a1 n cap1] 30 (0, 0)) := (hS.ext.heap (by omega)).trans hb1
    have hB2 : wr.heap[w.heap.size + 1]? = some (.cells #[.int .i64 t1, .int .i64 t2, .int .i64 t3, .int .i64 t4, .int .i64 0] 46 (0, 0)) := (hS.ext.heap (by omega)).trans hb2
    have hB3 : wr.heap[w.heap.size + 1 + 1]? = some (.cells #[.int .i64 0, .int .i64 0, .slice none 0 0] 30 (0, 0)) := (hS.ext.heap (by omega)).trans hb3
    clear hS hc1 hf1 hc2 hf2
    by_cases hlt : j < n
    · have hlt' : (j : Int) < n := by omega
      have hgd := mOk_at MX.out hlt
      have HL := Lib.hid (cpM_succ xs k j)
      have HMJ := fun w' hb => HMUL w2.heap.size (dyAt xs j) (exAt xs j) hgd w' hb
      obtain ⟨Q, hQ⟩ : ∃ Q, turns k (dyAt xs j) = Q := ⟨_, rfl⟩
      rw [hQ] at HMJ HL
      unfold dyAt exAt at HMJ
      unfold exAt at HL
      simp only at HMJ HL
      clear hgd hQ HMUL
      obtain ⟨bx, offx, rfl, hbkx, hcellx⟩ := HX.out (by omega)
      have hbrx : bx < wr.heap.size := by have := hE.size; omega
      have zx0 : wr.cell? ⟨bx, offx + j * 5, none⟩ = some (.int .i64 (at3 xs (j * 5))) := (hE.cells.1 bx (offx + (j * 5)) hbkx).trans (hcellx _ _ (at3_get (by have := HLX.out; omega)))
      have zx1 : wr.cell? ⟨bx, offx + j * 5 + 1, none⟩ = some (.int .i64 (at3 xs (j * 5 + 1))) := (hE.cells.1 bx (offx + (j * 5 + 1)) hbkx).trans (hcellx _ _ (at3_get (by have := HLX.out; omega)))
      have zx2 : wr.cell? ⟨bx, offx + j * 5 + 2, none⟩ = some (.int .i64 (at3 xs (j * 5 + 2))) := (hE.cells.1 bx (offx + (j * 5 + 2)) hbkx).trans (hcellx _ _ (at3_get (by have := HLX.out; omega)))
      have zx3 : wr.cell? ⟨bx, offx + j * 5 + 3, none⟩ = some (.int .i64 (at3 xs (j * 5 + 3))) := (hE.cells.1 bx (offx + (j * 5 + 3)) hbkx).trans (hcellx _ _ (at3_get (by have := HLX.out; omega)))
      have zx4 : wr.cell? ⟨bx, offx + j * 5 + 4, none⟩ = some (.int .i64 (at3 xs (j * 5 + 4))) := (hE.cells.1 bx (offx + (j * 5 + 4)) hbkx).trans (hcellx _ _ (at3_get (by have := HLX.out; omega)))
      clear hcellx
      generalize at3 xs (j * 5) = x0 at *
      generalize at3 xs (j * 5 + 1) = x1 at *
      generalize at3 xs (j * 5 + 2) = x2 at *
      generalize at3 xs (j * 5 + 3) = x3 at *
      generalize at3 xs (j * 5 + 4) = x4 at *
      have hjc : j < cap1 := by omega
      obtain ⟨wx, hwx⟩ : ∃ wx, wx = wr.alloc (.cells #[.int .i64 x0, .int .i64 x1, .int .i64 x2, .int .i64 x3, .int .i64 x4] 46 (0, 0)) := ⟨_, rfl⟩
      have hBe : wx.heap[wr.heap.size]? = some (.cells #[.int .i64 x0, .int .i64 x1, .int .i64 x2, .int .i64 x3, .int .i64 x4] 46 (0, 0)) := by rw [hwx]; exact heap_alloc_new _ _
      have hEx : Ext wr wx := by rw [hwx]; exact (Ext.refl wr).alloc _
      have HSx := Lib.hid (HS.out.later hEx)
      have hB2x := (hEx.heap (by omega)).trans hB2
      have zb2 := fun q => cell_of_row _ _ q _ _ _ hB2x
      have zbe := fun q => cell_of_row _ _ q _ _ _ hBe
      have hsx : wr.heap.size < wx.heap.size := (Array.getElem?_eq_some_iff.1 hBe).1
      have zb1 : ∀ k, wr.cell? ⟨w.heap.size, k, none⟩ = (#[.int .i64 r, .int .i64 c, .slice (some ⟨bx, offx, none⟩) n cap1] : Array Value)[k]? := fun k => cell_of_row _ _ _ _ _ _ hB1
      go_upto_region 8 with fail
      rw [← hwx]
      clear hwx
      have hw1 : w.heap.size + 1 < wx.heap.size := by omega
      go_wp2
      refine Wr.wp_region_wra (m := 48) (fun n => .slice (some ⟨n, 0, none⟩) 1 1) 46 #[.int .i64 Q.a, .int .i64 Q.b, .int .i64 Q.c, .int .i64 Q.d, .int .i64 x4] [⟨w2.heap.size, 72, #[.bool false]⟩, ⟨w2.heap.size + 1, 30, #[.int .i64 r, .int .i64 c, .slice av j cv]⟩] (by kernel_rfl) (by kernel_rfl) rfl (by simp; try omega) ?_ ?_
      · intro s hs
        rcases s with _ | _ | s
        · exact (show (World.heap _)[w2.heap.size]? = some (Obj.cells #[.bool false] 72 (0, 0)) from HSx.out.bad)
        · exact (show (World.heap _)[w2.heap.size + 1]? = some (Obj.cells #[.int .i64 r, .int .i64 c, .slice av j cv] 30 (0, 0)) from HSx.out.out)
        · simp at hs
          try omega
      refine Wr.wa_old (w.heap.size + 1) (by first | omega | (simp; done) | (simp; omega)) (by first | (simp; done) | (simp; omega)) (fun hold0 => ?_)
      refine Wr.wa_old (wr.heap.size) (by first | omega | (simp; done) | (simp; omega)) (by first | (simp; done) | (simp; omega)) (fun hold1 => ?_)
      (refine Wr.wa_plain ?_; apply Exists.intro; refine ⟨?_, ?_⟩; (first | (go_simp; (try intro x); (try go_bits); rfl)); simp only [Act.put, List.setIfInBounds_toArray, List.set_cons_succ, List.set_cons_zero, List.nil_append, List.cons_append])
      refine Wr.wa_read 1 (w2.heap.size + 1) 30 #[.int .i64 r, .int .i64 c, .slice av j cv] (by simp) rfl rfl rfl (fun hr => ?_)
      apply Exists.intro
      refine ⟨?_, ?_⟩
      · go_simp
        (try intro x)
        (try go_bits)
        rfl
      clear hr
      simp only [Act.put, List.setIfInBounds_toArray, List.set_cons_succ, List.set_cons_zero, List.nil_append, List.cons_append]
      (refine Wr.wa_plain ?_; apply Exists.intro; refine ⟨?_, ?_⟩; (first | (go_simp; (try intro x); (try go_bits); rfl)); simp only [Act.put, List.setIfInBounds_toArray, List.set_cons_succ, List.set_cons_zero, List.nil_append, List.cons_append])
      (refine Wr.wa_plain ?_; apply Exists.intro; refine ⟨?_, ?_⟩; (first | (go_simp; (try intro x); (try go_bits); rfl)); simp only [Act.put, List.setIfInBounds_toArray, List.set_cons_succ, List.set_cons_zero, List.nil_append, List.cons_append])
      (refine Wr.wa_plain ?_; apply Exists.intro; refine ⟨?_, ?_⟩; (first | (go_simp; (try intro x); (try go_bits); rfl)); simp only [Act.put, List.setIfInBounds_toArray, List.set_cons_succ, List.set_cons_zero, List.nil_append, List.cons_append])
      refine Wr.wa_call (.agg #[.int .i64 Q.a, .int .i64 Q.b, .int .i64 Q.c, .int .i64 Q.d, .int .i64 x4]) 0 (w2.heap.size) 72 #[.bool false] #[.bool false] rfl (by simp) rfl rfl rfl (fun x => ?_) ?_
      · apply Exists.intro
        apply Exists.intro
        refine ⟨?_, ?_⟩
        · go_simp
          (try go_bits)
          first | rfl | exact ⟨rfl, rfl⟩
        · exact (HMJ _ x.2.2).out
      simp only [Act.put, List.setIfInBounds_toArray, List.set_cons_succ, List.set_cons_zero, List.nil_append, List.cons_append]
      refine Wr.wa_stop (fun _ => by kernel_rfl) (by kernel_rfl) (by rfl) (fun W hW => ?_) (fun w3 B3 hg3 hs3 hB3 hm3 => ?_)
      · first | (go_simp; done) | (go_simp; rfl)
      simp only [Act.put, List.setIfInBounds_toArray, List.set_cons_succ, List.set_cons_zero, List.nil_append, List.cons_append]
      have hb3_0 : w3.heap[w2.heap.size]? = some (.cells #[.bool false] 72 (0, 0)) := hs3 0 (by simp)
      have hb3_1 : w3.heap[w2.heap.size + 1]? = some (.cells #[.int .i64 r, .int .i64 c, .slice av j cv] 30 (0, 0)) := hs3 1 (by simp)
      clear hs3
      simp only [List.map_cons, List.map_nil] at hg3
      have HS3 := Lib.hid (HSx.out.gx hg3 hb3_0 hb3_1)
      have hlB : B3 < w3.heap.size := (Array.getElem?_eq_some_iff.1 hm3).1
      have hl3 : w2.heap.size + 1 < w3.heap.size := HS3.out.lt
      have f3 : ∀ k, w3.frozen? ⟨w2.heap.size + 1, k, none⟩ = false := fun k => frozen_of_row _ _ _ _ _ HS3.out.out
      have z3 : ∀ k, w3.cell? ⟨w2.heap.size + 1, k, none⟩ = (#[.int .i64 r, .int .i64 c, .slice av j cv] : Array Value)[k]? := fun k => cell_of_row _ _ _ _ _ _ HS3.out.out
      have hfar : ∀ k, (Value.slice av j cv).ownBlock = some k → k ≠ w2.heap.size + 1 := fun k hk => by have := (HS3.out.own.lt k hk).1; omega
      clear HMJ hb3_0 hb3_1 zb1 zb2 zbe
      go_wp2_with go_loud (at_builtin; refine wpList_append_lies _ rfl (.tmp 34) (.tmp 39) _ rfl (w2.heap.size + 2) 46 i0 (.agg #[.int .i64 0, .int .i64 0, .int .i64 0, .int .i64 0, .int .i64 0]) 5 40 Tryd.underlying28 hi iz0 iz1 iz2 rfl (by decide) _ j (IL (cpM xs k j)) (by rfl) HS3.out.own ⟨B3, 0, none⟩ 1 1 [.int .i64 Q.a, .int .i64 Q.b, .int .i64 Q.c, .int .i64 Q.d, .int .i64 x4] (by rfl) (by rfl) (news_heapC hm3 rfl) (by intro u hu; simp at hu; rcases hu with rfl | rfl | rfl | rfl | rfl <;> rfl) (by decide) (by first | omega | (simp only [maxLen] <;> omega)) (by omega) (by first | omega | (simp <;> omega)) _ (by rfl) ?_; intro g2 cap w4 hown2 hgrow hat hlt2; have f4 : ∀ k, w4.frozen? ⟨w2.heap.size + 1, k, none⟩ = false := fun k => (hgrow.frozen_far ⟨w2.heap.size + 1, k, none⟩ (by first | omega | (simp <;> omega)) (fun e => hfar _ e.symm rfl)).trans (f3 k); have z4 : ∀ k, w4.cell? ⟨w2.heap.size + 1, k, none⟩ = (#[.int .i64 r, .int .i64 c, .slice av j cv] : Array Value)[k]? := fun k => (hgrow.cell_far ⟨w2.heap.size + 1, k, none⟩ (by first | omega | (simp <;> omega)) (fun e => hfar _ e.symm rfl)).trans (z3 k))
      go_roundw
      case rel =>
        refine ⟨j + 1, .slice (some ⟨g2, 0, none⟩) (j + 1) cap, by omega, by go_num, ?_⟩
        rw [← HL.out] at hown2
        exact HS3.out.step (Ext.refl w3) hgrow hown2
      case measure => simp [RowKit.intOf]; omega
    · obtain rfl : n = j := by omega
      have HBAD := Lib.hid HS.out.bad
      have zo : ∀ k, wr.cell? ⟨w2.heap.size + 1, k, none⟩ = (#[.int .i64 r, .int .i64 c, .slice av n cv] : Array Value)[k]? := fun k => cell_of_row _ _ _ _ _ _ HS.out.out
      have hlr : w.heap.size + 1 + 1 < wr.heap.size := (Array.getElem?_eq_some_iff.1 hB3).1
      have hEw := Lib.hid hE
      go_wp2_with fail
      refine (matrix_goodC w2.heap.size r c av n cv _ HBAD.out).mono ?_
      rintro e w5 ⟨rfl, hx5⟩
      have hE5 : Ext w w5 := hEw.out.trans hx5
      have HW5 := Lib.hid (own_ext HS.out.own hx5)
      have hlr5 : w.heap.size + 1 + 1 < w5.heap.size := by have := hx5.size; omega
      have zr5 : ∀ k, w5.cell? ⟨w.heap.size + 1 + 1, k, none⟩ = (#[.int .i64 0, .int .i64 0, .slice none 0 0] : Array Value)[k]? := fun k => cell_of_row _ _ _ _ _ _ ((hx5.heap hlr).trans hB3)
      have fr5 : ∀ k, w5.frozen? ⟨w.heap.size + 1 + 1, k, none⟩ = false := fun k => frozen_of_row _ _ _ _ _ ((hx5.heap hlr).trans hB3)
      go_wp2
      refine bodyPost_ret (v := .tuple #[.agg #[.int .i64 r, .int .i64 c, .slice av n cv], .bool true]) (by simp [results, Tryd.results16, go_sem, *]) rfl ?_
      exact ⟨_, rfl, own_base (own_set (own_set (own_set HW5.out (by simp; omega) _) (by simp; omega) _) (by simp; omega) _) (by omega), (by repeat (first | (with_reducible refine Ext.setCell ?_ (by first | (simp; done) | (simp; omega)) _) | with_reducible refine Ext.alloc ?_ _ | with_reducible refine Ext.drew ?_ | with_reducible refine Ext.drewN ?_ _ | with_reducible assumption | with_reducible exact Ext.refl _ | with_reducible refine Ext.trans ?_ (by with_reducible assumption)))⟩

end Go.Proofs.YtamiploliebplaaDoor
