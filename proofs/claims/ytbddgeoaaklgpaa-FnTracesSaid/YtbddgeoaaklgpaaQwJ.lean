/- The draw of a gate. -/
import Derived.Test.YtbddgeoaaklgpaaCrd
import Derived.Test.YtbddgeoaaklgpaaLs
import Derived.Test.YtbddgeoaaklgpaaQwD
import Derived.Deep.RegionLaw
import Derived.Deep.Cut
import Derived.Test.YtbddgeoaaklgpaaFpR
namespace Go.Proofs.Ytbddgeoaaklgpaa
open Go.RowKit Go.Lib
set_option linter.unusedVariables false
set_option linter.unusedSimpArgs false

set_option maxRecDepth 20000 in
set_option maxHeartbeats 4000000 in
theorem curGate_any (B : Nat) (v : Value) (n : Nat) (at' : Int) (w : World) (h : CU B v n at' w) (ha : 0 ≤ at' ∧ at' ≤ 600000000) (Q : Int) (hQ : 1 ≤ Q ∧ Q ≤ 10) (b k cap : Nat) (xs : List Int) (hk : 0 < k) (hk2 : k ≤ 100) (hkc : k ≤ cap) (hb : b ≠ B) (hbl : b < w.heap.size)
    (hx : ∀ i, i < k → w.cell? ⟨b, i, none⟩ = some (.int .i64 (xs.getD i 0))) :
    Calls Try.prog 83 #[.pointer (some ⟨B, 0, none⟩), .int .i64 Q, .slice (some ⟨b, 0, none⟩) k cap] w fun e w' => ∃ x y z at2 : Int, e = .returned (.agg #[.int .i64 x, .int .i64 y, .int .i64 z]) ∧ at' ≤ at2 ∧ at2 ≤ at' + 6 ∧ w.grownBy w' (some B) ∧ CU B v n at2 w' := by
  have hl := h.lt
  have HC := Lib.hid h
  have hP := fun m a w' (hc : CU B v n a w') (hb : 0 ≤ a ∧ a ≤ 900000000) (hm : m ≤ 1000) => Lib.hid (pick_any B v n a m w' hc hb (by omega))
  have HX := Lib.hid hx
  clear h hx
  go_enter Try.func83, Try.ntmps83
  go_wp2_with fail
  refine ((hP _ _ _ (HC.out.box _) (by omega) (by omega)).out).mono ?_
  rintro e w1 ⟨y1, a1, rfl, p1, q1, r1, s1, hg1, hc1⟩
  have HC1 := Lib.hid hc1
  have HG1 := Lib.hid ((GX.refl [B] _).trans (GX.ofGrown hg1))
  clear hg1 hc1
  have hy1 : y1 < k := by omega
  have hz : w1.cell? ⟨b, y1.toNat, none⟩ = some (.int .i64 (xs.getD y1.toNat 0)) := (HG1.out.cell b _ (by simp; omega) (by simpa using hb)).trans ((((Ext.refl w).alloc _).cells.1 b _ hbl).trans (HX.out _ (by omega)))
  have HIN := fun w' => Lib.hid (l1In_any (xs.getD y1.toNat 0) 9 11 w')
  generalize xs.getD y1.toNat 0 = x at *
  generalize Wn x 9 11 = tw at *
  have hB0 := box_kept hl HG1.out
  have HB0 := Lib.hid hB0
  have z0 := fun k => cell_of_row _ _ k _ _ _ hB0
  have f0 := fun k => frozen_of_row _ _ k _ _ hB0
  have l0 := (Array.getElem?_eq_some_iff.1 hB0).1
  have hyc : y1.toNat < cap := by omega
  clear hB0 q1 HX
  by_cases h12 : x = 12
  · subst h12
    go_wp2
    refine bodyPost_ret (v := .agg #[.int .i64 12, .int .i64 0, .int .i64 0]) (by simp [results, Try.results83, go_sem, *]) rfl ?_
    refine ⟨_, _, _, a1, rfl, by omega, by omega, GX.toGrown ?_, ?_⟩
    · have hg : GX [B] w w1 := ((GX.refl [B] w).alloc _).trans HG1.out
      exact (by repeat (first | (with_reducible refine GX.setCell ?_ (by first | (simp; done) | (simp; omega)) _) | with_reducible refine GX.alloc ?_ _ | with_reducible refine GX.drew ?_ | with_reducible refine GX.drewN ?_ _ | with_reducible assumption | with_reducible exact GX.refl _ _ | with_reducible refine GX.ext ?_ (by with_reducible assumption) | with_reducible refine GX.trans ?_ (by with_reducible assumption)))
    · exact CU.box (CU.set (CU.set (CU.set HC1.out (by exact hl) _) (by exact hl) _) (by exact hl) _) _
  have h12' : ¬ (x = 12) := h12
  go_wp2_with fail
  refine ((hP _ _ _ (HC1.out.box _) (by omega) (by omega)).out).mono ?_
  rintro e w2 ⟨y2, a2, rfl, p2, q2, r2, s2, hg2, hc2⟩
  have HC2 := Lib.hid hc2
  have HG2 := Lib.hid ((GX.refl [B] _).trans (GX.ofGrown hg2))
  clear hg2 hc2
  have hB7 : w2.heap[w1.heap.size]? = some (.cells #[.int .i64 x, .int .i64 0, .int .i64 0] 47 (0, 0)) := (HG2.out.heap (by simp) (by simp; omega)).trans (heap_alloc_at _ _ _ (by simp))
  have hB02 := (HG2.out.heap (k := w.heap.size) (by simp; omega) (by simp; omega)).trans (heap_alloc_lt HB0.out)
  have HGA : Hid (GX [B] w w2) := Lib.hid (((((GX.refl [B] w).alloc _).trans HG1.out).alloc _).trans HG2.out)
  have hy2 : y2 ≤ 9 := by omega
  have HB7 := Lib.hid hB7
  have HB02 := Lib.hid hB02
  have z7 := fun k => cell_of_row _ _ k _ _ _ hB7
  have f7 := fun k => frozen_of_row _ _ k _ _ hB7
  have l7 := (Array.getElem?_eq_some_iff.1 hB7).1
  have z02 := fun k => cell_of_row _ _ k _ _ _ hB02
  have f02 := fun k => frozen_of_row _ _ k _ _ hB02
  have l02 := (Array.getElem?_eq_some_iff.1 hB02).1
  have hl1 : B < w1.heap.size := by omega
  have hn01 : w.heap.size ≠ w1.heap.size := by omega
  clear hB7 hB02 z0 f0 q2 HB0 hz HG1 HG2 HC1
  cases tw
  · go_wp2_with fail
    refine ((HIN _).out).mono ?_
    rintro e w' ⟨rfl, rfl⟩
    go_wp2
    refine bodyPost_ret (v := .agg #[.int .i64 x, .int .i64 y2, .int .i64 0]) (by simp [results, Try.results83, go_sem, *]) rfl ?_
    refine ⟨_, _, _, a2, rfl, by omega, by omega, GX.toGrown ?_, ?_⟩
    · have hg := HGA.out
      exact (by repeat (first | (with_reducible refine GX.setCell ?_ (by first | (simp; done) | (simp; omega)) _) | with_reducible refine GX.alloc ?_ _ | with_reducible refine GX.drew ?_ | with_reducible refine GX.drewN ?_ _ | with_reducible assumption | with_reducible exact GX.refl _ _ | with_reducible refine GX.ext ?_ (by with_reducible assumption) | with_reducible refine GX.trans ?_ (by with_reducible assumption)))
    · exact CU.set (CU.set (CU.set (CU.set HC2.out (by exact hl1) _) (by exact hl) _) (by exact hl) _) (by exact hl) _
  by_cases hq1 : Q = 1
  · go_wp2_with fail
    refine ((HIN _).out).mono ?_
    rintro e w' ⟨rfl, rfl⟩
    go_wp2
    refine bodyPost_ret (v := .agg #[.int .i64 1, .int .i64 0, .int .i64 0]) (by simp [results, Try.results83, go_sem, *]) rfl ?_
    refine ⟨_, _, _, a2, rfl, by omega, by omega, GX.toGrown ?_, ?_⟩
    · have hg := HGA.out
      exact (by repeat (first | (with_reducible refine GX.setCell ?_ (by first | (simp; done) | (simp; omega)) _) | with_reducible refine GX.alloc ?_ _ | with_reducible refine GX.drew ?_ | with_reducible refine GX.drewN ?_ _ | with_reducible assumption | with_reducible exact GX.refl _ _ | with_reducible refine GX.ext ?_ (by with_reducible assumption) | with_reducible refine GX.trans ?_ (by with_reducible assumption)))
    · exact CU.set (CU.set (CU.set (CU.set HC2.out (by exact hl1) _) (by exact hl) _) (by exact hl) _) (by exact hl) _
  go_wp2_with fail
  refine ((HIN _).out).mono ?_
  rintro e w' ⟨rfl, rfl⟩
  obtain ⟨w3, hw3⟩ : ∃ w3, w3 = w2.setCell ⟨w1.heap.size, 1, none⟩ (.int .i64 y2) := ⟨_, rfl⟩
  have HB73 : Hid (w3.heap[w1.heap.size]? = some (.cells #[.int .i64 x, .int .i64 y2, .int .i64 0] 47 (0, 0))) := by rw [hw3]; exact heap_set_at HB7.out 1 _
  have HB03 : Hid (w3.heap[w.heap.size]? = some (.cells #[.int .i64 0, .int .i64 0, .int .i64 0] 47 (0, 0))) := by rw [hw3]; exact heap_set_ne (by exact hn01) HB02.out
  have HC3 : Hid (CU B v n a2 w3) := by rw [hw3]; exact CU.set HC2.out (by exact hl1) _
  have HG3 : Hid (GX [B] w w3) := by
    rw [hw3]
    have hg := HGA.out
    exact Lib.hid (by repeat (first | (with_reducible refine GX.setCell ?_ (by first | (simp; done) | (simp; omega)) _) | with_reducible refine GX.alloc ?_ _ | with_reducible refine GX.drew ?_ | with_reducible refine GX.drewN ?_ _ | with_reducible assumption | with_reducible exact GX.refl _ _ | with_reducible refine GX.ext ?_ (by with_reducible assumption) | with_reducible refine GX.trans ?_ (by with_reducible assumption)))
  have hwq : IntKind.i64.wrap (Q - 1) = Q - 1 := IntWalk.i64_in _ (by omega)
  have hQ0 : ¬ (Q = 0) := by omega
  have y73 : ∀ k, w3.cell? ⟨w1.heap.size, k, none⟩ = (#[.int .i64 x, .int .i64 y2, .int .i64 0] : Array Value)[k]? := fun k => cell_of_row _ _ k _ _ _ HB73.out
  have l73 := (Array.getElem?_eq_some_iff.1 HB73.out).1
  go_upto_region 8 with fail
  rw [← hw3]
  clear hw3 HB7 HB02 z7 f7 z02 f02 HGA HC2
  go_region_law
      (refine step_callsQ rfl ?_ (hP (Q - 1) _ _ (HC3.out.keep (Ext.refl w3).drew) (by omega) (by omega)).out ?_
       · go_simp
       rintro e w4 ⟨y4, a4, rfl, p4, q4, r4, s4, hg4, hc4⟩
       refine ⟨_, rfl, ?_⟩
       have HC4 : Hid (CU B v n a4 w4) := hc4
       have HQ4 : Hid (GX [B] w3 w4) := (GX.refl [B] w3).drew.trans (GX.ofGrown hg4)
       have hy4 : y4 ≤ 9 := by omega
       have HB74 : Hid (w4.heap[w1.heap.size]? = some (.cells #[.int .i64 x, .int .i64 y2, .int .i64 0] 47 (0, 0))) := (HQ4.out.heap l73 (by simp; omega)).trans HB73.out
       have y74 : ∀ k, w4.cell? ⟨w1.heap.size, k, none⟩ = (#[.int .i64 x, .int .i64 y2, .int .i64 0] : Array Value)[k]? := fun k => cell_of_row _ _ k _ _ _ HB74.out
       have f74 : ∀ k, w4.frozen? ⟨w1.heap.size, k, none⟩ = false := fun k => frozen_of_row _ _ k _ _ HB74.out
       have l74 : w1.heap.size < w4.heap.size := (Array.getElem?_eq_some_iff.1 HB74.out).1
       have HB04 : Hid (w4.heap[w.heap.size]? = some (.cells #[.int .i64 0, .int .i64 0, .int .i64 0] 47 (0, 0))) := (HQ4.out.heap (Array.getElem?_eq_some_iff.1 HB03.out).1 (by simp; omega)).trans HB03.out
       have y04 : ∀ k, w4.cell? ⟨w.heap.size, k, none⟩ = (#[.int .i64 0, .int .i64 0, .int .i64 0] : Array Value)[k]? := fun k => cell_of_row _ _ k _ _ _ HB04.out
       have f04 : ∀ k, w4.frozen? ⟨w.heap.size, k, none⟩ = false := fun k => frozen_of_row _ _ k _ _ HB04.out
       have l04 : w.heap.size < w4.heap.size := (Array.getElem?_eq_some_iff.1 HB04.out).1
       clear hg4 hc4 q4)
  all_goals
    go_wp2
    refine bodyPost_ret (v := .agg #[.int .i64 x, .int .i64 y2, .int .i64 ((y2 + 1 + y4) % Q)]) (by simp [results, Try.results83, go_sem, *]) rfl ?_
    refine ⟨_, _, _, a4, rfl, by omega, by omega, GX.toGrown ?_, ?_⟩
    · have hg : GX [B] w w4 := HG3.out.trans HQ4.out
      exact (by repeat (first | (with_reducible refine GX.setCell ?_ (by first | (simp; done) | (simp; omega)) _) | with_reducible refine GX.alloc ?_ _ | with_reducible refine GX.drew ?_ | with_reducible refine GX.drewN ?_ _ | with_reducible assumption | with_reducible exact GX.refl _ _ | with_reducible refine GX.ext ?_ (by with_reducible assumption) | with_reducible refine GX.trans ?_ (by with_reducible assumption)))
    · exact CU.set (CU.set (CU.set (CU.set HC4.out (by exact hl1) _) (by exact hl) _) (by exact hl) _) (by exact hl) _


open Go.RowKit Go.Lib
set_option linter.unusedVariables false
set_option linter.unusedSimpArgs false

theorem CU.rowQ {B : Nat} {v : Value} {n : Nat} {a : Int} {w w' : World} {row : Option Nat} (h : CU B v n a w) (hg : w.grownBy w' row) (hb : ∀ k, row = some k → B < k) : CU B v n a w' := by
  have hl := h.lt
  obtain ⟨h1, s, h2⟩ := h
  cases row with
  | none =>
    have hx : Ext w w' := Ext.grown (Ext.refl w) hg (fun _ hj => by cases hj)
    exact CU.keep ⟨h1, s, h2⟩ hx
  | some k =>
    have hk := hb k rfl
    exact ⟨h1.gx (by omega) (GX.ofGrown hg) (by simp; omega), s, ((GX.ofGrown hg).heap hl (by simp; omega)).trans h2⟩
theorem gx_rowQ {S : List Nat} {w w1 w' : World} {row : Option Nat} (h : GX S w w1) (hg : w1.grownBy w' row) (hb : ∀ k, row = some k → w.heap.size ≤ k) : GX S w w' := by
  cases row with
  | none => exact h.ext (Ext.grown (Ext.refl w1) hg (fun _ hj => by cases hj))
  | some k => exact h.join (GX.ofGrown hg) (by simp; exact .inr (hb k rfl))

/-- the state of the draw of a circuit: gates in a row of their own, the box, the cursor -/
structure DC (w : World) (B : Nat) (v : Value) (n : Nat) (Q : Int) (vm : Value) (j : Nat) (L : List Int) (a : Int) (wr : World) : Prop where
  own : wr.ownsRow (w.heap.size + 2) 47 3 vm j (IL L)
  box : wr.heap[w.heap.size + 1]? = some (.cells #[.int .i64 Q, vm] 25 (0, 0))
  cu : CU B v n a wr
  gx : GX [B] (w.alloc (.cells #[.int .i64 0, .slice none 0 0] 25)) wr

set_option maxRecDepth 20000 in
set_option maxHeartbeats 8000000 in
theorem curBuilt_any (B : Nat) (v : Value) (n : Nat) (at' : Int) (w : World) (h : CU B v n at' w) (ha : 0 ≤ at' ∧ at' ≤ 500000000) (Q : Int) (hQ : 1 ≤ Q ∧ Q ≤ 10) (M : Nat) (hM : M ≤ 12) (b k cap : Nat) (xs : List Int) (hk : 0 < k) (hk2 : k ≤ 100) (hkc : k ≤ cap) (hb : b ≠ B) (hbl : b < w.heap.size)
    (hx : ∀ i, i < k → w.cell? ⟨b, i, none⟩ = some (.int .i64 (xs.getD i 0))) :
    Calls Try.prog 60 #[.pointer (some ⟨B, 0, none⟩), .int .i64 Q, .int .i64 M, .slice (some ⟨b, 0, none⟩) k cap] w fun e w' => ∃ (N : Nat) (vm : Value) (L : List Int) (at2 : Int), e = .returned (.agg #[.int .i64 Q, vm]) ∧ N ≤ M ∧ L.length = N * 3 ∧ w'.ownsRow w.heap.size 47 3 vm N (IL L) ∧
      at' ≤ at2 ∧ at2 ≤ at' + 200 ∧ w.grownBy w' (some B) ∧ CU B v n at2 w' := by
  have hl := h.lt
  have HC := Lib.hid h
  have hP := fun m a w' (hc : CU B v n a w') (hb : 0 ≤ a ∧ a ≤ 900000000) (hm : m ≤ 1000) => Lib.hid (pick_any B v n a m w' hc hb (by omega))
  have hD := fun a w' (hc : CU B v n a w') (hb' : 0 ≤ a ∧ a ≤ 600000000) (hbl' : b < w'.heap.size) hx' => Lib.hid (curGate_any B v n a w' hc hb' Q hQ b k cap xs hk hk2 hkc hb hbl' hx')
  have HX := Lib.hid hx
  clear h hx
  go_enter Try.func60, Try.ntmps60
  go_wp2_with fail
  refine ((hP _ _ _ ((HC.out.box _).box _) (by omega) (by omega)).out).mono ?_
  rintro e w1 ⟨y1, a1, rfl, p1, q1, r1, s1, hg1, hc1⟩
  have HC1 := Lib.hid hc1
  have HG1 := Lib.hid ((GX.refl [B] _).trans (GX.ofGrown hg1))
  clear hg1 hc1
  obtain ⟨N, rfl⟩ : ∃ N : Nat, y1 = N := ⟨y1.toNat, by omega⟩
  have hNM : N ≤ M := by omega
  clear q1
  have hbx1 : w1.heap[w.heap.size + 1]? = some (.cells #[.int .i64 Q, .slice none 0 0] 25 (0, 0)) := (HG1.out.heap (by simp) (by simp; omega)).trans (heap_alloc_at _ _ _ (by simp))
  have HBX1 := Lib.hid hbx1
  have HGX1 : Hid (GX [B] (w.alloc (.cells #[.int .i64 0, .slice none 0 0] 25)) w1) := Lib.hid (((GX.refl [B] _).alloc _).trans HG1.out)
  clear hbx1 HG1
  go_wp2
  go_loopw [10] (fun s10 wr => ∃ (j : Nat) (a : Int) (vm : Value) (L : List Int), j ≤ N ∧ s10 = .int .i64 ((N : Int) - j) ∧ Hid (L.length = j * 3) ∧ at' ≤ a ∧ a ≤ at' + 2 + 6 * j ∧ Hid (DC w B v n Q vm j L a wr)) (fun s10 _ => (RowKit.intOf s10).toNat)
  case atStart =>
    exact ⟨0, a1, .slice none 0 0, [], by omega, by simp, rfl, by omega, by omega, own_nil _ _ _ _, HBX1.out, HC1.out, HGX1.out⟩
  case round =>
    obtain ⟨j, a, vm, L, hj, rfl, HLn, ha1, ha2, HS⟩ := hrel
    obtain ⟨av, cv, rfl, _, _, _⟩ := own_shape HS.out.own
    have hs2 : w.heap.size + 1 < wr.heap.size := (Array.getElem?_eq_some_iff.1 HS.out.box).1
    have z7 := fun k => cell_of_row _ _ k _ _ _ HS.out.box
    have f7 := fun k => frozen_of_row _ _ k _ _ HS.out.box
    have hne : w.heap.size ≠ w.heap.size + 1 := by omega
    by_cases hlt : j < N
    · have hlt' : (0 : Int) < (N : Int) - j := by omega
      have hx' : ∀ i, i < k → wr.drew.cell? ⟨b, i, none⟩ = some (.int .i64 (xs.getD i 0)) := fun i hi => (((Ext.refl wr).drew.cells.1 b i (by omega)).trans (HS.out.gx.cell b i (by simp; omega) (by simpa using hb))).trans ((((Ext.refl w).alloc _).cells.1 b i hbl).trans (HX.out i hi))
      go_upto_region 5 with fail
      go_region_law
          (first
           | (refine step_callsQ rfl ?_ (hD _ _ (HS.out.cu.keep (Ext.refl wr).drew) (by omega) (by have := (Ext.refl wr).drew.size; omega) hx').out ?_
              · go_simp
              rintro e w2 ⟨x0, x1, x2, a2, rfl, r2, s2, hg2, hc2⟩
              refine ⟨_, rfl, ?_⟩
              have HC2 : Hid (CU B v n a2 w2) := hc2
              have HG2 : Hid (GX [B] wr w2) := (GX.refl [B] wr).drew.trans (GX.ofGrown hg2)
              have HO2 : Hid (w2.ownsRow (w.heap.size + 2) 47 3 (.slice av j cv) j (IL L)) := own_gx HS.out.own HG2.out (by simp; omega)
              have HB2 : Hid (w2.heap[w.heap.size + 1]? = some (.cells #[.int .i64 Q, .slice av j cv] 25 (0, 0))) := (HG2.out.heap hs2 (by simp; omega)).trans HS.out.box
              have hs3 : w.heap.size + 1 < w2.heap.size := (Array.getElem?_eq_some_iff.1 HB2.out).1
              have z72 : ∀ k, w2.cell? ⟨w.heap.size + 1, k, none⟩ = (#[.int .i64 Q, .slice av j cv] : Array Value)[k]? := fun k => cell_of_row _ _ k _ _ _ HB2.out
              have f72 : ∀ k, w2.frozen? ⟨w.heap.size + 1, k, none⟩ = false := fun k => frozen_of_row _ _ k _ _ HB2.out
              clear hg2 hc2)
           | (refine step_append_rvt (base := w.heap.size + 2) rfl elt_FG rfl (.slice av j cv) j L rfl ?_ (.slice (some ⟨w2.heap.size, 0, none⟩) 1 1) 1 [x0, x1, x2] rfl ?_ ?_ ?_ ?_
              · exact own_ext HO2.out ((Ext.refl _).alloc _)
              · exact rv_heap (heap_alloc_new _ _) rfl rfl (by omega) (by decide)
              · omega
              · (simp; omega)
              intro v5 w5 hown5 hgrow5 hiff5 hloc5
              obtain ⟨a5, c5, rfl, _, _, _⟩ := own_shape hown5
              have HO5 : Hid (w5.ownsRow (w.heap.size + 2) 47 3 (.slice a5 (j + 1) c5) (j + 1) (IL (L ++ [x0, x1, x2]))) := hown5
              have hfar : ∀ k, (Value.slice av j cv).ownBlock = some k → w.heap.size + 2 ≤ k := fun k hk => (HO2.out.lt k hk).1
              have HB5 : Hid (w5.heap[w.heap.size + 1]? = some (.cells #[.int .i64 Q, .slice av j cv] 25 (0, 0))) := heap_grown hgrow5 (heap_alloc_lt HB2.out) (fun e => by have := hfar _ e.symm; omega)
              have HC5 : Hid (CU B v n a2 w5) := CU.rowQ (HC2.out.box _) hgrow5 (fun k hk => by have := hfar _ hk; omega)
              have HG5 : Hid (GX [B] (w.alloc (.cells #[.int .i64 0, .slice none 0 0] 25)) w5) := gx_rowQ ((HS.out.gx.trans HG2.out).alloc _) hgrow5 (fun k hk => by have := hfar _ hk; simp; omega)
              have hs5 : w.heap.size + 1 < w5.heap.size := (Array.getElem?_eq_some_iff.1 HB5.out).1
              have z75 : ∀ k, w5.cell? ⟨w.heap.size + 1, k, none⟩ = (#[.int .i64 Q, .slice av j cv] : Array Value)[k]? := fun k => cell_of_row _ _ k _ _ _ HB5.out
              have f75 : ∀ k, w5.frozen? ⟨w.heap.size + 1, k, none⟩ = false := fun k => frozen_of_row _ _ k _ _ HB5.out
              clear hown5 hgrow5 hiff5 hloc5 hfar))
      all_goals
        go_wp2
        go_roundw
        case rel =>
          refine ⟨j + 1, a2, .slice a5 (j + 1) c5, L ++ [x0, x1, x2], by omega, by go_num, ?_, by omega, by omega, own_set HO5.out (by simp) _, heap_set_at HB5.out 1 _, HC5.out.set (by simp; omega) _, HG5.out.setCell (.inr (by simp)) _⟩
          show (L ++ [x0, x1, x2]).length = _
          rw [List.length_append, HLn.out]
          simp
          omega
        case measure => simp [RowKit.intOf]; omega
    · obtain rfl : j = N := by omega
      have hlt' : ¬ ((0 : Int) < (j : Int) - j) := by omega
      have hb0 := box_kept hl HS.out.gx
      have z0 := fun k => cell_of_row _ _ k _ _ _ hb0
      have f0 := fun k => frozen_of_row _ _ k _ _ hb0
      have l0 := (Array.getElem?_eq_some_iff.1 hb0).1
      clear hb0
      go_wp2
      refine bodyPost_ret (v := .agg #[.int .i64 Q, .slice av j cv]) (by simp [results, Try.results60, go_sem, *]) rfl ?_
      refine ⟨j, _, rfl, hNM, L, HLn.out, own_base (own_set (own_set HS.out.own (by simp) _) (by simp) _) (by omega), a, ha1, by omega, GX.toGrown ?_, (HS.out.cu.set (by exact hl) _).set (by exact hl) _⟩
      have hg : GX [B] w wr := ((GX.refl [B] w).alloc _).trans HS.out.gx
      exact (by repeat (first | (with_reducible refine GX.setCell ?_ (by first | (simp; done) | (simp; omega)) _) | with_reducible refine GX.alloc ?_ _ | with_reducible refine GX.drew ?_ | with_reducible refine GX.drewN ?_ _ | with_reducible assumption | with_reducible exact GX.refl _ _ | with_reducible refine GX.ext ?_ (by with_reducible assumption) | with_reducible refine GX.trans ?_ (by with_reducible assumption)))


open Go.RowKit Go.Lib
set_option linter.unusedVariables false
set_option linter.unusedSimpArgs false

theorem lit_at {w' : World} {cs : List Int} {t : TypeId} {g : Nat} (h : w'.heap[g]? = some (.cells (IL cs).toArray t (0, 0))) : ∀ i, i < cs.length → w'.cell? ⟨g, i, none⟩ = some (.int .i64 (cs.getD i 0)) := fun i hi => by
  rw [cell_of_row _ _ i _ _ _ h]
  simp [IL, List.getD_eq_getElem?_getD, hi]

/-- a drawn circuit: own gates, few -/
def DCk (lo : Nat) (k : Nat) (c : Int) (q : Int) (vm : Value) (B : Nat) (v : Value) (n : Nat) (at' : Int) (w w' : World) : Prop :=
  ∃ (N : Nat) (L : List Int) (at2 : Int), N ≤ k ∧ L.length = N * 3 ∧ w'.ownsRow lo 47 3 vm N (IL L) ∧ at' ≤ at2 ∧ at2 ≤ at' + c ∧ w.grownBy w' (some B) ∧ CU B v n at2 w'

set_option maxRecDepth 20000 in
set_option maxHeartbeats 8000000 in
theorem curFoldable_any (B : Nat) (v : Value) (n : Nat) (at' : Int) (w : World) (h : CU B v n at' w) (ha : 0 ≤ at' ∧ at' ≤ 400000000) :
    Calls Try.prog 49 #[.pointer (some ⟨B, 0, none⟩)] w fun e w' => ∃ (q : Int) (vm : Value), e = .returned (.agg #[.int .i64 q, vm]) ∧ (1 ≤ q ∧ q ≤ 5) ∧ DCk w.heap.size 12 300 q vm B v n at' w w' := by
  have hl := h.lt
  have HC := Lib.hid h
  have hP := fun m a w' (hc : CU B v n a w') (hb : 0 ≤ a ∧ a ≤ 900000000) (hm : m ≤ 1000) => Lib.hid (pick_any B v n a m w' hc hb (by omega))
  have hD := fun a w' Q b k cap xs (hc : CU B v n a w') (hb' : 0 ≤ a ∧ a ≤ 500000000) (hQ : 1 ≤ Q ∧ Q ≤ 10) (hk : 0 < k) (hk2 : k ≤ 100) (hkc : k ≤ cap) (hb : b ≠ B) (hbl : b < w'.heap.size) hx => Lib.hid (curBuilt_any B v n a w' hc hb' Q hQ 12 (by decide) b k cap xs hk hk2 hkc hb hbl hx)
  clear h
  go_enter Try.func49, Try.ntmps49
  go_wp2_with fail
  refine ((hP _ _ _ (HC.out.box _) (by omega) (by omega)).out).mono ?_
  rintro e w1 ⟨y1, a1, rfl, p1, q1, r1, s1, hg1, hc1⟩
  have HC1 := Lib.hid hc1
  have HG1 := Lib.hid ((GX.refl [B] _).trans (GX.ofGrown hg1))
  clear hg1 hc1
  have hy1 : y1 ≤ 2 := by omega
  have HB0 := Lib.hid (box_kept hl HG1.out)
  have hl1 : w.heap.size < w1.heap.size := (Array.getElem?_eq_some_iff.1 HB0.out).1
  clear q1
  go_wp2_with fail
  refine ((hD _ _ (1 + y1) w1.heap.size 16 16 [1, 2, 3, 4, 5, 6, 7, 7, 7, 8, 9, 9, 9, 10, 11, 12] (HC1.out.box _) (by omega) (by omega) (by decide) (by decide) (by decide) (by omega) (by simp) (fun i hi => lit_at (cs := [1, 2, 3, 4, 5, 6, 7, 7, 7, 8, 9, 9, 9, 10, 11, 12]) (t := 3) (heap_alloc_new _ _) i hi)).out).mono ?_
  rintro e w2 ⟨N, vm, L, a2, rfl, hN, hL, ho, r2, s2, hg2, hc2⟩
  obtain ⟨av, cv, rfl, _, _, _⟩ := own_shape ho
  have HG2 := Lib.hid (GX.ofGrown hg2)
  have HO := Lib.hid ho
  have HC2 := Lib.hid hc2
  have hB02 := (HG2.out.heap (k := w.heap.size) (by simp; omega) (by simp; omega)).trans (heap_alloc_lt HB0.out)
  have z0 := fun k => cell_of_row _ _ k _ _ _ hB02
  have f0 := fun k => frozen_of_row _ _ k _ _ hB02
  have l0 := (Array.getElem?_eq_some_iff.1 hB02).1
  clear hB02 hg2 ho hc2
  go_wp2
  refine bodyPost_ret (v := .agg #[.int .i64 (1 + y1), .slice av N cv]) (by simp [results, Try.results49, go_sem, *]) rfl ?_
  refine ⟨_, _, rfl, by omega, N, L, a2, hN, hL, own_base (own_set (own_set HO.out (by simp; omega) _) (by simp; omega) _) (by simp; omega), by omega, by omega, GX.toGrown ?_, (HC2.out.set (by exact hl) _).set (by exact hl) _⟩
  have hg : GX [B] w w2 := ((((GX.refl [B] w).alloc _).trans HG1.out).alloc _).trans HG2.out
  exact (by repeat (first | (with_reducible refine GX.setCell ?_ (by first | (simp; done) | (simp; omega)) _) | with_reducible refine GX.alloc ?_ _ | with_reducible refine GX.drew ?_ | with_reducible refine GX.drewN ?_ _ | with_reducible assumption | with_reducible exact GX.refl _ _ | with_reducible refine GX.ext ?_ (by with_reducible assumption) | with_reducible refine GX.trans ?_ (by with_reducible assumption)))

set_option maxRecDepth 20000 in
set_option maxHeartbeats 8000000 in
theorem curCircuit_any (B : Nat) (v : Value) (n : Nat) (at' : Int) (w : World) (h : CU B v n at' w) (ha : 0 ≤ at' ∧ at' ≤ 400000000) :
    Calls Try.prog 61 #[.pointer (some ⟨B, 0, none⟩)] w fun e w' => ∃ (q : Int) (vm : Value), e = .returned (.agg #[.int .i64 q, vm]) ∧ (1 ≤ q ∧ q ≤ 5) ∧ DCk w.heap.size 8 300 q vm B v n at' w w' := by
  have hl := h.lt
  have HC := Lib.hid h
  have hA := fun a w' (hc : CU B v n a w') (hb : 0 ≤ a ∧ a ≤ 900000000) b k cap xs hk hk2 hb' hbl hx => Lib.hid (among_any B v n a w' hc hb b k cap xs hk hk2 hb' hbl hx)
  have hD := fun a w' Q b k cap xs (hc : CU B v n a w') (hb' : 0 ≤ a ∧ a ≤ 500000000) (hQ : 1 ≤ Q ∧ Q ≤ 10) (hk : 0 < k) (hk2 : k ≤ 100) (hkc : k ≤ cap) (hb : b ≠ B) (hbl : b < w'.heap.size) hx => Lib.hid (curBuilt_any B v n a w' hc hb' Q hQ 8 (by decide) b k cap xs hk hk2 hkc hb hbl hx)
  clear h
  go_enter Try.func61, Try.ntmps61
  go_wp2_with fail
  refine ((hA _ _ ((HC.out.box _).box _) (by omega) (w.heap.size + 1) 4 4 [1, 2, 2, 3] (by decide) (by decide) (by omega) (by simp) (fun i hi => lit_at (cs := [1, 2, 2, 3]) (t := 3) (heap_alloc_at _ _ _ (by simp)) i hi)).out).mono ?_
  rintro e w1 ⟨i, a1, hi, rfl, r1, s1, hg1, hc1⟩
  have HC1 := Lib.hid hc1
  have HG1 := Lib.hid (GX.ofGrown hg1)
  have hq : 1 ≤ ([1, 2, 2, 3] : List Int).getD i 0 ∧ ([1, 2, 2, 3] : List Int).getD i 0 ≤ 3 := by
    have : i = 0 ∨ i = 1 ∨ i = 2 ∨ i = 3 := by omega
    rcases this with rfl | rfl | rfl | rfl <;> decide
  generalize ([1, 2, 2, 3] : List Int).getD i 0 = q at *
  have HB0 := Lib.hid ((HG1.out.heap (k := w.heap.size) (by simp; omega) (by simp; omega)).trans (heap_alloc_lt (heap_alloc_new _ _)))
  have hl1 : w.heap.size < w1.heap.size := (Array.getElem?_eq_some_iff.1 HB0.out).1
  clear hg1 hc1
  go_wp2_with fail
  refine ((hD _ _ (q) w1.heap.size 15 15 [1, 2, 3, 4, 5, 6, 7, 8, 9, 9, 10, 11, 12, 7, 1] (HC1.out.box _) (by omega) (by omega) (by decide) (by decide) (by decide) (by omega) (by simp) (fun i hi => lit_at (cs := [1, 2, 3, 4, 5, 6, 7, 8, 9, 9, 10, 11, 12, 7, 1]) (t := 3) (heap_alloc_new _ _) i hi)).out).mono ?_
  rintro e w2 ⟨N, vm, L, a2, rfl, hN, hL, ho, r2, s2, hg2, hc2⟩
  obtain ⟨av, cv, rfl, _, _, _⟩ := own_shape ho
  have HG2 := Lib.hid (GX.ofGrown hg2)
  have HO := Lib.hid ho
  have HC2 := Lib.hid hc2
  have hB02 := (HG2.out.heap (k := w.heap.size) (by simp; omega) (by simp; omega)).trans (heap_alloc_lt HB0.out)
  have z0 := fun k => cell_of_row _ _ k _ _ _ hB02
  have f0 := fun k => frozen_of_row _ _ k _ _ hB02
  have l0 := (Array.getElem?_eq_some_iff.1 hB02).1
  clear hB02 hg2 ho hc2
  go_wp2
  refine bodyPost_ret (v := .agg #[.int .i64 (q), .slice av N cv]) (by simp [results, Try.results61, go_sem, *]) rfl ?_
  refine ⟨_, _, rfl, by omega, N, L, a2, hN, hL, own_base (own_set (own_set HO.out (by simp; omega) _) (by simp; omega) _) (by simp; omega), by omega, by omega, GX.toGrown ?_, (HC2.out.set (by exact hl) _).set (by exact hl) _⟩
  have hg : GX [B] w w2 := (((((GX.refl [B] w).alloc _).alloc _).trans HG1.out).alloc _).trans HG2.out
  exact (by repeat (first | (with_reducible refine GX.setCell ?_ (by first | (simp; done) | (simp; omega)) _) | with_reducible refine GX.alloc ?_ _ | with_reducible refine GX.drew ?_ | with_reducible refine GX.drewN ?_ _ | with_reducible assumption | with_reducible exact GX.refl _ _ | with_reducible refine GX.ext ?_ (by with_reducible assumption) | with_reducible refine GX.trans ?_ (by with_reducible assumption)))

end Go.Proofs.Ytbddgeoaaklgpaa
