/- Draws of matrices. -/
import Derived.Test.YtamiploliebplaaDoorCnL
import Derived.Test.YtamiploliebplaaDoorCrt
import Derived.Test.YtamiploliebplaaDoorTlS
import Derived.Test.YtamiploliebplaaDoorLt
import Derived.Deep.RegionLaw
import Derived.Deep.Cut
import Derived.Test.YtamiploliebplaaDoorExA
namespace Go.Proofs.YtamiploliebplaaDoor
open Go.RowKit Go.Lib
set_option linter.unusedVariables false
set_option linter.unusedSimpArgs false

/-- a call of a Go function as one step of a region that draws -/
theorem step_calls {P : Program} {ops : Array Oper} {o : Oper} {a : Act} {w : World} {K : Act → World → Prop} {Q : Exit → Act → World → Prop} {R : Prop} (hgd : o.guard = none) {f : FuncId} {args : Array Value} {post : Ending → World → Prop}
    (hrun : (execOp a.eval o).run P w = .ok (.enter f args) w) (hc : Calls P f args w post) (h : ∀ e w', post e w' → ∃ v, e = .returned v ∧ K (a.put o.dst v) w') :
    if Region.wanted o (yielded ops a.tmps) = true then Oper.wp P o a w K Q else R := by
  have hw : Region.wanted o (yielded ops a.tmps) = true := by simp [Region.wanted, hgd]
  rw [if_pos hw]
  unfold Oper.wp
  rw [hrun, Oper.upon_enter]
  refine hc.mono ?_
  intro e w' hp
  obtain ⟨v, rfl, hk⟩ := h e w' hp
  exact hk
theorem CU.row {B : Nat} {v : Value} {n : Nat} {a : Int} {w w' : World} {row : Option Nat} (h : CU B v n a w) (hg : w.grownBy w' row) (hb : ∀ k, row = some k → B < k) : CU B v n a w' := by
  have hl := h.lt
  obtain ⟨h1, s, h2⟩ := h
  cases row with
  | none =>
    have hx : Ext w w' := Ext.grown (Ext.refl w) hg (fun _ hj => by cases hj)
    exact CU.keep ⟨h1, s, h2⟩ hx
  | some k =>
    have hk := hb k rfl
    exact ⟨h1.gx (by omega) (GX.ofGrown hg) (by simp; omega), s, ((GX.ofGrown hg).heap hl (by simp; omega)).trans h2⟩
theorem gx_row {S : List Nat} {w w1 w' : World} {row : Option Nat} (h : GX S w w1) (hg : w1.grownBy w' row) (hb : ∀ k, row = some k → w.heap.size ≤ k) : GX S w w' := by
  cases row with
  | none => exact h.ext (Ext.grown (Ext.refl w1) hg (fun _ hj => by cases hj))
  | some k => exact h.join (GX.ofGrown hg) (by simp; exact .inr (hb k rfl))

/-- the state of the draw of a matrix: cells in a row of its own, the box, the cursor -/
structure DM (w : World) (B : Nat) (v : Value) (n : Nat) (R C : Int) (vm : Value) (j : Nat) (L : List Int) (a : Int) (wr : World) : Prop where
  own : wr.ownsRow (w.heap.size + 2) 46 5 vm j (IL L)
  box : wr.heap[w.heap.size + 1]? = some (.cells #[.int .i64 R, .int .i64 C, vm] 30 (0, 0))
  cu : CU B v n a wr
  gx : GX [B] (w.alloc (.cells #[.int .i64 0, .int .i64 0, .slice none 0 0] 30)) wr

set_option maxRecDepth 20000 in
set_option maxHeartbeats 8000000 in
theorem curMatrix_any (B : Nat) (v : Value) (n : Nat) (at' : Int) (R C : Nat) (hR : R ≤ 4) (hC : C ≤ 4) (w : World) (h : CU B v n at' w) (ha : 0 ≤ at' ∧ at' ≤ 500000000) :
    Calls Tryd.prog 53 #[.pointer (some ⟨B, 0, none⟩), .int .i64 R, .int .i64 C] w fun e w' => ∃ (vm : Value) (L : List Int) (at2 : Int), e = .returned (.agg #[.int .i64 R, .int .i64 C, vm]) ∧ L.length = R * C * 5 ∧ w'.ownsRow w.heap.size 46 5 vm (R * C) (IL L) ∧
      at' ≤ at2 ∧ at2 ≤ at' + 200 ∧ w.grownBy w' (some B) ∧ CU B v n at2 w' := by
  have hl := h.lt
  have HC := Lib.hid h
  have hD := fun a w' (hc : CU B v n a w') (hb : 0 ≤ a ∧ a ≤ 700000000) => Lib.hid (curDyadic_any B v n a w' hc hb)
  have hN16 : R * C ≤ 16 := Nat.le_trans (Nat.mul_le_mul hR hC) (by decide)
  obtain ⟨N, hN⟩ : ∃ N, R * C = N := ⟨_, rfl⟩
  have hNi : (R : Int) * C = (N : Int) := by rw [← hN]; push_cast; rfl
  rw [hN] at hN16 ⊢
  clear h hN
  go_enter Tryd.func53, Tryd.ntmps53
  go_wp2
  go_loopw [8] (fun s8 wr => ∃ (j : Nat) (a : Int) (vm : Value) (L : List Int), j ≤ N ∧ s8 = .int .i64 j ∧ Hid (L.length = j * 5) ∧ at' ≤ a ∧ a ≤ at' + 10 * j ∧ Hid (DM w B v n R C vm j L a wr)) (fun s8 _ => N - (RowKit.intOf s8).toNat)
  case atStart =>
    exact ⟨0, at', .slice none 0 0, [], by omega, rfl, rfl, by omega, by omega, own_nil _ _ _ _, heap_alloc_at _ _ _ (by simp), (HC.out.box _).box _, (GX.refl [B] _).alloc _⟩
  case round =>
    obtain ⟨j, a, vm, L, hj, rfl, HLn, ha1, ha2, HS⟩ := hrel
    obtain ⟨av, cv, rfl, _, _, _⟩ := own_shape HS.out.own
    have hs2 : w.heap.size + 1 < wr.heap.size := (Array.getElem?_eq_some_iff.1 HS.out.box).1
    have z7 := fun k => cell_of_row _ _ k _ _ _ HS.out.box
    have f7 := fun k => frozen_of_row _ _ k _ _ HS.out.box
    have hne : w.heap.size ≠ w.heap.size + 1 := by omega
    by_cases hlt : j < N
    · have hlt' : (j : Int) < N := by omega
      go_upto_region 5 with fail
      go_region_law
          (first
           | (refine step_calls rfl (by go_simp) (hD _ _ (HS.out.cu.keep (Ext.refl wr).drew) (by omega)).out ?_
              rintro e w2 ⟨x0, x1, x2, x3, x4, a2, rfl, r2, s2, hg2, hc2⟩
              refine ⟨_, rfl, ?_⟩
              have HC2 : Hid (CU B v n a2 w2) := hc2
              have HG2 : Hid (GX [B] wr w2) := (GX.refl [B] wr).drew.trans (GX.ofGrown hg2)
              have HO2 : Hid (w2.ownsRow (w.heap.size + 2) 46 5 (.slice av j cv) j (IL L)) := own_gx HS.out.own HG2.out (by simp; omega)
              have HB2 : Hid (w2.heap[w.heap.size + 1]? = some (.cells #[.int .i64 R, .int .i64 C, .slice av j cv] 30 (0, 0))) := (HG2.out.heap hs2 (by simp; omega)).trans HS.out.box
              have hs3 : w.heap.size + 1 < w2.heap.size := (Array.getElem?_eq_some_iff.1 HB2.out).1
              have z72 : ∀ k, w2.cell? ⟨w.heap.size + 1, k, none⟩ = (#[.int .i64 R, .int .i64 C, .slice av j cv] : Array Value)[k]? := fun k => cell_of_row _ _ k _ _ _ HB2.out
              have f72 : ∀ k, w2.frozen? ⟨w.heap.size + 1, k, none⟩ = false := fun k => frozen_of_row _ _ k _ _ HB2.out
              clear hg2 hc2)
           | (refine step_append_rvt (base := w.heap.size + 2) rfl elt_dyadic rfl (.slice av j cv) j L rfl ?_ (.slice (some ⟨w2.heap.size, 0, none⟩) 1 1) 1 [x0, x1, x2, x3, x4] rfl ?_ ?_ ?_ ?_
              · exact own_ext HO2.out ((Ext.refl _).alloc _)
              · exact rv_heap (heap_alloc_new _ _) rfl rfl (by omega) (by decide)
              · omega
              · (simp; omega)
              intro v5 w5 hown5 hgrow5 hiff5 hloc5
              obtain ⟨a5, c5, rfl, _, _, _⟩ := own_shape hown5
              have HO5 : Hid (w5.ownsRow (w.heap.size + 2) 46 5 (.slice a5 (j + 1) c5) (j + 1) (IL (L ++ [x0, x1, x2, x3, x4]))) := hown5
              have hfar : ∀ k, (Value.slice av j cv).ownBlock = some k → w.heap.size + 2 ≤ k := fun k hk => (HO2.out.lt k hk).1
              have HB5 : Hid (w5.heap[w.heap.size + 1]? = some (.cells #[.int .i64 R, .int .i64 C, .slice av j cv] 30 (0, 0))) := heap_grown hgrow5 (heap_alloc_lt HB2.out) (fun e => by have := hfar _ e.symm; omega)
              have HC5 : Hid (CU B v n a2 w5) := CU.row (HC2.out.box _) hgrow5 (fun k hk => by have := hfar _ hk; omega)
              have HG5 : Hid (GX [B] (w.alloc (.cells #[.int .i64 0, .int .i64 0, .slice none 0 0] 30)) w5) := gx_row ((HS.out.gx.trans HG2.out).alloc _) hgrow5 (fun k hk => by have := hfar _ hk; simp; omega)
              have hs5 : w.heap.size + 1 < w5.heap.size := (Array.getElem?_eq_some_iff.1 HB5.out).1
              have z75 : ∀ k, w5.cell? ⟨w.heap.size + 1, k, none⟩ = (#[.int .i64 R, .int .i64 C, .slice av j cv] : Array Value)[k]? := fun k => cell_of_row _ _ k _ _ _ HB5.out
              have f75 : ∀ k, w5.frozen? ⟨w.heap.size + 1, k, none⟩ = false := fun k => frozen_of_row _ _ k _ _ HB5.out
              clear hown5 hgrow5 hiff5 hloc5 hfar))
      all_goals
        go_wp2
        go_roundw
        case rel =>
          refine ⟨j + 1, a2, .slice a5 (j + 1) c5, L ++ [x0, x1, x2, x3, x4], by omega, by go_num, ?_, by omega, by omega, own_set HO5.out (by simp) _, heap_set_at HB5.out 2 _, HC5.out.set (by simp; omega) _, HG5.out.setCell (.inr (by simp)) _⟩
          show (L ++ [x0, x1, x2, x3, x4]).length = _
          rw [List.length_append, HLn.out]
          simp
          omega
        case measure => simp [RowKit.intOf]; omega
    · obtain rfl : j = N := by omega
      have hlt' : ¬ ((j : Int) < j) := by omega
      have hb0 := box_kept hl HS.out.gx
      have z0 := fun k => cell_of_row _ _ k _ _ _ hb0
      have f0 := fun k => frozen_of_row _ _ k _ _ hb0
      have l0 := (Array.getElem?_eq_some_iff.1 hb0).1
      clear hb0
      go_wp2
      refine bodyPost_ret (v := .agg #[.int .i64 R, .int .i64 C, .slice av j cv]) (by simp [results, Tryd.results53, go_sem, *]) rfl ?_
      refine ⟨_, rfl, L, HLn.out, own_base (own_set (own_set (own_set HS.out.own (by simp) _) (by simp) _) (by simp) _) (by omega), a, ha1, by omega, GX.toGrown ?_, ((HS.out.cu.set (by exact hl) _).set (by exact hl) _).set (by exact hl) _⟩
      have hg : GX [B] w wr := ((GX.refl [B] w).alloc _).trans HS.out.gx
      exact (by repeat (first | (with_reducible refine GX.setCell ?_ (by first | (simp; done) | (simp; omega)) _) | with_reducible refine GX.alloc ?_ _ | with_reducible refine GX.drew ?_ | with_reducible refine GX.drewN ?_ _ | with_reducible assumption | with_reducible exact GX.refl _ _ | with_reducible refine GX.ext ?_ (by with_reducible assumption) | with_reducible refine GX.trans ?_ (by with_reducible assumption)))


open Go.RowKit Go.Lib
set_option linter.unusedVariables false
set_option linter.unusedSimpArgs false

/-- a slice of n numbers, in a block from lo on, that can be read -/
def MV (lo : Nat) (w : World) (vm : Value) (n : Nat) (xs : List Int) : Prop :=
  xs.length = n * 5 ∧ ∃ (a : Option Addr) (cap : Nat), vm = .slice a n cap ∧ n ≤ cap ∧ cap ≤ maxLen ∧
    (0 < n → ∃ b off, a = some ⟨b, off, none⟩ ∧ lo ≤ b ∧ b < w.heap.size ∧ ∀ j u, (IL xs)[j]? = some u → w.cell? ⟨b, off + j, none⟩ = some u)
theorem MV.rv {lo : Nat} {w : World} {vm : Value} {n : Nat} {xs : List Int} (h : MV lo w vm n xs) : RV w 5 vm n xs := by
  obtain ⟨h1, a, cap, h2, h3, h4, h5⟩ := h
  refine ⟨h1, a, cap, h2, h3, h4, fun hp => ?_⟩
  obtain ⟨b, off, e1, _, e2, e3⟩ := h5 hp
  exact ⟨b, off, e1, e2, e3⟩
theorem MV.gx {S : List Nat} {lo : Nat} {w w' : World} {vm : Value} {n : Nat} {xs : List Int} (h : MV lo w vm n xs) (hg : GX S w w') (hS : ∀ k, k ∈ S → k < lo) : MV lo w' vm n xs := by
  obtain ⟨h1, a, cap, h2, h3, h4, h5⟩ := h
  refine ⟨h1, a, cap, h2, h3, h4, fun hp => ?_⟩
  obtain ⟨b, off, e1, e0, e2, e3⟩ := h5 hp
  exact ⟨b, off, e1, e0, by have := hg.size; omega, fun j u hu => (hg.cell b _ e2 (fun hm => by have := hS b hm; omega)).trans (e3 j u hu)⟩
theorem MV.base {lo lo' : Nat} {w : World} {vm : Value} {n : Nat} {xs : List Int} (h : MV lo w vm n xs) (hl : lo' ≤ lo) : MV lo' w vm n xs := by
  obtain ⟨h1, a, cap, h2, h3, h4, h5⟩ := h
  refine ⟨h1, a, cap, h2, h3, h4, fun hp => ?_⟩
  obtain ⟨b, off, e1, e0, e2, e3⟩ := h5 hp
  exact ⟨b, off, e1, by omega, e2, e3⟩
theorem MV.set {lo : Nat} {w : World} {vm : Value} {n : Nat} {xs : List Int} (h : MV lo w vm n xs) {p : Addr} (hp : p.block < lo) (u : Value) : MV lo (w.setCell p u) vm n xs :=
  h.gx ((GX.refl [p.block] w).setCell (.inl (by simp)) u) (by simpa using hp)
theorem MV.own {w : World} {base : Nat} {e : TypeId} {v : Value} {n : Nat} {xs : List Int} (h : w.ownsRow base e 5 v n (IL xs)) (hl : xs.length = n * 5) : MV base w v n xs := by
  obtain ⟨a, cap, h1, h2, h3, h4⟩ := own_shape h
  refine ⟨hl, a, cap, h1, h2, h3, fun hp => ?_⟩
  obtain ⟨g, e1, e0, e2, e3, _⟩ := h4 hp
  exact ⟨g, 0, e1, e0, e2, fun j u hu => by rw [Nat.zero_add]; exact e3 j u hu⟩
/-- the first left out -/
theorem MV.tail {lo : Nat} {w : World} {n : Nat} {xs : List Int} {b off cap : Nat} (h : MV lo w (.slice (some ⟨b, off, none⟩) n cap) n xs) (hn : 0 < n) : MV lo w (.slice (some ⟨b, off + 5, none⟩) (n - 1) (cap - 1)) (n - 1) (xs.drop 5) := by
  obtain ⟨h1, a, cap', h2, h3, h4, h5⟩ := h
  obtain ⟨b', off', e1, e0, e2, e3⟩ := h5 hn
  rw [e1] at h2
  simp only [Value.slice.injEq, Option.some.injEq, Addr.mk.injEq, and_true, true_and] at h2
  obtain ⟨⟨rfl, rfl⟩, rfl⟩ := h2
  refine ⟨by simp; omega, _, _, rfl, by omega, by omega, fun _ => ⟨b, off + 5, rfl, e0, e2, fun j u hu => ?_⟩⟩
  rw [show off + 5 + j = off + (5 + j) by omega]
  refine e3 _ _ ?_
  have : (IL xs).drop 5 = IL (xs.drop 5) := by simp [IL, List.map_drop]
  rw [← this, List.getElem?_drop] at hu
  exact hu
theorem lit_cellsM {w : World} {t : TypeId} {N : Nat} (hN : w.heap.size = N) (xs : List Int) : ∀ i, i < xs.length → (w.alloc (.cells (xs.map (Value.int .i64)).toArray t)).cell? ⟨N, i, none⟩ = some (.int .i64 (xs.getD i 0)) := by
  subst hN
  exact lit_cells xs
theorem il_set5 (xs : List Int) (j : Nat) (z : Int) : (IL xs).set j (.int .i64 z) = IL (xs.set j z) := by simp [IL, List.map_set]
/-- one number is written -/
theorem own_num {w : World} {base g cap n : Nat} {t : TypeId} {xs : List Int} (h : w.ownsRow base t 5 (.slice (some ⟨g, 0, none⟩) n cap) n (IL xs)) (p : Nat) (a b c d e : Int) : ∃ ys : List Int, ys.length = xs.length ∧
    (((((w.setCell ⟨g, p * 5, none⟩ (.int .i64 a)).setCell ⟨g, p * 5 + 1, none⟩ (.int .i64 b)).setCell ⟨g, p * 5 + 2, none⟩ (.int .i64 c)).setCell ⟨g, p * 5 + 3, none⟩ (.int .i64 d)).setCell ⟨g, p * 5 + 4, none⟩ (.int .i64 e)).ownsRow base t 5 (.slice (some ⟨g, 0, none⟩) n cap) n (IL ys) := by
  have s0 := (World.ownsRow.stored h (p * 5) (.int .i64 a)).1
  rw [il_set5] at s0
  have s1 := (World.ownsRow.stored s0 (p * 5 + 1) (.int .i64 b)).1
  rw [il_set5] at s1
  have s2 := (World.ownsRow.stored s1 (p * 5 + 2) (.int .i64 c)).1
  rw [il_set5] at s2
  have s3 := (World.ownsRow.stored s2 (p * 5 + 3) (.int .i64 d)).1
  rw [il_set5] at s3
  have s4 := (World.ownsRow.stored s3 (p * 5 + 4) (.int .i64 e)).1
  rw [il_set5] at s4
  exact ⟨_, by simp, s4⟩
theorem own_setC {w : World} {base : Nat} {e : TypeId} {size : Nat} {v : Value} {n : Nat} {xs : List Value} (h : w.ownsRow base e size v n xs) {p : Addr} (hp : ∀ k, v.ownBlock = some k → k ≠ p.block) (u : Value) : (w.setCell p u).ownsRow base e size v n xs :=
  Go.ownsRow_setCell_other h (fun e => hp _ e rfl) u
/-- what a draw of a matrix gives -/
def MPost (B : Nat) (v : Value) (n lo : Nat) (at' k : Int) (w w' : World) (vm : Value) : Prop :=
  ∃ (m : Nat) (L : List Int) (at2 : Int), m ≤ 16 ∧ MV lo w' vm m L ∧ at' ≤ at2 ∧ at2 ≤ at' + k ∧ w.grownBy w' (some B) ∧ CU B v n at2 w'
theorem pick4 {i : Nat} (hi : i < 4) : ∃ R : Nat, List.getD [1, 2, 2, 4] i (0 : Int) = (R : Int) ∧ 1 ≤ R ∧ R ≤ 4 := by
  have : i = 0 ∨ i = 1 ∨ i = 2 ∨ i = 3 := by omega
  rcases this with rfl | rfl | rfl | rfl
  · exact ⟨1, rfl, by omega, by omega⟩
  · exact ⟨2, rfl, by omega, by omega⟩
  · exact ⟨2, rfl, by omega, by omega⟩
  · exact ⟨4, rfl, by omega, by omega⟩
theorem pick3 {i : Nat} (hi : i < 3) : ∃ R : Nat, List.getD [1, 2, 4] i (0 : Int) = (R : Int) ∧ 1 ≤ R ∧ R ≤ 4 := by
  have : i = 0 ∨ i = 1 ∨ i = 2 := by omega
  rcases this with rfl | rfl | rfl
  · exact ⟨1, rfl, by omega, by omega⟩
  · exact ⟨2, rfl, by omega, by omega⟩
  · exact ⟨4, rfl, by omega, by omega⟩

set_option maxRecDepth 20000 in
set_option maxHeartbeats 8000000 in
theorem curAnyMatrix_any (B : Nat) (v : Value) (n : Nat) (at' : Int) (w : World) (h : CU B v n at' w) (ha : 0 ≤ at' ∧ at' ≤ 400000000) :
    Calls Tryd.prog 25 #[.pointer (some ⟨B, 0, none⟩)] w fun e w' => ∃ (r c : Int) (vm : Value), e = .returned (.agg #[.int .i64 r, .int .i64 c, vm]) ∧ MPost B v n w.heap.size at' 300 w w' vm := by
  have hl := h.lt
  have HC := Lib.hid h
  have hP := fun a m w' (hc : CU B v n a w') (hb : 0 ≤ a ∧ a ≤ 900000000) (hm : m ≤ 65536) => Lib.hid (pick_any B v n a m w' hc hb hm)
  have hM := fun a R C hR hC w' (hc : CU B v n a w') (hb : 0 ≤ a ∧ a ≤ 500000000) => Lib.hid (curMatrix_any B v n a R C hR hC w' hc hb)
  have hAD := fun a w' (hc : CU B v n a w') (hb : 0 ≤ a ∧ a ≤ 600000000) => Lib.hid (anyDyadic_any B v n a w' hc hb)
  clear h
  go_enter Tryd.func25, Tryd.ntmps25
  go_wp2_with fail
  refine (among_any B _ n at' _ ((HC.out.box _).box _) (by omega) (w.heap.size + 1) 4 4 [1, 2, 2, 4] (by omega) (by omega) (by omega) (by simp) (fun i hi => lit_cellsM (by simp) [1, 2, 2, 4] i hi)).mono ?_
  rintro e w1 ⟨i1, a1, hi1, rfl, r1, s1, hg1, hc1⟩
  obtain ⟨R, hR, R1, R2⟩ := pick4 hi1
  rw [hR]
  have HC1 := Lib.hid hc1
  have HG1 := Lib.hid (((GX.refl [B] (w.alloc (.cells #[.int .i64 0, .int .i64 0, .slice none 0 0] 30))).alloc _).trans (GX.ofGrown hg1))
  have hl1 := hc1.lt
  clear hg1 hc1 hR hi1
  go_wp2_with fail
  refine (among_any B _ n a1 _ (HC1.out.box _) (by omega) w1.heap.size 4 4 [1, 2, 2, 4] (by omega) (by omega) (by omega) (by simp) (fun i hi => lit_cells [1, 2, 2, 4] i hi)).mono ?_
  rintro e w2 ⟨i2, a2, hi2, rfl, r2, s2, hg2, hc2⟩
  obtain ⟨C, hC, C1, C2⟩ := pick4 hi2
  rw [hC]
  have HC2 := Lib.hid hc2
  have HG2 := Lib.hid ((HG1.out.alloc _).trans (GX.ofGrown hg2))
  have hl2 := hc2.lt
  clear hg2 hc2 hC hi2
  go_wp2_with fail
  refine ((hM a2 R C R2 C2 _ HC2.out (by omega)).out).mono ?_
  rintro e w3 ⟨vm, L, a3, rfl, hL, o3, r3, s3, hg3, hc3⟩
  have hN16 : R * C ≤ 16 := Nat.le_trans (Nat.mul_le_mul R2 C2) (by decide)
  have hN1 : 1 ≤ R * C := Nat.le_trans (by decide) (Nat.mul_le_mul R1 C1)
  obtain ⟨N, hN⟩ : ∃ N, R * C = N := ⟨_, rfl⟩
  rw [hN] at hL o3 hN16 hN1
  have hz2 := HG2.out.size
  simp at hz2
  have O3 := Lib.hid (own_base o3 (base' := w.heap.size + 1) (by omega))
  have HC3 := Lib.hid hc3
  have HG3 := Lib.hid (HG2.out.trans (GX.ofGrown hg3))
  have HLn := Lib.hid hL
  have hl3 := hc3.lt
  obtain ⟨av, cap, rfl, n1, n2, n3⟩ := own_shape o3
  obtain ⟨g, rfl, g1, g2, -, -⟩ := n3 (by omega)
  clear hg3 hc3 o3 hL n3
  have hgw : w.heap.size + 1 ≤ g := by omega
  go_wp2_with fail
  refine ((hP _ _ _ (HC3.out.box _) (by omega) (by omega)).out).mono ?_
  rintro e w4 ⟨y, a4, rfl, p4, q4, r4, s4, hg4, hc4⟩
  have HC4 := Lib.hid hc4
  have HG4 := Lib.hid ((HG3.out.alloc _).trans (GX.ofGrown hg4))
  have HBX : Hid (w4.heap[w3.heap.size]? = some (.cells #[.int .i64 R, .int .i64 C, .slice (some ⟨g, 0, none⟩) N cap] 30 (0, 0))) := box_kept hl3 (GX.ofGrown hg4)
  have HB0 : Hid (w4.heap[w.heap.size]? = some (.cells #[.int .i64 0, .int .i64 0, .slice none 0 0] 30 (0, 0))) := box_kept hl HG4.out
  have O4 := Lib.hid (own_gx (own_ext O3.out ((Ext.refl _).alloc (.cells #[.int .i64 R, .int .i64 C, .slice (some ⟨g, 0, none⟩) N cap] 30 (0, 0)))) (GX.ofGrown hg4) (by simp; omega))
  have hz3 := HG3.out.size
  simp at hz3
  have hg4' : Hid (GX [B] w w4) := ((GX.refl [B] w).alloc _).trans HG4.out
  have hs4 : w3.heap.size < w4.heap.size := (Array.getElem?_eq_some_iff.1 HBX.out).1
  have hne : w.heap.size ≠ w3.heap.size := by omega
  clear hg4 hc4 q4 HC HC1 HC2 HC3 HG1 HG2 HG3 HG4 O3 hz2 hz3
  have HBX4 := HBX
  have HB04 := HB0
  have hgne : g ≠ w3.heap.size := by omega
  by_cases h0 : y = 0
  · have k0 : (y == 0) = true := by simpa using h0
    clear h0
    have zx := fun k => cell_of_row _ _ k _ _ _ HBX4.out
    have fx := fun k => frozen_of_row _ _ k _ _ HBX4.out
    have z0 := fun k => cell_of_row _ _ k _ _ _ HB04.out
    have f0 := fun k => frozen_of_row _ _ k _ _ HB04.out
    have lx := (Array.getElem?_eq_some_iff.1 HBX4.out).1
    have l0 := (Array.getElem?_eq_some_iff.1 HB04.out).1
    go_wp2_with fail
    refine (among_any B _ n a4 _ (HC4.out.box _) (by omega) w4.heap.size 5 5 [0, 3, 64, -1, 1] (by omega) (by omega) (by omega) (by simp) (fun i hi => lit_cells [0, 3, 64, -1, 1] i hi)).mono ?_
    rintro e w5 ⟨i5, a5, hi5, rfl, r5, s5, hg5, hc5⟩
    generalize List.getD [0, 3, 64, -1, 1] i5 (0 : Int) = z1 at *
    have HC5 := Lib.hid hc5
    have HG5 := Lib.hid ((hg4'.out.alloc _).trans (GX.ofGrown hg5))
    have HBX5 : Hid (w5.heap[w3.heap.size]? = some (.cells #[.int .i64 R, .int .i64 C, .slice (some ⟨g, 0, none⟩) N cap] 30 (0, 0))) := ((GX.ofGrown hg5).heap (by simp; omega) (by simp; omega)).trans (heap_alloc_lt HBX.out)
    have HB05 : Hid (w5.heap[w.heap.size]? = some (.cells #[.int .i64 0, .int .i64 0, .slice none 0 0] 30 (0, 0))) := ((GX.ofGrown hg5).heap (by simp; omega) (by simp; omega)).trans (heap_alloc_lt HB0.out)
    have O5 := Lib.hid (own_gx (own_ext O4.out ((Ext.refl _).alloc (.cells ([0, 3, 64, -1, 1].map (Value.int .i64)).toArray 3))) (GX.ofGrown hg5) (by simp; omega))
    clear hg5 hc5 hi5 zx fx z0 f0 lx l0
    have zx := fun k => cell_of_row _ _ k _ _ _ HBX5.out
    have fx := fun k => frozen_of_row _ _ k _ _ HBX5.out
    have z0 := fun k => cell_of_row _ _ k _ _ _ HB05.out
    have f0 := fun k => frozen_of_row _ _ k _ _ HB05.out
    have lx := (Array.getElem?_eq_some_iff.1 HBX5.out).1
    have l0 := (Array.getElem?_eq_some_iff.1 HB05.out).1
    go_wp2
    refine bodyPost_ret (v := .agg #[.int .i64 z1, .int .i64 C, .slice (some ⟨g, 0, none⟩) N cap]) (by simp [results, Tryd.results25, go_sem, *]) rfl ?_
    refine ⟨_, _, _, rfl, N, L, a5, hN16, (MV.own (own_set (own_set (own_set (own_setC O5.out (by simp [Value.ownBlock]; omega) _) (by simp) _) (by simp) _) (by simp) _) HLn.out).base (by omega), by omega, by omega, GX.toGrown ?_, (((HC5.out.set (by simp; omega) _).set (by exact hl) _).set (by exact hl) _).set (by exact hl) _⟩
    have hg := HG5.out
    exact (by repeat (first | (with_reducible refine GX.setCell ?_ (by first | (simp; done) | (simp; omega)) _) | with_reducible refine GX.alloc ?_ _ | with_reducible refine GX.drew ?_ | with_reducible refine GX.drewN ?_ _ | with_reducible assumption | with_reducible exact GX.refl _ _ | with_reducible refine GX.ext ?_ (by with_reducible assumption) | with_reducible refine GX.trans ?_ (by with_reducible assumption)))
  have k0 : (y == 0) = false := by simpa using h0
  by_cases h1 : y = 1
  · have k1 : (y == 1) = true := by simpa using h1
    clear h0 h1
    have zx := fun k => cell_of_row _ _ k _ _ _ HBX4.out
    have z0 := fun k => cell_of_row _ _ k _ _ _ HB04.out
    have f0 := fun k => frozen_of_row _ _ k _ _ HB04.out
    have lx := (Array.getElem?_eq_some_iff.1 HBX4.out).1
    have hgB : g ≠ B := by omega
    have hgz : g ≠ w.heap.size := by omega
    have hl5 : (IL L).length = N * 5 := by rw [il_length, HLn.out]
    go_upto_region 6 with fail
    go_region_law
        (first
         | (refine step_calls rfl (by go_simp) (hP _ (N : Int) _ (HC4.out.keep (Ext.refl w4).drew) (by omega) (by omega)).out ?_
            rintro e w5 ⟨y5, a5, rfl, p5, q5, r5, s5, hg5, hc5⟩
            refine ⟨_, rfl, ?_⟩
            have HC5 : Hid (CU B v n a5 w5) := hc5
            have HQ5 : Hid (GX [B] w4 w5) := (GX.refl [B] w4).drew.trans (GX.ofGrown hg5)
            have hy5 : y5 < N := by omega
            have HBX5 : Hid (w5.heap[w3.heap.size]? = some (.cells #[.int .i64 R, .int .i64 C, .slice (some ⟨g, 0, none⟩) N cap] 30 (0, 0))) := (HQ5.out.heap hs4 (by simp; omega)).trans HBX.out
            have HB05 : Hid (w5.heap[w.heap.size]? = some (.cells #[.int .i64 0, .int .i64 0, .slice none 0 0] 30 (0, 0))) := (HQ5.out.heap (by omega) (by simp; omega)).trans HB0.out
            have zx5 : ∀ k, w5.cell? ⟨w3.heap.size, k, none⟩ = (#[.int .i64 R, .int .i64 C, .slice (some ⟨g, 0, none⟩) N cap] : Array Value)[k]? := fun k => cell_of_row _ _ k _ _ _ HBX5.out
            have z05 : ∀ k, w5.cell? ⟨w.heap.size, k, none⟩ = (#[.int .i64 0, .int .i64 0, .slice none 0 0] : Array Value)[k]? := fun k => cell_of_row _ _ k _ _ _ HB05.out
            have f05 : ∀ k, w5.frozen? ⟨w.heap.size, k, none⟩ = false := fun k => frozen_of_row _ _ k _ _ HB05.out
            have lx5 : w3.heap.size < w5.heap.size := (Array.getElem?_eq_some_iff.1 HBX5.out).1
            clear hg5 hc5 q5)
         | (refine step_calls rfl (by go_simp) (hAD _ _ HC5.out (by omega)).out ?_
            rintro e w6 ⟨x0, x1, x2, x3, x4, a6, rfl, r6, s6, hg6, hc6⟩
            refine ⟨_, rfl, ?_⟩
            have HC6 : Hid (CU B v n a6 w6) := hc6
            have HQ6 : Hid (GX [B] w4 w6) := HQ5.out.trans (GX.ofGrown hg6)
            have HBX6 : Hid (w6.heap[w3.heap.size]? = some (.cells #[.int .i64 R, .int .i64 C, .slice (some ⟨g, 0, none⟩) N cap] 30 (0, 0))) := (HQ6.out.heap hs4 (by simp; omega)).trans HBX.out
            have HB06 : Hid (w6.heap[w.heap.size]? = some (.cells #[.int .i64 0, .int .i64 0, .slice none 0 0] 30 (0, 0))) := (HQ6.out.heap (by omega) (by simp; omega)).trans HB0.out
            have zx6 : ∀ k, w6.cell? ⟨w3.heap.size, k, none⟩ = (#[.int .i64 R, .int .i64 C, .slice (some ⟨g, 0, none⟩) N cap] : Array Value)[k]? := fun k => cell_of_row _ _ k _ _ _ HBX6.out
            have z06 : ∀ k, w6.cell? ⟨w.heap.size, k, none⟩ = (#[.int .i64 0, .int .i64 0, .slice none 0 0] : Array Value)[k]? := fun k => cell_of_row _ _ k _ _ _ HB06.out
            have f06 : ∀ k, w6.frozen? ⟨w.heap.size, k, none⟩ = false := fun k => frozen_of_row _ _ k _ _ HB06.out
            have lx6 : w3.heap.size < w6.heap.size := (Array.getElem?_eq_some_iff.1 HBX6.out).1
            have O6 : Hid (w6.ownsRow (w.heap.size + 1) 46 5 (.slice (some ⟨g, 0, none⟩) N cap) N (IL L)) := own_gx O4.out HQ6.out (by simp; omega)
            obtain ⟨b, hb⟩ : ∃ b : Nat, y5 = b := ⟨y5.toNat, by omega⟩
            subst hb
            have hbN : b < N := by omega
            obtain ⟨u0, c0⟩ := own_at O6.out hl5 (k := b * 5) (by omega)
            obtain ⟨u1, c1⟩ := own_at O6.out hl5 (k := b * 5 + 1) (by omega)
            obtain ⟨u2, c2⟩ := own_at O6.out hl5 (k := b * 5 + 2) (by omega)
            obtain ⟨u3, c3⟩ := own_at O6.out hl5 (k := b * 5 + 3) (by omega)
            obtain ⟨u4, c4⟩ := own_at O6.out hl5 (k := b * 5 + 4) (by omega)
            have f6 : ∀ k, w6.frozen? ⟨g, k, none⟩ = false := fun k => O6.out.frozenAt k
            have lg6 : g < w6.heap.size := (O6.out.lt g (by simp [Value.ownBlock])).2
            clear hg6 hc6))
    all_goals
      go_wp2
      refine bodyPost_ret (v := .agg #[.int .i64 R, .int .i64 C, .slice (some ⟨g, 0, none⟩) N cap]) (by simp [results, Tryd.results25, go_sem, *]) rfl ?_
      obtain ⟨ys, hys, OY⟩ := own_num O6.out b x0 x1 x2 x3 x4
      refine ⟨_, _, _, rfl, N, ys, a6, hN16, (MV.own (own_set (own_set (own_set OY (by simp) _) (by simp) _) (by simp) _) (hys.trans HLn.out)).base (by omega), by omega, by omega, GX.toGrown ?_, (((((((HC6.out.set (by simp; omega) _).set (by simp; omega) _).set (by simp; omega) _).set (by simp; omega) _).set (by simp; omega) _).set (by exact hl) _).set (by exact hl) _).set (by exact hl) _⟩
      have hg : GX [B] w w6 := hg4'.out.trans HQ6.out
      exact (by repeat (first | (with_reducible refine GX.setCell ?_ (by first | (simp; done) | (simp; omega)) _) | with_reducible refine GX.alloc ?_ _ | with_reducible refine GX.drew ?_ | with_reducible refine GX.drewN ?_ _ | with_reducible assumption | with_reducible exact GX.refl _ _ | with_reducible refine GX.ext ?_ (by with_reducible assumption) | with_reducible refine GX.trans ?_ (by with_reducible assumption)))
  have k1 : (y == 1) = false := by simpa using h1
  by_cases h2 : y = 2
  · have k2 : (y == 2) = true := by simpa using h2
    clear h0 h1 h2
    have zx := fun k => cell_of_row _ _ k _ _ _ HBX4.out
    have fx := fun k => frozen_of_row _ _ k _ _ HBX4.out
    have z0 := fun k => cell_of_row _ _ k _ _ _ HB04.out
    have f0 := fun k => frozen_of_row _ _ k _ _ HB04.out
    have lx := (Array.getElem?_eq_some_iff.1 HBX4.out).1
    have l0 := (Array.getElem?_eq_some_iff.1 HB04.out).1
    have hc1 : 1 ≤ N := hN1
    go_wp2
    · have hcap : cap = 1 := by assumption
      have hN0 : N - 1 = 0 := by omega
      rw [hN0]
      refine bodyPost_ret (v := .agg #[.int .i64 R, .int .i64 C, .slice (some ⟨g, 0, none⟩) 0 0]) (by simp [results, Tryd.results25, go_sem, *]) rfl ?_
      refine ⟨_, _, _, rfl, 0, [], a4, by omega, ⟨rfl, _, _, rfl, Nat.le_refl _, Nat.zero_le _, fun h => absurd h (by omega)⟩, by omega, by omega, GX.toGrown ?_, (((HC4.out.set (by simp; omega) _).set (by exact hl) _).set (by exact hl) _).set (by exact hl) _⟩
      have hg := hg4'.out
      exact (by repeat (first | (with_reducible refine GX.setCell ?_ (by first | (simp; done) | (simp; omega)) _) | with_reducible refine GX.alloc ?_ _ | with_reducible refine GX.drew ?_ | with_reducible refine GX.drewN ?_ _ | with_reducible assumption | with_reducible exact GX.refl _ _ | with_reducible refine GX.ext ?_ (by with_reducible assumption) | with_reducible refine GX.trans ?_ (by with_reducible assumption)))
    · refine bodyPost_ret (v := .agg #[.int .i64 R, .int .i64 C, .slice (some ⟨g, 5, none⟩) (N - 1) (cap - 1)]) (by simp [results, Tryd.results25, go_sem, *]) rfl ?_
      refine ⟨_, _, _, rfl, N - 1, L.drop 5, a4, by omega, ((MV.own (own_set (own_set (own_set (own_setC O4.out (by simp [Value.ownBlock]; omega) _) (by simp) _) (by simp) _) (by simp) _) HLn.out).tail (by omega)).base (by omega), by omega, by omega, GX.toGrown ?_, (((HC4.out.set (by simp; omega) _).set (by exact hl) _).set (by exact hl) _).set (by exact hl) _⟩
      have hg := hg4'.out
      exact (by repeat (first | (with_reducible refine GX.setCell ?_ (by first | (simp; done) | (simp; omega)) _) | with_reducible refine GX.alloc ?_ _ | with_reducible refine GX.drew ?_ | with_reducible refine GX.drewN ?_ _ | with_reducible assumption | with_reducible exact GX.refl _ _ | with_reducible refine GX.ext ?_ (by with_reducible assumption) | with_reducible refine GX.trans ?_ (by with_reducible assumption)))
  have k2 : (y == 2) = false := by simpa using h2
  by_cases h3 : y = 3
  · have k3 : (y == 3) = true := by simpa using h3
    clear h0 h1 h2 h3
    have zx := fun k => cell_of_row _ _ k _ _ _ HBX4.out
    have fx := fun k => frozen_of_row _ _ k _ _ HBX4.out
    have z0 := fun k => cell_of_row _ _ k _ _ _ HB04.out
    have f0 := fun k => frozen_of_row _ _ k _ _ HB04.out
    have lx := (Array.getElem?_eq_some_iff.1 HBX4.out).1
    have l0 := (Array.getElem?_eq_some_iff.1 HB04.out).1
    go_wp2_with fail
    refine (among_any B _ n a4 _ (HC4.out.box _) (by omega) w4.heap.size 3 3 [1, 2, 4] (by omega) (by omega) (by omega) (by simp) (fun i hi => lit_cells [1, 2, 4] i hi)).mono ?_
    rintro e w5 ⟨i5, a5, hi5, rfl, r5, s5, hg5, hc5⟩
    obtain ⟨Z, hZ, Z1, Z2⟩ := pick3 hi5
    rw [hZ]
    have HC5 := Lib.hid hc5
    have HG5 := Lib.hid ((hg4'.out.alloc _).trans (GX.ofGrown hg5))
    have HBX5 : Hid (w5.heap[w3.heap.size]? = some (.cells #[.int .i64 R, .int .i64 C, .slice (some ⟨g, 0, none⟩) N cap] 30 (0, 0))) := ((GX.ofGrown hg5).heap (by simp; omega) (by simp; omega)).trans (heap_alloc_lt HBX.out)
    have HB05 : Hid (w5.heap[w.heap.size]? = some (.cells #[.int .i64 0, .int .i64 0, .slice none 0 0] 30 (0, 0))) := ((GX.ofGrown hg5).heap (by simp; omega) (by simp; omega)).trans (heap_alloc_lt HB0.out)
    clear hg5 hc5 hi5 zx fx z0 f0 lx l0 hZ
    have hs5 := HC5.out.lt
    have hz5 : w3.heap.size < w5.heap.size := (Array.getElem?_eq_some_iff.1 HBX5.out).1
    go_wp2_with fail
    refine (l3Unit_any Z (by omega) _).mono ?_
    rintro e w6 ⟨g6, cap6, rfl, o6, hx6⟩
    have ZZ : Z * Z ≤ 16 := Nat.le_trans (Nat.mul_le_mul Z2 Z2) (by decide)
    obtain ⟨M, hM⟩ : ∃ M, Z * Z = M := ⟨_, rfl⟩
    have HML : Hid ((moL (unX Z Z) (fun _ => 0) (Z * Z)).length = M * 5) := by unfold Hid; rw [moL_len, hM]
    generalize moL (unX Z Z) (fun _ => 0) (Z * Z) = LU at *
    rw [hM] at o6 ZZ ⊢
    have O6 := Lib.hid o6
    have HC6 := Lib.hid (HC5.out.keep hx6)
    have HG6 := Lib.hid (HG5.out.ext hx6)
    have HBX6 := Lib.hid ((hx6.heap hz5).trans HBX5.out)
    have HB06 := Lib.hid ((hx6.heap (by omega)).trans HB05.out)
    have hg6 := O6.out.lt g6 (by simp [Value.ownBlock])
    clear o6 hx6
    have zx := fun k => cell_of_row _ _ k _ _ _ HBX6.out
    have fx := fun k => frozen_of_row _ _ k _ _ HBX6.out
    have z0 := fun k => cell_of_row _ _ k _ _ _ HB06.out
    have f0 := fun k => frozen_of_row _ _ k _ _ HB06.out
    have lx := (Array.getElem?_eq_some_iff.1 HBX6.out).1
    have l0 := (Array.getElem?_eq_some_iff.1 HB06.out).1
    go_wp2
    refine bodyPost_ret (v := .agg #[.int .i64 Z, .int .i64 Z, .slice (some ⟨g6, 0, none⟩) M cap6]) (by simp [results, Tryd.results25, go_sem, *]) rfl ?_
    have hgm : g6 ≠ w3.heap.size := by omega
    refine ⟨_, _, _, rfl, M, LU, a5, ZZ, (MV.own (own_set (own_set (own_set (own_setC (own_setC (own_setC O6.out (by simp [Value.ownBlock]; omega) _) (by simp [Value.ownBlock]; omega) _) (by simp [Value.ownBlock]; omega) _) (by simp; omega) _) (by simp; omega) _) (by simp; omega) _) HML.out).base (by omega), by omega, by omega, GX.toGrown ?_, (((((HC6.out.set (by simp; omega) _).set (by simp; omega) _).set (by simp; omega) _).set (by exact hl) _).set (by exact hl) _).set (by exact hl) _⟩
    have hg := HG6.out
    exact (by repeat (first | (with_reducible refine GX.setCell ?_ (by first | (simp; done) | (simp; omega)) _) | with_reducible refine GX.alloc ?_ _ | with_reducible refine GX.drew ?_ | with_reducible refine GX.drewN ?_ _ | with_reducible assumption | with_reducible exact GX.refl _ _ | with_reducible refine GX.ext ?_ (by with_reducible assumption) | with_reducible refine GX.trans ?_ (by with_reducible assumption)))
  have k3 : (y == 3) = false := by simpa using h3
  clear h0 h1 h2 h3
  have zx := fun k => cell_of_row _ _ k _ _ _ HBX4.out
  have fx := fun k => frozen_of_row _ _ k _ _ HBX4.out
  have z0 := fun k => cell_of_row _ _ k _ _ _ HB04.out
  have f0 := fun k => frozen_of_row _ _ k _ _ HB04.out
  have lx := (Array.getElem?_eq_some_iff.1 HBX4.out).1
  have l0 := (Array.getElem?_eq_some_iff.1 HB04.out).1
  go_wp2
  refine bodyPost_ret (v := .agg #[.int .i64 R, .int .i64 C, .slice (some ⟨g, 0, none⟩) N cap]) (by simp [results, Tryd.results25, go_sem, *]) rfl ?_
  refine ⟨_, _, _, rfl, N, L, a4, hN16, (MV.own (own_set (own_set (own_set O4.out (by simp) _) (by simp) _) (by simp) _) HLn.out).base (by omega), by omega, by omega, GX.toGrown ?_, ((HC4.out.set (by exact hl) _).set (by exact hl) _).set (by exact hl) _⟩
  have hg := hg4'.out
  exact (by repeat (first | (with_reducible refine GX.setCell ?_ (by first | (simp; done) | (simp; omega)) _) | with_reducible refine GX.alloc ?_ _ | with_reducible refine GX.drew ?_ | with_reducible refine GX.drewN ?_ _ | with_reducible assumption | with_reducible exact GX.refl _ _ | with_reducible refine GX.ext ?_ (by with_reducible assumption) | with_reducible refine GX.trans ?_ (by with_reducible assumption)))


open Go.RowKit Go.Lib
set_option linter.unusedVariables false
set_option linter.unusedSimpArgs false

set_option maxHeartbeats 2000000 in
theorem l1TurnE_any (a b c d : Int) (k : Nat) (hk : k ≤ 7) (w : World) :
    Calls Tryd.prog 37 #[.agg #[.int .i64 a, .int .i64 b, .int .i64 c, .int .i64 d], .int .i64 k] w fun en w' =>
      ∃ a' b' c' d' : Int, en = .returned (.agg #[.int .i64 a', .int .i64 b', .int .i64 c', .int .i64 d']) ∧ Ext w w' := by
  have t1 : Int.tmod (k : Int) 8 = k := Int.tmod_eq_of_lt (by omega) (by omega)
  have t2 : Int.tmod ((k : Int) + 8) 8 = k := by
    have : ((k : Int) + 8) = ((k + 8 : Nat) : Int) := by push_cast; rfl
    rw [this, show (8 : Int) = ((8 : Nat) : Int) from rfl, ← Int.ofNat_tmod]
    omega
  go_enter Tryd.func37, Tryd.ntmps37
  go_wp2
  go_loopw [1] (fun s1 wr => ∃ (j : Nat) (a b c d : Int), s1 = .int .i64 j ∧ j ≤ k ∧ Hid (wr.heap[w.heap.size]? = some (.cells #[.int .i64 a, .int .i64 b, .int .i64 c, .int .i64 d] 40 (0, 0))) ∧
    Hid (wr.heap[w.heap.size + 1]? = some (.cells #[.int .i64 0, .int .i64 0, .int .i64 0, .int .i64 0] 40 (0, 0))) ∧ Ext w wr) (fun s1 _ => (RowKit.intOf s1).toNat)
  case atStart => exact ⟨k, a, b, c, d, by simp [t1, t2], Nat.le_refl _, heap_alloc_lt (heap_alloc_new _ _), heap_alloc_at _ _ _ (by simp), (by repeat (first | exact Ext.refl _ | assumption | refine Ext.alloc ?_ _ | refine Ext.drew ?_ | refine Ext.drewN ?_ _ | refine Ext.setCell ?_ (by first | omega | (dsimp only; omega) | (simp; done) | (simp; omega)) _ | refine Ext.trans ?_ (by assumption)))⟩
  case round =>
    clear t1 t2
    obtain ⟨j, p, q, r, s, rfl, hjk, HS, HR, hE⟩ := hrel
    have lS := (Array.getElem?_eq_some_iff.1 HS.out).1
    have lR := (Array.getElem?_eq_some_iff.1 HR.out).1
    have zS : ∀ z, wr.cell? ⟨w.heap.size, z, none⟩ = (#[.int .i64 p, .int .i64 q, .int .i64 r, .int .i64 s] : Array Value)[z]? := fun z => cell_of_row _ _ _ _ _ _ HS.out
    have fS : ∀ z, wr.frozen? ⟨w.heap.size, z, none⟩ = false := fun z => frozen_of_row _ _ _ _ _ HS.out
    have zR : ∀ z, wr.cell? ⟨w.heap.size + 1, z, none⟩ = (#[.int .i64 0, .int .i64 0, .int .i64 0, .int .i64 0] : Array Value)[z]? := fun z => cell_of_row _ _ _ _ _ _ HR.out
    have fR : ∀ z, wr.frozen? ⟨w.heap.size + 1, z, none⟩ = false := fun z => frozen_of_row _ _ _ _ _ HR.out
    by_cases hlt : 0 < j
    · have hlt' : (0 : Int) < j := by omega
      go_wp2
      go_roundw
      case rel =>
        exact ⟨j - 1, wrap64 (-s), p, q, r, by go_num, by omega, heap_set4 HS.out, heap_sets4 (by omega) HR.out, (by repeat (first | exact Ext.refl _ | assumption | refine Ext.alloc ?_ _ | refine Ext.drew ?_ | refine Ext.drewN ?_ _ | refine Ext.setCell ?_ (by first | omega | (dsimp only; omega) | (simp; done) | (simp; omega)) _ | refine Ext.trans ?_ (by assumption)))⟩
      case measure => simp [RowKit.intOf]; omega
    · obtain rfl : j = 0 := by omega
      go_wp2
      refine bodyPost_ret (v := .agg #[.int .i64 p, .int .i64 q, .int .i64 r, .int .i64 s]) (by simp [results, Tryd.results37, go_sem, *]) rfl ?_
      exact ⟨_, _, _, _, rfl, (by repeat (first | (with_reducible refine Ext.setCell ?_ (by first | (simp; done) | (simp; omega)) _) | with_reducible refine Ext.alloc ?_ _ | with_reducible refine Ext.drew ?_ | with_reducible refine Ext.drewN ?_ _ | with_reducible assumption | with_reducible exact Ext.refl _ | with_reducible refine Ext.trans ?_ (by with_reducible assumption)))⟩

theorem MV.drewM {lo : Nat} {w : World} {vm : Value} {n : Nat} {xs : List Int} (h : MV lo w vm n xs) : MV lo w.drew vm n xs := h.gx (GX.refl [] w).drew (by simp)
/-- the state of the draw of two matrices behind the copy -/
structure TS (w1 : World) (B : Nat) (v : Value) (n : Nat) (r c : Int) (vm vb : Value) (m B4 B5 : Nat) (a : Int) (wr : World) : Prop where
  own : ∃ L : List Int, L.length = m * 5 ∧ wr.ownsRow w1.heap.size 46 5 vb m (IL L)
  b4 : wr.heap[B4]? = some (.cells #[.int .i64 r, .int .i64 c, vm] 30 (0, 0))
  b5 : wr.heap[B5]? = some (.cells #[.int .i64 r, .int .i64 c, vb] 30 (0, 0))
  cu : CU B v n a wr
  gx : GX [B] w1 wr
theorem TS.ext {w1 : World} {B : Nat} {v : Value} {n : Nat} {r c : Int} {vm vb : Value} {m B4 B5 : Nat} {a : Int} {wr w' : World} (h : TS w1 B v n r c vm vb m B4 B5 a wr) (hx : Ext wr w') : TS w1 B v n r c vm vb m B4 B5 a w' := by
  obtain ⟨⟨L, h1, h2⟩, h3, h4, h5, h6⟩ := h
  exact ⟨⟨L, h1, own_ext h2 hx⟩, (hx.heap (Array.getElem?_eq_some_iff.1 h3).1).trans h3, (hx.heap (Array.getElem?_eq_some_iff.1 h4).1).trans h4, h5.keep hx, h6.ext hx⟩
theorem TS.cur {w1 : World} {B : Nat} {v : Value} {n : Nat} {r c : Int} {vm vb : Value} {m B4 B5 : Nat} {a a' : Int} {wr w' : World} (h : TS w1 B v n r c vm vb m B4 B5 a wr) (hB : B < w1.heap.size) (h4 : B4 ≠ B) (h5 : B5 ≠ B) (hg : wr.grownBy w' (some B)) (hc : CU B v n a' w') : TS w1 B v n r c vm vb m B4 B5 a' w' := by
  obtain ⟨⟨L, q1, q2⟩, q3, q4, q5, q6⟩ := h
  have hG := GX.ofGrown hg
  exact ⟨⟨L, q1, own_gx q2 hG (by simpa using hB)⟩, (hG.heap (Array.getElem?_eq_some_iff.1 q3).1 (by simpa using h4)).trans q3, (hG.heap (Array.getElem?_eq_some_iff.1 q4).1 (by simpa using h5)).trans q4, hc, q6.trans hG⟩
/-- cells of the copy are written -/
theorem TS.put {w1 : World} {B : Nat} {v : Value} {n : Nat} {r c : Int} {vm : Value} {g cap m B4 B5 : Nat} {a : Int} {wr : World} (h : TS w1 B v n r c vm (.slice (some ⟨g, 0, none⟩) m cap) m B4 B5 a wr) (hB : B < w1.heap.size) (h4 : B4 ≠ g) (h5 : B5 ≠ g) (hg : w1.heap.size ≤ g) (j : Nat) (z : Int) :
    TS w1 B v n r c vm (.slice (some ⟨g, 0, none⟩) m cap) m B4 B5 a (wr.setCell ⟨g, j, none⟩ (.int .i64 z)) := by
  obtain ⟨⟨L, q1, q2⟩, q3, q4, q5, q6⟩ := h
  have s0 := (World.ownsRow.stored q2 j (.int .i64 z)).1
  rw [il_set5] at s0
  exact ⟨⟨_, by simpa using q1, s0⟩, heap_set_ne h4 q3, heap_set_ne h5 q4, q5.set (by simp; omega) _, q6.setCell (.inr (by simpa using hg)) _⟩

set_option maxRecDepth 20000 in
set_option maxHeartbeats 16000000 in
theorem curTurned_any (B : Nat) (v : Value) (n : Nat) (at' : Int) (w : World) (h : CU B v n at' w) (ha : 0 ≤ at' ∧ at' ≤ 300000000) :
    Calls Tryd.prog 23 #[.pointer (some ⟨B, 0, none⟩)] w fun e w' => ∃ (r c : Int) (a1 : Option Addr) (m c1 : Nat) (r' c' : Int) (a2 : Option Addr) (m' c2 : Nat), e = .returned (.tuple #[.agg #[.int .i64 r, .int .i64 c, .slice a1 m c1], .agg #[.int .i64 r', .int .i64 c', .slice a2 m' c2]]) ∧ MPost B v n w.heap.size at' 400 w w' (.slice a1 m c1) := by
  have hl := h.lt
  have HC := Lib.hid h
  have hP := fun a m w' (hc : CU B v n a w') (hb : 0 ≤ a ∧ a ≤ 900000000) (hm : m ≤ 65536) => Lib.hid (pick_any B v n a m w' hc hb hm)
  have hO := fun a m w' (hc : CU B v n a w') (hb : 0 ≤ a ∧ a ≤ 900000000) (hm : m ≤ 65536) => Lib.hid (one_any B v n a m w' hc hb hm)
  have hD := fun a w' (hc : CU B v n a w') (hb : 0 ≤ a ∧ a ≤ 700000000) => Lib.hid (curDyadic_any B v n a w' hc hb)
  have hM := fun a w' (hc : CU B v n a w') (hb : 0 ≤ a ∧ a ≤ 400000000) => Lib.hid (curAnyMatrix_any B v n a w' hc hb)
  clear h
  go_enter Tryd.func23, Tryd.ntmps23
  go_wp2_with fail
  refine ((hM _ _ ((HC.out.box _).box _) (by omega)).out).mono ?_
  rintro e wa ⟨r, c, vm, rfl, m, LA, a1', hm16, hMV, r1, s1, hg1, hc1⟩
  have HMA := Lib.hid (hMV.base (lo' := w.heap.size + 2) (by simp))
  obtain ⟨-, a1, c1, rfl, q1, q2, -⟩ := hMV
  have HCa := Lib.hid hc1
  have HGa := Lib.hid ((((GX.refl [B] w).alloc _).alloc _).trans (GX.ofGrown hg1))
  have HG2 : Hid (GX [B] (((w.alloc (.cells #[.int .i64 0, .int .i64 0, .slice none 0 0] 30))).alloc (.cells #[.int .i64 0, .int .i64 0, .slice none 0 0] 30)) wa) := GX.ofGrown hg1
  have hla := hc1.lt
  have hzz : w.heap.size + 2 ≤ wa.heap.size := by have := HG2.out.size; simp at this; omega
  clear hg1 hc1
  obtain ⟨w1, hw1⟩ : ∃ w1, w1 = wa.alloc (.cells #[.int .i64 r, .int .i64 c, .slice a1 m c1] 30) := ⟨_, rfl⟩
  have hb4 : w1.heap[wa.heap.size]? = some (.cells #[.int .i64 r, .int .i64 c, .slice a1 m c1] 30 (0, 0)) := by rw [hw1]; exact heap_alloc_new _ _
  have hs1 : w1.heap.size = wa.heap.size + 1 := by rw [hw1]; simp
  have HE1 : Hid (Ext wa w1) := by rw [hw1]; exact (Ext.refl wa).alloc _
  have HRV : Hid (∀ W, Ext w1 W → RV W 5 (.slice a1 m c1) m LA) := fun W hW => HMA.out.rv.ext (HE1.out.trans hW)
  have z4 := fun k => cell_of_row _ _ k _ _ _ hb4
  have l4 : wa.heap.size < w1.heap.size := by omega
  have HB4 := Lib.hid hb4
  go_upto_region 2 with fail
  rw [← hw1]
  clear hw1 hb4
  go_wp2
  refine Ex.wp_region_ex (m := 61) [.fn [] (fun _ => .pointer (some ⟨wa.heap.size, 0, none⟩)), .fn [] (fun _ => .int .i64 r), .fn [] (fun _ => .pointer (some ⟨wa.heap.size, 1, none⟩)), .fn [] (fun _ => .int .i64 c), .ex (Ex.PhN (w1) (fun n => .slice (some ⟨n, 0, none⟩) 0 0) 46 #[]) 1 [], .fn [] (fun _ => .pointer (some ⟨wa.heap.size, 2, none⟩)), .fn [] (fun _ => .slice a1 m c1), .ex (Ex.PhS (w1) 46 5 (m) (LA)) 1 [4], .fn [7] (fun u => .agg #[.int .i64 r, .int .i64 c, u.getD 0 undef]), .ex (Ex.PhN (w1) (fun n => .pointer (some ⟨n, 0, none⟩)) 30 #[.int .i64 0, .int .i64 0, .slice none 0 0]) 2 []] (by kernel_rfl) (by kernel_rfl) rfl (by kernel_rfl) (by kernel_rfl) (Ex.mono_fn (Ex.mono_fn (Ex.mono_fn (Ex.mono_fn (Ex.mono_ex (Ex.phN_mono _ _ _ _) (Ex.mono_fn (Ex.mono_fn (Ex.mono_ex (Ex.phS_mono _ _ _ _ _) (Ex.mono_fn (Ex.mono_ex (Ex.phN_mono _ _ _ _) Ex.mono_nil)))))))))) (fun sig2 => ?_)
  have hxc := fun (x : Xt (w1)) (b o : Nat) (h : b < (w1).heap.size) => x.ext.cells.1 b o h
  refine Ex.we_det ?_ ?_
  · first | (go_simp; done) | (go_simp; rfl) | (go_simp; (try intro x); (try go_bits); first | done | rfl | (simp; done) | (simp; omega))
  simp only [Act.put, List.setIfInBounds_toArray, List.set_cons_succ, List.set_cons_zero, List.nil_append, List.cons_append, Nat.zero_add, Nat.reduceAdd]
  refine Ex.we_det ?_ ?_
  · first | (go_simp; done) | (go_simp; rfl) | (go_simp; (try intro x); (try go_bits); first | done | rfl | (simp; done) | (simp; omega))
  simp only [Act.put, List.setIfInBounds_toArray, List.set_cons_succ, List.set_cons_zero, List.nil_append, List.cons_append, Nat.zero_add, Nat.reduceAdd]
  refine Ex.we_det ?_ ?_
  · first | (go_simp; done) | (go_simp; rfl) | (go_simp; (try intro x); (try go_bits); first | done | rfl | (simp; done) | (simp; omega))
  simp only [Act.put, List.setIfInBounds_toArray, List.set_cons_succ, List.set_cons_zero, List.nil_append, List.cons_append, Nat.zero_add, Nat.reduceAdd]
  refine Ex.we_det ?_ ?_
  · first | (go_simp; done) | (go_simp; rfl) | (go_simp; (try intro x); (try go_bits); first | done | rfl | (simp; done) | (simp; omega))
  simp only [Act.put, List.setIfInBounds_toArray, List.set_cons_succ, List.set_cons_zero, List.nil_append, List.cons_append, Nat.zero_add, Nat.reduceAdd]
  refine Ex.we_new rfl (fun _ => rfl) (fun x => ?_) ?_
  · first | (go_simp; done) | (go_simp; rfl)
  simp only [Act.put, List.setIfInBounds_toArray, List.set_cons_succ, List.set_cons_zero, List.nil_append, List.cons_append, Nat.zero_add, Nat.reduceAdd]
  refine Ex.we_det ?_ ?_
  · first | (go_simp; done) | (go_simp; rfl) | (go_simp; (try intro x); (try go_bits); first | done | rfl | (simp; done) | (simp; omega))
  simp only [Act.put, List.setIfInBounds_toArray, List.set_cons_succ, List.set_cons_zero, List.nil_append, List.cons_append, Nat.zero_add, Nat.reduceAdd]
  refine Ex.we_det ?_ ?_
  · first | (go_simp; done) | (go_simp; rfl) | (go_simp; (try intro x); (try go_bits); first | done | rfl | (simp; done) | (simp; omega))
  simp only [Act.put, List.setIfInBounds_toArray, List.set_cons_succ, List.set_cons_zero, List.nil_append, List.cons_append, Nat.zero_add, Nat.reduceAdd]
  refine Ex.we_append (j := 4) elt_dyadic rfl rfl rfl (.slice a1 m c1) (m) (LA) rfl (HRV.out) (by omega) rfl ?_
  simp only [Act.put, List.setIfInBounds_toArray, List.set_cons_succ, List.set_cons_zero, List.nil_append, List.cons_append, Nat.zero_add, Nat.reduceAdd]
  refine Ex.we_fn rfl (fun W hxW hFW => ?_) ?_
  · (have h7 : Ex.PhS w1 46 5 m LA (sig2 7) W := hFW.phi 7 (by simp); obtain ⟨s1, s2, s3, _⟩ := own_shape h7; simp only [List.map_cons, List.map_nil, s3]; go_simp)
  simp only [Act.put, List.setIfInBounds_toArray, List.set_cons_succ, List.set_cons_zero, List.nil_append, List.cons_append, Nat.zero_add, Nat.reduceAdd]
  refine Ex.we_new rfl (fun _ => rfl) (fun x => ?_) ?_
  · first | (go_simp; done) | (go_simp; rfl)
  simp only [Act.put, List.setIfInBounds_toArray, List.set_cons_succ, List.set_cons_zero, List.nil_append, List.cons_append, Nat.zero_add, Nat.reduceAdd]
  refine Ex.we_stop (fun w2 hx2 hF2 => ?_)
  clear hxc
  have h7 : Ex.PhS w1 46 5 m LA (sig2 7) w2 := hF2.phi 7 (by simp)
  obtain ⟨B5, hB1, hB2, hB3⟩ : Ex.PhN w1 (fun n => .pointer (some ⟨n, 0, none⟩)) 30 #[.int .i64 0, .int .i64 0, .slice none 0 0] (sig2 9) w2 := hF2.phi 9 (by simp)
  have d1 : ∀ b, Ex.blk (sig2 7) = some b → Ex.blk (sig2 9) = some b → False := hF2.dif 7 (by simp) 9 (by simp) (show (1 : Nat) ≠ 2 by decide) (show (1 : Nat) ≠ 0 by decide) (show (2 : Nat) ≠ 0 by decide)
  unfold Ex.PhS at h7
  obtain ⟨aO, cO, e7, k1, k2, H7⟩ := own_shape h7
  simp only [List.map_cons, List.map_nil, List.getD_cons_zero, List.getD_cons_succ, e7, hB1]
  rw [e7] at h7 d1
  rw [hB1] at d1
  have hBg : ∀ g, aO = some ⟨g, 0, none⟩ → B5 ≠ g := fun g hg e => d1 g (by rw [hg]; rfl) (by rw [e]; rfl)
  have lgg : ∀ g, aO = some ⟨g, 0, none⟩ → w1.heap.size ≤ g ∧ g < w2.heap.size := fun g hg => h7.lt g (by rw [hg]; rfl)
  have H7' := Lib.hid H7
  have HBg := Lib.hid hBg
  have HLG := Lib.hid lgg
  have lB5 := (Array.getElem?_eq_some_iff.1 hB3).1
  have HTS : Hid (TS w1 B v n r c (.slice a1 m c1) (.slice aO m cO) m wa.heap.size B5 a1' (((w2.setCell ⟨B5, 0, none⟩ (.int .i64 r)).setCell ⟨B5, 1, none⟩ (.int .i64 c)).setCell ⟨B5, 2, none⟩ (.slice aO m cO))) := by
    have hx : Ext w1 (((w2.setCell ⟨B5, 0, none⟩ (.int .i64 r)).setCell ⟨B5, 1, none⟩ (.int .i64 c)).setCell ⟨B5, 2, none⟩ (.slice aO m cO)) := ((hx2.setCell (by simpa using hB2) _).setCell (by simpa using hB2) _).setCell (by simpa using hB2) _
    refine ⟨⟨LA, HMA.out.1, ?_⟩, (hx.heap l4).trans HB4.out, heap_set_at (heap_set_at (heap_set_at hB3 0 _) 1 _) 2 _, (HCa.out.keep HE1.out).keep hx, (GX.refl [B] w1).ext hx⟩
    have hne : ∀ k, (Value.slice aO m cO).ownBlock = some k → k ≠ B5 := fun k hk e => d1 k (own_blk h7 k hk) (by rw [e]; rfl)
    exact own_setC (own_setC (own_setC h7 hne _) hne _) hne _
  obtain ⟨w3, hw3⟩ : ∃ w3, w3 = ((w2.setCell ⟨B5, 0, none⟩ (.int .i64 r)).setCell ⟨B5, 1, none⟩ (.int .i64 c)).setCell ⟨B5, 2, none⟩ (.slice aO m cO) := ⟨_, rfl⟩
  rw [← hw3] at HTS
  have zB := fun k => cell_of_row _ _ k _ _ _ hB3
  have fB := fun k => frozen_of_row _ _ k _ _ hB3
  clear h7 d1 e7 hB1 H7 hF2 hx2 hB3 HRV hBg lgg
  go_upto_region 3 with fail
  rw [← hw3]
  clear hw3 zB fB z4 l4 lB5
  have hB45 : wa.heap.size ≠ B := by omega
  have hB55 : B5 ≠ B := by omega
  have hBw : B < w1.heap.size := by omega
  go_wp2_with fail
  refine ((hP _ _ _ HTS.out.cu (by omega) (by omega)).out).mono ?_
  rintro e w4 ⟨y, a4, rfl, p4, q4, r4, s4, hg4, hc4⟩
  obtain ⟨k, rfl⟩ : ∃ k : Nat, y = k := ⟨y.toNat, by omega⟩
  have hk7 : k ≤ 7 := by omega
  have HT4 := Lib.hid (HTS.out.cur hBw hB45 hB55 hg4 hc4)
  clear hg4 hc4 q4 p4 HTS
  have hT := fun x1 x2 x3 x4 w' => Lib.hid (l1TurnE_any x1 x2 x3 x4 k hk7 w')
  have y5 := fun k => cell_of_row _ _ k _ _ _ HT4.out.b5
  have l5 := (Array.getElem?_eq_some_iff.1 HT4.out.b5).1
  go_wp2
  go_loopw [7, 24] (fun _ s24 wr => ∃ (j : Nat), j ≤ m ∧ s24 = .int .i64 j ∧ Hid (TS w1 B v n r c (.slice a1 m c1) (.slice aO m cO) m wa.heap.size B5 a4 wr)) (fun _ s24 _ => m - (RowKit.intOf s24).toNat)
  case atStart => exact ⟨0, by omega, rfl, HT4⟩
  case round =>
    clear HT4 y5 l5
    obtain ⟨j, hj, rfl, HS⟩ := hrel
    by_cases hlt : j < m
    · have hlt' : (j : Int) < m := by omega
      obtain ⟨g, rfl, -, -, -, -⟩ := H7'.out (by omega)
      have hBg := HBg.out g rfl
      have hgg := (HLG.out g rfl).1
      have hg4 : wa.heap.size ≠ g := by omega
      obtain ⟨L, hL, hown⟩ := HS.out.own
      have HLo := Lib.hid hown
      have c0 : wr.cell? ⟨g, j * 5, none⟩ = some (.int .i64 (at3 L (j * 5))) := (hown.cellAt _ (by omega)).trans (at3_get (by omega))
      have c1' : wr.cell? ⟨g, j * 5 + 1, none⟩ = some (.int .i64 (at3 L (j * 5 + 1))) := (hown.cellAt _ (by omega)).trans (at3_get (by omega))
      have c2 : wr.cell? ⟨g, j * 5 + 2, none⟩ = some (.int .i64 (at3 L (j * 5 + 2))) := (hown.cellAt _ (by omega)).trans (at3_get (by omega))
      have c3 : wr.cell? ⟨g, j * 5 + 3, none⟩ = some (.int .i64 (at3 L (j * 5 + 3))) := (hown.cellAt _ (by omega)).trans (at3_get (by omega))
      have lg : g < wr.heap.size := (hown.lt g rfl).2
      generalize at3 L (j * 5) = x0 at *
      generalize at3 L (j * 5 + 1) = x1 at *
      generalize at3 L (j * 5 + 2) = x2 at *
      generalize at3 L (j * 5 + 3) = x3 at *
      have y5 := fun k => cell_of_row _ _ k _ _ _ HS.out.b5
      have l5 := (Array.getElem?_eq_some_iff.1 HS.out.b5).1
      have hmc : j < cO := by omega
      clear hown hL
      go_upto_region 7 with fail
      go_region_law
          (refine step_calls rfl (by go_simp) (hT x0 x1 x2 x3 _).out ?_
           rintro e w5 ⟨z0, z1, z2, z3, rfl, hx5⟩
           refine ⟨_, rfl, ?_⟩
           have HX5 : Hid (Ext wr w5) := (Ext.refl wr).drew.trans hx5
           have c05 : w5.cell? ⟨g, j * 5, none⟩ = some (.int .i64 x0) := (HX5.out.cells.1 _ _ lg).trans c0
           have c15 : w5.cell? ⟨g, j * 5 + 1, none⟩ = some (.int .i64 x1) := (HX5.out.cells.1 _ _ lg).trans c1'
           have c25 : w5.cell? ⟨g, j * 5 + 2, none⟩ = some (.int .i64 x2) := (HX5.out.cells.1 _ _ lg).trans c2
           have c35 : w5.cell? ⟨g, j * 5 + 3, none⟩ = some (.int .i64 x3) := (HX5.out.cells.1 _ _ lg).trans c3
           have f5 : ∀ k, w5.frozen? ⟨g, k, none⟩ = false := fun k => (own_ext HLo.out HX5.out).frozenAt k
           have lg5 : g < w5.heap.size := by have := HX5.out.size; omega
           have y55 : ∀ k, w5.cell? ⟨B5, k, none⟩ = (#[.int .i64 r, .int .i64 c, .slice (some ⟨g, 0, none⟩) m cO] : Array Value)[k]? := fun k => cell_of_row _ _ k _ _ _ ((HS.out.ext HX5.out).b5)
           have l55 : B5 < w5.heap.size := by have := HX5.out.size; omega
           clear hx5)
      all_goals
        go_wp2
        go_roundw
        case rel => exact ⟨j + 1, by omega, by go_num, ((((HS.out.ext HX5.out).put hBw hg4 hBg hgg _ _).put hBw hg4 hBg hgg _ _).put hBw hg4 hBg hgg _ _).put hBw hg4 hBg hgg _ _⟩
        case measure => simp [RowKit.intOf]; omega
    · obtain rfl : m = j := by omega
      have HGZ : Hid (GX [B] ((w.alloc (.cells #[.int .i64 0, .int .i64 0, .slice none 0 0] 30)).alloc (.cells #[.int .i64 0, .int .i64 0, .slice none 0 0] 30)) w1) := HG2.out.ext HE1.out
      go_wp2_with fail
      refine ((hO _ _ _ HS.out.cu (by omega) (by omega)).out).mono ?_
      rintro e w5 ⟨z, a5, rfl, r5, s5, hg5, hc5⟩
      have HT5 := Lib.hid (HS.out.cur hBw hB45 hB55 hg5 hc5)
      clear hg5 hc5 HS
      cases z
      case false =>
        have HZ := Lib.hid (HGZ.out.trans HT5.out.gx)
        have hb0 : w5.heap[w.heap.size]? = some (.cells #[.int .i64 0, .int .i64 0, .slice none 0 0] 30 (0, 0)) := (HZ.out.heap (by simp; omega) (by simp; omega)).trans (heap_alloc_lt (heap_alloc_new _ _))
        have hb1 : w5.heap[w.heap.size + 1]? = some (.cells #[.int .i64 0, .int .i64 0, .slice none 0 0] 30 (0, 0)) := (HZ.out.heap (by simp) (by simp; omega)).trans (heap_alloc_at _ _ _ (by simp))
        have y0 := fun k => cell_of_row _ _ k _ _ _ hb0
        have g0 := fun k => frozen_of_row _ _ k _ _ hb0
        have l0 := (Array.getElem?_eq_some_iff.1 hb0).1
        have y1 := fun k => cell_of_row _ _ k _ _ _ hb1
        have g1 := fun k => frozen_of_row _ _ k _ _ hb1
        have l1 := (Array.getElem?_eq_some_iff.1 hb1).1
        have y4 := fun k => cell_of_row _ _ k _ _ _ HT5.out.b4
        have l4 := (Array.getElem?_eq_some_iff.1 HT5.out.b4).1
        have y5 := fun k => cell_of_row _ _ k _ _ _ HT5.out.b5
        have l5 := (Array.getElem?_eq_some_iff.1 HT5.out.b5).1
        have HMF := Lib.hid (HMA.out.gx ((GX.ofExt HE1.out).trans HT5.out.gx) (by simp; omega))
        have HGF : Hid (GX [B] w w5) := ((GX.refl [B] w).alloc _).alloc _ |>.trans HZ.out
        clear hb0 hb1
        go_wp2
        go_region
        all_goals
          go_wp2
          refine bodyPost_ret (v := .tuple #[.agg #[.int .i64 r, .int .i64 c, .slice a1 m c1], .agg #[.int .i64 r, .int .i64 c, .slice aO m cO]]) (by simp [results, Tryd.results23, go_sem, *]) rfl ?_
          have hg := HGF.out
          refine ⟨_, _, _, _, _, _, _, _, _, _, rfl, ?_⟩
          refine ⟨m, LA, a5, hm16, (MV.drewM ((((((HMF.out.set (by simp) _).set (by simp) _).set (by simp) _).set (by simp) _).set (by simp) _).set (by simp) _)).base (by omega), by omega, by omega, GX.toGrown ?_, CU.drew (((((((HT5.out.cu.set (by exact hl) _).set (by exact hl) _).set (by exact hl) _).set (by simp; omega) _).set (by simp; omega) _).set (by simp; omega) _))⟩
          exact (by repeat (first | (with_reducible refine GX.setCell ?_ (by first | (simp; done) | (simp; omega)) _) | with_reducible refine GX.alloc ?_ _ | with_reducible refine GX.drew ?_ | with_reducible refine GX.drewN ?_ _ | with_reducible assumption | with_reducible exact GX.refl _ _ | with_reducible refine GX.ext ?_ (by with_reducible assumption) | with_reducible refine GX.trans ?_ (by with_reducible assumption)))
      case true =>
        by_cases hm0 : m = 0
        · have hm0' : ¬ ((0 : Int) < (m : Int)) := by omega
          have HZ := Lib.hid (HGZ.out.trans HT5.out.gx)
          have hb0 : w5.heap[w.heap.size]? = some (.cells #[.int .i64 0, .int .i64 0, .slice none 0 0] 30 (0, 0)) := (HZ.out.heap (by simp; omega) (by simp; omega)).trans (heap_alloc_lt (heap_alloc_new _ _))
          have hb1 : w5.heap[w.heap.size + 1]? = some (.cells #[.int .i64 0, .int .i64 0, .slice none 0 0] 30 (0, 0)) := (HZ.out.heap (by simp) (by simp; omega)).trans (heap_alloc_at _ _ _ (by simp))
          have y0 := fun k => cell_of_row _ _ k _ _ _ hb0
          have g0 := fun k => frozen_of_row _ _ k _ _ hb0
          have l0 := (Array.getElem?_eq_some_iff.1 hb0).1
          have y1 := fun k => cell_of_row _ _ k _ _ _ hb1
          have g1 := fun k => frozen_of_row _ _ k _ _ hb1
          have l1 := (Array.getElem?_eq_some_iff.1 hb1).1
          have y4 := fun k => cell_of_row _ _ k _ _ _ HT5.out.b4
          have l4 := (Array.getElem?_eq_some_iff.1 HT5.out.b4).1
          have y5 := fun k => cell_of_row _ _ k _ _ _ HT5.out.b5
          have l5 := (Array.getElem?_eq_some_iff.1 HT5.out.b5).1
          have HMF := Lib.hid (HMA.out.gx ((GX.ofExt HE1.out).trans HT5.out.gx) (by simp; omega))
          have HGF : Hid (GX [B] w w5) := ((GX.refl [B] w).alloc _).alloc _ |>.trans HZ.out
          clear hb0 hb1
          go_wp2
          go_region
          all_goals
            go_wp2
            refine bodyPost_ret (v := .tuple #[.agg #[.int .i64 r, .int .i64 c, .slice a1 m c1], .agg #[.int .i64 r, .int .i64 c, .slice aO m cO]]) (by simp [results, Tryd.results23, go_sem, *]) rfl ?_
            have hg := HGF.out
            refine ⟨_, _, _, _, _, _, _, _, _, _, rfl, ?_⟩
            refine ⟨m, LA, a5, hm16, (MV.drewM ((((((HMF.out.set (by simp) _).set (by simp) _).set (by simp) _).set (by simp) _).set (by simp) _).set (by simp) _)).base (by omega), by omega, by omega, GX.toGrown ?_, CU.drew (((((((HT5.out.cu.set (by exact hl) _).set (by exact hl) _).set (by exact hl) _).set (by simp; omega) _).set (by simp; omega) _).set (by simp; omega) _))⟩
            exact (by repeat (first | (with_reducible refine GX.setCell ?_ (by first | (simp; done) | (simp; omega)) _) | with_reducible refine GX.alloc ?_ _ | with_reducible refine GX.drew ?_ | with_reducible refine GX.drewN ?_ _ | with_reducible assumption | with_reducible exact GX.refl _ _ | with_reducible refine GX.ext ?_ (by with_reducible assumption) | with_reducible refine GX.trans ?_ (by with_reducible assumption)))
        have hm1 : (0 : Int) < (m : Int) := by omega
        obtain ⟨g, rfl, -, -, -, -⟩ := H7'.out (by omega)
        have hBg := HBg.out g rfl
        have hgg := (HLG.out g rfl).1
        have hg4 : wa.heap.size ≠ g := by omega
        have hgB : g ≠ B := by omega
        have y5 := fun k => cell_of_row _ _ k _ _ _ HT5.out.b5
        have l5 := (Array.getElem?_eq_some_iff.1 HT5.out.b5).1
        go_upto_region 10 with fail
        go_region_law
            (first
             | (refine step_calls rfl (by go_simp) (hP _ (m : Int) _ (HT5.out.ext (Ext.refl w5).drew).cu (by omega) (by omega)).out ?_
                rintro e w6 ⟨y6, a6, rfl, p6, q6, r6, s6, hg6, hc6⟩
                refine ⟨_, rfl, ?_⟩
                have HT6 : Hid (TS w1 B v n r c (.slice a1 m c1) (.slice (some ⟨g, 0, none⟩) m cO) m wa.heap.size B5 a6 w6) := (HT5.out.ext (Ext.refl w5).drew).cur hBw hB45 hB55 hg6 hc6
                have hy6 : y6 < m := by omega
                have y56 : ∀ k, w6.cell? ⟨B5, k, none⟩ = (#[.int .i64 r, .int .i64 c, .slice (some ⟨g, 0, none⟩) m cO] : Array Value)[k]? := fun k => cell_of_row _ _ k _ _ _ HT6.out.b5
                have l56 : B5 < w6.heap.size := (Array.getElem?_eq_some_iff.1 HT6.out.b5).1
                clear hg6 hc6 q6)
             | (refine step_calls rfl (by go_simp) (hD _ _ HT6.out.cu (by omega)).out ?_
                rintro e w7 ⟨x0, x1, x2, x3, x4, a7, rfl, r7, s7, hg7, hc7⟩
                refine ⟨_, rfl, ?_⟩
                have HT7 : Hid (TS w1 B v n r c (.slice a1 m c1) (.slice (some ⟨g, 0, none⟩) m cO) m wa.heap.size B5 a7 w7) := HT6.out.cur hBw hB45 hB55 hg7 hc7
                have y57 : ∀ k, w7.cell? ⟨B5, k, none⟩ = (#[.int .i64 r, .int .i64 c, .slice (some ⟨g, 0, none⟩) m cO] : Array Value)[k]? := fun k => cell_of_row _ _ k _ _ _ HT7.out.b5
                have l57 : B5 < w7.heap.size := (Array.getElem?_eq_some_iff.1 HT7.out.b5).1
                obtain ⟨b, hb⟩ : ∃ b : Nat, y6 = b := ⟨y6.toNat, by omega⟩
                subst hb
                have hbN : b < m := by omega
                obtain ⟨L7, hL7, O7⟩ := HT7.out.own
                have hl5 : (IL L7).length = m * 5 := by rw [il_length, hL7]
                obtain ⟨u0, c0⟩ := own_at O7 hl5 (k := b * 5) (by omega)
                obtain ⟨u1, c1'⟩ := own_at O7 hl5 (k := b * 5 + 1) (by omega)
                obtain ⟨u2, c2⟩ := own_at O7 hl5 (k := b * 5 + 2) (by omega)
                obtain ⟨u3, c3⟩ := own_at O7 hl5 (k := b * 5 + 3) (by omega)
                obtain ⟨u4, c4⟩ := own_at O7 hl5 (k := b * 5 + 4) (by omega)
                have f7 : ∀ k, w7.frozen? ⟨g, k, none⟩ = false := fun k => O7.frozenAt k
                have lg7 : g < w7.heap.size := (O7.lt g (by simp [Value.ownBlock])).2
                have HT8 : Hid (TS w1 B v n r c (.slice a1 m c1) (.slice (some ⟨g, 0, none⟩) m cO) m wa.heap.size B5 a7 (((((w7.setCell ⟨g, b * 5, none⟩ (.int .i64 x0)).setCell ⟨g, b * 5 + 1, none⟩ (.int .i64 x1)).setCell ⟨g, b * 5 + 2, none⟩ (.int .i64 x2)).setCell ⟨g, b * 5 + 3, none⟩ (.int .i64 x3)).setCell ⟨g, b * 5 + 4, none⟩ (.int .i64 x4))) := ((((HT7.out.put hBw hg4 hBg hgg _ _).put hBw hg4 hBg hgg _ _).put hBw hg4 hBg hgg _ _).put hBw hg4 hBg hgg _ _).put hBw hg4 hBg hgg _ _
                clear hg7 hc7 O7))
        all_goals
          obtain ⟨w8, hw8⟩ : ∃ w8, w8 = (((((w7.setCell ⟨g, b * 5, none⟩ (.int .i64 x0)).setCell ⟨g, b * 5 + 1, none⟩ (.int .i64 x1)).setCell ⟨g, b * 5 + 2, none⟩ (.int .i64 x2)).setCell ⟨g, b * 5 + 3, none⟩ (.int .i64 x3)).setCell ⟨g, b * 5 + 4, none⟩ (.int .i64 x4)) := ⟨_, rfl⟩
          rw [← hw8] at HT8
          go_upto_region 11 with fail
          rw [← hw8]
          clear hw8 c0 c1' c2 c3 c4 f7 lg7 y57 l57 y56 l56 y5 l5
          have HZ := Lib.hid (HGZ.out.trans HT8.out.gx)
          have hb0 : w8.heap[w.heap.size]? = some (.cells #[.int .i64 0, .int .i64 0, .slice none 0 0] 30 (0, 0)) := (HZ.out.heap (by simp; omega) (by simp; omega)).trans (heap_alloc_lt (heap_alloc_new _ _))
          have hb1 : w8.heap[w.heap.size + 1]? = some (.cells #[.int .i64 0, .int .i64 0, .slice none 0 0] 30 (0, 0)) := (HZ.out.heap (by simp) (by simp; omega)).trans (heap_alloc_at _ _ _ (by simp))
          have y0 := fun k => cell_of_row _ _ k _ _ _ hb0
          have g0 := fun k => frozen_of_row _ _ k _ _ hb0
          have l0 := (Array.getElem?_eq_some_iff.1 hb0).1
          have y1 := fun k => cell_of_row _ _ k _ _ _ hb1
          have g1 := fun k => frozen_of_row _ _ k _ _ hb1
          have l1 := (Array.getElem?_eq_some_iff.1 hb1).1
          have y4 := fun k => cell_of_row _ _ k _ _ _ HT8.out.b4
          have l4 := (Array.getElem?_eq_some_iff.1 HT8.out.b4).1
          have y5 := fun k => cell_of_row _ _ k _ _ _ HT8.out.b5
          have l5 := (Array.getElem?_eq_some_iff.1 HT8.out.b5).1
          have HMF := Lib.hid (HMA.out.gx ((GX.ofExt HE1.out).trans HT8.out.gx) (by simp; omega))
          have HGF : Hid (GX [B] w w8) := ((GX.refl [B] w).alloc _).alloc _ |>.trans HZ.out
          clear hb0 hb1
          go_wp2
          go_region
          all_goals
            go_wp2
            refine bodyPost_ret (v := .tuple #[.agg #[.int .i64 r, .int .i64 c, .slice a1 m c1], .agg #[.int .i64 r, .int .i64 c, .slice (some ⟨g, 0, none⟩) m cO]]) (by simp [results, Tryd.results23, go_sem, *]) rfl ?_
            have hg := HGF.out
            refine ⟨_, _, _, _, _, _, _, _, _, _, rfl, ?_⟩
            refine ⟨m, LA, a7, hm16, (MV.drewM ((((((HMF.out.set (by simp) _).set (by simp) _).set (by simp) _).set (by simp) _).set (by simp) _).set (by simp) _)).base (by omega), by omega, by omega, GX.toGrown ?_, CU.drew (((((((HT8.out.cu.set (by exact hl) _).set (by exact hl) _).set (by exact hl) _).set (by simp; omega) _).set (by simp; omega) _).set (by simp; omega) _))⟩
            exact (by repeat (first | (with_reducible refine GX.setCell ?_ (by first | (simp; done) | (simp; omega)) _) | with_reducible refine GX.alloc ?_ _ | with_reducible refine GX.drew ?_ | with_reducible refine GX.drewN ?_ _ | with_reducible assumption | with_reducible exact GX.refl _ _ | with_reducible refine GX.ext ?_ (by with_reducible assumption) | with_reducible refine GX.trans ?_ (by with_reducible assumption)))

end Go.Proofs.YtamiploliebplaaDoor
