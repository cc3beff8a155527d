/- The operator of a circuit: applied. -/
import Derived.Test.YtbddgeoaaklgpaaQwE
import Derived.Test.YtbddgeoaaklgpaaGate
import Derived.Deep.RegionLaw
import Derived.Deep.Cut
namespace Go.Proofs.Ytbddgeoaaklgpaa
open Go.RowKit
set_option linter.unusedVariables false
set_option linter.unusedSimpArgs false

theorem opB_down {q : Nat} {xs : List Int} : ∀ {m k : Nat}, k ≤ m → opB q xs k = false → opB q xs m = false
  | 0, k, h, e => by obtain rfl : k = 0 := by omega
                     exact e
  | m + 1, k, h, e => by
    by_cases hk : k = m + 1
    · rw [← hk]; exact e
    · show (opB q xs m && _) = false
      rw [opB_down (m := m) (k := k) (by omega) e]
      rfl
theorem own_setQ {w : World} {base : Nat} {e : TypeId} {size : Nat} {v : Value} {n : Nat} {xs : List Value} (h : w.ownsRow base e size v n xs) {p : Addr} (hp : ∀ k, v.ownBlock = some k → k ≠ p.block) (u : Value) : (w.setCell p u).ownsRow base e size v n xs :=
  ⟨h.1, by
    rcases h.2 with hn | ⟨g, cap, cur, hv, hb, hg, r⟩
    · exact .inl hn
    · exact .inr ⟨g, cap, cur, hv, hb, heap_set_ne (hp g (by rw [hv]; rfl)) hg, r⟩⟩

/-- the matrix box: what stands there after k gates (own from lo on, in no block of L .. L + 2) -/
def MSq (q : Nat) (xs : List Int) (lo L : Nat) (k : Nat) (r c : Int) (v : Value) (w : World) : Prop := opB q xs k = true → r = ((2 ^ q : Nat) : Int) ∧ c = ((2 ^ q : Nat) : Int) ∧ w.ownsRow lo 107 5 v (2 ^ q * 2 ^ q) (IL (opL q xs k)) ∧ ∀ k, v.ownBlock = some k → k < L ∨ L + 2 < k
theorem MSq.set {q : Nat} {xs : List Int} {lo L k : Nat} {r c : Int} {v : Value} {w : World} (h : MSq q xs lo L k r c v w) {p : Addr} (hp : L ≤ p.block ∧ p.block ≤ L + 2) (u : Value) : MSq q xs lo L k r c v (w.setCell p u) := fun hk => by
  obtain ⟨h1, h2, h3, h4⟩ := h hk
  exact ⟨h1, h2, own_setQ h3 (fun k hk => by have := h4 k hk; omega) u, h4⟩

set_option maxRecDepth 20000 in
set_option maxHeartbeats 4000000 in
theorem applied_any (q : Nat) {v : Value} {m : Nat} {xs : List Int} (h3 : q ≤ 3) (hc : cOk q xs m = true) (v0 : Value) (lo : Nat) (w : World) (hlo : lo ≤ w.heap.size) (h : RV w 3 v m xs) (h0 : w.ownsRow lo 107 5 v0 (2 ^ q * 2 ^ q) (IL (unL q))) :
    Calls Try.prog 59 #[.agg #[.int .i64 q, v], .agg #[.int .i64 ((2 ^ q : Nat) : Int), .int .i64 ((2 ^ q : Nat) : Int), v0], .bool true] w fun e w' => ∃ (r c : Int) (a' : Option Addr) (n' c' : Nat), e = .returned (.tuple #[.agg #[.int .i64 r, .int .i64 c, .slice a' n' c'], .bool (opB q xs m)]) ∧ MSq q xs lo w.heap.size m r c (.slice a' n' c') w' ∧ Ext w w' := by
  have q1 := (cOk_q1 hc).1
  have m400 := (cOk_q1 hc).2.2
  obtain ⟨hl, a, cap, rfl, c1, c2, H⟩ := h
  have HH := Lib.hid H
  have HL := Lib.hid hl
  have R0 := Lib.hid h0
  obtain ⟨a0, cap0, rfl, _, _, _⟩ := own_shape h0
  clear H hl
  have NN : Hid (2 ^ q * 2 ^ q ≤ 64) := Lib.hid (by have := (dim_q q1 h3).2; exact Nat.mul_le_mul this this)
  generalize hN : 2 ^ q = N at *
  go_enter Try.func59, Try.ntmps59
  go_wp2
  go_loopw [2, 8] (fun ok i wr => ∃ (j : Nat) (r c : Int) (a1 : Option Addr) (n1 cap1 : Nat), j ≤ m ∧ i = .int .i64 j ∧ ok = .bool (opB q xs j) ∧ Hid (MSq q xs lo w.heap.size j r c (.slice a1 n1 cap1) wr) ∧ Hid (Ext w wr) ∧
      Hid (wr.heap[w.heap.size]? = some (.cells #[.int .i64 q, .slice a m cap] 25 (0, 0))) ∧ Hid (wr.heap[w.heap.size + 1]? = some (.cells #[.int .i64 r, .int .i64 c, .slice a1 n1 cap1] 71 (0, 0))) ∧ Hid (wr.heap[w.heap.size + 2]? = some (.cells #[.int .i64 0, .int .i64 0, .slice none 0 0] 71 (0, 0)))) (fun _ i _ => m - (RowKit.intOf i).toNat)
  case atStart =>
    refine ⟨0, _, _, a0, _, cap0, by omega, rfl, rfl, fun _ => ⟨by rw [hN], by rw [hN], by rw [hN]; exact own_ext R0.out (by repeat (first | exact Ext.refl _ | assumption | refine Ext.alloc ?_ _ | refine Ext.drew ?_ | refine Ext.drewN ?_ _ | refine Ext.setCell ?_ (by first | omega | (dsimp only; omega) | (simp; done) | (simp; omega)) _ | refine Ext.trans ?_ (by assumption))), fun k hk => .inl (R0.out.lt k hk).2⟩, Lib.hid (by repeat (first | exact Ext.refl _ | assumption | refine Ext.alloc ?_ _ | refine Ext.drew ?_ | refine Ext.drewN ?_ _ | refine Ext.setCell ?_ (by first | omega | (dsimp only; omega) | (simp; done) | (simp; omega)) _ | refine Ext.trans ?_ (by assumption))), Lib.hid (heap_alloc_lt (heap_alloc_lt (heap_alloc_new _ _))), Lib.hid (heap_alloc_lt (heap_alloc_at _ _ _ (by simp))), Lib.hid (heap_alloc_at _ _ _ (by simp))⟩
  case round =>
    obtain ⟨j, r, c, a1, n1, cap1, hj, rfl, rfl, hM, hE, hB0, hB1, hB2⟩ := hrel
    have y0 := fun k => cell_of_row _ _ k _ _ _ hB0.out
    have l0 := (Array.getElem?_eq_some_iff.1 hB0.out).1
    have y1 := fun k => cell_of_row _ _ k _ _ _ hB1.out
    have f1 := fun k => frozen_of_row _ _ k _ _ hB1.out
    have l1 := (Array.getElem?_eq_some_iff.1 hB1.out).1
    have y2 := fun k => cell_of_row _ _ k _ _ _ hB2.out
    have f2 := fun k => frozen_of_row _ _ k _ _ hB2.out
    have l2 := (Array.getElem?_eq_some_iff.1 hB2.out).1
    cases hb : opB q xs j
    case false =>
      have hbm : Hid (opB q xs m = false) := Lib.hid (opB_down hj hb)
      go_wp2
      all_goals
        refine bodyPost_ret (v := .tuple #[.agg #[.int .i64 r, .int .i64 c, .slice a1 n1 cap1], .bool false]) (by simp [results, Try.results59, go_sem, *]) rfl ?_
        have hEo := hE.out
        refine ⟨r, c, a1, n1, cap1, by rw [hbm.out], ?_, (by repeat (first | (with_reducible refine Ext.setCell ?_ (by first | (simp; done) | (simp; omega)) _) | with_reducible refine Ext.alloc ?_ _ | with_reducible refine Ext.drew ?_ | with_reducible refine Ext.drewN ?_ _ | with_reducible assumption | with_reducible exact Ext.refl _ | with_reducible refine Ext.trans ?_ (by with_reducible assumption)))⟩
        intro hh
        rw [hbm.out] at hh
        cases hh
    case true =>
      by_cases hlt : j < m
      · have hlt' : (j : Int) < m := by omega
        have hg := cOk_gate hc hlt
        have f := gOk_facts hg q1
        obtain ⟨k0, hk0⟩ : ∃ k0 : Nat, at3 xs (j * 3) = k0 := ⟨_, (Int.toNat_of_nonneg (by omega)).symm⟩
        obtain ⟨g1, hg1⟩ : ∃ k0 : Nat, at3 xs (j * 3 + 1) = k0 := ⟨_, (Int.toNat_of_nonneg (by omega)).symm⟩
        obtain ⟨g2, hg2⟩ : ∃ k0 : Nat, at3 xs (j * 3 + 2) = k0 := ⟨_, (Int.toNat_of_nonneg (by omega)).symm⟩
        have hgN : gN xs j = (k0, g1, g2) := by unfold gN; rw [hk0, hg1, hg2]; simp
        rw [hk0, hg1, hg2] at hg
        have HGM := fun w' => Lib.hid (gateMatrix_any q k0 g1 g2 q1 h3 hg w')
        rw [← hgN] at HGM
        obtain ⟨hr, hcc, hown, hfar⟩ := hM.out hb
        rw [hN] at hr hcc hown
        subst hr
        subst hcc
        obtain ⟨_, _, hsl, _, _, _⟩ := own_shape hown
        cases hsl
        have HOB : Hid (opB q xs (j + 1) = mmOkM (N : Int) (N : Int) (N * N) (gmL q (gN xs j)) (N : Int) (N : Int) (N * N) (opL q xs j)) := Lib.hid (by
          rw [← hN]
          show (opB q xs j && _) = _
          rw [hb, Bool.true_and])
        have HOL : Hid (opL q xs (j + 1) = mmLM (gmL q (gN xs j)) (opL q xs j) N N (N * N)) := Lib.hid (by rw [← hN]; rfl)
        have HMU := fun (v5 v1 : Value) (w' : World) (r5 : RV w' 5 v5 (N * N) (gmL q (gN xs j))) (r1 : RV w' 5 v1 (N * N) (opL q xs j)) => Lib.hid (mulMatrix_any (N : Int) (N : Int) (N : Int) (N : Int) (by have := NN.out; omega) (by have := NN.out; omega) w' r5 r1)
        have hgl := gmL_len q (gN xs j)
        have hol := opL_len q xs j
        rw [hN] at hgl hol HGM
        generalize gmL q (gN xs j) = GL at *
        generalize mmOkM (N : Int) (N : Int) (N * N) GL (N : Int) (N : Int) (N * N) (opL q xs j) = okj at *
        simp only [Int.toNat_natCast] at HMU
        rw [← HOL.out] at HMU
        have HOW := Lib.hid hown
        have HFA := Lib.hid hfar
        have HGL := Lib.hid hgl
        have HOLn := Lib.hid hol
        clear hown hfar hgl hol hg f hgN HOL hM
        obtain ⟨b, off, rfl, hbk, hcell⟩ := HH.out (by omega)
        have hbr : b < wr.heap.size := by have := hE.out.size; omega
        have z0 : wr.cell? ⟨b, off + j * 3, none⟩ = some (.int .i64 (at3 xs (j * 3))) := (hE.out.cells.1 b (off + (j * 3)) hbk).trans (hcell _ _ (at3_get (by have := HL.out; omega)))
        have z1 : wr.cell? ⟨b, off + j * 3 + 1, none⟩ = some (.int .i64 (at3 xs (j * 3 + 1))) := (hE.out.cells.1 b (off + (j * 3 + 1)) hbk).trans (hcell _ _ (at3_get (by have := HL.out; omega)))
        have z2 : wr.cell? ⟨b, off + j * 3 + 2, none⟩ = some (.int .i64 (at3 xs (j * 3 + 2))) := (hE.out.cells.1 b (off + (j * 3 + 2)) hbk).trans (hcell _ _ (at3_get (by have := HL.out; omega)))
        clear hcell
        rw [hk0] at z0
        rw [hg1] at z1
        rw [hg2] at z2
        clear hk0 hg1 hg2
        go_upto_region 4 with fail
        go_region_law
            (first
             | (refine step_callsQ rfl ?_ (HGM _).out ?_
                · go_simp
                rintro e w5 ⟨v5, rfl, o5, hx5⟩
                refine ⟨_, rfl, ?_⟩
                obtain ⟨a5, c5, rfl, _, _, _⟩ := own_shape o5
                have HO5 := Lib.hid o5
                have HX5 : Hid (Ext wr w5) := (Ext.refl wr).drew.trans hx5
                have HY5 : Hid (True) := trivial
                have h15 := (HX5.out.heap l1).trans hB1.out
                have y15 := fun k => cell_of_row _ _ k _ _ _ h15
                have f15 := fun k => frozen_of_row _ _ k _ _ h15
                have l15 := (Array.getElem?_eq_some_iff.1 h15).1
                have h05 := (HX5.out.heap l0).trans hB0.out
                have y05 := fun k => cell_of_row _ _ k _ _ _ h05
                have l05 := (Array.getElem?_eq_some_iff.1 h05).1
                have h25 := (HX5.out.heap l2).trans hB2.out
                have sz5 : wr.heap.size ≤ w5.heap.size := HX5.out.size
                clear o5 hx5)
             | (refine step_callsQ rfl ?_ (HGM _).out ?_
                · go_simp
                rintro e w5 ⟨v5, rfl, o5, hx5⟩
                refine ⟨_, rfl, ?_⟩
                obtain ⟨a5, c5, rfl, _, _, _⟩ := own_shape o5
                have HO5 := Lib.hid o5
                have HX5 : Hid (Ext wr w5) := ((Ext.refl wr).drew.alloc (.cells #[.int .i64 0, .int .i64 0, .slice none 0 0] 71)).trans hx5
                have HY5 : Hid (w5.heap[wr.heap.size]? = some (.cells #[.int .i64 0, .int .i64 0, .slice none 0 0] 71 (0, 0))) := (hx5.heap (by simp)).trans (heap_alloc_at _ _ _ (by simp))
                have y95 := fun k => cell_of_row _ _ k _ _ _ HY5.out
                have f95 := fun k => frozen_of_row _ _ k _ _ HY5.out
                have l95 := (Array.getElem?_eq_some_iff.1 HY5.out).1
                have h15 := (HX5.out.heap l1).trans hB1.out
                have y15 := fun k => cell_of_row _ _ k _ _ _ h15
                have f15 := fun k => frozen_of_row _ _ k _ _ h15
                have l15 := (Array.getElem?_eq_some_iff.1 h15).1
                have h05 := (HX5.out.heap l0).trans hB0.out
                have y05 := fun k => cell_of_row _ _ k _ _ _ h05
                have l05 := (Array.getElem?_eq_some_iff.1 h05).1
                have h25 := (HX5.out.heap l2).trans hB2.out
                have sz5 : wr.heap.size ≤ w5.heap.size := HX5.out.size
                clear o5 hx5))
        all_goals
          go_wp2_with fail
          refine ((HMU _ _ _ ?_ ?_).out).mono ?_
          · first
            | exact RV.own (own_ext HO5.out ((Ext.refl w5).alloc _)) HGL.out
            | exact RV.own (own_set (own_set (own_set HO5.out (by simp) _) (by simp) _) (by simp) _) HGL.out
          · have hv1 : ∀ k, (Value.slice a1 (N * N) cap1).ownBlock = some k → k ≠ wr.heap.size := fun k hk => by have := (HOW.out.lt k hk).2; omega
            first
            | exact RV.own (own_ext (own_ext HOW.out HX5.out) ((Ext.refl w5).alloc _)) HOLn.out
            | exact RV.own (own_setQ (own_setQ (own_setQ (own_ext HOW.out HX5.out) hv1 _) hv1 _) hv1 _) HOLn.out
          rintro e w7 ⟨v7, rfl, o7, hx7⟩
          obtain ⟨a7, c7, rfl, _, _, _⟩ := own_shape o7
          have O7 := Lib.hid o7
          have hEo : Ext w w5 := hE.out.trans HX5.out
          have HX7 : Hid (Ext w w7) := by
            refine Lib.hid (Ext.trans ?_ hx7)
            exact (by repeat (first | (with_reducible refine Ext.setCell ?_ (by first | (simp; done) | (simp; omega)) _) | with_reducible refine Ext.alloc ?_ _ | with_reducible refine Ext.drew ?_ | with_reducible refine Ext.drewN ?_ _ | with_reducible assumption | with_reducible exact Ext.refl _ | with_reducible refine Ext.trans ?_ (by with_reducible assumption)))
          have hb17 : w7.heap[w.heap.size + 1]? = some (.cells #[.int .i64 N, .int .i64 N, .slice a1 (N * N) cap1] 71 (0, 0)) := by
            refine (hx7.heap (by simp; omega)).trans ?_
            exact (by repeat (first | (with_reducible exact h15) | (with_reducible refine heap_set_ne (by first | (simp; done) | (simp; omega)) ?_) | (with_reducible refine heap_alloc_lt ?_)))
          have HB07 : Hid (w7.heap[w.heap.size]? = some (.cells #[.int .i64 q, .slice (some ⟨b, off, none⟩) m cap] 25 (0, 0))) := by
            refine Lib.hid ((hx7.heap (by simp; omega)).trans ?_)
            exact (by repeat (first | (with_reducible exact h05) | (with_reducible refine heap_set_ne (by first | (simp; done) | (simp; omega)) ?_) | (with_reducible refine heap_alloc_lt ?_)))
          have HB27 : Hid (w7.heap[w.heap.size + 2]? = some (.cells #[.int .i64 0, .int .i64 0, .slice none 0 0] 71 (0, 0))) := by
            refine Lib.hid ((hx7.heap (by simp; omega)).trans ?_)
            exact (by repeat (first | (with_reducible exact h25) | (with_reducible refine heap_set_ne (by first | (simp; done) | (simp; omega)) ?_) | (with_reducible refine heap_alloc_lt ?_)))
          have HB17 := Lib.hid hb17
          have sz7 := hx7.size
          try simp at sz7
          have y17 := fun k => cell_of_row _ _ k _ _ _ hb17
          have f17 := fun k => frozen_of_row _ _ k _ _ hb17
          have l17 := (Array.getElem?_eq_some_iff.1 hb17).1
          clear o7 hb17
          go_wp2
          go_roundw
          case rel =>
            refine ⟨j + 1, _, _, a7, _, c7, by omega, by go_num, by rw [HOB.out], Lib.hid ?_, Lib.hid (((HX7.out.setCell (by simp) _).setCell (by simp) _).setCell (by simp) _), Lib.hid (heap_set_ne (by simp) (heap_set_ne (by simp) (heap_set_ne (by simp) HB07.out))), Lib.hid (heap_set_at (heap_set_at (heap_set_at HB17.out 0 _) 1 _) 2 _), Lib.hid (heap_set_ne (by simp) (heap_set_ne (by simp) (heap_set_ne (by simp) HB27.out)))⟩
            intro hk
            rw [HOB.out] at hk
            subst hk
            rw [hN]
            have hfar7 : ∀ k, (Value.slice a7 (N * N) c7).ownBlock = some k → wr.heap.size ≤ k := fun k hk => by
              have := (O7.out.lt k hk).1
              simp at this
              omega
            refine ⟨rfl, rfl, own_base (own_set (own_set (own_set O7.out (by simp; omega) _) (by simp; omega) _) (by simp; omega) _) (by simp; omega), fun k hk => .inr (by have := hfar7 k hk; omega)⟩
          case measure => simp [RowKit.intOf]; omega
      · obtain rfl : j = m := by omega
        have HB := Lib.hid hb
        clear hb
        go_wp2
        refine bodyPost_ret (v := .tuple #[.agg #[.int .i64 r, .int .i64 c, .slice a1 n1 cap1], .bool true]) (by simp [results, Try.results59, go_sem, *]) rfl ?_
        have hEo := hE.out
        exact ⟨r, c, a1, n1, cap1, by rw [HB.out], ((hM.out.set (by simp; omega) _).set (by simp; omega) _).set (by simp; omega) _, (by repeat (first | (with_reducible refine Ext.setCell ?_ (by first | (simp; done) | (simp; omega)) _) | with_reducible refine Ext.alloc ?_ _ | with_reducible refine Ext.drew ?_ | with_reducible refine Ext.drewN ?_ _ | with_reducible assumption | with_reducible exact Ext.refl _ | with_reducible refine Ext.trans ?_ (by with_reducible assumption)))⟩


open Go.RowKit
set_option linter.unusedVariables false
set_option linter.unusedSimpArgs false

/-- what OperatorOf tells of a circuit on at most three qubits -/
def OpPost (q : Nat) (xs : List Int) (m : Nat) (lo : Nat) (r c : Int) (v : Value) (w : World) : Prop := opB q xs m = true → r = ((2 ^ q : Nat) : Int) ∧ c = ((2 ^ q : Nat) : Int) ∧ w.ownsRow lo 107 5 v (2 ^ q * 2 ^ q) (IL (opL q xs m))

set_option maxRecDepth 20000 in
set_option maxHeartbeats 4000000 in
theorem operatorOf_any (q : Nat) {v : Value} {m : Nat} {xs : List Int} (h3 : q ≤ 3) (hc : cOk q xs m = true) (w : World) (h : RV w 3 v m xs) :
    Calls Try.prog 33 #[.agg #[.int .i64 q, v]] w fun e w' => ∃ (r c : Int) (a' : Option Addr) (n' c' : Nat), e = .returned (.tuple #[.agg #[.int .i64 r, .int .i64 c, .slice a' n' c'], .bool (opB q xs m)]) ∧ OpPost q xs m w.heap.size r c (.slice a' n' c') w' ∧ Ext w w' := by
  have q1 := (cOk_q1 hc).1
  have m400 := (cOk_q1 hc).2.2
  have HV := fun w' (hx : Ext w w') => Lib.hid (isValidCircuit_any (q : Int) (by omega) w' (h.ext hx))
  rw [hc] at HV
  have HID := fun w' => Lib.hid (identity_any q q1 h3 w')
  have HAP := fun (v0 : Value) (lo : Nat) (w' : World) (hlo : lo ≤ w'.heap.size) (hx : Ext w w') h0 => Lib.hid (applied_any q h3 hc v0 lo w' hlo (h.ext hx) h0)
  have R := Lib.hid h
  obtain ⟨_, a, cap, rfl, _⟩ := h
  have hsh : (1 : Int) * 2 ^ q = ((2 ^ q : Nat) : Int) := by push_cast; omega
  have hq3 : q = 1 ∨ q = 2 ∨ q = 3 := by omega
  have hw2 : IntKind.i64.wrap 2 = 2 := rfl
  have hw4 : IntKind.i64.wrap 4 = 4 := rfl
  have hw8 : IntKind.i64.wrap 8 = 8 := rfl
  generalize hBB : opB q xs m = BB at *
  clear hBB
  rcases hq3 with rfl | rfl | rfl
  all_goals
    simp only [Nat.reducePow, Nat.reduceMul] at HID HAP
    go_enter Try.func33, Try.ntmps33
    go_wp2_with fail
    refine ((HV _ (by repeat (first | exact Ext.refl _ | assumption | refine Ext.alloc ?_ _ | refine Ext.drew ?_ | refine Ext.drewN ?_ _ | refine Ext.setCell ?_ (by first | omega | (dsimp only; omega) | (simp; done) | (simp; omega)) _ | refine Ext.trans ?_ (by assumption)))).out).mono ?_
    rintro e w1 ⟨rfl, hx1⟩
    obtain ⟨hc1, hf1⟩ := hx1.cells
    have hz1 := hx1.size
    try simp at hz1
    have hs1_0 := sz2 (a := w.heap.size) (b := w1.heap.size) (by omega)
    go_wp2_with fail
    refine (HID _).out.mono ?_
    rintro e w2 ⟨v2, rfl, o2, hx2⟩
    obtain ⟨hc2, hf2⟩ := hx2.cells
    have hz2 := hx2.size
    try simp at hz2
    have hs2_0 := sz2 (a := w.heap.size) (b := w2.heap.size) (by omega)
    obtain ⟨a2, c2, rfl, _, _, _⟩ := own_shape o2
    have HX2 : Hid (Ext w w2) := Lib.hid (by repeat (first | exact Ext.refl _ | assumption | refine Ext.alloc ?_ _ | refine Ext.drew ?_ | refine Ext.drewN ?_ _ | refine Ext.setCell ?_ (by first | omega | (dsimp only; omega) | (simp; done) | (simp; omega)) _ | refine Ext.trans ?_ (by assumption)))
    have O2 := Lib.hid o2
    clear o2
    go_wp2_with fail
    refine ((HAP _ w1.heap.size _ ?_ ?_ ?_).out).mono ?_
    · have := hx2.size
      simp
      omega
    · exact HX2.out.alloc _
    · exact own_ext O2.out ((Ext.refl w2).alloc _)
    rintro e w3 ⟨r, c, a3, n3, c3, rfl, hM3, hx3⟩
    have HM3 := Lib.hid hM3
    have s2 := hx2.size
    have s3 := hx3.size
    try simp at s3
    have s1 := hx1.size
    try simp at s1
    have hb1 : w1.heap[w.heap.size + 1]? = some (.cells #[.int .i64 0, .int .i64 0, .slice none 0 0] 71 (0, 0)) := (hx1.heap (by simp)).trans (heap_alloc_at _ _ _ (by simp))
    have hb2 : w2.heap[w.heap.size + 1]? = some (.cells #[.int .i64 0, .int .i64 0, .slice none 0 0] 71 (0, 0)) := (hx2.heap (by omega)).trans hb1
    have hb3 : w3.heap[w.heap.size + 1]? = some (.cells #[.int .i64 0, .int .i64 0, .slice none 0 0] 71 (0, 0)) := (hx3.heap (by simp; omega)).trans (heap_alloc_lt hb2)
    have y3 := fun k => cell_of_row _ _ k _ _ _ hb3
    have f3 := fun k => frozen_of_row _ _ k _ _ hb3
    have l3 := (Array.getElem?_eq_some_iff.1 hb3).1
    have HX3 : Hid (Ext w w3) := Lib.hid ((HX2.out.alloc _).trans hx3)
    clear hM3 hb1 hb2 hb3
    go_wp2
    refine bodyPost_ret (v := .tuple #[.agg #[.int .i64 r, .int .i64 c, .slice a3 n3 c3], .bool BB]) (by simp [results, Try.results33, go_sem, *]) rfl ?_
    refine ⟨r, c, a3, n3, c3, rfl, fun hk => ?_, ((HX3.out.setCell (by simp) _).setCell (by simp) _).setCell (by simp) _⟩
    obtain ⟨e1, e2, e3, e4⟩ := HM3.out hk
    exact ⟨e1, e2, own_base (own_set (own_set (own_set e3 (by simp; omega) _) (by simp; omega) _) (by simp; omega) _) (by omega)⟩


open Go.RowKit Go.Lib
set_option linter.unusedVariables false
set_option linter.unusedSimpArgs false

theorem neq_dyad (x0 x1 x2 x3 x4 : Int) (w : World) : (binOp .neq 107 (.agg #[.int .i64 x0, .int .i64 x1, .int .i64 x2, .int .i64 x3, .int .i64 x4]) (.agg #[.int .i64 x0, .int .i64 x1, .int .i64 x2, .int .i64 x3, .int .i64 x4])).run Try.prog w = .ok (.bool false) w := by
  go_simp
set_option maxRecDepth 20000 in
set_option maxHeartbeats 4000000 in
theorem equalMatrices_same (r c : Int) {v1 v2 : Value} {n : Nat} {xs : List Int} (hn : n ≤ 2000000) (w : World) (h1 : RV w 5 v1 n xs) (h2 : RV w 5 v2 n xs) :
    Calls Try.prog 34 #[.agg #[.int .i64 r, .int .i64 c, v1], .agg #[.int .i64 r, .int .i64 c, v2]] w fun e w' => e = .returned (.bool true) ∧ Ext w w' := by
  obtain ⟨hl, a1, c1, rfl, p1, p2, hh1⟩ := h1
  obtain ⟨_, a2, c2, rfl, p3, p4, hh2⟩ := h2
  have HH := Lib.hid hh1
  have HH2 := Lib.hid hh2
  have HLEN := Lib.hid hl
  clear hh1 hh2 hl
  obtain ⟨w1, hw1⟩ : ∃ w1, w1 = (w.alloc (.cells #[.int .i64 r, .int .i64 c, .slice a1 n c1] 71)).alloc (.cells #[.int .i64 r, .int .i64 c, .slice a2 n c2] 71) := ⟨_, rfl⟩
  have hb1 : w1.heap[w.heap.size]? = some (.cells #[.int .i64 r, .int .i64 c, .slice a1 n c1] 71 (0, 0)) := by rw [hw1]; exact heap_alloc_lt (heap_alloc_new _ _)
  have hb2 : w1.heap[w.heap.size + 1]? = some (.cells #[.int .i64 r, .int .i64 c, .slice a2 n c2] 71 (0, 0)) := by rw [hw1]; exact heap_alloc_at _ _ _ (by simp)
  have HE1 : Hid (Ext w w1) := by rw [hw1]; exact ((Ext.refl w).alloc _).alloc _
  have z1 := fun k => cell_of_row _ _ k _ _ _ hb1
  have z2 := fun k => cell_of_row _ _ k _ _ _ hb2
  have l1 := (Array.getElem?_eq_some_iff.1 hb1).1
  have l2 := (Array.getElem?_eq_some_iff.1 hb2).1
  have HB1 := Lib.hid hb1
  have HB2 := Lib.hid hb2
  clear hb1 hb2
  go_enter Try.func34, Try.ntmps34
  go_upto_region 1 with fail
  rw [← hw1]
  clear hw1
  go_wp2
  go_loopw [5, 30] (fun _ i wr => ∃ j : Nat, j ≤ n ∧ i = .int .i64 j ∧ Ext w1 wr) (fun _ i _ => n - (RowKit.intOf i).toNat)
  case atStart => exact ⟨0, by omega, rfl, Ext.refl _⟩
  case round =>
    clear z1 z2 l1 l2
    obtain ⟨j, hj, rfl, hE1⟩ := hrel
    have hE := HE1.out.trans hE1
    by_cases hlt : j < n
    · have hlt' : (j : Int) < n := by omega
      have HE := Lib.hid hE
      have HE1' := Lib.hid hE1
      have hbb1 := (hE1.heap (Array.getElem?_eq_some_iff.1 HB1.out).1).trans HB1.out
      have hbb2 := (hE1.heap (Array.getElem?_eq_some_iff.1 HB2.out).1).trans HB2.out
      have HLEN2 := Lib.hid HLEN.out
      obtain ⟨b, off, rfl, hbk, hcell⟩ := HH.out (by omega)
      have hbr : b < wr.heap.size := by have := hE.size; omega
      have z0 : wr.cell? ⟨b, off + j * 5, none⟩ = some (.int .i64 (at3 xs (j * 5))) := (hE.cells.1 b (off + (j * 5)) hbk).trans (hcell _ _ (at3_get (by have := HLEN.out; omega)))
      have z1 : wr.cell? ⟨b, off + j * 5 + 1, none⟩ = some (.int .i64 (at3 xs (j * 5 + 1))) := (hE.cells.1 b (off + (j * 5 + 1)) hbk).trans (hcell _ _ (at3_get (by have := HLEN.out; omega)))
      have z2 : wr.cell? ⟨b, off + j * 5 + 2, none⟩ = some (.int .i64 (at3 xs (j * 5 + 2))) := (hE.cells.1 b (off + (j * 5 + 2)) hbk).trans (hcell _ _ (at3_get (by have := HLEN.out; omega)))
      have z3 : wr.cell? ⟨b, off + j * 5 + 3, none⟩ = some (.int .i64 (at3 xs (j * 5 + 3))) := (hE.cells.1 b (off + (j * 5 + 3)) hbk).trans (hcell _ _ (at3_get (by have := HLEN.out; omega)))
      have z4 : wr.cell? ⟨b, off + j * 5 + 4, none⟩ = some (.int .i64 (at3 xs (j * 5 + 4))) := (hE.cells.1 b (off + (j * 5 + 4)) hbk).trans (hcell _ _ (at3_get (by have := HLEN.out; omega)))
      clear hcell
      obtain ⟨bv, offv, rfl, hbkv, hcellv⟩ := HH2.out (by omega)
      have hbrv : bv < wr.heap.size := by have := hE.size; omega
      have zv0 : wr.cell? ⟨bv, offv + j * 5, none⟩ = some (.int .i64 (at3 xs (j * 5))) := (hE.cells.1 bv (offv + (j * 5)) hbkv).trans (hcellv _ _ (at3_get (by have := HLEN2.out; omega)))
      have zv1 : wr.cell? ⟨bv, offv + j * 5 + 1, none⟩ = some (.int .i64 (at3 xs (j * 5 + 1))) := (hE.cells.1 bv (offv + (j * 5 + 1)) hbkv).trans (hcellv _ _ (at3_get (by have := HLEN2.out; omega)))
      have zv2 : wr.cell? ⟨bv, offv + j * 5 + 2, none⟩ = some (.int .i64 (at3 xs (j * 5 + 2))) := (hE.cells.1 bv (offv + (j * 5 + 2)) hbkv).trans (hcellv _ _ (at3_get (by have := HLEN2.out; omega)))
      have zv3 : wr.cell? ⟨bv, offv + j * 5 + 3, none⟩ = some (.int .i64 (at3 xs (j * 5 + 3))) := (hE.cells.1 bv (offv + (j * 5 + 3)) hbkv).trans (hcellv _ _ (at3_get (by have := HLEN2.out; omega)))
      have zv4 : wr.cell? ⟨bv, offv + j * 5 + 4, none⟩ = some (.int .i64 (at3 xs (j * 5 + 4))) := (hE.cells.1 bv (offv + (j * 5 + 4)) hbkv).trans (hcellv _ _ (at3_get (by have := HLEN2.out; omega)))
      clear hcellv
      generalize at3 xs (j * 5) = x0 at *
      generalize at3 xs (j * 5 + 1) = x1 at *
      generalize at3 xs (j * 5 + 2) = x2 at *
      generalize at3 xs (j * 5 + 3) = x3 at *
      generalize at3 xs (j * 5 + 4) = x4 at *
      have hneq := fun w => neq_dyad x0 x1 x2 x3 x4 w
      have hcl : j < c1 := by omega
      have hcl' : j < c2 := by omega
      have zb1 := fun k => cell_of_row _ _ k _ _ _ hbb1
      have zb2 := fun k => cell_of_row _ _ k _ _ _ hbb2
      have lb1 := (Array.getElem?_eq_some_iff.1 hbb1).1
      have lb2 := (Array.getElem?_eq_some_iff.1 hbb2).1
      clear hbb1 hbb2 hE1 hE
      go_wp2
      refine wp_region_madeC (m := 45) (by kernel_rfl) (by kernel_rfl) rfl (fun hxc => ?_)
      repeat (refine mw_quiet ?_; apply Exists.intro; refine ⟨fun σ => ?_, ?_⟩; (first | (go_simp; rfl) | fail); simp only [Act.put, List.setIfInBounds_toArray, List.set_cons_succ, List.set_cons_zero, List.nil_append, List.cons_append])
      refine ⟨by kernel_rfl, fun σ w6 hF6 => ?_⟩
      have hx6 := hF6.ext
      clear hF6 hxc
      obtain ⟨hc6, hf6⟩ := hx6.cells
      have hz6 := hx6.size
      try simp at hz6
      clear hneq
      go_wp2
      go_roundw
      case rel => exact ⟨j + 1, by omega, by go_num, HE1'.out.trans hx6⟩
      case measure => simp [RowKit.intOf]; omega
    · obtain rfl : n = j := by omega
      clear HH HH2 HLEN
      go_wp2
      go_ret
      exact ⟨rfl, hE⟩

set_option maxRecDepth 20000 in
set_option maxHeartbeats 4000000 in
theorem qExact_any (q : Nat) {v1 v2 : Value} {n m : Nat} {xs ys : List Int} (hx : cOk q xs n = true) (hy : cOk q ys m = true) (hO : q ≤ 3 → opB q xs n = true ∧ opB q ys m = true ∧ opL q xs n = opL q ys m) (w : World) (h1 : RV w 3 v1 n xs) (h2 : RV w 3 v2 m ys) :
    Calls Try.prog 12 #[.agg #[.int .i64 q, v1], .agg #[.int .i64 q, v2]] w fun e w' => e = .returned (.bool true) ∧ Ext w w' := by
  by_cases h3 : q ≤ 3
  case neg =>
    have h3' : (3 : Int) < q := by omega
    obtain ⟨_, a1, c1, rfl, _⟩ := h1
    obtain ⟨_, a2, c2, rfl, _⟩ := h2
    clear hO
    go_enter Try.func12, Try.ntmps12
    go_wp2
    go_ret
    exact ⟨rfl, (by repeat (first | exact Ext.refl _ | assumption | refine Ext.alloc ?_ _ | refine Ext.drew ?_ | refine Ext.drewN ?_ _ | refine Ext.setCell ?_ (by first | omega | (dsimp only; omega) | (simp; done) | (simp; omega)) _ | refine Ext.trans ?_ (by assumption)))⟩
  have h3' : ¬ ((3 : Int) < q) := by omega
  obtain ⟨o1, o2, o3⟩ := hO h3
  have q1 := (cOk_q1 hx).1
  have HA := fun w' (hx' : Ext w w') => Lib.hid (operatorOf_any q h3 hx w' (h1.ext hx'))
  have HB := fun w' (hx' : Ext w w') => Lib.hid (operatorOf_any q h3 hy w' (h2.ext hx'))
  have hNN : 2 ^ q * 2 ^ q ≤ 64 := by have := (dim_q q1 h3).2; exact Nat.mul_le_mul this this
  have HE := fun (v1 v2 : Value) (w' : World) r1 r2 => Lib.hid (equalMatrices_same ((2 ^ q : Nat) : Int) ((2 ^ q : Nat) : Int) (v1 := v1) (v2 := v2) (n := 2 ^ q * 2 ^ q) (xs := opL q ys m) (by omega) w' r1 r2)
  have hl := opL_len q ys m
  unfold OpPost at HA HB
  rw [o1] at HA
  rw [o2] at HB
  rw [o3] at HA
  generalize opL q ys m = L at *
  generalize 2 ^ q * 2 ^ q = NN at *
  generalize 2 ^ q = N at *
  obtain ⟨_, a1, c1, rfl, _⟩ := h1
  obtain ⟨_, a2, c2, rfl, _⟩ := h2
  clear o1 o2 o3 hO
  go_enter Try.func12, Try.ntmps12
  go_wp2_with fail
  refine (HA _ (by repeat (first | exact Ext.refl _ | assumption | refine Ext.alloc ?_ _ | refine Ext.drew ?_ | refine Ext.drewN ?_ _ | refine Ext.setCell ?_ (by first | omega | (dsimp only; omega) | (simp; done) | (simp; omega)) _ | refine Ext.trans ?_ (by assumption)))).out.mono ?_
  rintro e w1 ⟨r1, k1, b1, n1, d1, rfl, hp1, hx1⟩
  obtain ⟨rfl, rfl, hw1⟩ := hp1 trivial
  obtain ⟨hc1, hf1⟩ := hx1.cells
  have hz1 := hx1.size
  try simp at hz1
  have hs1_0 := sz2 (a := w.heap.size) (b := w1.heap.size) (by omega)
  obtain ⟨_, _, hs1, _, _, _⟩ := own_shape hw1
  cases hs1
  have O1 := Lib.hid hw1
  clear hw1
  go_wp2_with fail
  refine (HB _ (by repeat (first | exact Ext.refl _ | assumption | refine Ext.alloc ?_ _ | refine Ext.drew ?_ | refine Ext.drewN ?_ _ | refine Ext.setCell ?_ (by first | omega | (dsimp only; omega) | (simp; done) | (simp; omega)) _ | refine Ext.trans ?_ (by assumption)))).out.mono ?_
  rintro e w2 ⟨r2, k2, b2, n2, d2, rfl, hp2, hx2⟩
  obtain ⟨rfl, rfl, hw2⟩ := hp2 trivial
  obtain ⟨hc2, hf2⟩ := hx2.cells
  have hz2 := hx2.size
  try simp at hz2
  have hs2_0 := sz2 (a := w.heap.size) (b := w2.heap.size) (by omega)
  have hs2_1 := sz1 (a := w1.heap.size) (b := w2.heap.size) (by omega)
  obtain ⟨_, _, hs2, _, _, _⟩ := own_shape hw2
  cases hs2
  have O2 := Lib.hid hw2
  clear hw2
  go_wp2_with fail
  refine (HE _ _ _ ?_ ?_).out.mono ?_
  · exact RV.own (own_ext (own_ext O1.out ((Ext.alloc (Ext.refl _) _).trans hx2)) (Ext.alloc (Ext.refl _) _)) hl
  · exact RV.own (own_ext O2.out (Ext.alloc (Ext.refl _) _)) hl
  rintro e w3 ⟨rfl, hx3⟩
  go_wp2
  go_ret
  exact ⟨rfl, (by repeat (first | exact Ext.refl _ | assumption | refine Ext.alloc ?_ _ | refine Ext.drew ?_ | refine Ext.drewN ?_ _ | refine Ext.setCell ?_ (by first | omega | (dsimp only; omega) | (simp; done) | (simp; omega)) _ | refine Ext.trans ?_ (by assumption)))⟩

end Go.Proofs.Ytbddgeoaaklgpaa
