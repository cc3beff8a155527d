/- Draws of numbers of the ring and of dyadic numbers. -/
import Derived.Test.YtamiploliebplaaDoorDrw
import Derived.Test.YtamiploliebplaaDoorDyA
namespace Go.Proofs.YtamiploliebplaaDoor
open Go.RowKit Go.Lib
set_option linter.unusedVariables false
set_option linter.unusedSimpArgs false

theorem CU.set {B : Nat} {v : Value} {n : Nat} {a : Int} {w : World} (h : CU B v n a w) {p : Addr} (hp : B < p.block) (u : Value) : CU B v n a (w.setCell p u) := by
  have hl := h.lt
  obtain ⟨h1, s, h2⟩ := h
  exact ⟨h1.gx (by omega) ((GX.refl [p.block] w).setCell (.inl (by simp)) u) (by simp; omega), s, heap_set_ne (by omega) h2⟩
theorem CU.box {B : Nat} {v : Value} {n : Nat} {a : Int} {w : World} (h : CU B v n a w) (o : Obj) : CU B v n a (w.alloc o) := h.keep ((Ext.refl w).alloc o)
theorem CU.drew {B : Nat} {v : Value} {n : Nat} {a : Int} {w : World} (h : CU B v n a w) : CU B v n a w.drew := h.keep (Ext.refl w).drew
/-- a box laid ahead of a cursor's call stands -/
theorem box_kept {B : Nat} {w w' : World} {c : Array Value} {t : TypeId} (hl : B < w.heap.size) (h : GX [B] (w.alloc (.cells c t)) w') : w'.heap[w.heap.size]? = some (.cells c t (0, 0)) :=
  (h.heap (by simp) (by simp; omega)).trans (heap_alloc_new _ _)

set_option maxHeartbeats 1000000 in
theorem curRing_any (B : Nat) (v : Value) (n : Nat) (at' : Int) (w : World) (h : CU B v n at' w) (ha : 0 ≤ at' ∧ at' ≤ 800000000) :
    Calls Tryd.prog 83 #[.pointer (some ⟨B, 0, none⟩)] w fun e w' => ∃ a b c d at2 : Int, e = .returned (.agg #[.int .i64 a, .int .i64 b, .int .i64 c, .int .i64 d]) ∧ (-4 ≤ a ∧ a ≤ 4) ∧ (-4 ≤ b ∧ b ≤ 4) ∧ (-4 ≤ c ∧ c ≤ 4) ∧ (-4 ≤ d ∧ d ≤ 4) ∧ at' ≤ at2 ∧ at2 ≤ at' + 8 ∧ w.grownBy w' (some B) ∧ CU B v n at2 w' := by
  have hl := h.lt
  have HC := Lib.hid h
  have hP := fun a w' (hc : CU B v n a w') (hb : 0 ≤ a ∧ a ≤ 900000000) => Lib.hid (pick_any B v n a 9 w' hc hb (by omega))
  clear h
  go_enter Tryd.func83, Tryd.ntmps83
  go_wp2_with fail
  refine ((hP _ _ (HC.out.box _) (by omega)).out).mono ?_
  rintro e w1 ⟨y1, a1, rfl, p1, q1, r1, s1, hg1, hc1⟩
  have HC1 := Lib.hid hc1
  have HG1 := Lib.hid ((GX.refl [B] _).trans (GX.ofGrown hg1))
  clear hg1 hc1
  go_wp2_with fail
  refine ((hP _ _ HC1.out (by omega)).out).mono ?_
  rintro e w2 ⟨y2, a2, rfl, p2, q2, r2, s2, hg2, hc2⟩
  have HC2 := Lib.hid hc2
  have HG2 := Lib.hid ((HG1.out).trans (GX.ofGrown hg2))
  clear hg2 hc2
  go_wp2_with fail
  refine ((hP _ _ HC2.out (by omega)).out).mono ?_
  rintro e w3 ⟨y3, a3, rfl, p3, q3, r3, s3, hg3, hc3⟩
  have HC3 := Lib.hid hc3
  have HG3 := Lib.hid ((HG2.out).trans (GX.ofGrown hg3))
  clear hg3 hc3
  go_wp2_with fail
  refine ((hP _ _ HC3.out (by omega)).out).mono ?_
  rintro e w4 ⟨y4, a4, rfl, p4, q4, r4, s4, hg4, hc4⟩
  have HC4 := Lib.hid hc4
  have HG4 := Lib.hid ((HG3.out).trans (GX.ofGrown hg4))
  clear hg4 hc4
  have u1 : y1 ≤ 8 := by omega
  have u2 : y2 ≤ 8 := by omega
  have u3 : y3 ≤ 8 := by omega
  have u4 : y4 ≤ 8 := by omega
  clear q1 q2 q3 q4
  have hbx := box_kept hl HG4.out
  have hcx : ∀ k, World.cell? w4 ⟨w.heap.size, k, none⟩ = (#[.int .i64 0, .int .i64 0, .int .i64 0, .int .i64 0] : Array Value)[k]? := fun k => cell_of_row _ _ _ _ _ _ hbx
  have hfx : ∀ k, World.frozen? w4 ⟨w.heap.size, k, none⟩ = false := fun k => frozen_of_row _ _ _ _ _ hbx
  have hsx : w.heap.size < (w4).heap.size := (Array.getElem?_eq_some_iff.1 hbx).1
  clear hbx
  go_wp2
  refine bodyPost_ret (v := .agg #[.int .i64 (y1 - 4), .int .i64 (y2 - 4), .int .i64 (y3 - 4), .int .i64 (y4 - 4)]) (by simp [results, Tryd.results83, go_sem, *]) rfl ?_
  refine ⟨_, _, _, _, a4, rfl, by omega, by omega, by omega, by omega, by omega, by omega, GX.toGrown ?_, ?_⟩
  · have hg : GX [B] w w4 := ((GX.refl [B] w).alloc _).trans HG4.out
    exact (by repeat (first | (with_reducible refine GX.setCell ?_ (by first | (simp; done) | (simp; omega)) _) | with_reducible refine GX.alloc ?_ _ | with_reducible refine GX.drew ?_ | with_reducible refine GX.drewN ?_ _ | with_reducible assumption | with_reducible exact GX.refl _ _ | with_reducible refine GX.ext ?_ (by with_reducible assumption) | with_reducible refine GX.trans ?_ (by with_reducible assumption)))
  · exact (((HC4.out.set (by exact hl) _).set (by exact hl) _).set (by exact hl) _).set (by exact hl) _

/-- a coefficient -/
theorem coef_any (B : Nat) (v : Value) (n : Nat) (at' : Int) (w : World) (h : CU B v n at' w) (ha : 0 ≤ at' ∧ at' ≤ 800000000) :
    Calls Tryd.prog 97 #[.pointer (some ⟨B, 0, none⟩)] w fun e w' => ∃ a at2 : Int, e = .returned (.int .i64 a) ∧ (-2000000000 ≤ a ∧ a ≤ 2000000000) ∧ at' ≤ at2 ∧ at2 ≤ at' + 4 ∧ w.grownBy w' (some B) ∧ CU B v n at2 w' := by
  have hl := h.lt
  have HC := Lib.hid h
  have hP := fun a m w' (hc : CU B v n a w') (hb : 0 ≤ a ∧ a ≤ 900000000) (hm : m ≤ 65536) => Lib.hid (pick_any B v n a m w' hc hb hm)
  clear h
  go_enter Tryd.func97, Tryd.ntmps97
  go_wp2_with fail
  refine ((hP _ _ _ HC.out (by omega) (by omega)).out).mono ?_
  rintro e w1 ⟨y, a1, rfl, p1, q1, r1, s1, hg1, hc1⟩
  have HC1 := Lib.hid hc1
  have HG1 := Lib.hid ((GX.refl [B] _).trans (GX.ofGrown hg1))
  clear hg1 hc1
  have u1 : y < 24 := by omega
  have hl1 := HC1.out.lt
  clear q1
  by_cases h0 : y = 0
  · have k0 : (y == 0) = true := by simpa using h0
    clear h0
    go_wp2_with fail
    refine (among_any B _ n a1 _ (HC1.out.box _) (by omega) w1.heap.size 4 4 [1000000000, -1000000000, 1000000001, -1000000001] (by omega) (by omega) (by omega) (by simp) (fun i hi => lit_cells [1000000000, -1000000000, 1000000001, -1000000001] i hi)).mono ?_
    rintro e w2 ⟨i, a2, hi, rfl, r2, s2, hg2, hc2⟩
    have HC2 := Lib.hid hc2
    have HG2 := Lib.hid ((HG1.out.alloc _).trans (GX.ofGrown hg2))
    clear hg2 hc2
    have hv : -2000000000 ≤ List.getD [1000000000, -1000000000, 1000000001, -1000000001] i (0 : Int) ∧ List.getD [1000000000, -1000000000, 1000000001, -1000000001] i (0 : Int) ≤ 2000000000 := by
      have hi' : i = 0 ∨ i = 1 ∨ i = 2 ∨ i = 3 := by omega
      rcases hi' with rfl | rfl | rfl | rfl <;> decide
    generalize List.getD [1000000000, -1000000000, 1000000001, -1000000001] i (0 : Int) = z at *
    go_wp2
    go_ret
    exact ⟨_, a2, rfl, hv, by omega, by omega, HG2.out.toGrown, HC2.out⟩
  have k0 : (y == 0) = false := by simpa using h0
  by_cases h1 : y = 1
  · have k1 : (y == 1) = true := by simpa using h1
    clear h0 h1
    go_wp2_with fail
    refine ((hP _ _ _ HC1.out (by omega) (by omega)).out).mono ?_
    rintro e w2 ⟨z, a2, rfl, p2, q2, r2, s2, hg2, hc2⟩
    have HC2 := Lib.hid hc2
    have HG2 := Lib.hid ((HG1.out).trans (GX.ofGrown hg2))
    clear hg2 hc2
    have u2 : z ≤ 60000 := by omega
    clear q2
    go_wp2
    go_ret
    exact ⟨_, a2, rfl, by omega, by omega, by omega, HG2.out.toGrown, HC2.out⟩
  have k1 : (y == 1) = false := by simpa using h1
  by_cases h2 : y = 2
  · have k2 : (y == 2) = true := by simpa using h2
    clear h0 h1 h2
    go_wp2_with fail
    refine ((hP _ _ _ HC1.out (by omega) (by omega)).out).mono ?_
    rintro e w2 ⟨z, a2, rfl, p2, q2, r2, s2, hg2, hc2⟩
    have HC2 := Lib.hid hc2
    have HG2 := Lib.hid ((HG1.out).trans (GX.ofGrown hg2))
    clear hg2 hc2
    have u2 : z ≤ 60000 := by omega
    clear q2
    go_wp2
    go_ret
    exact ⟨_, a2, rfl, by omega, by omega, by omega, HG2.out.toGrown, HC2.out⟩
  have k2 : (y == 2) = false := by simpa using h2
  by_cases h3 : y = 3
  · have k3 : (y == 3) = true := by simpa using h3
    clear h0 h1 h2 h3
    go_wp2_with fail
    refine ((hP _ _ _ HC1.out (by omega) (by omega)).out).mono ?_
    rintro e w2 ⟨z, a2, rfl, p2, q2, r2, s2, hg2, hc2⟩
    have HC2 := Lib.hid hc2
    have HG2 := Lib.hid ((HG1.out).trans (GX.ofGrown hg2))
    clear hg2 hc2
    have u2 : z ≤ 60000 := by omega
    clear q2
    go_wp2
    go_ret
    exact ⟨_, a2, rfl, by omega, by omega, by omega, HG2.out.toGrown, HC2.out⟩
  have k3 : (y == 3) = false := by simpa using h3
  clear h0 h1 h2 h3
  go_wp2_with fail
  refine ((hP _ _ _ HC1.out (by omega) (by omega)).out).mono ?_
  rintro e w2 ⟨z, a2, rfl, p2, q2, r2, s2, hg2, hc2⟩
  have HC2 := Lib.hid hc2
  have HG2 := Lib.hid ((HG1.out).trans (GX.ofGrown hg2))
  clear hg2 hc2
  have u2 : z ≤ 60000 := by omega
  clear q2
  go_wp2
  go_ret
  exact ⟨_, a2, rfl, by omega, by omega, by omega, HG2.out.toGrown, HC2.out⟩

set_option maxHeartbeats 1000000 in
theorem anyRing_any (B : Nat) (v : Value) (n : Nat) (at' : Int) (w : World) (h : CU B v n at' w) (ha : 0 ≤ at' ∧ at' ≤ 700000000) :
    Calls Tryd.prog 84 #[.pointer (some ⟨B, 0, none⟩)] w fun e w' => ∃ a b c d at2 : Int, e = .returned (.agg #[.int .i64 a, .int .i64 b, .int .i64 c, .int .i64 d]) ∧ at' ≤ at2 ∧ at2 ≤ at' + 18 ∧ w.grownBy w' (some B) ∧ CU B v n at2 w' := by
  have hl := h.lt
  have HC := Lib.hid h
  have hO := fun a w' (hc : CU B v n a w') (hb : 0 ≤ a ∧ a ≤ 900000000) => Lib.hid (one_any B v n a 3 w' hc hb (by omega))
  have hP := fun a w' (hc : CU B v n a w') (hb : 0 ≤ a ∧ a ≤ 800000000) => Lib.hid (coef_any B v n a w' hc hb)
  have hR := fun a w' (hc : CU B v n a w') (hb : 0 ≤ a ∧ a ≤ 800000000) => Lib.hid (curRing_any B v n a w' hc hb)
  clear h
  go_enter Tryd.func84, Tryd.ntmps84
  go_wp2_with fail
  refine ((hO _ _ (HC.out.box _) (by omega)).out).mono ?_
  rintro e w0 ⟨y, a0, rfl, r0, s0, hg0, hc0⟩
  have HC0 := Lib.hid hc0
  have HG0 := Lib.hid ((GX.refl [B] _).trans (GX.ofGrown hg0))
  clear hg0 hc0
  cases y
  · go_wp2_with fail
    refine ((hR _ _ HC0.out (by omega)).out).mono ?_
    rintro e w1 ⟨y1, y2, y3, y4, a1, rfl, p1, p2, p3, p4, r1, s1, hg1, hc1⟩
    have HC1 := Lib.hid hc1
    have HG1 := Lib.hid ((HG0.out).trans (GX.ofGrown hg1))
    clear hg1 hc1
    have hbx := box_kept hl HG1.out
    have hcx : ∀ k, World.cell? w1 ⟨w.heap.size, k, none⟩ = (#[.int .i64 0, .int .i64 0, .int .i64 0, .int .i64 0] : Array Value)[k]? := fun k => cell_of_row _ _ _ _ _ _ hbx
    have hfx : ∀ k, World.frozen? w1 ⟨w.heap.size, k, none⟩ = false := fun k => frozen_of_row _ _ _ _ _ hbx
    have hsx : w.heap.size < (w1).heap.size := (Array.getElem?_eq_some_iff.1 hbx).1
    clear hbx
    go_wp2
    refine bodyPost_ret (v := .agg #[.int .i64 y1, .int .i64 y2, .int .i64 y3, .int .i64 y4]) (by simp [results, Tryd.results84, go_sem, *]) rfl ?_
    refine ⟨_, _, _, _, a1, rfl, by omega, by omega, GX.toGrown ?_, ?_⟩
    · have hg : GX [B] w w1 := ((GX.refl [B] w).alloc _).trans HG1.out
      exact (by repeat (first | (with_reducible refine GX.setCell ?_ (by first | (simp; done) | (simp; omega)) _) | with_reducible refine GX.alloc ?_ _ | with_reducible refine GX.drew ?_ | with_reducible refine GX.drewN ?_ _ | with_reducible assumption | with_reducible exact GX.refl _ _ | with_reducible refine GX.ext ?_ (by with_reducible assumption) | with_reducible refine GX.trans ?_ (by with_reducible assumption)))
    · exact (((HC1.out.set (by exact hl) _).set (by exact hl) _).set (by exact hl) _).set (by exact hl) _
  · go_wp2_with fail
    refine ((hP _ _ HC0.out (by omega)).out).mono ?_
    rintro e w1 ⟨y1, a1, rfl, p1, r1, s1, hg1, hc1⟩
    have HC1 := Lib.hid hc1
    have HG1 := Lib.hid ((HG0.out).trans (GX.ofGrown hg1))
    clear hg1 hc1
    go_wp2_with fail
    refine ((hP _ _ HC1.out (by omega)).out).mono ?_
    rintro e w2 ⟨y2, a2, rfl, p2, r2, s2, hg2, hc2⟩
    have HC2 := Lib.hid hc2
    have HG2 := Lib.hid ((HG1.out).trans (GX.ofGrown hg2))
    clear hg2 hc2
    go_wp2_with fail
    refine ((hP _ _ HC2.out (by omega)).out).mono ?_
    rintro e w3 ⟨y3, a3, rfl, p3, r3, s3, hg3, hc3⟩
    have HC3 := Lib.hid hc3
    have HG3 := Lib.hid ((HG2.out).trans (GX.ofGrown hg3))
    clear hg3 hc3
    go_wp2_with fail
    refine ((hP _ _ HC3.out (by omega)).out).mono ?_
    rintro e w4 ⟨y4, a4, rfl, p4, r4, s4, hg4, hc4⟩
    have HC4 := Lib.hid hc4
    have HG4 := Lib.hid ((HG3.out).trans (GX.ofGrown hg4))
    clear hg4 hc4
    have hbx := box_kept hl HG4.out
    have hcx : ∀ k, World.cell? w4 ⟨w.heap.size, k, none⟩ = (#[.int .i64 0, .int .i64 0, .int .i64 0, .int .i64 0] : Array Value)[k]? := fun k => cell_of_row _ _ _ _ _ _ hbx
    have hfx : ∀ k, World.frozen? w4 ⟨w.heap.size, k, none⟩ = false := fun k => frozen_of_row _ _ _ _ _ hbx
    have hsx : w.heap.size < (w4).heap.size := (Array.getElem?_eq_some_iff.1 hbx).1
    clear hbx
    go_wp2
    refine bodyPost_ret (v := .agg #[.int .i64 y1, .int .i64 y2, .int .i64 y3, .int .i64 y4]) (by simp [results, Tryd.results84, go_sem, *]) rfl ?_
    refine ⟨_, _, _, _, a4, rfl, by omega, by omega, GX.toGrown ?_, ?_⟩
    · have hg : GX [B] w w4 := ((GX.refl [B] w).alloc _).trans HG4.out
      exact (by repeat (first | (with_reducible refine GX.setCell ?_ (by first | (simp; done) | (simp; omega)) _) | with_reducible refine GX.alloc ?_ _ | with_reducible refine GX.drew ?_ | with_reducible refine GX.drewN ?_ _ | with_reducible assumption | with_reducible exact GX.refl _ _ | with_reducible refine GX.ext ?_ (by with_reducible assumption) | with_reducible refine GX.trans ?_ (by with_reducible assumption)))
    · exact (((HC4.out.set (by exact hl) _).set (by exact hl) _).set (by exact hl) _).set (by exact hl) _

theorem rg_small {a b c d : Int} (h1 : -4 ≤ a ∧ a ≤ 4) (h2 : -4 ≤ b ∧ b ≤ 4) (h3 : -4 ≤ c ∧ c ≤ 4) (h4 : -4 ≤ d ∧ d ≤ 4) : (R4.mk a b c d).rg = true := by
  show Rg a b c d = true
  exact Rg_mk ⟨by omega, by omega, by omega, by omega⟩

set_option maxHeartbeats 1000000 in
theorem curDyadic_any (B : Nat) (v : Value) (n : Nat) (at' : Int) (w : World) (h : CU B v n at' w) (ha : 0 ≤ at' ∧ at' ≤ 700000000) :
    Calls Tryd.prog 51 #[.pointer (some ⟨B, 0, none⟩)] w fun e w' => ∃ a b c d k at2 : Int, e = .returned (.agg #[.int .i64 a, .int .i64 b, .int .i64 c, .int .i64 d, .int .i64 k]) ∧ at' ≤ at2 ∧ at2 ≤ at' + 10 ∧ w.grownBy w' (some B) ∧ CU B v n at2 w' := by
  have hl := h.lt
  have HC := Lib.hid h
  have hP := fun a w' (hc : CU B v n a w') (hb : 0 ≤ a ∧ a ≤ 900000000) => Lib.hid (pick_any B v n a 5 w' hc hb (by omega))
  have hR := fun a w' (hc : CU B v n a w') (hb : 0 ≤ a ∧ a ≤ 800000000) => Lib.hid (curRing_any B v n a w' hc hb)
  clear h
  go_enter Tryd.func51, Tryd.ntmps51
  go_wp2_with fail
  refine ((hR _ _ (HC.out.box _) (by omega)).out).mono ?_
  rintro e w1 ⟨y1, y2, y3, y4, a1, rfl, p1, p2, p3, p4, r1, s1, hg1, hc1⟩
  have HC1 := Lib.hid hc1
  have HG1 := Lib.hid ((GX.refl [B] _).trans (GX.ofGrown hg1))
  clear hg1 hc1
  go_wp2_with fail
  refine ((hP _ _ HC1.out (by omega)).out).mono ?_
  rintro e w2 ⟨z, a2, rfl, pz, q2, r2, s2, hg2, hc2⟩
  have HC2 := Lib.hid hc2
  have HG2 := Lib.hid ((HG1.out).trans (GX.ofGrown hg2))
  clear hg2 hc2
  obtain ⟨k, rfl⟩ : ∃ k : Nat, z = k := ⟨z.toNat, by omega⟩
  have hk : k ≤ 60 := by omega
  clear q2 pz
  have HL := Lib.hid (l2Low_any k hk ⟨y1, y2, y3, y4⟩ (rg_small p1 p2 p3 p4))
  generalize lowX k ⟨y1, y2, y3, y4⟩ = Q at *
  generalize lowE k ⟨y1, y2, y3, y4⟩ = q at *
  go_wp2_with fail
  refine (HL.out w2).mono ?_
  rintro e w3 ⟨rfl, hx3⟩
  have HC3 : Hid (CU B v n a2 w3) := HC2.out.keep hx3
  have HG3 : Hid (GX [B] _ w3) := HG2.out.ext hx3
  clear hx3
  have hbx := box_kept hl HG3.out
  have hcx : ∀ k, World.cell? w3 ⟨w.heap.size, k, none⟩ = (#[.int .i64 0, .int .i64 0, .int .i64 0, .int .i64 0, .int .i64 0] : Array Value)[k]? := fun k => cell_of_row _ _ _ _ _ _ hbx
  have hfx : ∀ k, World.frozen? w3 ⟨w.heap.size, k, none⟩ = false := fun k => frozen_of_row _ _ _ _ _ hbx
  have hsx : w.heap.size < (w3).heap.size := (Array.getElem?_eq_some_iff.1 hbx).1
  clear hbx
  go_wp2
  refine bodyPost_ret (v := .agg #[.int .i64 Q.a, .int .i64 Q.b, .int .i64 Q.c, .int .i64 Q.d, .int .i64 q]) (by simp [results, Tryd.results51, go_sem, *]) rfl ?_
  refine ⟨_, _, _, _, _, a2, rfl, by omega, by omega, GX.toGrown ?_, ?_⟩
  · have hg : GX [B] w w3 := ((GX.refl [B] w).alloc _).trans HG3.out
    exact (by repeat (first | (with_reducible refine GX.setCell ?_ (by first | (simp; done) | (simp; omega)) _) | with_reducible refine GX.alloc ?_ _ | with_reducible refine GX.drew ?_ | with_reducible refine GX.drewN ?_ _ | with_reducible assumption | with_reducible exact GX.refl _ _ | with_reducible refine GX.ext ?_ (by with_reducible assumption) | with_reducible refine GX.trans ?_ (by with_reducible assumption)))
  · exact ((((HC3.out.set (by exact hl) _).set (by exact hl) _).set (by exact hl) _).set (by exact hl) _).set (by exact hl) _

end Go.Proofs.YtamiploliebplaaDoor
