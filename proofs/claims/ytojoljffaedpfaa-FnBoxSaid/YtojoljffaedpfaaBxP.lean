/- Boxes: the program's BoxPoints. -/
import Derived.Test.YtojoljffaedpfaaBxZ
import Derived.Test.YtojoljffaedpfaaBxS
import Derived.Test.YtojoljffaedpfaaGrdP
namespace Go.Proofs.Ytojoljffaedpfaa
open Go.RowKit Go.Lib
set_option linter.unusedVariables false
set_option linter.unusedSimpArgs false

theorem gx_grown {S : List Nat} {a b c : World} {row : Option Nat} (h : GX S a b) (hg : b.grownBy c row) (hr : ∀ k, row = some k → k ∈ S ∨ a.heap.size ≤ k) : GX S a c := by
  refine ⟨hg.os.trans h.os, hg.tape.trans h.tape, hg.output.trans h.output, Nat.le_trans h.size hg.size, fun k hk hn => ?_⟩
  have hkb : k < b.heap.size := Nat.lt_of_lt_of_le hk h.size
  rw [hg.block k hkb (fun e => by rcases hr k e.symm with h1 | h1; exact hn h1; omega)]
  exact h.block k hk hn
theorem bd4_of : ∀ {L : List Q4}, (∀ x ∈ L, Bn4 x) → ∃ d : Array Bd4, valsR d = L ∧ d.size = L.length
  | [], _ => ⟨#[], rfl, rfl⟩
  | x :: L, h => by
    obtain ⟨d, h1, h2⟩ := bd4_of (L := L) (fun y hy => h y (List.mem_cons_of_mem _ hy))
    have hx := h x (List.mem_cons_self ..)
    obtain ⟨y, hy⟩ : ∃ y : Bd4, y.1 = x := ⟨⟨x, hx⟩, rfl⟩
    have h3 : List.map (fun x : Bd4 => x.1) d.toList = L := h1
    refine ⟨(y :: d.toList).toArray, ?_, ?_⟩
    · show List.map (fun x : Bd4 => x.1) (y :: d.toList) = _
      rw [List.map_cons, h3, hy]
    · show (y :: d.toList).length = _
      rw [List.length_cons, List.length_cons, Array.length_toList, h2]
/-- a row's element -/
theorem fl2_at {M : List (Int × Int)} {j : Nat} (h : j < M.length) : M[j] = (at3 (fl2 M) (j * 2), at3 (fl2 M) (j * 2 + 1)) := by
  rw [(at3_fl2 M j h).1, (at3_fl2 M j h).2]
theorem evn_yes {p q r s : Int} (h : (q + s).tmod 2 = 0) : evn (p, q) (r, s) = true := by unfold evn; rw [decide_eq_true_eq]; exact h
theorem evn_no {p q r s : Int} (h : ¬ (q + s).tmod 2 = 0) : evn (p, q) (r, s) = false := by unfold evn; rw [decide_eq_false_iff_not]; exact h

set_option maxRecDepth 20000 in
set_option maxHeartbeats 8000000 in
theorem boxPoints_any (a1 a2 a3 b1 b2 b3 c1 c2 c3 d1 d2 d3 : Int) (w : World) :
    Calls Try.prog 19 #[.agg #[.int .i64 a1, .int .i64 a2, .int .i64 a3], .agg #[.int .i64 b1, .int .i64 b2, .int .i64 b3], .agg #[.int .i64 c1, .int .i64 c2, .int .i64 c3], .agg #[.int .i64 d1, .int .i64 d2, .int .i64 d3]] w fun e w' => ∃ v, e = .returned (.tuple #[v, .bool (brOk a1 a2 a3 b1 b2 b3 c1 c2 c3 d1 d2 d3)]) ∧
      w'.ownsRow w.heap.size 51 4 v (brV a1 a2 a3 b1 b2 b3 c1 c2 c3 d1 d2 d3).length (IL (fl4 (brV a1 a2 a3 b1 b2 b3 c1 c2 c3 d1 d2 d3))) ∧ Ext w w' := by
  have HNO : Hid (brOk a1 a2 a3 b1 b2 b3 c1 c2 c3 d1 d2 d3 = false → brV a1 a2 a3 b1 b2 b3 c1 c2 c3 d1 d2 d3 = []) := brV_no
  cases g1 : Sid a1 a2 a3
  · have HN : Hid (brOk a1 a2 a3 b1 b2 b3 c1 c2 c3 d1 d2 d3 = false) := by unfold Hid brOk; rw [g1]; simp
    have HN2 := Lib.hid (HNO.out HN.out)
    have HV1 := fun w => Lib.hid (isSide_any a1 a2 a3 w)
    rw [g1] at HV1
    clear HNO g1
    go_enter Try.func19, Try.ntmps19
    go_wp2_with fail
    refine ((HV1 _).out).mono ?_
    rintro e w1 ⟨rfl, hx1⟩
    obtain ⟨hc1, hf1⟩ := hx1.cells
    have hz1 := hx1.size
    try simp at hz1
    have hs1_0 := sz4 (a := w.heap.size) (b := w1.heap.size) (by omega)
    go_wp2
    go_ret2
    rw [HN.out, HN2.out]
    exact ⟨_, rfl, own_nil _ _ _ _, (by repeat (first | (with_reducible refine Ext.setCell ?_ (by first | (simp; done) | (simp; omega)) _) | with_reducible refine Ext.alloc ?_ _ | with_reducible refine Ext.drew ?_ | with_reducible refine Ext.drewN ?_ _ | with_reducible assumption | with_reducible exact Ext.refl _ | with_reducible refine Ext.trans ?_ (by with_reducible assumption)))⟩
  cases g2 : Sid b1 b2 b3
  · have HN : Hid (brOk a1 a2 a3 b1 b2 b3 c1 c2 c3 d1 d2 d3 = false) := by unfold Hid brOk; rw [g1, g2]; simp
    have HN2 := Lib.hid (HNO.out HN.out)
    have HV1 := fun w => Lib.hid (isSide_any a1 a2 a3 w)
    rw [g1] at HV1
    have HV2 := fun w => Lib.hid (isSide_any b1 b2 b3 w)
    rw [g2] at HV2
    clear HNO g1 g2
    go_enter Try.func19, Try.ntmps19
    go_wp2_with fail
    refine ((HV1 _).out).mono ?_
    rintro e w1 ⟨rfl, hx1⟩
    obtain ⟨hc1, hf1⟩ := hx1.cells
    have hz1 := hx1.size
    try simp at hz1
    have hs1_0 := sz4 (a := w.heap.size) (b := w1.heap.size) (by omega)
    go_wp2_with fail
    refine ((HV2 _).out).mono ?_
    rintro e w2 ⟨rfl, hx2⟩
    obtain ⟨hc2, hf2⟩ := hx2.cells
    have hz2 := hx2.size
    try simp at hz2
    have hs2_0 := sz4 (a := w.heap.size) (b := w2.heap.size) (by omega)
    go_wp2
    go_ret2
    rw [HN.out, HN2.out]
    exact ⟨_, rfl, own_nil _ _ _ _, (by repeat (first | (with_reducible refine Ext.setCell ?_ (by first | (simp; done) | (simp; omega)) _) | with_reducible refine Ext.alloc ?_ _ | with_reducible refine Ext.drew ?_ | with_reducible refine Ext.drewN ?_ _ | with_reducible assumption | with_reducible exact Ext.refl _ | with_reducible refine Ext.trans ?_ (by with_reducible assumption)))⟩
  cases g3 : Sid c1 c2 c3
  · have HN : Hid (brOk a1 a2 a3 b1 b2 b3 c1 c2 c3 d1 d2 d3 = false) := by unfold Hid brOk; rw [g1, g2, g3]; simp
    have HN2 := Lib.hid (HNO.out HN.out)
    have HV1 := fun w => Lib.hid (isSide_any a1 a2 a3 w)
    rw [g1] at HV1
    have HV2 := fun w => Lib.hid (isSide_any b1 b2 b3 w)
    rw [g2] at HV2
    have HV3 := fun w => Lib.hid (isSide_any c1 c2 c3 w)
    rw [g3] at HV3
    clear HNO g1 g2 g3
    go_enter Try.func19, Try.ntmps19
    go_wp2_with fail
    refine ((HV1 _).out).mono ?_
    rintro e w1 ⟨rfl, hx1⟩
    obtain ⟨hc1, hf1⟩ := hx1.cells
    have hz1 := hx1.size
    try simp at hz1
    have hs1_0 := sz4 (a := w.heap.size) (b := w1.heap.size) (by omega)
    go_wp2_with fail
    refine ((HV2 _).out).mono ?_
    rintro e w2 ⟨rfl, hx2⟩
    obtain ⟨hc2, hf2⟩ := hx2.cells
    have hz2 := hx2.size
    try simp at hz2
    have hs2_0 := sz4 (a := w.heap.size) (b := w2.heap.size) (by omega)
    go_wp2_with fail
    refine ((HV3 _).out).mono ?_
    rintro e w3 ⟨rfl, hx3⟩
    obtain ⟨hc3, hf3⟩ := hx3.cells
    have hz3 := hx3.size
    try simp at hz3
    have hs3_0 := sz4 (a := w.heap.size) (b := w3.heap.size) (by omega)
    go_wp2
    go_ret2
    rw [HN.out, HN2.out]
    exact ⟨_, rfl, own_nil _ _ _ _, (by repeat (first | (with_reducible refine Ext.setCell ?_ (by first | (simp; done) | (simp; omega)) _) | with_reducible refine Ext.alloc ?_ _ | with_reducible refine Ext.drew ?_ | with_reducible refine Ext.drewN ?_ _ | with_reducible assumption | with_reducible exact Ext.refl _ | with_reducible refine Ext.trans ?_ (by with_reducible assumption)))⟩
  cases g4 : Sid d1 d2 d3
  · have HN : Hid (brOk a1 a2 a3 b1 b2 b3 c1 c2 c3 d1 d2 d3 = false) := by unfold Hid brOk; rw [g1, g2, g3, g4]; simp
    have HN2 := Lib.hid (HNO.out HN.out)
    have HV1 := fun w => Lib.hid (isSide_any a1 a2 a3 w)
    rw [g1] at HV1
    have HV2 := fun w => Lib.hid (isSide_any b1 b2 b3 w)
    rw [g2] at HV2
    have HV3 := fun w => Lib.hid (isSide_any c1 c2 c3 w)
    rw [g3] at HV3
    have HV4 := fun w => Lib.hid (isSide_any d1 d2 d3 w)
    rw [g4] at HV4
    clear HNO g1 g2 g3 g4
    go_enter Try.func19, Try.ntmps19
    go_wp2_with fail
    refine ((HV1 _).out).mono ?_
    rintro e w1 ⟨rfl, hx1⟩
    obtain ⟨hc1, hf1⟩ := hx1.cells
    have hz1 := hx1.size
    try simp at hz1
    have hs1_0 := sz4 (a := w.heap.size) (b := w1.heap.size) (by omega)
    go_wp2_with fail
    refine ((HV2 _).out).mono ?_
    rintro e w2 ⟨rfl, hx2⟩
    obtain ⟨hc2, hf2⟩ := hx2.cells
    have hz2 := hx2.size
    try simp at hz2
    have hs2_0 := sz4 (a := w.heap.size) (b := w2.heap.size) (by omega)
    go_wp2_with fail
    refine ((HV3 _).out).mono ?_
    rintro e w3 ⟨rfl, hx3⟩
    obtain ⟨hc3, hf3⟩ := hx3.cells
    have hz3 := hx3.size
    try simp at hz3
    have hs3_0 := sz4 (a := w.heap.size) (b := w3.heap.size) (by omega)
    go_wp2_with fail
    refine ((HV4 _).out).mono ?_
    rintro e w4 ⟨rfl, hx4⟩
    obtain ⟨hc4, hf4⟩ := hx4.cells
    have hz4 := hx4.size
    try simp at hz4
    have hs4_0 := sz4 (a := w.heap.size) (b := w4.heap.size) (by omega)
    go_wp2
    go_ret2
    rw [HN.out, HN2.out]
    exact ⟨_, rfl, own_nil _ _ _ _, (by repeat (first | (with_reducible refine Ext.setCell ?_ (by first | (simp; done) | (simp; omega)) _) | with_reducible refine Ext.alloc ?_ _ | with_reducible refine Ext.drew ?_ | with_reducible refine Ext.drewN ?_ _ | with_reducible assumption | with_reducible exact Ext.refl _ | with_reducible refine Ext.trans ?_ (by with_reducible assumption)))⟩
  have HYO : Hid (brOk a1 a2 a3 b1 b2 b3 c1 c2 c3 d1 d2 d3 = true) := by unfold Hid brOk; rw [g1, g2, g3, g4]; rfl
  have HYV := Lib.hid (brV_yes HYO.out)
  have HBY := fun {M N : List (Int × Int)} {L : List Q4} m1 m2 n1 n2 hp (hs : SrtR L) => Lib.hid (brL_by (M := M) (N := N) (L := L) HYO.out m1 m2 n1 n2 hp hs)
  have HV1 := fun w => Lib.hid (isSide_any a1 a2 a3 w)
  have HV2 := fun w => Lib.hid (isSide_any b1 b2 b3 w)
  have HV3 := fun w => Lib.hid (isSide_any c1 c2 c3 w)
  have HV4 := fun w => Lib.hid (isSide_any d1 d2 d3 w)
  have HP1 := fun w => Lib.hid (points_any (sid_rgs g1 g2) w)
  have HP2 := fun w => Lib.hid (points_any (sid_rgs g3 g4) w)
  have HLM := fun {L : List (Int × Int)} hn hm => Lib.hid (pts_len (L := L) g1 g2 hn hm)
  have HLN := fun {L : List (Int × Int)} hn hm => Lib.hid (pts_len (L := L) g3 g4 hn hm)
  have HB1 := Lib.hid (fun x (hx : Sol 2 a1 a2 a3 b1 b2 b3 x) => sol2_bn g1 g2 hx)
  have HB2 := Lib.hid (fun x (hx : Sol 2 c1 c2 c3 d1 d2 d3 x) => sol2_bn g3 g4 hx)
  have HB4 := Lib.hid (br_bn HYO.out)
  rw [g1] at HV1
  rw [g2] at HV2
  rw [g3] at HV3
  rw [g4] at HV4
  clear g1 g2 g3 g4 HNO
  go_enter Try.func19, Try.ntmps19
  go_wp2_with fail
  refine ((HV1 _).out).mono ?_
  rintro e w1 ⟨rfl, hx1⟩
  obtain ⟨hc1, hf1⟩ := hx1.cells
  have hz1 := hx1.size
  try simp at hz1
  have hs1_0 := sz4 (a := w.heap.size) (b := w1.heap.size) (by omega)
  go_wp2_with fail
  refine ((HV2 _).out).mono ?_
  rintro e w2 ⟨rfl, hx2⟩
  obtain ⟨hc2, hf2⟩ := hx2.cells
  have hz2 := hx2.size
  try simp at hz2
  have hs2_0 := sz4 (a := w.heap.size) (b := w2.heap.size) (by omega)
  go_wp2_with fail
  refine ((HV3 _).out).mono ?_
  rintro e w3 ⟨rfl, hx3⟩
  obtain ⟨hc3, hf3⟩ := hx3.cells
  have hz3 := hx3.size
  try simp at hz3
  have hs3_0 := sz4 (a := w.heap.size) (b := w3.heap.size) (by omega)
  go_wp2_with fail
  refine ((HV4 _).out).mono ?_
  rintro e w4 ⟨rfl, hx4⟩
  obtain ⟨hc4, hf4⟩ := hx4.cells
  have hz4 := hx4.size
  try simp at hz4
  have hs4_0 := sz4 (a := w.heap.size) (b := w4.heap.size) (by omega)
  go_wp2_with fail
  refine (HP2 _).out.mono ?_
  rintro e w5 ⟨vn, N, rfl, ⟨hvn, hon⟩, ⟨n1, n2, n3⟩, hx5⟩
  have hE4 : Ext w w4 := (by repeat (first | (with_reducible refine Ext.setCell ?_ (by first | (simp; done) | (simp; omega)) _) | with_reducible refine Ext.alloc ?_ _ | with_reducible refine Ext.drew ?_ | with_reducible refine Ext.drewN ?_ _ | with_reducible assumption | with_reducible exact Ext.refl _ | with_reducible refine Ext.trans ?_ (by with_reducible assumption)))
  have HG0 := Lib.hid ((hx5.heap (k := w4.heap.size) (by simp)).trans (heap_alloc_new _ _))
  have hA5 : Hid (w5.heap[w.heap.size]? = some (.cells #[.int .i64 a1, .int .i64 a2, .int .i64 a3] 27 (0, 0))) := (hx5.heap (by simp; omega)).trans (heap_alloc_lt ((hx4.heap (by omega)).trans ((hx3.heap (by omega)).trans ((hx2.heap (by omega)).trans ((hx1.heap (by simp; omega)).trans (heap_alloc_lt (heap_alloc_lt (heap_alloc_lt (heap_alloc_new _ _)))))))))
  have hB5 : Hid (w5.heap[w.heap.size + 1]? = some (.cells #[.int .i64 b1, .int .i64 b2, .int .i64 b3] 27 (0, 0))) := (hx5.heap (by simp; omega)).trans (heap_alloc_lt ((hx4.heap (by omega)).trans ((hx3.heap (by omega)).trans ((hx2.heap (by omega)).trans ((hx1.heap (by simp)).trans (heap_alloc_lt (heap_alloc_lt (heap_alloc_at _ _ _ (by simp)))))))))
  have hs4 : w.heap.size + 4 ≤ w4.heap.size := by have := hx1.size; have := hx2.size; have := hx3.size; have := hx4.size; simp at *; omega
  have hs5 : w4.heap.size + 1 ≤ w5.heap.size := by have := hx5.size; simp at this; exact this
  have hE5 : Ext w w5 := (hE4.alloc _).trans hx5
  clear hx1 hx2 hx3 hx4 hx5 hc1 hc2 hc3 hc4 hf1 hf2 hf3 hf4 hz1 hz2 hz3 hz4 hs1_0 hs2_0 hs3_0 hs4_0
  have zA := fun k => cell_of_row _ _ k _ _ _ hA5.out
  have zB := fun k => cell_of_row _ _ k _ _ _ hB5.out
  go_wp2_with fail
  refine (HP1 _).out.mono ?_
  rintro e w6 ⟨vm, M, rfl, ⟨hvm, hom⟩, ⟨m1, m2, m3⟩, hx6⟩
  clear zA zB
  have hs6 : w5.heap.size ≤ w6.heap.size := hx6.size
  have hE6 : Ext w w6 := hE5.trans hx6
  have HE6 := Lib.hid hE6
  have HOW0 : Hid (w6.ownsRow w4.heap.size 51 4 (.slice (some ⟨w4.heap.size, 0, none⟩) 0 0) 0 (IL (fl4 []))) := own_zero (Nat.le_refl _) ((hx6.heap (by omega)).trans HG0.out)
  have hn6 := own_ext hon hx6
  have HN1 := Lib.hid n1
  have HN2 := Lib.hid n2
  have HM1 := Lib.hid m1
  have HM2 := Lib.hid m2
  have lM := (HLM m1 m2).out
  have lN := (HLN n1 n2).out
  have HBM : Hid (∀ x ∈ M, Bn2 x) := fun x hx => HB1.out x ((m2 x).1 hx)
  have HBN : Hid (∀ x ∈ N, Bn2 x) := fun x hx => HB2.out x ((n2 x).1 hx)
  obtain ⟨aN, cN, rfl, cn1, cn2, -⟩ := own_shape hon
  obtain ⟨aM, cM, rfl, cm1, cm2, -⟩ := own_shape hom
  have HON := Lib.hid (own_base (base' := w4.heap.size + 1) hn6 (by simp))
  have HOM := Lib.hid (own_base (base' := w4.heap.size + 1) hom (by omega))
  clear hon hom hn6 n1 n2 m1 m2 hx6 hE5 hE4 hE6 HV1 HV2 HV3 HV4 HP1 HP2 HLM HLN
  generalize hg0 : w4.heap.size = g0 at *
  have hgw : w.heap.size ≤ g0 := by omega
  clear hg0
  generalize hnm : M.length = m at *
  generalize hnn : N.length = n at *
  have HNM := Lib.hid hnm
  have HNN := Lib.hid hnn
  clear hnm hnn hvm hvn
  go_wp2
  go_loopw [10, 42] (fun s i wr => ∃ (j : Nat) (v : Value) (L : List Q4), j ≤ m ∧ i = .int .i64 j ∧ v = s ∧ Hid (v ≠ .slice none 0 0) ∧ Hid (L = bxL (M.take j) N) ∧ Hid (wr.ownsRow g0 51 4 v L.length (IL (fl4 L))) ∧ Hid (∀ k, v.ownBlock = some k → k = g0 ∨ w6.heap.size ≤ k) ∧ Hid (GX [g0] w6 wr)) (fun _ i _ => m - (intOf i).toNat)
  case atStart => exact ⟨0, _, [], by omega, rfl, rfl, (fun h => by cases h), rfl, HOW0.out, (fun k hk => .inl (by simp [Value.ownBlock] at hk; omega)), GX.refl _ _⟩
  case round =>
    obtain ⟨j, v, L, hj, rfl, rfl, HNV, HL, HO, HZ, HG⟩ := hrel
    by_cases hlt : j < m
    case neg =>
      obtain rfl : j = m := by omega
      have HLE : Hid (L = bxL M N) := HL.out.trans (by rw [List.take_of_length_le (by rw [HNM.out]; exact Nat.le_refl _)])
      have hlL : L.length ≤ 180625 := by
        rw [HLE.out]
        have k1 := bxL_len N M
        have k2 := Nat.mul_le_mul (show M.length ≤ 425 by rw [HNM.out]; omega) (show N.length ≤ 425 by rw [HNN.out]; omega)
        omega
      have HE : Hid (Ext w wr) := ((GX.ofExt (S := [g0]) HE6.out).trans HG.out).toExt (by simp; omega)
      obtain ⟨a, c, rfl, hc1', hc2', _⟩ := own_shape HO.out
      obtain ⟨g, rfl⟩ : ∃ g, a = some ⟨g, 0, none⟩ := by
        rcases HO.out.2 with ⟨h3, -⟩ | ⟨g, _, _, h3, _⟩
        · exact absurd h3 HNV.out
        · simp only [Value.slice.injEq] at h3
          exact ⟨g, h3.1⟩
      have hgb : g0 ≤ g := (HO.out.lt g rfl).1
      obtain ⟨d, e1, e2⟩ := bd4_of (L := L) (fun x hx => HB4.out x ((bxL_mem HM2.out HN2.out x).1 (HLE.out ▸ hx)))
      have HSO := Lib.hid (sort4_any (g := g) (cap := c) e2 (by omega) (by rw [e1]; exact HO.out))
      have HD1 := Lib.hid e1
      generalize hnl : L.length = nl at *
      clear e1 e2
      go_wp2_with fail
      refine HSO.out.mono ?_
      rintro e w7 ⟨rfl, d', e1, e2, e3, e4, e5⟩
      have HE1 := Lib.hid e1
      have HE2 := Lib.hid e2
      have HE3 := Lib.hid e3
      have HE4 := Lib.hid e4
      have HE7 := Lib.hid (e5 w HE.out (by omega))
      clear e1 e2 e3 e4 e5
      go_wp2
      go_ret2
      have hL := (HBY (L := valsR d') HM1.out HM2.out HN1.out HN2.out (by rw [← HLE.out, ← HD1.out]; exact HE2.out.map _) (by
        unfold SrtR valsR
        exact List.pairwise_map.2 (HE3.out.imp (fun h => by first | exact h | omega)))).out
      rw [HYO.out, HYV.out]
      have h6 := HE4.out
      rw [hL] at h6
      have h7 : (brL a1 a2 a3 b1 b2 b3 c1 c2 c3 d1 d2 d3).length = nl := by rw [← hL, valsR_len, HE1.out]
      rw [h7]
      exact ⟨_, rfl, own_base h6 hgw, HE7.out⟩
    have hlt' : (j : Int) < m := by omega
    have hGs := HG.out.size
    have hom := own_gxl HOM.out HG.out (by simp)
    obtain ⟨hl, aM', cM', hv, _, _, H⟩ := RV.own hom (HNM.out ▸ fl2_len M)
    cases hv
    have HH := Lib.hid H
    have HLf := Lib.hid hl
    have hjM : j < M.length := by have := HNM.out; omega
    have hxe := fl2_at hjM
    have hbx := HBM.out _ (List.getElem_mem hjM)
    rw [hxe] at hbx
    have HXE := Lib.hid hxe
    have HSN := Lib.hid (bxL_snoc M N j hjM)
    rw [hxe] at HSN
    clear H hl hom hxe
    obtain ⟨b, off, rfl, hbk, hcell⟩ := HH.out (by omega)
    have hbr : b < wr.heap.size := by have := (Ext.refl wr).size; omega
    have z0 : wr.cell? ⟨b, off + j * 2, none⟩ = some (.int .i64 (at3 (fl2 M) (j * 2))) := ((Ext.refl wr).cells.1 b (off + (j * 2)) hbk).trans (hcell _ _ (at3_get (by have := HLf.out; omega)))
    have z1 : wr.cell? ⟨b, off + j * 2 + 1, none⟩ = some (.int .i64 (at3 (fl2 M) (j * 2 + 1))) := ((Ext.refl wr).cells.1 b (off + (j * 2 + 1)) hbk).trans (hcell _ _ (at3_get (by have := HLf.out; omega)))
    clear hcell
    generalize at3 (fl2 M) (j * 2) = px at *
    generalize at3 (fl2 M) (j * 2 + 1) = qx at *
    obtain ⟨⟨bx1, bx2⟩, bx3, bx4⟩ := hbx
    simp only at bx1 bx2 bx3 bx4
    go_wp2
    obtain ⟨wo, hwo⟩ : ∃ wo : World, wo = wr := ⟨_, rfl⟩
    generalize hbx : wr.heap.size = bx at *
    go_loopw [10, 48] (fun s i wr2 => ∃ (jj : Nat) (v : Value) (L2 : List Q4), jj ≤ n ∧ i = .int .i64 jj ∧ v = s ∧ Hid (v ≠ .slice none 0 0) ∧ Hid (L2 = L ++ bxI (px, qx) (N.take jj)) ∧ Hid (wr2.ownsRow g0 51 4 v L2.length (IL (fl4 L2))) ∧ Hid (∀ k, v.ownBlock = some k → (k = g0 ∨ w6.heap.size ≤ k) ∧ k ≠ bx) ∧ Hid (wr2.heap[bx]? = some (.cells #[.int .i64 px, .int .i64 qx] 34 (0, 0))) ∧ Hid (GX [g0] w6 wr2)) (fun _ i _ => n - (intOf i).toNat)
    case atStart => exact ⟨0, v, L, by omega, rfl, rfl, HNV, by unfold Hid; simp [bxI], own_ext HO.out ((Ext.refl wr).alloc _), fun k hk => ⟨HZ.out k hk, by have := (HO.out.lt k hk).2; omega⟩, by rw [← hbx]; exact heap_alloc_new _ _, HG.out.alloc _⟩
    case round =>
      obtain ⟨jj, v2, L2, hjj, rfl, rfl, HNV2, HL2, HO2, HZ2, HX2, HG2⟩ := hrel
      have zX := fun k => cell_of_row _ _ k _ _ _ HX2.out
      have lX : bx < wr.heap.size := (Array.getElem?_eq_some_iff.1 HX2.out).1
      by_cases hlt2 : jj < n
      case neg =>
        obtain rfl : jj = n := by omega
        have hrl : L2 = bxL (M.take (j + 1)) N := by rw [HL2.out, HSN.out, HL.out, List.take_of_length_le (l := N) (by rw [HNN.out]; exact Nat.le_refl _)]
        have HRL := Lib.hid hrl
        clear hrl
        go_wp2
        go_roundw
        case rel => exact ⟨j + 1, v2, L2, by omega, by go_num, rfl, HNV2, HRL, HO2, fun k hk => (HZ2.out k hk).1, HG2⟩
        case measure => simp [intOf]; omega
      have hlt2' : (jj : Int) < n := by omega
      have hGs2 := HG2.out.size
      have hon := own_gxl HON.out HG2.out (by simp)
      obtain ⟨hl, aN', cN', hv, _, _, H⟩ := RV.own hon (HNN.out ▸ fl2_len N)
      cases hv
      have HH2 := Lib.hid H
      have HLf2 := Lib.hid hl
      have hjN : jj < N.length := by have := HNN.out; omega
      have hye := fl2_at hjN
      have hby := HBN.out _ (List.getElem_mem hjN)
      rw [hye] at hby
      have HSI := Lib.hid (bxI_snoc (px, qx) N jj hjN)
      rw [hye] at HSI
      clear H hl hon hye
      obtain ⟨bv, offv, rfl, hbkv, hcellv⟩ := HH2.out (by omega)
      have hbrv : bv < wr.heap.size := by have := (Ext.refl wr).size; omega
      have zv0 : wr.cell? ⟨bv, offv + jj * 2, none⟩ = some (.int .i64 (at3 (fl2 N) (jj * 2))) := ((Ext.refl wr).cells.1 bv (offv + (jj * 2)) hbkv).trans (hcellv _ _ (at3_get (by have := HLf2.out; omega)))
      have zv1 : wr.cell? ⟨bv, offv + jj * 2 + 1, none⟩ = some (.int .i64 (at3 (fl2 N) (jj * 2 + 1))) := ((Ext.refl wr).cells.1 bv (offv + (jj * 2 + 1)) hbkv).trans (hcellv _ _ (at3_get (by have := HLf2.out; omega)))
      clear hcellv
      generalize at3 (fl2 N) (jj * 2) = py at *
      generalize at3 (fl2 N) (jj * 2 + 1) = qy at *
      obtain ⟨⟨yb1, yb2⟩, yb3, yb4⟩ := hby
      simp only at yb1 yb2 yb3 yb4
      by_cases he : (qx + qy).tmod 2 = 0
      case neg =>
        have HS3 : Hid (bxI (px, qx) (N.take (jj + 1)) = bxI (px, qx) (N.take jj)) := by unfold Hid; rw [HSI.out, evn_no he]; simp
        go_wp2
        go_roundw
        case rel => exact ⟨jj + 1, v2, L2, by omega, by go_num, rfl, HNV2, (by unfold Hid; rw [HS3.out]; exact HL2.out), own_ext HO2.out ((Ext.refl wr).alloc _), HZ2, heap_alloc_lt HX2.out, HG2.out.alloc _⟩
        case measure => simp [intOf]; omega
      case pos =>
        have HS3 : Hid (bxI (px, qx) (N.take (jj + 1)) = bxI (px, qx) (N.take jj) ++ [mkR (px, qx) (py, qy)]) := by unfold Hid; rw [HSI.out, evn_yes he]; simp
        have hll : L2.length ≤ 200000 := by
          rw [HL2.out, HL.out, List.length_append]
          have k1 := bxL_len N (M.take j)
          have k2 := Nat.mul_le_mul (show (M.take j).length ≤ 425 by rw [List.length_take]; omega) (show N.length ≤ 425 by rw [HNN.out]; omega)
          have k3 := bxI_len (px, qx) (N.take jj)
          rw [List.length_take] at k3
          omega
        have hO4 := Lib.hid (own_ext HO2.out (((Ext.refl wr).alloc (.cells #[.int .i64 py, .int .i64 qy] 34 (0, 0))).alloc (.cells #[.int .i64 px, .int .i64 ((qy + qx).tdiv 2), .int .i64 py, .int .i64 ((qy - qx).tdiv 2)] 51 (0, 0))))
        have hM4 := Lib.hid (heap_alloc_at (wr.alloc (.cells #[.int .i64 py, .int .i64 qy] 34 (0, 0))) (.cells #[.int .i64 px, .int .i64 ((qy + qx).tdiv 2), .int .i64 py, .int .i64 ((qy - qx).tdiv 2)] 51 (0, 0)) (wr.heap.size + 1) (by simp))
        have hg4 := hGs2
        go_upto_region 13 with (at_builtin; go_loud (refine wpList_append_rvt (base := g0) rfl elt_ring rfl _ L2.length (fl4 L2) rfl hO4.out _ 1 [px, (qy + qx).tdiv 2, py, (qy - qx).tdiv 2] rfl (rv_heap hM4.out rfl rfl (by omega) (by decide)) (by omega) (by simp; omega) ?_); intro v4 w7 hown4 hgrow4 hiff4 hloc4)
        go_wp2
        go_roundw
        case rel =>
          have hX7 : Hid (w7.heap[bx]? = some (.cells #[.int .i64 px, .int .i64 qx] 34 (0, 0))) := heap_grown hgrow4 (heap_alloc_lt (heap_alloc_lt HX2.out)) (fun e => (HZ2.out bx e.symm).2 rfl)
          refine ⟨jj + 1, v4, L2 ++ [mkR (px, qx) (py, qy)], by omega, by go_num, rfl, ?_, ?_, ?_, ?_, hX7, ?_⟩
          · intro hv; have := (hiff4.1 hv).2; omega
          · unfold Hid; rw [HS3.out, HL2.out, List.append_assoc]
          · unfold Hid
            rw [List.length_append, fl4_append]
            exact hown4
          · intro k hk
            rcases hloc4 with h | h
            · exact HZ2.out k (h ▸ hk)
            · rw [h] at hk
              simp at hk
              exact ⟨.inr (by omega), by omega⟩
          · exact gx_grown ((HG2.out.alloc _).alloc _) hgrow4 (fun k hk => by rcases (HZ2.out k hk).1 with h | h; exact .inl (by simp [h]); exact .inr h)
        case measure => simp [intOf]; omega

end Go.Proofs.Ytojoljffaedpfaa
