/- The law on IsSumNorm. -/
import Derived.Test.YtkjamaacapaokaaRows
import Derived.Test.YtkjamaacapaokaaSumN
namespace Go.Proofs.Ytkjamaacapaokaa
open Go.RowKit

theorem sq2_nat : ∀ (n a b : Nat), a ≤ n → a * a = 2 * (b * b) → a = 0 := by
  intro n
  induction n with
  | zero => intro a b h _; omega
  | succ n ih =>
    intro a b h e
    obtain ⟨c, hc⟩ : ∃ c, a = 2 * c ∨ a = 2 * c + 1 := ⟨a / 2, by omega⟩
    rcases hc with rfl | rfl
    · have e2 : b * b = 2 * (c * c) := by
        have : 2 * c * (2 * c) = 4 * (c * c) := by rw [Nat.mul_mul_mul_comm]
        omega
      by_cases hc : c = 0
      · omega
      · have hbn : b ≤ n := by
          by_cases hb : b < 2 * c
          · omega
          · have := Nat.mul_le_mul (show 2 * c ≤ b by omega) (show 2 * c ≤ b by omega)
            have h4 : 2 * c * (2 * c) = 4 * (c * c) := by rw [Nat.mul_mul_mul_comm]
            have h5 : 0 < c * c := Nat.mul_pos (by omega) (by omega)
            omega
        have hb := ih b c hbn e2
        subst hb
        have h5 : 0 < c * c := Nat.mul_pos (by omega) (by omega)
        omega
    · have : (2 * c + 1) * (2 * c + 1) = 2 * (2 * (c * c) + 2 * c) + 1 := by
        rw [Nat.add_mul, Nat.mul_add, Nat.mul_mul_mul_comm]
        omega
      omega
theorem nm_ne {P Q : Int} (hP : 1 ≤ P) : nm P Q ≠ 0 := by
  unfold nm
  intro h
  have h1 : P.natAbs * P.natAbs = 2 * (Q.natAbs * Q.natAbs) := by
    have e1 := Int.natAbs_mul_self (a := P)
    have e2 := Int.natAbs_mul_self (a := Q)
    have h2 : P * P = 2 * (Q * Q) := by rw [Int.mul_assoc] at h; omega
    omega
  have := sq2_nat P.natAbs P.natAbs Q.natAbs (Nat.le_refl _) h1
  omega
theorem dp_pos {P Q : Int} (h : Dp P Q = true) (h0 : ¬ (P = 0 ∧ Q = 0)) : 1 ≤ P ∧ 1 ≤ nm P Q := by
  simp only [Dp, Bool.and_eq_true, decide_eq_true_eq] at h
  obtain ⟨h1, h2⟩ := h
  have hP : 1 ≤ P := by
    by_cases hp : 1 ≤ P
    · exact hp
    · exfalso
      by_cases hq : Q ≤ 0
      · rw [S2_same _ _ (.inr ⟨by omega, hq⟩), sg_neg (by omega)] at h1
        omega
      · rw [S2_same _ _ (.inr ⟨by omega, by omega⟩), sg_neg (by omega)] at h2
        omega
  have hne := nm_ne (Q := Q) hP
  refine ⟨hP, ?_⟩
  have hnn : 0 ≤ nm P Q := by
    unfold nm
    by_cases hq : Q < 0
    · rw [S2_pos _ _ (by omega) hq] at h1
      by_cases hc : 0 ≤ P * P - 2 * Q * Q
      · exact hc
      · rw [sg_neg (by omega)] at h1; omega
    · by_cases hq2 : 0 < Q
      · rw [S2_pos _ _ (by omega) (by omega)] at h2
        have e : 2 * -Q * -Q = 2 * Q * Q := by rw [Int.mul_neg, Int.mul_neg, Int.neg_mul, Int.neg_neg]
        rw [e] at h2
        by_cases hc : 0 ≤ P * P - 2 * Q * Q
        · exact hc
        · rw [sg_neg (by omega)] at h2; omega
      · obtain rfl : Q = 0 := by omega
        have := sq_bd (a := P) (A := P) (by omega) (by omega)
        simp
        omega
  omega

/-- the condition for a prime power -/
def cnd (P Q : Int) (x : Int × Int) : Bool := !(x.1 % 8 == 7) || evn P Q x.1
def sumV (P Q : Int) : Bool := Dp P Q && ((P == 0 && Q == 0) || (facs (nm P Q)).all (cnd P Q))
def okS (P Q : Int) : Bool := R2 P Q && decide (0 ≤ P) && Wn (nm P Q) (-1000000000) 1000000000
theorem all_take_succ {l : List (Int × Int)} {f : Int × Int → Bool} {k : Nat} (h : k < l.length) : (l.take (k + 1)).all f = ((l.take k).all f && f l[k]) := by
  rw [List.take_succ_eq_append_getElem h, List.all_append]
  simp
theorem all_false {l : List (Int × Int)} {f : Int × Int → Bool} {k : Nat} (h : k < l.length) (hf : f l[k] = false) : l.all f = false := by
  rw [List.all_eq_false]
  exact ⟨l[k], List.getElem_mem h, by simp [hf]⟩

theorem areEven_evn (P Q p : Int) (hP : 1 ≤ P ∧ P ≤ 1000000) (hQ : -1000000 ≤ Q ∧ Q ≤ 1000000) (hp : 2 ≤ p ∧ p ≤ 1000000000) (h1 : 1 ≤ nm P Q) (h2 : nm P Q ≤ 1000000000) (w : World) :
    Calls Try.prog 82 #[.agg #[.int .i64 P, .int .i64 Q], .int .i64 p, .int .i64 (strip 64 (nm P Q) p).2] w fun en w' => en = .returned (.bool (evn P Q p)) ∧ Ext w w' := by
  obtain ⟨J, i1, i2, i3, i4, i5, i6⟩ := dv_all 64 P Q p hP.1 hp.1 h1
  have hb := strip_bd 64 (nm (dv 64 P Q p).1 (dv 64 P Q p).2.1) p i6 hp.1
  rw [exp_eq hP.1 hp.1 h1 h2]
  exact areEven_any P Q p _ hP hQ hp ⟨hb.2.2.1, by omega⟩ w

/-- what the loops over the factors find -/
def Cells2 (w : World) (g : Nat) (L : List (Int × Int)) : Prop := ∀ k, (h : k < L.length) → w.cell? ⟨g, k * 2, none⟩ = some (.int .i64 L[k].1) ∧ w.cell? ⟨g, k * 2 + 1, none⟩ = some (.int .i64 L[k].2)
theorem cells2_of {w : World} {base : Nat} {t : TypeId} {v : Value} {L : List (Int × Int)} (h : w.ownsRow base t 2 v L.length (flat2 L)) :
    ∃ (a : Option Addr) (cap : Nat), v = .slice a L.length cap ∧ L.length ≤ cap ∧ cap ≤ maxLen ∧ (0 < L.length → ∃ g, a = some ⟨g, 0, none⟩ ∧ g < w.heap.size ∧ Cells2 w g L) := by
  obtain ⟨a, cap, h1, h2, h3, h4⟩ := own_shape h
  refine ⟨a, cap, h1, h2, h3, fun hp => ?_⟩
  obtain ⟨g, e1, _, e2, e3, _⟩ := h4 hp
  exact ⟨g, e1, e2, fun k hk => ⟨e3 _ _ (flat2_get L k hk).1, e3 _ _ (flat2_get L k hk).2⟩⟩

set_option maxHeartbeats 2000000 in
theorem isSumNorm_any (P Q : Int) (w : World) :
    Calls Try.prog 33 #[.agg #[.int .i64 P, .int .i64 Q]] w fun e w' => e = .returned (.tuple #[.bool (okS P Q && sumV P Q), .bool (okS P Q)]) ∧ Ext w w' := by
  cases h1 : R2 P Q
  · have HO : Hid (okS P Q = false) := by unfold Hid okS; rw [h1]; rfl
    rw [HO.out]
    clear HO
    go_enter Try.func33, Try.ntmps33
    go_wp2_with fail
    refine (isRoot2_any _ _ _).mono ?_
    rintro e w1 ⟨rfl, hx1⟩
    obtain ⟨hc1, hf1⟩ := hx1.cells
    have hz1 := hx1.size
    try simp at hz1
    have hs1_0 := sz1 (a := w.heap.size) (b := w1.heap.size) (by omega)
    go_wp2
    go_ret2
    exact ⟨rfl, (by repeat (first | exact Ext.refl _ | assumption | refine Ext.alloc ?_ _ | refine Ext.drew ?_ | refine Ext.drewN ?_ _ | refine Ext.setCell ?_ (by first | omega | (dsimp only; omega) | (simp; done) | (simp; omega)) _ | refine Ext.trans ?_ (by assumption)))⟩
  have bR := R2_bd h1
  by_cases h2 : 0 ≤ P
  case neg =>
    have HO : Hid (okS P Q = false) := by unfold Hid okS; simp [h2]
    rw [HO.out]
    clear HO
    have h2' : P < 0 := by omega
    clear h2
    go_enter Try.func33, Try.ntmps33
    go_wp2_with fail
    refine (isRoot2_any _ _ _).mono ?_
    rintro e w1 ⟨rfl, hx1⟩
    obtain ⟨hc1, hf1⟩ := hx1.cells
    have hz1 := hx1.size
    try simp at hz1
    have hs1_0 := sz1 (a := w.heap.size) (b := w1.heap.size) (by omega)
    go_wp2
    go_ret2
    exact ⟨rfl, (by repeat (first | exact Ext.refl _ | assumption | refine Ext.alloc ?_ _ | refine Ext.drew ?_ | refine Ext.drewN ?_ _ | refine Ext.setCell ?_ (by first | omega | (dsimp only; omega) | (simp; done) | (simp; omega)) _ | refine Ext.trans ?_ (by assumption)))⟩
  have HE : Hid (nm P Q = P * P - 2 * (Q * Q)) := by unfold Hid nm; rw [Int.mul_assoc]
  cases h3 : Wn (nm P Q) (-1000000000) 1000000000
  · have HO : Hid (okS P Q = false) := by unfold Hid okS; rw [h3, Bool.and_false]
    rw [HO.out]
    clear HO
    rw [HE.out] at h3
    go_enter Try.func33, Try.ntmps33
    go_wp2_with fail
    refine (isRoot2_any _ _ _).mono ?_
    rintro e w1 ⟨rfl, hx1⟩
    obtain ⟨hc1, hf1⟩ := hx1.cells
    have hz1 := hx1.size
    try simp at hz1
    have hs1_0 := sz1 (a := w.heap.size) (b := w1.heap.size) (by omega)
    go_wp2_with fail
    refine (norm_any _ _ h1 _).mono ?_
    rintro e w2 ⟨rfl, hx2⟩
    obtain ⟨hc2, hf2⟩ := hx2.cells
    have hz2 := hx2.size
    try simp at hz2
    have hs2_0 := sz1 (a := w.heap.size) (b := w2.heap.size) (by omega)
    go_wp2_with (go_at_call 60; ((with_reducible refine (within_any _ _ _ _).mono ?_); rintro e w' ⟨rfl, rfl⟩))
    go_ret2
    exact ⟨rfl, (by repeat (first | exact Ext.refl _ | assumption | refine Ext.alloc ?_ _ | refine Ext.drew ?_ | refine Ext.drewN ?_ _ | refine Ext.setCell ?_ (by first | omega | (dsimp only; omega) | (simp; done) | (simp; omega)) _ | refine Ext.trans ?_ (by assumption)))⟩
  have HO : Hid (okS P Q = true) := by unfold Hid okS; rw [h1, h3]; simp [h2]
  have hwn := Wn_iff.1 h3
  rw [HO.out]
  rw [HE.out] at h3
  clear HO
  by_cases h4 : P = 0 ∧ Q = 0
  · obtain ⟨rfl, rfl⟩ := h4
    have HV : Hid (sumV 0 0 = true) := by unfold Hid; rfl
    rw [HV.out]
    go_enter Try.func33, Try.ntmps33
    go_wp2_with fail
    refine (isRoot2_any _ _ _).mono ?_
    rintro e w1 ⟨rfl, hx1⟩
    obtain ⟨hc1, hf1⟩ := hx1.cells
    have hz1 := hx1.size
    try simp at hz1
    have hs1_0 := sz1 (a := w.heap.size) (b := w1.heap.size) (by omega)
    go_wp2_with fail
    refine (norm_any _ _ h1 _).mono ?_
    rintro e w2 ⟨rfl, hx2⟩
    obtain ⟨hc2, hf2⟩ := hx2.cells
    have hz2 := hx2.size
    try simp at hz2
    have hs2_0 := sz1 (a := w.heap.size) (b := w2.heap.size) (by omega)
    go_wp2_with (go_at_call 60; ((with_reducible refine (within_any _ _ _ _).mono ?_); rintro e w' ⟨rfl, rfl⟩))
    go_ret2
    exact ⟨rfl, (by repeat (first | exact Ext.refl _ | assumption | refine Ext.alloc ?_ _ | refine Ext.drew ?_ | refine Ext.drewN ?_ _ | refine Ext.setCell ?_ (by first | omega | (dsimp only; omega) | (simp; done) | (simp; omega)) _ | refine Ext.trans ?_ (by assumption)))⟩
  cases h5 : Dp P Q
  · have HV : Hid (sumV P Q = false) := by unfold Hid sumV; rw [h5]; rfl
    rw [HV.out]
    have hz : ((P == 0) = false) ∨ ((P == 0) = true ∧ (Q == 0) = false) := by
      by_cases h : P = 0
      · exact .inr ⟨by simpa using h, by simpa using fun h2 => h4 ⟨h, h2⟩⟩
      · exact .inl (by simpa using h)
    clear h4 HV
    rcases hz with hz | ⟨hz, hz2⟩
    all_goals
      go_enter Try.func33, Try.ntmps33
      go_wp2_with fail
      refine (isRoot2_any _ _ _).mono ?_
      rintro e w1 ⟨rfl, hx1⟩
      obtain ⟨hc1, hf1⟩ := hx1.cells
      have hz1 := hx1.size
      try simp at hz1
      have hs1_0 := sz1 (a := w.heap.size) (b := w1.heap.size) (by omega)
      go_wp2_with fail
      refine (norm_any _ _ h1 _).mono ?_
      rintro e w2 ⟨rfl, hx2⟩
      obtain ⟨hc2, hf2⟩ := hx2.cells
      have hz2 := hx2.size
      try simp at hz2
      have hs2_0 := sz1 (a := w.heap.size) (b := w2.heap.size) (by omega)
      go_wp2_with (go_at_call 60; ((with_reducible refine (within_any _ _ _ _).mono ?_); rintro e w' ⟨rfl, rfl⟩))
      refine (isDoublyPositive_any _ _ (Cf_lim bR.1) (Cf_lim bR.2) _).mono ?_
      rintro e w3 ⟨rfl, hx3⟩
      obtain ⟨hc3, hf3⟩ := hx3.cells
      have hz3 := hx3.size
      try simp at hz3
      have hs3_0 := sz1 (a := w.heap.size) (b := w3.heap.size) (by omega)
      go_wp2
      go_ret2
      exact ⟨rfl, (by repeat (first | exact Ext.refl _ | assumption | refine Ext.alloc ?_ _ | refine Ext.drew ?_ | refine Ext.drewN ?_ _ | refine Ext.setCell ?_ (by first | omega | (dsimp only; omega) | (simp; done) | (simp; omega)) _ | refine Ext.trans ?_ (by assumption)))⟩
  obtain ⟨hP, hN⟩ := dp_pos h5 h4
  have hz : (P == 0) = false := by simp; omega
  have hz1 : (Q == 0) = true ∨ (Q == 0) = false := by cases (Q == 0) <;> simp
  have HV : Hid (sumV P Q = (facs (nm P Q)).all (cnd P Q)) := by unfold Hid sumV; rw [h5, hz]; rfl
  have HX := Lib.hid (facs_exp hN hwn.2)
  have hlen : (facs (nm P Q)).length ≤ 40001 := facL_len 40000 (nm P Q) 2
  have HF : Hid (∀ w, Calls Try.prog 61 #[.int .i64 (P * P - 2 * (Q * Q))] w fun e w' => ∃ v, e = .returned v ∧ w'.ownsRow w.heap.size 68 2 v (facs (nm P Q)).length (flat2 (facs (nm P Q))) ∧ Ext w w') := by
    unfold Hid
    intro w
    have := factors_any (nm P Q) hN hwn.2 w
    rw [HE.out] at this ⊢
    exact this
  have HN := Lib.hid hN
  have HW := Lib.hid hwn
  generalize facs (nm P Q) = L at *
  rw [HV.out]
  clear h4 hN hwn h2 HV
  go_enter Try.func33, Try.ntmps33
  go_wp2_with fail
  refine (isRoot2_any _ _ _).mono ?_
  rintro e w1 ⟨rfl, hx1⟩
  obtain ⟨hc1, hf1⟩ := hx1.cells
  have hz1 := hx1.size
  try simp at hz1
  have hs1_0 := sz1 (a := w.heap.size) (b := w1.heap.size) (by omega)
  go_wp2_with fail
  refine (norm_any _ _ h1 _).mono ?_
  rintro e w2 ⟨rfl, hx2⟩
  obtain ⟨hc2, hf2⟩ := hx2.cells
  have hz2 := hx2.size
  try simp at hz2
  have hs2_0 := sz1 (a := w.heap.size) (b := w2.heap.size) (by omega)
  go_wp2_with (go_at_call 60; ((with_reducible refine (within_any _ _ _ _).mono ?_); rintro e w' ⟨rfl, rfl⟩))
  refine (isDoublyPositive_any _ _ (Cf_lim bR.1) (Cf_lim bR.2) _).mono ?_
  rintro e w3 ⟨rfl, hx3⟩
  obtain ⟨hc3, hf3⟩ := hx3.cells
  have hz3 := hx3.size
  try simp at hz3
  have hs3_0 := sz1 (a := w.heap.size) (b := w3.heap.size) (by omega)
  go_wp2_with fail
  refine (norm_any _ _ h1 _).mono ?_
  rintro e w4 ⟨rfl, hx4⟩
  obtain ⟨hc4, hf4⟩ := hx4.cells
  have hz4 := hx4.size
  try simp at hz4
  have hs4_0 := sz1 (a := w.heap.size) (b := w4.heap.size) (by omega)
  go_wp2_with fail
  refine (HF.out _).mono ?_
  rintro e w5 ⟨v, rfl, hown, hx5⟩
  obtain ⟨hc5, hf5⟩ := hx5.cells
  have hz5 := hx5.size
  try simp at hz5
  have hs5_0 := sz1 (a := w.heap.size) (b := w5.heap.size) (by omega)
  obtain ⟨a, cap, rfl, q1, q2, q3⟩ := cells2_of hown
  have Q3 := Lib.hid q3
  have hE5 : Ext w w5 := (((((((Ext.refl w).alloc _).trans hx1).trans hx2).trans hx3).trans hx4).trans hx5)
  have hb5 : w5.heap[w.heap.size]? = some (.cells #[.int .i64 P, .int .i64 Q] 35 (0, 0)) :=
    ((((hx1.trans hx2).trans hx3).trans hx4).trans hx5).heap (by simp) |>.trans (heap_alloc_new _ _)
  have hsz5 : w.heap.size < w5.heap.size := (Array.getElem?_eq_some_iff.1 hb5).1
  clear hown q3 hx1 hx2 hx3 hx4 hx5 hc1 hc2 hc3 hc4 hc5 hf1 hf2 hf3 hf4 hf5
  go_wp2
  go_loopw [5, 30] (fun _ i wr => ∃ j : Nat, j ≤ L.length ∧ i = .int .i64 j ∧ Ext w5 wr ∧ (L.take j).all (cnd P Q) = true) (fun _ i _ => L.length - (intOf i).toNat)
  case atStart => exact ⟨0, by omega, rfl, Ext.refl _, rfl⟩
  case round =>
    obtain ⟨j, hj, rfl, hE, hall⟩ := hrel
    have HA := Lib.hid hall
    clear hall
    have hEs := hE.size
    have hb' := (hE.heap hsz5).trans hb5
    have hcx : ∀ k, wr.cell? ⟨w.heap.size, k, none⟩ = (#[.int .i64 P, .int .i64 Q] : Array Value)[k]? := fun k => cell_of_row _ _ _ _ _ _ hb'
    have hsx : w.heap.size < wr.heap.size := by omega
    clear hb'
    by_cases hlt : j < L.length
    · have hlt' : (j : Int) < L.length := by omega
      obtain ⟨g, rfl, p1, p2⟩ := Q3.out (by omega)
      have p3 : g < wr.heap.size := by omega
      have z0 := (hE.cellA (p := ⟨g, j * 2, none⟩) p1).trans (p2 j hlt).1
      have z1 := (hE.cellA (p := ⟨g, j * 2 + 1, none⟩) p1).trans (p2 j hlt).2
      obtain ⟨x1, x2, x3⟩ := HX.out _ (List.getElem_mem hlt)
      have HC : Hid (cnd P Q L[j] = (!(L[j].1 % 8 == 7) || evn P Q L[j].1)) := rfl
      have HT : Hid ((L.take (j + 1)).all (cnd P Q) = ((L.take j).all (cnd P Q) && cnd P Q L[j])) := all_take_succ hlt
      have HL : Hid (cnd P Q L[j] = false → L.all (cnd P Q) = false) := all_false hlt
      rw [x3] at z1
      clear p2 x3
      have hw2 := HW.out.2
      generalize L[j].1 = y at *
      generalize cnd P Q L[j] = c at *
      have bb := strip_bd 64 (nm P Q) y HN.out x1
      have HAE := Lib.hid (areEven_evn P Q y ⟨hP, bR.1.2⟩ bR.2 ⟨x1, by omega⟩ HN.out hw2)
      generalize (strip 64 (nm P Q) y).2 = ex at *
      cases h7 : (y % 8 == 7)
      · have hc' : c = true := by rw [HC.out, h7]; rfl
        go_wp2
        go_roundw
        case rel => exact ⟨j + 1, by omega, by go_num, (by repeat (first | exact Ext.refl _ | assumption | refine Ext.alloc ?_ _ | refine Ext.drew ?_ | refine Ext.drewN ?_ _ | refine Ext.setCell ?_ (by first | omega | (dsimp only; omega) | (simp; done) | (simp; omega)) _ | refine Ext.trans ?_ (by assumption))), by rw [HT.out, HA.out, hc']; rfl⟩
        case measure => simp [intOf]; omega
      · cases h8 : evn P Q y
        · have hc' : c = false := by rw [HC.out, h7, h8]; rfl
          go_wp2_with fail
          refine (HAE.out _).mono ?_
          rintro e w6 ⟨rfl, hx6⟩
          obtain ⟨hc6, hf6⟩ := hx6.cells
          have hz6 := hx6.size
          try simp at hz6
          have hs6_0 := sz1 (a := wr.heap.size) (b := w6.heap.size) (by omega)
          go_wp2
          go_ret2
          exact ⟨by rw [HL.out hc']; rfl, hE5.trans ((hE.alloc _).trans hx6)⟩
        · have hc' : c = true := by rw [HC.out, h7, h8]; rfl
          go_wp2_with fail
          refine (HAE.out _).mono ?_
          rintro e w6 ⟨rfl, hx6⟩
          obtain ⟨hc6, hf6⟩ := hx6.cells
          have hz6 := hx6.size
          try simp at hz6
          have hs6_0 := sz1 (a := wr.heap.size) (b := w6.heap.size) (by omega)
          go_wp2
          go_roundw
          case rel => exact ⟨j + 1, by omega, by go_num, (by repeat (first | exact Ext.refl _ | assumption | refine Ext.alloc ?_ _ | refine Ext.drew ?_ | refine Ext.drewN ?_ _ | refine Ext.setCell ?_ (by first | omega | (dsimp only; omega) | (simp; done) | (simp; omega)) _ | refine Ext.trans ?_ (by assumption))), by rw [HT.out, HA.out, hc']; rfl⟩
          case measure => simp [intOf]; omega
    · obtain rfl : j = L.length := by omega
      have HA2 : Hid (L.all (cnd P Q) = true) := by have := HA.out; rw [List.take_length] at this; exact this
      go_wp2
      go_ret2
      exact ⟨by rw [HA2.out]; rfl, hE5.trans hE⟩

set_option maxHeartbeats 2000000 in
theorem l26Is_any (P Q : Int) (h1 : R2 P Q = true) (hwn : -1000000000 ≤ nm P Q ∧ nm P Q ≤ 1000000000) (w : World) :
    Calls Try.prog 79 #[.agg #[.int .i64 P, .int .i64 Q]] w fun e w' => e = .returned (.bool (sumV P Q)) ∧ Ext w w' := by
  have bR := R2_bd h1
  cases h5 : Dp P Q
  · have HV : Hid (sumV P Q = false) := by unfold Hid sumV; rw [h5]; rfl
    rw [HV.out]
    go_enter Try.func79, Try.ntmps79
    go_wp2_with fail
    refine (l26Double_any _ _ (Cf_lim bR.1) (Cf_lim bR.2) _).mono ?_
    rintro e w1 ⟨rfl, hx1⟩
    obtain ⟨hc1, hf1⟩ := hx1.cells
    have hz1 := hx1.size
    try simp at hz1
    have hs1_0 := sz1 (a := w.heap.size) (b := w1.heap.size) (by omega)
    go_wp2
    go_ret
    exact ⟨rfl, (by repeat (first | exact Ext.refl _ | assumption | refine Ext.alloc ?_ _ | refine Ext.drew ?_ | refine Ext.drewN ?_ _ | refine Ext.setCell ?_ (by first | omega | (dsimp only; omega) | (simp; done) | (simp; omega)) _ | refine Ext.trans ?_ (by assumption)))⟩
  by_cases h4 : P = 0 ∧ Q = 0
  · obtain ⟨rfl, rfl⟩ := h4
    have HV : Hid (sumV 0 0 = true) := by unfold Hid; rfl
    rw [HV.out]
    go_enter Try.func79, Try.ntmps79
    go_wp2_with fail
    refine (l26Double_any _ _ (Cf_lim bR.1) (Cf_lim bR.2) _).mono ?_
    rintro e w1 ⟨rfl, hx1⟩
    obtain ⟨hc1, hf1⟩ := hx1.cells
    have hz1 := hx1.size
    try simp at hz1
    have hs1_0 := sz1 (a := w.heap.size) (b := w1.heap.size) (by omega)
    go_wp2
    go_ret
    exact ⟨rfl, (by repeat (first | exact Ext.refl _ | assumption | refine Ext.alloc ?_ _ | refine Ext.drew ?_ | refine Ext.drewN ?_ _ | refine Ext.setCell ?_ (by first | omega | (dsimp only; omega) | (simp; done) | (simp; omega)) _ | refine Ext.trans ?_ (by assumption)))⟩
  obtain ⟨hP, hN⟩ := dp_pos h5 h4
  have hz : (P == 0) = false := by simp; omega
  have hz1 : (Q == 0) = true ∨ (Q == 0) = false := by cases (Q == 0) <;> simp
  have HE : Hid (nm P Q = P * P - 2 * Q * Q) := rfl
  have hP2 := sq_bd (a := P) (A := 1000000) (by omega) (by omega)
  have hQ2 : -2000000000000 ≤ 2 * Q * Q ∧ 2 * Q * Q ≤ 2000000000000 := mul_bd (A := 2000000) (B := 1000000) (by omega) (by omega) bR.2.1 bR.2.2
  have HV : Hid (sumV P Q = (facs (nm P Q)).all (cnd P Q)) := by unfold Hid sumV; rw [h5, hz]; rfl
  have HX := Lib.hid (facs_exp hN hwn.2)
  have hlen : (facs (nm P Q)).length ≤ 40001 := facL_len 40000 (nm P Q) 2
  have HF : Hid (∀ w, Calls Try.prog 59 #[.int .i64 (P * P - 2 * Q * Q)] w fun e w' => ∃ v, e = .returned v ∧ w'.ownsRow w.heap.size 68 2 v (facs (nm P Q)).length (flat2 (facs (nm P Q))) ∧ Ext w w') := by
    unfold Hid
    intro w
    exact l26Factor_any (nm P Q) hN hwn.2 w
  have HN := Lib.hid hN
  have HW := Lib.hid hwn
  generalize facs (nm P Q) = L at *
  rw [HV.out]
  clear h4 hN hwn HV
  go_enter Try.func79, Try.ntmps79
  go_wp2_with fail
  refine (l26Double_any _ _ (Cf_lim bR.1) (Cf_lim bR.2) _).mono ?_
  rintro e w1 ⟨rfl, hx1⟩
  obtain ⟨hc1, hf1⟩ := hx1.cells
  have hz1 := hx1.size
  try simp at hz1
  have hs1_0 := sz1 (a := w.heap.size) (b := w1.heap.size) (by omega)
  go_wp2_with fail
  refine (HF.out _).mono ?_
  rintro e w5 ⟨v, rfl, hown, hx5⟩
  obtain ⟨hc5, hf5⟩ := hx5.cells
  have hz5 := hx5.size
  try simp at hz5
  have hs5_0 := sz1 (a := w.heap.size) (b := w5.heap.size) (by omega)
  obtain ⟨a, cap, rfl, q1, q2, q3⟩ := cells2_of hown
  have Q3 := Lib.hid q3
  have hE5 : Ext w w5 := ((((Ext.refl w).alloc _).trans hx1).trans hx5)
  have hb5 : w5.heap[w.heap.size]? = some (.cells #[.int .i64 P, .int .i64 Q] 35 (0, 0)) :=
    (hx1.trans hx5).heap (by simp) |>.trans (heap_alloc_new _ _)
  have hsz5 : w.heap.size < w5.heap.size := (Array.getElem?_eq_some_iff.1 hb5).1
  clear hown q3 hx1 hx5 hc1 hc5 hf1 hf5
  go_wp2
  go_loopw [4, 25] (fun _ i wr => ∃ j : Nat, j ≤ L.length ∧ i = .int .i64 j ∧ Ext w5 wr ∧ (L.take j).all (cnd P Q) = true) (fun _ i _ => L.length - (intOf i).toNat)
  case atStart => exact ⟨0, by omega, rfl, Ext.refl _, rfl⟩
  case round =>
    obtain ⟨j, hj, rfl, hE, hall⟩ := hrel
    have HA := Lib.hid hall
    clear hall
    have hEs := hE.size
    have hb' := (hE.heap hsz5).trans hb5
    have hcx : ∀ k, wr.cell? ⟨w.heap.size, k, none⟩ = (#[.int .i64 P, .int .i64 Q] : Array Value)[k]? := fun k => cell_of_row _ _ _ _ _ _ hb'
    have hsx : w.heap.size < wr.heap.size := by omega
    clear hb'
    by_cases hlt : j < L.length
    · have hlt' : (j : Int) < L.length := by omega
      obtain ⟨g, rfl, p1, p2⟩ := Q3.out (by omega)
      have p3 : g < wr.heap.size := by omega
      have z0 := (hE.cellA (p := ⟨g, j * 2, none⟩) p1).trans (p2 j hlt).1
      have z1 := (hE.cellA (p := ⟨g, j * 2 + 1, none⟩) p1).trans (p2 j hlt).2
      obtain ⟨x1, x2, _⟩ := HX.out _ (List.getElem_mem hlt)
      have HC : Hid (cnd P Q L[j] = (!(L[j].1 % 8 == 7) || evn P Q L[j].1)) := rfl
      have HT : Hid ((L.take (j + 1)).all (cnd P Q) = ((L.take j).all (cnd P Q) && cnd P Q L[j])) := all_take_succ hlt
      have HL : Hid (cnd P Q L[j] = false → L.all (cnd P Q) = false) := all_false hlt
      clear p2
      have hw2 := HW.out.2
      generalize L[j].1 = y at *
      generalize L[j].2 = ex at *
      generalize cnd P Q L[j] = c at *
      have HAE := Lib.hid (l26Even_any P Q y ⟨hP, bR.1.2⟩ bR.2 ⟨x1, by omega⟩ HN.out hw2)
      cases h7 : (y % 8 == 7)
      · have hc' : c = true := by rw [HC.out, h7]; rfl
        go_wp2
        go_roundw
        case rel => exact ⟨j + 1, by omega, by go_num, (by repeat (first | exact Ext.refl _ | assumption | refine Ext.alloc ?_ _ | refine Ext.drew ?_ | refine Ext.drewN ?_ _ | refine Ext.setCell ?_ (by first | omega | (dsimp only; omega) | (simp; done) | (simp; omega)) _ | refine Ext.trans ?_ (by assumption))), by rw [HT.out, HA.out, hc']; rfl⟩
        case measure => simp [intOf]; omega
      · cases h8 : evn P Q y
        · have hc' : c = false := by rw [HC.out, h7, h8]; rfl
          go_wp2_with fail
          refine (HAE.out _).mono ?_
          rintro e w6 ⟨rfl, hx6⟩
          obtain ⟨hc6, hf6⟩ := hx6.cells
          have hz6 := hx6.size
          try simp at hz6
          have hs6_0 := sz1 (a := wr.heap.size) (b := w6.heap.size) (by omega)
          go_wp2
          go_ret
          exact ⟨by rw [HL.out hc']; rfl, hE5.trans ((hE.alloc _).trans hx6)⟩
        · have hc' : c = true := by rw [HC.out, h7, h8]; rfl
          go_wp2_with fail
          refine (HAE.out _).mono ?_
          rintro e w6 ⟨rfl, hx6⟩
          obtain ⟨hc6, hf6⟩ := hx6.cells
          have hz6 := hx6.size
          try simp at hz6
          have hs6_0 := sz1 (a := wr.heap.size) (b := w6.heap.size) (by omega)
          go_wp2
          go_roundw
          case rel => exact ⟨j + 1, by omega, by go_num, (by repeat (first | exact Ext.refl _ | assumption | refine Ext.alloc ?_ _ | refine Ext.drew ?_ | refine Ext.drewN ?_ _ | refine Ext.setCell ?_ (by first | omega | (dsimp only; omega) | (simp; done) | (simp; omega)) _ | refine Ext.trans ?_ (by assumption))), by rw [HT.out, HA.out, hc']; rfl⟩
          case measure => simp [intOf]; omega
    · obtain rfl : j = L.length := by omega
      have HA2 : Hid (L.all (cnd P Q) = true) := by have := HA.out; rw [List.take_length] at this; exact this
      go_wp2
      go_ret
      exact ⟨by rw [HA2.out]; rfl, hE5.trans hE⟩

set_option maxHeartbeats 1000000 in
theorem s_isSumNorm_any (P Q : Int) (w : World) :
    Calls Try.prog 31 #[.agg #[.int .i64 P, .int .i64 Q]] w fun e w' => e = .returned (.tuple #[.bool (okS P Q && sumV P Q), .bool (okS P Q)]) ∧ Ext w w' := by
  cases h1 : R2 P Q
  · have HO : Hid (okS P Q = false) := by unfold Hid okS; rw [h1]; rfl
    rw [HO.out]
    clear HO
    go_enter Try.func31, Try.ntmps31
    go_wp2_with fail
    refine (s_normRoot2_any _ _ _).mono ?_
    rintro e w1 ⟨rfl, hx1⟩
    obtain ⟨hc1, hf1⟩ := hx1.cells
    have hz1 := hx1.size
    try simp at hz1
    have hs1_0 := sz1 (a := w.heap.size) (b := w1.heap.size) (by omega)
    go_wp2
    go_ret2
    exact ⟨rfl, (by repeat (first | exact Ext.refl _ | assumption | refine Ext.alloc ?_ _ | refine Ext.drew ?_ | refine Ext.drewN ?_ _ | refine Ext.setCell ?_ (by first | omega | (dsimp only; omega) | (simp; done) | (simp; omega)) _ | refine Ext.trans ?_ (by assumption)))⟩
  by_cases h2 : 0 ≤ P
  case neg =>
    have HO : Hid (okS P Q = false) := by unfold Hid okS; simp [h2]
    rw [HO.out]
    clear HO
    have h2' : P < 0 := by omega
    clear h2
    go_enter Try.func31, Try.ntmps31
    go_wp2_with fail
    refine (s_normRoot2_any _ _ _).mono ?_
    rintro e w1 ⟨rfl, hx1⟩
    obtain ⟨hc1, hf1⟩ := hx1.cells
    have hz1 := hx1.size
    try simp at hz1
    have hs1_0 := sz1 (a := w.heap.size) (b := w1.heap.size) (by omega)
    go_wp2
    go_ret2
    exact ⟨rfl, (by repeat (first | exact Ext.refl _ | assumption | refine Ext.alloc ?_ _ | refine Ext.drew ?_ | refine Ext.drewN ?_ _ | refine Ext.setCell ?_ (by first | omega | (dsimp only; omega) | (simp; done) | (simp; omega)) _ | refine Ext.trans ?_ (by assumption)))⟩
  have HE : Hid (nm P Q = normN P Q) := by unfold Hid nm normN; rw [h1, Int.mul_assoc]; rfl
  cases h3 : Wn (nm P Q) (-1000000000) 1000000000
  · have HO : Hid (okS P Q = false) := by unfold Hid okS; rw [h3, Bool.and_false]
    rw [HO.out]
    clear HO
    rw [HE.out] at h3
    go_enter Try.func31, Try.ntmps31
    go_wp2_with fail
    refine (s_normRoot2_any _ _ _).mono ?_
    rintro e w1 ⟨rfl, hx1⟩
    obtain ⟨hc1, hf1⟩ := hx1.cells
    have hz1 := hx1.size
    try simp at hz1
    have hs1_0 := sz1 (a := w.heap.size) (b := w1.heap.size) (by omega)
    go_wp2_with (go_at_call 58; ((with_reducible refine (l1In_any _ _ _ _).mono ?_); rintro e w' ⟨rfl, rfl⟩))
    go_ret2
    exact ⟨rfl, (by repeat (first | exact Ext.refl _ | assumption | refine Ext.alloc ?_ _ | refine Ext.drew ?_ | refine Ext.drewN ?_ _ | refine Ext.setCell ?_ (by first | omega | (dsimp only; omega) | (simp; done) | (simp; omega)) _ | refine Ext.trans ?_ (by assumption)))⟩
  have HO : Hid (okS P Q = true) := by unfold Hid okS; rw [h1, h3]; simp [h2]
  have HI := Lib.hid (l26Is_any P Q h1 (Wn_iff.1 h3))
  rw [HO.out]
  rw [HE.out] at h3
  clear HO
  go_enter Try.func31, Try.ntmps31
  go_wp2_with fail
  refine (s_normRoot2_any _ _ _).mono ?_
  rintro e w1 ⟨rfl, hx1⟩
  obtain ⟨hc1, hf1⟩ := hx1.cells
  have hz1 := hx1.size
  try simp at hz1
  have hs1_0 := sz1 (a := w.heap.size) (b := w1.heap.size) (by omega)
  go_wp2_with (go_at_call 58; ((with_reducible refine (l1In_any _ _ _ _).mono ?_); rintro e w' ⟨rfl, rfl⟩))
  refine (HI.out _).mono ?_
  rintro e w2 ⟨rfl, hx2⟩
  obtain ⟨hc2, hf2⟩ := hx2.cells
  have hz2 := hx2.size
  try simp at hz2
  have hs2_0 := sz1 (a := w.heap.size) (b := w2.heap.size) (by omega)
  go_wp2
  go_ret2
  exact ⟨rfl, (by repeat (first | exact Ext.refl _ | assumption | refine Ext.alloc ?_ _ | refine Ext.drew ?_ | refine Ext.drewN ?_ _ | refine Ext.setCell ?_ (by first | omega | (dsimp only; omega) | (simp; done) | (simp; omega)) _ | refine Ext.trans ?_ (by assumption)))⟩

theorem law_IsSumNorm (p q : Int) (w : World) :
    Calls Try.prog 7 #[.agg #[.int .i64 p, .int .i64 q]] w fun e w' => e = .returned (.bool true) ∧ Ext w w' := by
  go_enter Try.func7, Try.ntmps7
  go_wp2_with fail
  refine (toRoot2_any _ _ _).mono ?_
  rintro e w1 ⟨rfl, hx1⟩
  obtain ⟨hc1, hf1⟩ := hx1.cells
  have hz1 := hx1.size
  try simp at hz1
  have hs1_0 := sz1 (a := w.heap.size) (b := w1.heap.size) (by omega)
  go_wp2_with fail
  refine (s_isSumNorm_any _ _ _).mono ?_
  rintro e w2 ⟨rfl, hx2⟩
  obtain ⟨hc2, hf2⟩ := hx2.cells
  have hz2 := hx2.size
  try simp at hz2
  have hs2_0 := sz1 (a := w.heap.size) (b := w2.heap.size) (by omega)
  go_wp2_with fail
  refine (toRoot2_any _ _ _).mono ?_
  rintro e w3 ⟨rfl, hx3⟩
  obtain ⟨hc3, hf3⟩ := hx3.cells
  have hz3 := hx3.size
  try simp at hz3
  go_wp2_with fail
  refine (isSumNorm_any _ _ _).mono ?_
  rintro e w4 ⟨rfl, hx4⟩
  obtain ⟨hc4, hf4⟩ := hx4.cells
  have hz4 := hx4.size
  try simp at hz4
  go_wp2
  go_ret
  exact ⟨rfl, (by repeat (first | exact Ext.refl _ | assumption | refine Ext.alloc ?_ _ | refine Ext.drew ?_ | refine Ext.drewN ?_ _ | refine Ext.setCell ?_ (by first | omega | (dsimp only; omega) | (simp; done) | (simp; omega)) _ | refine Ext.trans ?_ (by assumption)))⟩

end Go.Proofs.Ytkjamaacapaokaa
