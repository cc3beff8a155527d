/- MulMatrix: the program's side. -/
import Derived.Test.YtnlhonlfkmpleaaMu
namespace Go.Proofs.Ytnlhonlfkmpleaa
open Go.RowKit Go.Lib
set_option linter.unusedVariables false
set_option linter.unusedSimpArgs false

/-- whether two matrices can be multiplied, whether their product is there -/
def mmTo (xs ys : List Int) (K C n : Nat) : Bool := allTo (fun p => mlO xs ys K C (p / C) (p % C) K) n
def mmLM (xs ys : List Int) (K C n : Nat) : List Int := moL (fun p => (mcV xs ys K C (p / C) (p % C)).1) (fun p => (mcV xs ys K C (p / C) (p % C)).2) n
def mmOkM (r c : Int) (n : Nat) (xs : List Int) (r' c' : Int) (m : Nat) (ys : List Int) : Bool := (mGood r c n xs && (mGood r' c' m ys && (c == r'))) && mmTo xs ys c.toNat c'.toNat (r.toNat * c'.toNat)
theorem nat_of_dim {r : Int} (h : dimB r = true) : ∃ R : Nat, r = R := ⟨r.toNat, by have := dim_bd h; omega⟩
theorem pair_div {i j C : Nat} (hj : j < C) : (i * C + j) / C = i ∧ (i * C + j) % C = j := by
  constructor
  · rw [Nat.add_comm, Nat.add_mul_div_right _ _ (by omega), Nat.div_eq_of_lt hj, Nat.zero_add]
  · rw [Nat.add_comm, Nat.add_mul_mod_self_right, Nat.mod_eq_of_lt hj]
theorem mm_le (r c : Int) (n : Nat) (xs : List Int) (r' c' : Int) (m : Nat) (ys : List Int) : ifN (mmOkM r c n xs r' c' m ys) (r.toNat * c'.toNat) ≤ 1024 := by
  unfold ifN
  split
  case isFalse => omega
  case isTrue h =>
    unfold mmOkM at h
    simp only [Bool.and_eq_true] at h
    have b1 := dim_bd (mGood_facts h.1.1).1
    have b2 := dim_bd (mGood_facts h.1.2.1).2.1
    exact Nat.mul_le_mul (show r.toNat ≤ 32 by omega) (show c'.toNat ≤ 32 by omega)

set_option maxHeartbeats 4000000 in
theorem mulMatrix_any (r c r' c' : Int) {v1 v2 : Value} {n m : Nat} {xs ys : List Int} (hn : n ≤ 2000000) (hm : m ≤ 2000000) (w : World) (h1 : RV w 5 v1 n xs) (h2 : RV w 5 v2 m ys) :
    Calls Try.prog 44 #[.agg #[.int .i64 r, .int .i64 c, v1], .agg #[.int .i64 r', .int .i64 c', v2]] w fun en w' => ∃ v, en = .returned (.tuple #[.agg #[.int .i64 (ifZ (mmOkM r c n xs r' c' m ys) r), .int .i64 (ifZ (mmOkM r c n xs r' c' m ys) c'), v], .bool (mmOkM r c n xs r' c' m ys)]) ∧
      w'.ownsRow w.heap.size 34 5 v (ifN (mmOkM r c n xs r' c' m ys) (r.toNat * c'.toNat)) (IL (ifL (mmOkM r c n xs r' c' m ys) (mmLM xs ys c.toNat c'.toNat (r.toNat * c'.toNat)))) ∧ Ext w w' := by
  have HV1 := fun w' (hx : Ext w w') => Lib.hid (isValidMatrix_any r c hn w' (h1.ext hx))
  have HV2 := fun w' (hx : Ext w w') => Lib.hid (isValidMatrix_any r' c' hm w' (h2.ext hx))
  have HO : Hid (mmOkM r c n xs r' c' m ys = ((mGood r c n xs && (mGood r' c' m ys && (c == r'))) && mmTo xs ys c.toNat c'.toNat (r.toNat * c'.toNat))) := rfl
  have R1 := fun w' (hx : Ext w w') => Lib.hid (h1.ext hx)
  have R2' := fun w' (hx : Ext w w') => Lib.hid (h2.ext hx)
  obtain ⟨_, a1, cap1, rfl, _⟩ := h1
  obtain ⟨_, a2, cap2, rfl, _⟩ := h2
  cases g1 : mGood r c n xs
  · rw [g1] at HV1 HO
    have HF : Hid (mmOkM r c n xs r' c' m ys = false) := HO.out.trans (by simp)
    go_enter Try.func44, Try.ntmps44
    go_wp2_with fail
    refine ((HV1 _ (by repeat (first | exact Ext.refl _ | assumption | refine Ext.alloc ?_ _ | refine Ext.drew ?_ | refine Ext.drewN ?_ _ | refine Ext.setCell ?_ (by first | omega | (dsimp only; omega) | (simp; done) | (simp; omega)) _ | refine Ext.trans ?_ (by assumption)))).out).mono ?_
    rintro e w1 ⟨rfl, hx1⟩
    obtain ⟨hc1, hf1⟩ := hx1.cells
    have hz1 := hx1.size
    try simp at hz1
    have hs1_0 := sz3 (a := w.heap.size) (b := w1.heap.size) (by omega)
    go_wp2
    refine bodyPost_ret (v := .tuple #[.agg #[.int .i64 0, .int .i64 0, .slice none 0 0], .bool false]) (by simp [results, Try.results44, go_sem, *]) rfl ?_
    rw [HF.out]
    exact ⟨_, rfl, own_nil _ _ _ _, (by repeat (first | (with_reducible refine Ext.setCell ?_ (by first | (simp; done) | (simp; omega)) _) | with_reducible refine Ext.alloc ?_ _ | with_reducible refine Ext.drew ?_ | with_reducible refine Ext.drewN ?_ _ | with_reducible assumption | with_reducible exact Ext.refl _ | with_reducible refine Ext.trans ?_ (by with_reducible assumption)))⟩
  cases g2 : mGood r' c' m ys
  · rw [g1] at HV1 HO
    rw [g2] at HV2 HO
    have HF : Hid (mmOkM r c n xs r' c' m ys = false) := HO.out.trans (by simp)
    go_enter Try.func44, Try.ntmps44
    go_wp2_with fail
    refine ((HV1 _ (by repeat (first | exact Ext.refl _ | assumption | refine Ext.alloc ?_ _ | refine Ext.drew ?_ | refine Ext.drewN ?_ _ | refine Ext.setCell ?_ (by first | omega | (dsimp only; omega) | (simp; done) | (simp; omega)) _ | refine Ext.trans ?_ (by assumption)))).out).mono ?_
    rintro e w1 ⟨rfl, hx1⟩
    obtain ⟨hc1, hf1⟩ := hx1.cells
    have hz1 := hx1.size
    try simp at hz1
    have hs1_0 := sz3 (a := w.heap.size) (b := w1.heap.size) (by omega)
    go_wp2_with fail
    refine ((HV2 _ (by repeat (first | exact Ext.refl _ | assumption | refine Ext.alloc ?_ _ | refine Ext.drew ?_ | refine Ext.drewN ?_ _ | refine Ext.setCell ?_ (by first | omega | (dsimp only; omega) | (simp; done) | (simp; omega)) _ | refine Ext.trans ?_ (by assumption)))).out).mono ?_
    rintro e w2 ⟨rfl, hx2⟩
    obtain ⟨hc2, hf2⟩ := hx2.cells
    have hz2 := hx2.size
    try simp at hz2
    have hs2_0 := sz3 (a := w.heap.size) (b := w2.heap.size) (by omega)
    go_wp2
    refine bodyPost_ret (v := .tuple #[.agg #[.int .i64 0, .int .i64 0, .slice none 0 0], .bool false]) (by simp [results, Try.results44, go_sem, *]) rfl ?_
    rw [HF.out]
    exact ⟨_, rfl, own_nil _ _ _ _, (by repeat (first | (with_reducible refine Ext.setCell ?_ (by first | (simp; done) | (simp; omega)) _) | with_reducible refine Ext.alloc ?_ _ | with_reducible refine Ext.drew ?_ | with_reducible refine Ext.drewN ?_ _ | with_reducible assumption | with_reducible exact Ext.refl _ | with_reducible refine Ext.trans ?_ (by with_reducible assumption)))⟩
  by_cases g3 : c = r'
  case neg =>
    rw [g1] at HV1 HO
    rw [g2] at HV2 HO
    have HF : Hid (mmOkM r c n xs r' c' m ys = false) := HO.out.trans (by simp [g3])
    go_enter Try.func44, Try.ntmps44
    go_wp2_with fail
    refine ((HV1 _ (by repeat (first | exact Ext.refl _ | assumption | refine Ext.alloc ?_ _ | refine Ext.drew ?_ | refine Ext.drewN ?_ _ | refine Ext.setCell ?_ (by first | omega | (dsimp only; omega) | (simp; done) | (simp; omega)) _ | refine Ext.trans ?_ (by assumption)))).out).mono ?_
    rintro e w1 ⟨rfl, hx1⟩
    obtain ⟨hc1, hf1⟩ := hx1.cells
    have hz1 := hx1.size
    try simp at hz1
    have hs1_0 := sz3 (a := w.heap.size) (b := w1.heap.size) (by omega)
    go_wp2_with fail
    refine ((HV2 _ (by repeat (first | exact Ext.refl _ | assumption | refine Ext.alloc ?_ _ | refine Ext.drew ?_ | refine Ext.drewN ?_ _ | refine Ext.setCell ?_ (by first | omega | (dsimp only; omega) | (simp; done) | (simp; omega)) _ | refine Ext.trans ?_ (by assumption)))).out).mono ?_
    rintro e w2 ⟨rfl, hx2⟩
    obtain ⟨hc2, hf2⟩ := hx2.cells
    have hz2 := hx2.size
    try simp at hz2
    have hs2_0 := sz3 (a := w.heap.size) (b := w2.heap.size) (by omega)
    go_wp2
    refine bodyPost_ret (v := .tuple #[.agg #[.int .i64 0, .int .i64 0, .slice none 0 0], .bool false]) (by simp [results, Try.results44, go_sem, *]) rfl ?_
    rw [HF.out]
    exact ⟨_, rfl, own_nil _ _ _ _, (by repeat (first | (with_reducible refine Ext.setCell ?_ (by first | (simp; done) | (simp; omega)) _) | with_reducible refine Ext.alloc ?_ _ | with_reducible refine Ext.drew ?_ | with_reducible refine Ext.drewN ?_ _ | with_reducible assumption | with_reducible exact Ext.refl _ | with_reducible refine Ext.trans ?_ (by with_reducible assumption)))⟩
  subst g3
  rw [g1] at HV1 HO
  rw [g2] at HV2 HO
  simp only [beq_self_eq_true, Bool.true_and] at HO
  obtain ⟨d1, d2, e1, _⟩ := mGood_facts g1
  obtain ⟨_, d3, e2, _⟩ := mGood_facts g2
  obtain ⟨R, rfl⟩ := nat_of_dim d1
  obtain ⟨K, rfl⟩ := nat_of_dim d2
  obtain ⟨C, rfl⟩ := nat_of_dim d3
  obtain rfl : n = R * K := by exact_mod_cast e1
  obtain rfl : m = K * C := by exact_mod_cast e2
  have bR := dim_bd d1
  have bK := dim_bd d2
  have bC := dim_bd d3
  rw [HO.out]
  simp only [Int.toNat_natCast]
  unfold mmTo mmLM
  have HMO := fun w2 hcl => Lib.hid (matrixOf_mul R C d1 d3 w.heap.size (w.heap.size + 1) (fun p => (mcV xs ys K C (p / C) (p % C)).1) (fun p => (mcV xs ys K C (p / C) (p % C)).2) (fun p => mlO xs ys K C (p / C) (p % C) K) w2 hcl)
  clear HO g1 g2 d1 d2 d3 e1 e2
  have HCC' : ∀ (i j : Nat) (hi : i < R) (hj : j < C) (w' : World), RV w' 5 (.slice a1 (R * K) cap1) (R * K) xs → RV w' 5 (.slice a2 (K * C) cap2) (K * C) ys →
      w'.heap[w.heap.size]? = some (.cells #[.int .i64 R, .int .i64 K, .slice a1 (R * K) cap1] 51 (0, 0)) → w'.heap[w.heap.size + 1]? = some (.cells #[.int .i64 K, .int .i64 C, .slice a2 (K * C) cap2] 51 (0, 0)) →
      Hid (Calls Try.prog 93 #[.int .i64 i, .int .i64 j, .pointer (some ⟨w.heap.size, 0, none⟩), .pointer (some ⟨w.heap.size + 1, 0, none⟩)] w' fun en w'' =>
      en = .returned (.tuple #[.agg #[.int .i64 (mcV xs ys K C ((i * C + j) / C) ((i * C + j) % C)).1.a, .int .i64 (mcV xs ys K C ((i * C + j) / C) ((i * C + j) % C)).1.b, .int .i64 (mcV xs ys K C ((i * C + j) / C) ((i * C + j) % C)).1.c, .int .i64 (mcV xs ys K C ((i * C + j) / C) ((i * C + j) % C)).1.d, .int .i64 (mcV xs ys K C ((i * C + j) / C) ((i * C + j) % C)).2], .bool (mlO xs ys K C ((i * C + j) / C) ((i * C + j) % C) K)]) ∧ Ext w' w'') := by
    intro i j hi hj w' k1 k2 k3 k4
    obtain ⟨q1, q2⟩ := pair_div (i := i) hj
    rw [q1, q2]
    exact mulCell_any R K C (by omega) (by omega) (by omega) i j hi hj w.heap.size (w.heap.size + 1) w' k1 k2 k3 k4
  generalize allTo (fun p => mlO xs ys K C (p / C) (p % C) K) (R * C) = o at HMO ⊢
  generalize moL (fun p => (mcV xs ys K C (p / C) (p % C)).1) (fun p => (mcV xs ys K C (p / C) (p % C)).2) (R * C) = L at HMO ⊢
  generalize ifZ o (R : Int) = rr at HMO ⊢
  generalize ifZ o (C : Int) = cc at HMO ⊢
  generalize ifN o (R * C) = nn at HMO ⊢
  generalize ifL o L = LL at HMO ⊢
  go_enter Try.func44, Try.ntmps44
  go_wp2_with fail
  refine ((HV1 _ (by repeat (first | exact Ext.refl _ | assumption | refine Ext.alloc ?_ _ | refine Ext.drew ?_ | refine Ext.drewN ?_ _ | refine Ext.setCell ?_ (by first | omega | (dsimp only; omega) | (simp; done) | (simp; omega)) _ | refine Ext.trans ?_ (by assumption)))).out).mono ?_
  rintro e w1 ⟨rfl, hx1⟩
  obtain ⟨hc1, hf1⟩ := hx1.cells
  have hz1 := hx1.size
  try simp at hz1
  have hs1_0 := sz3 (a := w.heap.size) (b := w1.heap.size) (by omega)
  go_wp2_with fail
  refine ((HV2 _ (by repeat (first | exact Ext.refl _ | assumption | refine Ext.alloc ?_ _ | refine Ext.drew ?_ | refine Ext.drewN ?_ _ | refine Ext.setCell ?_ (by first | omega | (dsimp only; omega) | (simp; done) | (simp; omega)) _ | refine Ext.trans ?_ (by assumption)))).out).mono ?_
  rintro e w2 ⟨rfl, hx2⟩
  obtain ⟨hc2, hf2⟩ := hx2.cells
  have hz2 := hx2.size
  try simp at hz2
  have hs2_0 := sz3 (a := w.heap.size) (b := w2.heap.size) (by omega)
  have hb1 : w2.heap[w.heap.size]? = some (.cells #[.int .i64 R, .int .i64 K, .slice a1 (R * K) cap1] 51 (0, 0)) := (hx2.heap (by omega)).trans ((hx1.heap (by simp <;> omega)).trans (heap_alloc_lt (heap_alloc_lt (heap_alloc_new _ _))))
  have hb2 : w2.heap[w.heap.size + 1]? = some (.cells #[.int .i64 K, .int .i64 C, .slice a2 (K * C) cap2] 51 (0, 0)) := (hx2.heap (by omega)).trans ((hx1.heap (by simp <;> omega)).trans (heap_alloc_lt (heap_alloc_at _ _ _ (by simp))))
  have hE2 : Ext w w2 := (by repeat (first | (with_reducible refine Ext.setCell ?_ (by first | (simp; done) | (simp; omega)) _) | with_reducible refine Ext.alloc ?_ _ | with_reducible refine Ext.drew ?_ | with_reducible refine Ext.drewN ?_ _ | with_reducible assumption | with_reducible exact Ext.refl _ | with_reducible refine Ext.trans ?_ (by with_reducible assumption)))
  have HCL := HMO w2 (fun i j w' hi hj hx => HCC' i j hi hj w' (R1 w' (hE2.trans hx)).out (R2' w' (hE2.trans hx)).out ((hx.heap (by omega)).trans hb1) ((hx.heap (by omega)).trans hb2))
  clear HMO HCC' hb1 hb2 R1 R2' HV1 HV2
  go_wp2_with fail
  refine HCL.out.mono ?_
  rintro e w3 ⟨v, rfl, o3, hx3⟩
  obtain ⟨hc3, hf3⟩ := hx3.cells
  have hz3 := hx3.size
  try simp at hz3
  have hs3_0 := sz3 (a := w.heap.size) (b := w3.heap.size) (by omega)
  have O3 := Lib.hid (own_base (base' := w2.heap.size) o3 (by omega))
  obtain ⟨a', cap', rfl, q1, q2, q3⟩ := own_shape o3
  clear q3 o3 HCL
  go_wp2
  refine bodyPost_ret (v := .tuple #[.agg #[.int .i64 rr, .int .i64 cc, .slice a' nn cap'], .bool o]) (by simp [results, Try.results44, go_sem, *]) rfl ?_
  exact ⟨_, rfl, own_base (own_set (own_set (own_set O3.out (by simp; omega) _) (by simp; omega) _) (by simp; omega) _) (by omega), (by repeat (first | (with_reducible refine Ext.setCell ?_ (by first | (simp; done) | (simp; omega)) _) | with_reducible refine Ext.alloc ?_ _ | with_reducible refine Ext.drew ?_ | with_reducible refine Ext.drewN ?_ _ | with_reducible assumption | with_reducible exact Ext.refl _ | with_reducible refine Ext.trans ?_ (by with_reducible assumption)))⟩

end Go.Proofs.Ytnlhonlfkmpleaa
