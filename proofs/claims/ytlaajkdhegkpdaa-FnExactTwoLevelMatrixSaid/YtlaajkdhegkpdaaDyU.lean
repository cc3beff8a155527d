/- Dyadic numbers: low forms are unique; the sum and the product obey the laws of a ring. -/
import Derived.Test.YtlaajkdhegkpdaaDyO
import Derived.Test.YtlaajkdhegkpdaaDyN
namespace Go.Proofs.Ytlaajkdhegkpdaa
open Go.RowKit
set_option linter.unusedVariables false

/-- times a power of the root of two -/
def rt : Nat → R4 → R4
  | 0, x => x
  | n + 1, x => (rt n x).root
theorem R4.eq {x y : R4} (h1 : x.a = y.a) (h2 : x.b = y.b) (h3 : x.c = y.c) (h4 : x.d = y.d) : x = y := by
  cases x; cases y; simp_all
theorem root_add (x y : R4) : (x.add y).root = x.root.add y.root := by
  refine R4.eq ?_ ?_ ?_ ?_ <;> simp only [R4.root, R4.add] <;> omega
theorem root_inj {x y : R4} (h : x.root = y.root) : x = y := by
  simp only [R4.root, R4.mk.injEq] at h
  refine R4.eq ?_ ?_ ?_ ?_ <;> omega
theorem root_mul (x y : R4) : (x.mul y).root = x.root.mul y := by
  refine R4.eq ?_ ?_ ?_ ?_ <;> simp only [R4.root, R4.mul, mrA, mrB, mrC, mrD] <;> grind
theorem add_mul4 (x y z : R4) : (x.add y).mul z = (x.mul z).add (y.mul z) := by
  refine R4.eq ?_ ?_ ?_ ?_ <;> simp only [R4.add, R4.mul, mrA, mrB, mrC, mrD] <;> grind
theorem mul_comm4 (x y : R4) : x.mul y = y.mul x := by
  refine R4.eq ?_ ?_ ?_ ?_ <;> simp only [R4.mul, mrA, mrB, mrC, mrD] <;> grind
theorem add_comm4 (x y : R4) : x.add y = y.add x := by
  refine R4.eq ?_ ?_ ?_ ?_ <;> simp only [R4.add] <;> omega
theorem add_neg4 (x y : R4) : (x.add y).add y.neg = x := by
  refine R4.eq ?_ ?_ ?_ ?_ <;> simp only [R4.add, R4.neg] <;> omega
theorem rt_add : ∀ n (x y : R4), rt n (x.add y) = (rt n x).add (rt n y)
  | 0, _, _ => rfl
  | n + 1, x, y => by unfold rt; rw [rt_add n, root_add]
theorem rt_neg : ∀ n (x : R4), rt n x.neg = (rt n x).neg
  | 0, _ => rfl
  | n + 1, x => by
    unfold rt; rw [rt_neg n]
    refine R4.eq ?_ ?_ ?_ ?_ <;> simp only [R4.root, R4.neg] <;> omega
theorem rt_mul : ∀ n (x y : R4), rt n (x.mul y) = (rt n x).mul y
  | 0, _, _ => rfl
  | n + 1, x, y => by unfold rt; rw [rt_mul n, root_mul]
theorem rt_rt : ∀ m n (x : R4), rt m (rt n x) = rt (m + n) x
  | 0, n, x => by rw [Nat.zero_add]; rfl
  | m + 1, n, x => by
    rw [show m + 1 + n = (m + n) + 1 by omega]
    unfold rt
    rw [rt_rt m]
theorem rt_inj : ∀ n {x y : R4}, rt n x = rt n y → x = y
  | 0, _, _, h => h
  | n + 1, _, _, h => rt_inj n (root_inj h)
theorem ev_root (x : R4) : x.root.ev = true := by
  unfold R4.ev evR R4.root
  rw [show x.b - x.d + (x.b + x.d) = 2 * x.b by omega, show x.a + x.c + (x.c - x.a) = 2 * x.c by omega]
  simp
theorem root_half {x : R4} (h : x.ev = true) : x.half.root = x := by
  simp only [R4.ev, evR, Bool.and_eq_true, beq_iff_eq] at h
  have d1 : (2 : Int) ∣ x.a + x.c := Int.dvd_of_tmod_eq_zero h.1
  have d2 : (2 : Int) ∣ x.b + x.d := Int.dvd_of_tmod_eq_zero h.2
  have d3 : (2 : Int) ∣ x.b - x.d := by omega
  have d4 : (2 : Int) ∣ x.c - x.a := by omega
  refine R4.eq ?_ ?_ ?_ ?_ <;> simp only [R4.half, R4.root, Int.tdiv_eq_ediv_of_dvd d1, Int.tdiv_eq_ediv_of_dvd d2, Int.tdiv_eq_ediv_of_dvd d3, Int.tdiv_eq_ediv_of_dvd d4] <;> omega
theorem low_rt : ∀ n (x : R4), rt (n - lowE n x) (lowX n x) = x
  | 0, x => rfl
  | n + 1, x => by
    unfold lowX lowE
    split
    · rename_i h
      have hle := lowE_le n x.half
      rw [show n + 1 - lowE n x.half = (n - lowE n x.half) + 1 by omega]
      show (rt (n - lowE n x.half) (lowX n x.half)).root = x
      rw [low_rt n x.half, root_half h]
    · rw [Nat.sub_self]; rfl
theorem uniq1 {A B : R4} {E F N : Nat} (hEN : E ≤ N) (hFN : F ≤ N) (hB : F = 0 ∨ B.ev = false) (h : rt (N - E) A = rt (N - F) B) : F ≤ E := by
  rcases Nat.lt_or_ge E F with g | g
  · exfalso
    rw [show N - E = (N - F) + (F - E) by omega, ← rt_rt] at h
    have h2 := rt_inj _ h
    rw [show F - E = (F - E - 1) + 1 by omega] at h2
    have h3 : B.ev = true := by rw [← h2]; exact ev_root _
    rcases hB with h4 | h4
    · omega
    · rw [h3] at h4; cases h4
  · exact g
/-- low forms are unique -/
theorem uniq {A B : R4} {E F N : Nat} (hEN : E ≤ N) (hFN : F ≤ N) (hA : E = 0 ∨ A.ev = false) (hB : F = 0 ∨ B.ev = false) (h : rt (N - E) A = rt (N - F) B) : A = B ∧ E = F := by
  have h1 := uniq1 hEN hFN hB h
  have h2 := uniq1 hFN hEN hA h.symm
  have h3 : E = F := by omega
  subst h3
  exact ⟨rt_inj _ h, rfl⟩
theorem raise_rt : ∀ n (x : R4), raiseB n x = false → raiseV n x = rt n x
  | 0, _, _ => rfl
  | n + 1, x, h => by
    unfold raiseB at h
    rw [Bool.or_eq_false_iff, Bool.not_eq_false'] at h
    rw [clip_true h.1] at h
    unfold raiseV
    rw [clip_true h.1, raise_rt n _ h.2]
    have : ∀ n (x : R4), rt n x.root = (rt n x).root := by
      intro n
      induction n with
      | zero => intro x; rfl
      | succ n ih => intro x; unfold rt; rw [ih]
    rw [this]
    rfl

theorem ad_spec {X : R4} {e : Int} {Y : R4} {j : Int} (h : adOk X e Y j = true) : ∃ s m n : Nat, e = m ∧ j = n ∧ adE X e Y j = s ∧ s ≤ max m n ∧ (s = 0 ∨ (adX X e Y j).ev = false) ∧ (m = 0 ∨ X.ev = false) ∧ (n = 0 ∨ Y.ev = false) ∧
    rt (max m n - s) (adX X e Y j) = (rt (max m n - m) X).add (rt (max m n - n) Y) := by
  have hx : adX X e Y j = dyX X e.toNat Y j.toNat := if_pos h
  have he : adE X e Y j = (dyE X e.toNat Y j.toNat : Int) := if_pos h
  have h' := h
  simp only [adOk, Bool.and_eq_true, Bool.not_eq_true'] at h'
  obtain ⟨⟨g1, g2⟩, g3⟩ := h'
  obtain ⟨_, a1, a2, a3⟩ := GD_rg g1
  obtain ⟨_, b1, b2, b3⟩ := GD_rg g2
  rw [hx, he]
  unfold dyBad at g3
  rw [Bool.or_eq_false_iff, Bool.or_eq_false_iff, Bool.not_eq_false'] at g3
  obtain ⟨⟨c1, c2⟩, c3⟩ := g3
  refine ⟨dyE X e.toNat Y j.toNat, e.toNat, j.toNat, by omega, by omega, rfl, lowE_le _ _, ?_, ?_, ?_, ?_⟩
  · exact low_nev _ _
  · rcases a3 with h | h
    · exact .inl (by omega)
    · exact .inr h
  · rcases b3 with h | h
    · exact .inl (by omega)
    · exact .inr h
  · unfold dyX dyE
    rw [low_rt, clip_true c3]
    unfold dyS
    rw [raise_rt _ _ c1, raise_rt _ _ c2]
    rw [show max e.toNat j.toNat - e.toNat = j.toNat - e.toNat by omega, show max e.toNat j.toNat - j.toNat = e.toNat - j.toNat by omega]
theorem mu_spec {X : R4} {e : Int} {Y : R4} {j : Int} (h : muOk X e Y j = true) : ∃ s m n : Nat, e = m ∧ j = n ∧ muE X e Y j = s ∧ s ≤ m + n ∧ (s = 0 ∨ (muX X e Y j).ev = false) ∧
    rt (m + n - s) (muX X e Y j) = X.mul Y := by
  have hx : muX X e Y j = mvX X e.toNat Y j.toNat := if_pos h
  have he : muE X e Y j = (mvE X e.toNat Y j.toNat : Int) := if_pos h
  have h' := h
  simp only [muOk, Bool.and_eq_true, Bool.not_eq_true'] at h'
  obtain ⟨⟨g1, g2⟩, g3⟩ := h'
  obtain ⟨_, a1, a2, a3⟩ := GD_rg g1
  obtain ⟨_, b1, b2, b3⟩ := GD_rg g2
  rw [hx, he]
  unfold mvBad at g3
  rw [Bool.or_eq_false_iff, Bool.not_eq_false', decide_eq_false_iff_not] at g3
  obtain ⟨c1, c2⟩ := g3
  have e1 : mvX X e.toNat Y j.toNat = lowX (e.toNat + j.toNat) (X.mul Y).clip := if_neg c1
  have e2 : mvE X e.toNat Y j.toNat = lowE (e.toNat + j.toNat) (X.mul Y).clip := if_neg c1
  rw [e1, e2, clip_true c2]
  exact ⟨_, e.toNat, j.toNat, by omega, by omega, rfl, lowE_le _ _, low_nev _ _, low_rt _ _⟩
theorem max_comm' (m n : Nat) : max m n = max n m := by omega
theorem ad_comm (X : R4) (e : Int) (Y : R4) (j : Int) : adOk X e Y j = adOk Y j X e ∧ adX X e Y j = adX Y j X e ∧ adE X e Y j = adE Y j X e := by
  have hS : ∀ m n, dyS X m Y n = dyS Y n X m := fun m n => add_comm4 _ _
  have hB : ∀ m n, dyBad X m Y n = dyBad Y n X m := fun m n => by
    unfold dyBad
    rw [hS, Bool.or_comm (raiseB (n - m) X)]
  have hO : adOk X e Y j = adOk Y j X e := by
    unfold adOk
    rw [hB, Bool.and_comm (GD X e)]
  refine ⟨hO, ?_, ?_⟩
  · unfold adX
    rw [hO]
    unfold dyX
    rw [hS, max_comm']
  · unfold adE
    rw [hO]
    unfold dyE
    rw [hS, max_comm']
theorem mu_comm (X : R4) (e : Int) (Y : R4) (j : Int) : muOk X e Y j = muOk Y j X e ∧ muX X e Y j = muX Y j X e ∧ muE X e Y j = muE Y j X e := by
  have hB : ∀ m n, mvBad X m Y n = mvBad Y n X m := fun m n => by
    unfold mvBad
    rw [mul_comm4, Nat.add_comm]
  have hO : muOk X e Y j = muOk Y j X e := by
    unfold muOk
    rw [hB, Bool.and_comm (GD X e)]
  refine ⟨hO, ?_, ?_⟩
  · unfold muX
    rw [hO]
    unfold mvX
    rw [mul_comm4 X, Nat.add_comm]
  · unfold muE
    rw [hO]
    unfold mvE
    rw [mul_comm4 X, Nat.add_comm]
theorem ad_back {X : R4} {e : Int} {Y : R4} {j : Int} (h : adOk X e Y j = true) (h2 : adOk (adX X e Y j) (adE X e Y j) Y.neg j = true) :
    adX (adX X e Y j) (adE X e Y j) Y.neg j = X ∧ adE (adX X e Y j) (adE X e Y j) Y.neg j = e := by
  obtain ⟨s, m, n, hm, hn, hs, h3, h4, h5, h6, h7⟩ := ad_spec h
  obtain ⟨s', m', n', hm', hn', hs', k3, k4, k5, k6, k7⟩ := ad_spec h2
  generalize adX (adX X e Y j) (adE X e Y j) Y.neg j = Q at *
  generalize adE (adX X e Y j) (adE X e Y j) Y.neg j = q at *
  generalize adX X e Y j = T at *
  obtain rfl : m' = s := by omega
  obtain rfl : n' = n := by omega
  have key : rt (max m n' - s') Q = rt (max m n' - m) X := by
    have e1 : rt (max m n' - s') Q = rt (max m n' - max m' n') (rt (max m' n' - s') Q) := by rw [rt_rt]; congr 1; omega
    rw [e1, k7, rt_add, rt_rt, rt_rt]
    rw [show max m n' - max m' n' + (max m' n' - m') = max m n' - m' by omega, show max m n' - max m' n' + (max m' n' - n') = max m n' - n' by omega]
    rw [h7, rt_neg, add_neg4]
  have := uniq (N := max m n') (by omega) (by omega) k4 h5 key
  exact ⟨this.1, by omega⟩
theorem ad_mul {X : R4} {e : Int} {Y : R4} {j : Int} {Z : R4} {l : Int} (h : adOk X e Y j = true) (h1 : muOk X e Z l = true) (h2 : muOk Y j Z l = true) (h3 : muOk (adX X e Y j) (adE X e Y j) Z l = true)
    (h4 : adOk (muX X e Z l) (muE X e Z l) (muX Y j Z l) (muE Y j Z l) = true) :
    muX (adX X e Y j) (adE X e Y j) Z l = adX (muX X e Z l) (muE X e Z l) (muX Y j Z l) (muE Y j Z l) ∧ muE (adX X e Y j) (adE X e Y j) Z l = adE (muX X e Z l) (muE X e Z l) (muX Y j Z l) (muE Y j Z l) := by
  obtain ⟨s, m, n, hm, hn, hs, a3, a4, a5, a6, a7⟩ := ad_spec h
  obtain ⟨u, m1, l1, b1, b2, b3, b4, b5, b6⟩ := mu_spec h1
  obtain ⟨v, n1, l2, c1, c2, c3, c4, c5, c6⟩ := mu_spec h2
  obtain ⟨p, s1, l3, d1, d2, d3, d4, d5, d6⟩ := mu_spec h3
  obtain ⟨q, u1, v1, e1, e2, e3, e4, e5, e6, e7, e8⟩ := ad_spec h4
  generalize muX (adX X e Y j) (adE X e Y j) Z l = P at *
  generalize muE (adX X e Y j) (adE X e Y j) Z l = pe at *
  generalize adX (muX X e Z l) (muE X e Z l) (muX Y j Z l) (muE Y j Z l) = Q at *
  generalize adE (muX X e Z l) (muE X e Z l) (muX Y j Z l) (muE Y j Z l) = qe at *
  generalize muX X e Z l = U at *
  generalize muX Y j Z l = V at *
  generalize adX X e Y j = T at *
  obtain rfl : m1 = m := by omega
  obtain rfl : n1 = n := by omega
  obtain rfl : l2 = l1 := by omega
  obtain rfl : l3 = l2 := by omega
  obtain rfl : s1 = s := by omega
  obtain rfl : u1 = u := by omega
  obtain rfl : v1 = v := by omega
  have d3' := d3
  have e3' := e3
  clear h h1 h2 h3 h4 hm hn hs b1 b2 b3 c1 c2 c3 d1 d2 d3 e1 e2 e3
  obtain ⟨M, hM⟩ : ∃ M, max m1 n1 = M := ⟨_, rfl⟩
  obtain ⟨K, hK⟩ : ∃ K, max u1 v1 = K := ⟨_, rfl⟩
  have g1 : m1 ≤ M ∧ n1 ≤ M := by omega
  have g2 : u1 ≤ K ∧ v1 ≤ K ∧ K ≤ M + l3 := by omega
  rw [hM] at a3 a7
  rw [hK] at e4 e8
  clear hM hK
  have n1' : M + l3 - p = M - s1 + (s1 + l3 - p) := by omega
  have n2' : M + l3 - q = M + l3 - K + (K - q) := by omega
  have n3' : M + l3 - u1 = M - m1 + (m1 + l3 - u1) := by omega
  have n4' : M + l3 - v1 = M - n1 + (n1 + l3 - v1) := by omega
  have n5' : M + l3 - K + (K - u1) = M + l3 - u1 := by omega
  have n6' : M + l3 - K + (K - v1) = M + l3 - v1 := by omega
  have w1 : rt (M + l3 - p) P = rt (M - s1) (T.mul Z) := by rw [n1', ← rt_rt, d6]
  have w2 : rt (M + l3 - q) Q = rt (M + l3 - K) (rt (K - q) Q) := by rw [n2', ← rt_rt]
  have w3 : rt (M - m1) (X.mul Z) = rt (M + l3 - u1) U := by rw [n3', ← rt_rt, b6]
  have w4 : rt (M - n1) (Y.mul Z) = rt (M + l3 - v1) V := by rw [n4', ← rt_rt, c6]
  have w5 : rt (M - s1) (T.mul Z) = (rt (M - m1) (X.mul Z)).add (rt (M - n1) (Y.mul Z)) := by rw [rt_mul, a7, add_mul4, rt_mul, rt_mul]
  have w6 : rt (M + l3 - K) (rt (K - q) Q) = (rt (M + l3 - u1) U).add (rt (M + l3 - v1) V) := by rw [e8, rt_add, rt_rt, rt_rt, n5', n6']
  have key : rt (M + l3 - p) P = rt (M + l3 - q) Q := by rw [w1, w5, w3, w4, ← w6, w2]
  have := uniq (N := M + l3) (by omega) (by omega) d5 e5 key
  exact ⟨this.1, by rw [d3', e3', this.2]⟩

end Go.Proofs.Ytlaajkdhegkpdaa
