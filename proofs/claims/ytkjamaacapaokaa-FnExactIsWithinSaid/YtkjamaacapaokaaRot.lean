/- The error of a rotation, and whether it is within a bound. -/
import Derived.Test.YtkjamaacapaokaaRows
import Derived.Test.YtkjamaacapaokaaApprox
import Derived.Test.YtkjamaacapaokaaTarget
import Derived.Test.YtkjamaacapaokaaMul2
import Derived.Test.YtkjamaacapaokaaSgn
namespace Go.Proofs.Ytkjamaacapaokaa
open Go.RowKit

def erM (n k : Int) : Int := n * 2 ^ (k / 2).toNat
def erS (x y a c : Int) : Int := 2 * (a * x + c * y)
def erT (x y b d : Int) : Int := (b - d) * x + (b + d) * y
def erP (x y n a b c d k : Int) : Int := if k % 2 = 0 then 2 * erM n k - erS x y a c else 2 * erM n k - erT x y b d
def erQ (x y a b c d k : Int) : Int := if k % 2 = 0 then - erT x y b d else Int.tdiv (- erS x y a c) 2
/-- what is known of the arguments -/
structure Small (x y n a b c d k : Int) : Prop where
  n : 1 ≤ n ∧ n ≤ 1000
  x : -1000 ≤ x ∧ x ≤ 1000
  y : -1000 ≤ y ∧ y ≤ 1000
  a : -16 ≤ a ∧ a ≤ 16
  b : -16 ≤ b ∧ b ≤ 16
  c : -16 ≤ c ∧ c ≤ 16
  d : -16 ≤ d ∧ d ≤ 16
  k : 0 ≤ k ∧ k ≤ 8
theorem pow2_half {k : Int} (h : 0 ≤ k ∧ k ≤ 8) : 1 ≤ (2 : Int) ^ (k / 2).toNat ∧ (2 : Int) ^ (k / 2).toNat ≤ 16 := by
  have : k = 0 ∨ k = 1 ∨ k = 2 ∨ k = 3 ∨ k = 4 ∨ k = 5 ∨ k = 6 ∨ k = 7 ∨ k = 8 := by omega
  rcases this with rfl | rfl | rfl | rfl | rfl | rfl | rfl | rfl | rfl <;> decide
theorem erM_bd {n k : Int} (hn : 1 ≤ n ∧ n ≤ 1000) (h : 0 ≤ k ∧ k ≤ 8) : 1 ≤ erM n k ∧ erM n k ≤ 16000 := by
  have hp := pow2_half h
  unfold erM
  generalize (2 : Int) ^ (k / 2).toNat = z at *
  have h1 := Int.mul_le_mul (a := n) (b := z) (c := 1000) (d := 16) (by omega) (by omega) (by omega) (by omega)
  have h2 := Int.mul_le_mul (a := 1) (b := 1) (c := n) (d := z) (by omega) (by omega) (by omega) (by omega)
  omega
theorem Small.bd {x y n a b c d k : Int} (h : Small x y n a b c d k) : (-16000 ≤ a * x ∧ a * x ≤ 16000) ∧ (-16000 ≤ c * y ∧ c * y ≤ 16000) ∧ (-32000 ≤ (b - d) * x ∧ (b - d) * x ≤ 32000) ∧ (-32000 ≤ (b + d) * y ∧ (b + d) * y ≤ 32000) ∧ (1 ≤ erM n k ∧ erM n k ≤ 16000) := by
  have ha := h.a
  have hb := h.b
  have hc := h.c
  have hd := h.d
  exact ⟨mul_bd ha.1 ha.2 h.x.1 h.x.2, mul_bd hc.1 hc.2 h.y.1 h.y.2, mul_bd (A := 32) (by omega) (by omega) h.x.1 h.x.2, mul_bd (A := 32) (by omega) (by omega) h.y.1 h.y.2, erM_bd h.n h.k⟩
theorem Small.er {x y n a b c d k : Int} (h : Small x y n a b c d k) : (-100000 ≤ erP x y n a b c d k ∧ erP x y n a b c d k ≤ 100000) ∧ (-100000 ≤ erQ x y a b c d k ∧ erQ x y a b c d k ≤ 100000) := by
  have hb := h.bd
  unfold erP erQ erS erT
  split
  · omega
  · rw [show -(2 * (a * x + c * y)) = 2 * (-(a * x + c * y)) by omega, Int.mul_tdiv_cancel_left _ (by decide)]
    omega

set_option maxHeartbeats 1000000 in
theorem errorOf_any (x y n a b c d k : Int) (h : Small x y n a b c d k) (w : World) :
    Calls Try.prog 68 #[.agg #[.int .i64 x, .int .i64 y, .int .i64 n], .agg #[.int .i64 a, .int .i64 b, .int .i64 c, .int .i64 d], .int .i64 k] w fun e w' =>
      e = .returned (.tuple #[.agg #[.int .i64 (erP x y n a b c d k), .int .i64 (erQ x y a b c d k)], .int .i64 (erM n k)]) ∧ Ext w w' := by
  obtain ⟨h1, h2, h3, h4, h5⟩ := h.bd
  obtain ⟨ha, hb, hc, hd, hk, hn⟩ := (⟨h.a, h.b, h.c, h.d, h.k, h.n⟩ : _ ∧ _ ∧ _ ∧ _ ∧ _ ∧ _)
  have h5' := h5
  unfold erM at h5'
  have hp := pow2_half hk
  have hq : 0 ≤ k / 2 ∧ k / 2 ≤ 4 := by omega
  by_cases hm : k % 2 = 0
  · have HP : Hid (erP x y n a b c d k = 2 * (n * 2 ^ (k / 2).toNat) - 2 * (a * x + c * y)) := if_pos hm
    have HQ : Hid (erQ x y a b c d k = - ((b - d) * x + (b + d) * y)) := if_pos hm
    have HM : Hid (erM n k = n * 2 ^ (k / 2).toNat) := rfl
    have hm' : (k % 2 == 0) = true := by simpa using hm
    clear hm h h5
    rw [HP.out, HQ.out, HM.out]
    clear HP HQ HM
    go_enter Try.func68, Try.ntmps68
    go_wp2
    refine wp_region_xt (by kernel_rfl) (by kernel_rfl) (fun hxc => ?_)
    repeat (first | go_big_quiet_step (fail) | quiet_step (fail))
    refine wpQuiet_nil (forall_xt ?_)
    clear hxc
    intro w1 hx1
    obtain ⟨hc1, hf1⟩ := hx1.cells
    have hz1 := hx1.size
    try simp at hz1
    have hs1_0 := sz3 (a := w.heap.size) (b := w1.heap.size) (by omega)
    go_wp2
    refine bodyPost_ret (v := .tuple #[.agg #[.int .i64 (2 * (n * 2 ^ (k / 2).toNat) - 2 * (a * x + c * y)), .int .i64 (- ((b - d) * x + (b + d) * y))], .int .i64 (n * 2 ^ (k / 2).toNat)]) (by simp [results, Try.results68, go_sem, *]) rfl ⟨rfl, ?_⟩
    exact (by repeat (first | exact Ext.refl _ | assumption | refine Ext.alloc ?_ _ | refine Ext.drew ?_ | refine Ext.drewN ?_ _ | refine Ext.setCell ?_ (by first | omega | (dsimp only; omega) | (simp; done) | (simp; omega)) _ | refine Ext.trans ?_ (by assumption)))
  · have HP : Hid (erP x y n a b c d k = 2 * (n * 2 ^ (k / 2).toNat) - ((b - d) * x + (b + d) * y)) := if_neg hm
    have HQ : Hid (erQ x y a b c d k = Int.tdiv (- (2 * (a * x + c * y))) 2) := if_neg hm
    have HM : Hid (erM n k = n * 2 ^ (k / 2).toNat) := rfl
    have hm' : (k % 2 == 0) = false := by simpa using hm
    clear hm h h5
    rw [HP.out, HQ.out, HM.out]
    clear HP HQ HM
    go_enter Try.func68, Try.ntmps68
    go_wp2
    refine wp_region_xt (by kernel_rfl) (by kernel_rfl) (fun hxc => ?_)
    repeat (first | go_big_quiet_step (fail) | quiet_step (fail))
    refine wpQuiet_nil (forall_xt ?_)
    clear hxc
    intro w1 hx1
    obtain ⟨hc1, hf1⟩ := hx1.cells
    have hz1 := hx1.size
    try simp at hz1
    have hs1_0 := sz3 (a := w.heap.size) (b := w1.heap.size) (by omega)
    go_wp2
    refine bodyPost_ret (v := .tuple #[.agg #[.int .i64 (2 * (n * 2 ^ (k / 2).toNat) - ((b - d) * x + (b + d) * y)), .int .i64 (Int.tdiv (- (2 * (a * x + c * y))) 2)], .int .i64 (n * 2 ^ (k / 2).toNat)]) (by simp [results, Try.results68, go_sem, *]) rfl ⟨rfl, ?_⟩
    exact (by repeat (first | exact Ext.refl _ | assumption | refine Ext.alloc ?_ _ | refine Ext.drew ?_ | refine Ext.drewN ?_ _ | refine Ext.setCell ?_ (by first | omega | (dsimp only; omega) | (simp; done) | (simp; omega)) _ | refine Ext.trans ?_ (by assumption)))

set_option maxHeartbeats 1000000 in
theorem l27Error_any (x y n a b c d k : Int) (h : Small x y n a b c d k) (w : World) :
    Calls Try.prog 65 #[.agg #[.int .i64 x, .int .i64 y, .int .i64 n], .agg #[.int .i64 a, .int .i64 b, .int .i64 c, .int .i64 d], .int .i64 k] w fun e w' =>
      e = .returned (.tuple #[.agg #[.int .i64 (erP x y n a b c d k), .int .i64 (erQ x y a b c d k)], .int .i64 (erM n k)]) ∧ Ext w w' := by
  obtain ⟨h1, h2, h3, h4, h5⟩ := h.bd
  obtain ⟨ha, hb, hc, hd, hk, hn⟩ := (⟨h.a, h.b, h.c, h.d, h.k, h.n⟩ : _ ∧ _ ∧ _ ∧ _ ∧ _ ∧ _)
  have h5' := h5
  unfold erM at h5'
  have hp := pow2_half hk
  have hq : 0 ≤ k / 2 ∧ k / 2 ≤ 4 := by omega
  by_cases hm : k % 2 = 0
  · have HP : Hid (erP x y n a b c d k = 2 * (n * 2 ^ (k / 2).toNat) - 2 * (a * x + c * y)) := if_pos hm
    have HQ : Hid (erQ x y a b c d k = - ((b - d) * x + (b + d) * y)) := if_pos hm
    have HM : Hid (erM n k = n * 2 ^ (k / 2).toNat) := rfl
    have hm' : (k % 2 == 0) = true := by simpa using hm
    clear hm h h5
    rw [HP.out, HQ.out, HM.out]
    clear HP HQ HM
    go_enter Try.func65, Try.ntmps65
    go_wp2
    refine bodyPost_ret (v := .tuple #[.agg #[.int .i64 (2 * (n * 2 ^ (k / 2).toNat) - 2 * (a * x + c * y)), .int .i64 (- ((b - d) * x + (b + d) * y))], .int .i64 (n * 2 ^ (k / 2).toNat)]) (by simp [results, Try.results65, go_sem, *]) rfl ⟨rfl, ?_⟩
    exact (by repeat (first | exact Ext.refl _ | assumption | refine Ext.alloc ?_ _ | refine Ext.drew ?_ | refine Ext.drewN ?_ _ | refine Ext.setCell ?_ (by first | omega | (dsimp only; omega) | (simp; done) | (simp; omega)) _ | refine Ext.trans ?_ (by assumption)))
  · have HP : Hid (erP x y n a b c d k = 2 * (n * 2 ^ (k / 2).toNat) - ((b - d) * x + (b + d) * y)) := if_neg hm
    have HQ : Hid (erQ x y a b c d k = Int.tdiv (- (2 * (a * x + c * y))) 2) := if_neg hm
    have HM : Hid (erM n k = n * 2 ^ (k / 2).toNat) := rfl
    have hm' : (k % 2 == 0) = false := by simpa using hm
    clear hm h h5
    rw [HP.out, HQ.out, HM.out]
    clear HP HQ HM
    go_enter Try.func65, Try.ntmps65
    go_wp2
    refine bodyPost_ret (v := .tuple #[.agg #[.int .i64 (2 * (n * 2 ^ (k / 2).toNat) - ((b - d) * x + (b + d) * y)), .int .i64 (Int.tdiv (- (2 * (a * x + c * y))) 2)], .int .i64 (n * 2 ^ (k / 2).toNat)]) (by simp [results, Try.results65, go_sem, *]) rfl ⟨rfl, ?_⟩
    exact (by repeat (first | exact Ext.refl _ | assumption | refine Ext.alloc ?_ _ | refine Ext.drew ?_ | refine Ext.drewN ?_ _ | refine Ext.setCell ?_ (by first | omega | (dsimp only; omega) | (simp; done) | (simp; omega)) _ | refine Ext.trans ?_ (by assumption)))

def okEr (x y n a b c d e f g h k : Int) : Bool := Tg x y n && Apx a b c d e f g h k
theorem small_of {x y n a b c d e f g h k : Int} (ht : Tg x y n = true) (ha : Apx a b c d e f g h k = true) : Small x y n a b c d k := by
  simp only [Tg, Apx, Bool.and_eq_true, S16, Wn_iff] at ht ha
  obtain ⟨⟨⟨hn, hx⟩, hy⟩, _⟩ := ht
  obtain ⟨⟨⟨hk, ⟨⟨⟨⟨⟨⟨⟨h1, h2⟩, h3⟩, h4⟩, h5⟩, h6⟩, h7⟩, h8⟩⟩, hu⟩, hv⟩ := ha
  exact ⟨hn, by omega, by omega, h1, h2, h3, h4, hk⟩
def reP (x y n a b c d e f g h k : Int) : Int := if okEr x y n a b c d e f g h k then erP x y n a b c d k else 0
def reQ (x y n a b c d e f g h k : Int) : Int := if okEr x y n a b c d e f g h k then erQ x y a b c d k else 0
def reM (x y n a b c d e f g h k : Int) : Int := if okEr x y n a b c d e f g h k then erM n k else 0

set_option maxHeartbeats 1000000 in
theorem rotationError_any (x y n a b c d e f g h k : Int) (w : World) :
    Calls Try.prog 23 #[.agg #[.int .i64 x, .int .i64 y, .int .i64 n], .agg #[.int .i64 a, .int .i64 b, .int .i64 c, .int .i64 d, .int .i64 e, .int .i64 f, .int .i64 g, .int .i64 h, .int .i64 k]] w fun en w' =>
      en = .returned (.tuple #[.agg #[.int .i64 (reP x y n a b c d e f g h k), .int .i64 (reQ x y n a b c d e f g h k)], .int .i64 (reM x y n a b c d e f g h k), .bool (okEr x y n a b c d e f g h k)]) ∧ Ext w w' := by
  have HP : Hid (reP x y n a b c d e f g h k = if okEr x y n a b c d e f g h k then erP x y n a b c d k else 0) := rfl
  have HQ : Hid (reQ x y n a b c d e f g h k = if okEr x y n a b c d e f g h k then erQ x y a b c d k else 0) := rfl
  have HM : Hid (reM x y n a b c d e f g h k = if okEr x y n a b c d e f g h k then erM n k else 0) := rfl
  rw [HP.out, HQ.out, HM.out]
  clear HP HQ HM
  cases ht : Tg x y n
  · have ho : okEr x y n a b c d e f g h k = false := by unfold okEr; rw [ht]; rfl
    rw [ho]
    clear ho
    go_enter Try.func23, Try.ntmps23
    go_wp2_with fail
    refine (isValidTarget_any _ _ _ _).mono ?_
    rintro e w1 ⟨rfl, hx1⟩
    obtain ⟨hc1, hf1⟩ := hx1.cells
    have hz1 := hx1.size
    try simp at hz1
    have hs1_0 := sz3 (a := w.heap.size) (b := w1.heap.size) (by omega)
    go_wp2
    refine bodyPost_ret (v := .tuple #[.agg #[.int .i64 0, .int .i64 0], .int .i64 0, .bool false]) (by simp [results, Try.results23, go_sem, *]) rfl ⟨rfl, ?_⟩
    exact (by repeat (first | exact Ext.refl _ | assumption | refine Ext.alloc ?_ _ | refine Ext.drew ?_ | refine Ext.drewN ?_ _ | refine Ext.setCell ?_ (by first | omega | (dsimp only; omega) | (simp; done) | (simp; omega)) _ | refine Ext.trans ?_ (by assumption)))
  cases ha : Apx a b c d e f g h k
  · have ho : okEr x y n a b c d e f g h k = false := by unfold okEr; rw [ha, Bool.and_false]
    rw [ho]
    clear ho
    go_enter Try.func23, Try.ntmps23
    go_wp2_with fail
    refine (isValidTarget_any _ _ _ _).mono ?_
    rintro e w1 ⟨rfl, hx1⟩
    obtain ⟨hc1, hf1⟩ := hx1.cells
    have hz1 := hx1.size
    try simp at hz1
    have hs1_0 := sz3 (a := w.heap.size) (b := w1.heap.size) (by omega)
    go_wp2_with fail
    refine (isValidApproximation_any _ _ _ _ _ _ _ _ _ _).mono ?_
    rintro e w2 ⟨rfl, hx2⟩
    obtain ⟨hc2, hf2⟩ := hx2.cells
    have hz2 := hx2.size
    try simp at hz2
    have hs2_0 := sz3 (a := w.heap.size) (b := w2.heap.size) (by omega)
    go_wp2
    refine bodyPost_ret (v := .tuple #[.agg #[.int .i64 0, .int .i64 0], .int .i64 0, .bool false]) (by simp [results, Try.results23, go_sem, *]) rfl ⟨rfl, ?_⟩
    exact (by repeat (first | exact Ext.refl _ | assumption | refine Ext.alloc ?_ _ | refine Ext.drew ?_ | refine Ext.drewN ?_ _ | refine Ext.setCell ?_ (by first | omega | (dsimp only; omega) | (simp; done) | (simp; omega)) _ | refine Ext.trans ?_ (by assumption)))
  have ho : okEr x y n a b c d e f g h k = true := by unfold okEr; rw [ht, ha]; rfl
  have hs := small_of ht ha
  have he := hs.er
  have hr : R2 (erP x y n a b c d k) (erQ x y a b c d k) = true := by simp [R2, Lim, Wn_iff]; omega
  have HS : Hid (Small x y n a b c d k) := hs
  rw [ho]
  clear ho hs
  go_enter Try.func23, Try.ntmps23
  go_wp2_with fail
  refine (isValidTarget_any _ _ _ _).mono ?_
  rintro e w1 ⟨rfl, hx1⟩
  obtain ⟨hc1, hf1⟩ := hx1.cells
  have hz1 := hx1.size
  try simp at hz1
  have hs1_0 := sz3 (a := w.heap.size) (b := w1.heap.size) (by omega)
  go_wp2_with fail
  refine (isValidApproximation_any _ _ _ _ _ _ _ _ _ _).mono ?_
  rintro e w2 ⟨rfl, hx2⟩
  obtain ⟨hc2, hf2⟩ := hx2.cells
  have hz2 := hx2.size
  try simp at hz2
  have hs2_0 := sz3 (a := w.heap.size) (b := w2.heap.size) (by omega)
  go_wp2_with fail
  refine (errorOf_any _ _ _ _ _ _ _ _ HS.out _).mono ?_
  rintro e w3 ⟨rfl, hx3⟩
  obtain ⟨hc3, hf3⟩ := hx3.cells
  have hz3 := hx3.size
  try simp at hz3
  have hs3_0 := sz3 (a := w.heap.size) (b := w3.heap.size) (by omega)
  go_wp2_with fail
  refine (isRoot2_any _ _ _).mono ?_
  rintro e w4 ⟨rfl, hx4⟩
  obtain ⟨hc4, hf4⟩ := hx4.cells
  have hz4 := hx4.size
  try simp at hz4
  have hs4_0 := sz3 (a := w.heap.size) (b := w4.heap.size) (by omega)
  go_wp2
  refine bodyPost_ret (v := .tuple #[.agg #[.int .i64 (erP x y n a b c d k), .int .i64 (erQ x y a b c d k)], .int .i64 (erM n k), .bool true]) (by simp [results, Try.results23, go_sem, *]) rfl ⟨rfl, ?_⟩
  exact (by repeat (first | exact Ext.refl _ | assumption | refine Ext.alloc ?_ _ | refine Ext.drew ?_ | refine Ext.drewN ?_ _ | refine Ext.setCell ?_ (by first | omega | (dsimp only; omega) | (simp; done) | (simp; omega)) _ | refine Ext.trans ?_ (by assumption)))

set_option maxHeartbeats 1000000 in
theorem s_rotationError_any (x y n a b c d e f g h k : Int) (w : World) :
    Calls Try.prog 20 #[.agg #[.int .i64 x, .int .i64 y, .int .i64 n], .agg #[.int .i64 a, .int .i64 b, .int .i64 c, .int .i64 d, .int .i64 e, .int .i64 f, .int .i64 g, .int .i64 h, .int .i64 k]] w fun en w' =>
      en = .returned (.tuple #[.agg #[.int .i64 (reP x y n a b c d e f g h k), .int .i64 (reQ x y n a b c d e f g h k)], .int .i64 (reM x y n a b c d e f g h k), .bool (okEr x y n a b c d e f g h k)]) ∧ Ext w w' := by
  have HP : Hid (reP x y n a b c d e f g h k = if okEr x y n a b c d e f g h k then erP x y n a b c d k else 0) := rfl
  have HQ : Hid (reQ x y n a b c d e f g h k = if okEr x y n a b c d e f g h k then erQ x y a b c d k else 0) := rfl
  have HM : Hid (reM x y n a b c d e f g h k = if okEr x y n a b c d e f g h k then erM n k else 0) := rfl
  rw [HP.out, HQ.out, HM.out]
  clear HP HQ HM
  cases ht : Tg x y n
  · have ho : okEr x y n a b c d e f g h k = false := by unfold okEr; rw [ht]; rfl
    rw [ho]
    clear ho
    go_enter Try.func20, Try.ntmps20
    go_wp2_with fail
    refine (l27Target_any _ _ _ _).mono ?_
    rintro e w1 ⟨rfl, hx1⟩
    obtain ⟨hc1, hf1⟩ := hx1.cells
    have hz1 := hx1.size
    try simp at hz1
    have hs1_0 := sz3 (a := w.heap.size) (b := w1.heap.size) (by omega)
    go_wp2
    refine bodyPost_ret (v := .tuple #[.agg #[.int .i64 0, .int .i64 0], .int .i64 0, .bool false]) (by simp [results, Try.results20, go_sem, *]) rfl ⟨rfl, ?_⟩
    exact (by repeat (first | exact Ext.refl _ | assumption | refine Ext.alloc ?_ _ | refine Ext.drew ?_ | refine Ext.drewN ?_ _ | refine Ext.setCell ?_ (by first | omega | (dsimp only; omega) | (simp; done) | (simp; omega)) _ | refine Ext.trans ?_ (by assumption)))
  cases ha : Apx a b c d e f g h k
  · have ho : okEr x y n a b c d e f g h k = false := by unfold okEr; rw [ha, Bool.and_false]
    rw [ho]
    clear ho
    go_enter Try.func20, Try.ntmps20
    go_wp2_with fail
    refine (l27Target_any _ _ _ _).mono ?_
    rintro e w1 ⟨rfl, hx1⟩
    obtain ⟨hc1, hf1⟩ := hx1.cells
    have hz1 := hx1.size
    try simp at hz1
    have hs1_0 := sz3 (a := w.heap.size) (b := w1.heap.size) (by omega)
    go_wp2_with fail
    refine (l27Valid_any _ _ _ _ _ _ _ _ _ _).mono ?_
    rintro e w2 ⟨rfl, hx2⟩
    obtain ⟨hc2, hf2⟩ := hx2.cells
    have hz2 := hx2.size
    try simp at hz2
    have hs2_0 := sz3 (a := w.heap.size) (b := w2.heap.size) (by omega)
    go_wp2
    refine bodyPost_ret (v := .tuple #[.agg #[.int .i64 0, .int .i64 0], .int .i64 0, .bool false]) (by simp [results, Try.results20, go_sem, *]) rfl ⟨rfl, ?_⟩
    exact (by repeat (first | exact Ext.refl _ | assumption | refine Ext.alloc ?_ _ | refine Ext.drew ?_ | refine Ext.drewN ?_ _ | refine Ext.setCell ?_ (by first | omega | (dsimp only; omega) | (simp; done) | (simp; omega)) _ | refine Ext.trans ?_ (by assumption)))
  have ho : okEr x y n a b c d e f g h k = true := by unfold okEr; rw [ht, ha]; rfl
  have HS : Hid (Small x y n a b c d k) := small_of ht ha
  rw [ho]
  clear ho
  go_enter Try.func20, Try.ntmps20
  go_wp2_with fail
  refine (l27Target_any _ _ _ _).mono ?_
  rintro e w1 ⟨rfl, hx1⟩
  obtain ⟨hc1, hf1⟩ := hx1.cells
  have hz1 := hx1.size
  try simp at hz1
  have hs1_0 := sz3 (a := w.heap.size) (b := w1.heap.size) (by omega)
  go_wp2_with fail
  refine (l27Valid_any _ _ _ _ _ _ _ _ _ _).mono ?_
  rintro e w2 ⟨rfl, hx2⟩
  obtain ⟨hc2, hf2⟩ := hx2.cells
  have hz2 := hx2.size
  try simp at hz2
  have hs2_0 := sz3 (a := w.heap.size) (b := w2.heap.size) (by omega)
  go_wp2_with fail
  refine (l27Error_any _ _ _ _ _ _ _ _ HS.out _).mono ?_
  rintro e w3 ⟨rfl, hx3⟩
  obtain ⟨hc3, hf3⟩ := hx3.cells
  have hz3 := hx3.size
  try simp at hz3
  have hs3_0 := sz3 (a := w.heap.size) (b := w3.heap.size) (by omega)
  go_wp2
  refine bodyPost_ret (v := .tuple #[.agg #[.int .i64 (erP x y n a b c d k), .int .i64 (erQ x y a b c d k)], .int .i64 (erM n k), .bool true]) (by simp [results, Try.results20, go_sem, *]) rfl ⟨rfl, ?_⟩
  exact (by repeat (first | exact Ext.refl _ | assumption | refine Ext.alloc ?_ _ | refine Ext.drew ?_ | refine Ext.drewN ?_ _ | refine Ext.setCell ?_ (by first | omega | (dsimp only; omega) | (simp; done) | (simp; omega)) _ | refine Ext.trans ?_ (by assumption)))

theorem law_RotationError (x y n a b c d e f g h k : Int) (w : World) :
    Calls Try.prog 4 #[.agg #[.int .i64 x, .int .i64 y, .int .i64 n], .agg #[.int .i64 a, .int .i64 b, .int .i64 c, .int .i64 d, .int .i64 e, .int .i64 f, .int .i64 g, .int .i64 h, .int .i64 k]] w fun en w' => en = .returned (.bool true) ∧ Ext w w' := by
  go_enter Try.func4, Try.ntmps4
  go_wp2
  refine wp_region_madeC (m := 43) (by kernel_rfl) (by kernel_rfl) rfl (fun hxc => ?_)
  repeat (refine mw_quiet ?_; apply Exists.intro; refine ⟨fun σ => ?_, ?_⟩; (first | (go_simp; rfl) | (go_simp; intro x; first | (go_at_call 21; exact toTarget_any _ _ _ _) | (go_at_call 22; exact toApproximation_any _ _ _ _ _ _ _ _ _ _) | (go_at_call 20; exact s_rotationError_any _ _ _ _ _ _ _ _ _ _ _ _ _))); simp only [Act.put, List.setIfInBounds_toArray, List.set_cons_succ, List.set_cons_zero, List.nil_append, List.cons_append])
  refine mw_maker (fun n => .pointer (some ⟨n, 0, none⟩)) 35 #[.int .i64 0, .int .i64 0] 10 #[.int .i64 (reP x y n a b c d e f g h k), .int .i64 (reQ x y n a b c d e f g h k)] rfl (fun σ x => ?_) ?_
  · go_simp
  simp only [Act.put, List.setIfInBounds_toArray, List.set_cons_succ, List.set_cons_zero, List.nil_append, List.cons_append, List.length_cons, List.length_nil, Nat.reduceAdd]
  repeat (refine mw_quiet ?_; apply Exists.intro; refine ⟨fun σ => ?_, ?_⟩; (first | (go_simp; rfl) | (go_simp; intro x; first | (go_at_call 21; exact toTarget_any _ _ _ _) | (go_at_call 22; exact toApproximation_any _ _ _ _ _ _ _ _ _ _) | (go_at_call 20; exact s_rotationError_any _ _ _ _ _ _ _ _ _ _ _ _ _))); simp only [Act.put, List.setIfInBounds_toArray, List.set_cons_succ, List.set_cons_zero, List.nil_append, List.cons_append])
  refine mw_store 9 rfl rfl (fun σ x hb hc => ?_) ?_
  · have hcell : ∀ k, x.w.cell? ⟨σ 9, k, none⟩ = (#[.int .i64 0, .int .i64 0] : Array Value)[k]? := fun k => cell_of_row _ _ _ _ _ _ hc
    have hfr : ∀ k, x.w.frozen? ⟨σ 9, k, none⟩ = false := fun k => frozen_of_row _ _ _ _ _ hc
    apply Exists.intro
    refine ⟨?_, ?_⟩
    · go_simp
      rfl
    · exact ((Fill.start hc).set 0 _).set 1 _
  simp only [Act.put, List.nil_append, List.cons_append]
  repeat (refine mw_quiet ?_; apply Exists.intro; refine ⟨fun σ => ?_, ?_⟩; (first | (go_simp; rfl) | (go_simp; intro x; first | (go_at_call 21; exact toTarget_any _ _ _ _) | (go_at_call 22; exact toApproximation_any _ _ _ _ _ _ _ _ _ _) | (go_at_call 20; exact s_rotationError_any _ _ _ _ _ _ _ _ _ _ _ _ _))); simp only [Act.put, List.setIfInBounds_toArray, List.set_cons_succ, List.set_cons_zero, List.nil_append, List.cons_append])
  refine ⟨by kernel_rfl, fun σ w1 hF1 => ?_⟩
  have hx1 := hF1.ext
  obtain ⟨hm1_9, hl1_9, hq1_9, hr1_9⟩ := mfin_blk hF1 9 10 rfl (by decide) #[.int .i64 (reP x y n a b c d e f g h k), .int .i64 (reQ x y n a b c d e f g h k)] rfl
  dsimp only
  generalize σ 9 = B1_9 at *
  clear hF1 hxc
  obtain ⟨hc1, hf1⟩ := hx1.cells
  have hz1 := hx1.size
  try simp at hz1
  have hs1_0 := sz2 (a := w.heap.size) (b := w1.heap.size) (by omega)
  go_wp2
  refine wp_region_madeC (m := 43) (by kernel_rfl) (by kernel_rfl) rfl (fun hxc => ?_)
  repeat (refine mw_quiet ?_; apply Exists.intro; refine ⟨fun σ => ?_, ?_⟩; (first | (go_simp; rfl) | (go_simp; intro x; first | (go_at_call 21; exact toTarget_any _ _ _ _) | (go_at_call 22; exact toApproximation_any _ _ _ _ _ _ _ _ _ _) | (go_at_call 23; exact rotationError_any _ _ _ _ _ _ _ _ _ _ _ _ _))); simp only [Act.put, List.setIfInBounds_toArray, List.set_cons_succ, List.set_cons_zero, List.nil_append, List.cons_append])
  refine mw_maker (fun n => .pointer (some ⟨n, 0, none⟩)) 35 #[.int .i64 0, .int .i64 0] 10 #[.int .i64 (reP x y n a b c d e f g h k), .int .i64 (reQ x y n a b c d e f g h k)] rfl (fun σ x => ?_) ?_
  · go_simp
  simp only [Act.put, List.setIfInBounds_toArray, List.set_cons_succ, List.set_cons_zero, List.nil_append, List.cons_append, List.length_cons, List.length_nil, Nat.reduceAdd]
  repeat (refine mw_quiet ?_; apply Exists.intro; refine ⟨fun σ => ?_, ?_⟩; (first | (go_simp; rfl) | (go_simp; intro x; first | (go_at_call 21; exact toTarget_any _ _ _ _) | (go_at_call 22; exact toApproximation_any _ _ _ _ _ _ _ _ _ _) | (go_at_call 23; exact rotationError_any _ _ _ _ _ _ _ _ _ _ _ _ _))); simp only [Act.put, List.setIfInBounds_toArray, List.set_cons_succ, List.set_cons_zero, List.nil_append, List.cons_append])
  refine mw_store 9 rfl rfl (fun σ x hb hc => ?_) ?_
  · have hcell : ∀ k, x.w.cell? ⟨σ 9, k, none⟩ = (#[.int .i64 0, .int .i64 0] : Array Value)[k]? := fun k => cell_of_row _ _ _ _ _ _ hc
    have hfr : ∀ k, x.w.frozen? ⟨σ 9, k, none⟩ = false := fun k => frozen_of_row _ _ _ _ _ hc
    apply Exists.intro
    refine ⟨?_, ?_⟩
    · go_simp
      rfl
    · exact ((Fill.start hc).set 0 _).set 1 _
  simp only [Act.put, List.nil_append, List.cons_append]
  repeat (refine mw_quiet ?_; apply Exists.intro; refine ⟨fun σ => ?_, ?_⟩; (first | (go_simp; rfl) | (go_simp; intro x; first | (go_at_call 21; exact toTarget_any _ _ _ _) | (go_at_call 22; exact toApproximation_any _ _ _ _ _ _ _ _ _ _) | (go_at_call 23; exact rotationError_any _ _ _ _ _ _ _ _ _ _ _ _ _))); simp only [Act.put, List.setIfInBounds_toArray, List.set_cons_succ, List.set_cons_zero, List.nil_append, List.cons_append])
  refine ⟨by kernel_rfl, fun σ w2 hF2 => ?_⟩
  have hx2 := hF2.ext
  obtain ⟨hm2_9, hl2_9, hq2_9, hr2_9⟩ := mfin_blk hF2 9 10 rfl (by decide) #[.int .i64 (reP x y n a b c d e f g h k), .int .i64 (reQ x y n a b c d e f g h k)] rfl
  dsimp only
  generalize σ 9 = B2_9 at *
  clear hF2 hxc
  obtain ⟨hc2, hf2⟩ := hx2.cells
  have hz2 := hx2.size
  try simp at hz2
  have hs2_0 := sz2 (a := w.heap.size) (b := w2.heap.size) (by omega)
  go_wp2_with fail
  refine (eqRoot2_same _ _ _).mono ?_
  rintro e w3 ⟨rfl, hx3⟩
  obtain ⟨hc3, hf3⟩ := hx3.cells
  have hz3 := hx3.size
  try simp at hz3
  have hs3_0 := sz2 (a := w.heap.size) (b := w3.heap.size) (by omega)
  go_wp2
  go_ret
  exact ⟨rfl, (by repeat (first | exact Ext.refl _ | assumption | refine Ext.alloc ?_ _ | refine Ext.drew ?_ | refine Ext.drewN ?_ _ | refine Ext.setCell ?_ (by first | omega | (dsimp only; omega) | (simp; done) | (simp; omega)) _ | refine Ext.trans ?_ (by assumption)))⟩

end Go.Proofs.Ytkjamaacapaokaa
