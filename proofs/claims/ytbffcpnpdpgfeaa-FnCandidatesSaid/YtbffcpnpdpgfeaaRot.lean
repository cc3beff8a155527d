/- The error of a rotation, and whether it is within a bound. -/
import Derived.Test.YtbffcpnpdpgfeaaRows
import Derived.Test.YtbffcpnpdpgfeaaApprox
import Derived.Test.YtbffcpnpdpgfeaaTarget
import Derived.Test.YtbffcpnpdpgfeaaMul2
import Derived.Test.YtbffcpnpdpgfeaaSgn
namespace Go.Proofs.Ytbffcpnpdpgfeaa
open Go.RowKit

def erM (n k : Int) : Int := n * 2 ^ (k / 2).toNat
def erS (x y a c : Int) : Int := 2 * (a * x + c * y)
def erT (x y b d : Int) : Int := (b - d) * x + (b + d) * y
def erP (x y n a b c d k : Int) : Int := if k % 2 = 0 then 2 * erM n k - erS x y a c else 2 * erM n k - erT x y b d
def erQ (x y a b c d k : Int) : Int := if k % 2 = 0 then - erT x y b d else Int.tdiv (- erS x y a c) 2
/-- what is known of the arguments -/
structure Small (x y n a b c d k : Int) : Prop where
  n : 1 ≤ n ∧ n ≤ 1000
  x : -1000 ≤ x ∧ x ≤ 1000
  y : -1000 ≤ y ∧ y ≤ 1000
  a : -16 ≤ a ∧ a ≤ 16
  b : -16 ≤ b ∧ b ≤ 16
  c : -16 ≤ c ∧ c ≤ 16
  d : -16 ≤ d ∧ d ≤ 16
  k : 0 ≤ k ∧ k ≤ 8
theorem pow2_half {k : Int} (h : 0 ≤ k ∧ k ≤ 8) : 1 ≤ (2 : Int) ^ (k / 2).toNat ∧ (2 : Int) ^ (k / 2).toNat ≤ 16 := by
  have : k = 0 ∨ k = 1 ∨ k = 2 ∨ k = 3 ∨ k = 4 ∨ k = 5 ∨ k = 6 ∨ k = 7 ∨ k = 8 := by omega
  rcases this with rfl | rfl | rfl | rfl | rfl | rfl | rfl | rfl | rfl <;> decide
theorem erM_bd {n k : Int} (hn : 1 ≤ n ∧ n ≤ 1000) (h : 0 ≤ k ∧ k ≤ 8) : 1 ≤ erM n k ∧ erM n k ≤ 16000 := by
  have hp := pow2_half h
  unfold erM
  generalize (2 : Int) ^ (k / 2).toNat = z at *
  have h1 := Int.mul_le_mul (a := n) (b := z) (c := 1000) (d := 16) (by omega) (by omega) (by omega) (by omega)
  have h2 := Int.mul_le_mul (a := 1) (b := 1) (c := n) (d := z) (by omega) (by omega) (by omega) (by omega)
  omega
theorem Small.bd {x y n a b c d k : Int} (h : Small x y n a b c d k) : (-16000 ≤ a * x ∧ a * x ≤ 16000) ∧ (-16000 ≤ c * y ∧ c * y ≤ 16000) ∧ (-32000 ≤ (b - d) * x ∧ (b - d) * x ≤ 32000) ∧ (-32000 ≤ (b + d) * y ∧ (b + d) * y ≤ 32000) ∧ (1 ≤ erM n k ∧ erM n k ≤ 16000) := by
  have ha := h.a
  have hb := h.b
  have hc := h.c
  have hd := h.d
  exact ⟨mul_bd ha.1 ha.2 h.x.1 h.x.2, mul_bd hc.1 hc.2 h.y.1 h.y.2, mul_bd (A := 32) (by omega) (by omega) h.x.1 h.x.2, mul_bd (A := 32) (by omega) (by omega) h.y.1 h.y.2, erM_bd h.n h.k⟩
theorem Small.er {x y n a b c d k : Int} (h : Small x y n a b c d k) : (-100000 ≤ erP x y n a b c d k ∧ erP x y n a b c d k ≤ 100000) ∧ (-100000 ≤ erQ x y a b c d k ∧ erQ x y a b c d k ≤ 100000) := by
  have hb := h.bd
  unfold erP erQ erS erT
  split
  · omega
  · rw [show -(2 * (a * x + c * y)) = 2 * (-(a * x + c * y)) by omega, Int.mul_tdiv_cancel_left _ (by decide)]
    omega

set_option maxHeartbeats 1000000 in
theorem errorOf_any (x y n a b c d k : Int) (h : Small x y n a b c d k) (w : World) :
    Calls Try.prog 29 #[.agg #[.int .i64 x, .int .i64 y, .int .i64 n], .agg #[.int .i64 a, .int .i64 b, .int .i64 c, .int .i64 d], .int .i64 k] w fun e w' =>
      e = .returned (.tuple #[.agg #[.int .i64 (erP x y n a b c d k), .int .i64 (erQ x y a b c d k)], .int .i64 (erM n k)]) ∧ Ext w w' := by
  obtain ⟨h1, h2, h3, h4, h5⟩ := h.bd
  obtain ⟨ha, hb, hc, hd, hk, hn⟩ := (⟨h.a, h.b, h.c, h.d, h.k, h.n⟩ : _ ∧ _ ∧ _ ∧ _ ∧ _ ∧ _)
  have h5' := h5
  unfold erM at h5'
  have hp := pow2_half hk
  have hq : 0 ≤ k / 2 ∧ k / 2 ≤ 4 := by omega
  by_cases hm : k % 2 = 0
  · have HP : Hid (erP x y n a b c d k = 2 * (n * 2 ^ (k / 2).toNat) - 2 * (a * x + c * y)) := if_pos hm
    have HQ : Hid (erQ x y a b c d k = - ((b - d) * x + (b + d) * y)) := if_pos hm
    have HM : Hid (erM n k = n * 2 ^ (k / 2).toNat) := rfl
    have hm' : (k % 2 == 0) = true := by simpa using hm
    clear hm h h5
    rw [HP.out, HQ.out, HM.out]
    clear HP HQ HM
    go_enter Try.func29, Try.ntmps29
    go_wp2
    refine wp_region_xt (by kernel_rfl) (by kernel_rfl) (fun hxc => ?_)
    repeat (first | go_big_quiet_step (fail) | quiet_step (fail))
    refine wpQuiet_nil (forall_xt ?_)
    clear hxc
    intro w1 hx1
    obtain ⟨hc1, hf1⟩ := hx1.cells
    have hz1 := hx1.size
    try simp at hz1
    have hs1_0 := sz3 (a := w.heap.size) (b := w1.heap.size) (by omega)
    go_wp2
    refine bodyPost_ret (v := .tuple #[.agg #[.int .i64 (2 * (n * 2 ^ (k / 2).toNat) - 2 * (a * x + c * y)), .int .i64 (- ((b - d) * x + (b + d) * y))], .int .i64 (n * 2 ^ (k / 2).toNat)]) (by simp [results, Try.results29, go_sem, *]) rfl ⟨rfl, ?_⟩
    exact (by repeat (first | exact Ext.refl _ | assumption | refine Ext.alloc ?_ _ | refine Ext.drew ?_ | refine Ext.drewN ?_ _ | refine Ext.setCell ?_ (by first | omega | (dsimp only; omega) | (simp; done) | (simp; omega)) _ | refine Ext.trans ?_ (by assumption)))
  · have HP : Hid (erP x y n a b c d k = 2 * (n * 2 ^ (k / 2).toNat) - ((b - d) * x + (b + d) * y)) := if_neg hm
    have HQ : Hid (erQ x y a b c d k = Int.tdiv (- (2 * (a * x + c * y))) 2) := if_neg hm
    have HM : Hid (erM n k = n * 2 ^ (k / 2).toNat) := rfl
    have hm' : (k % 2 == 0) = false := by simpa using hm
    clear hm h h5
    rw [HP.out, HQ.out, HM.out]
    clear HP HQ HM
    go_enter Try.func29, Try.ntmps29
    go_wp2
    refine wp_region_xt (by kernel_rfl) (by kernel_rfl) (fun hxc => ?_)
    repeat (first | go_big_quiet_step (fail) | quiet_step (fail))
    refine wpQuiet_nil (forall_xt ?_)
    clear hxc
    intro w1 hx1
    obtain ⟨hc1, hf1⟩ := hx1.cells
    have hz1 := hx1.size
    try simp at hz1
    have hs1_0 := sz3 (a := w.heap.size) (b := w1.heap.size) (by omega)
    go_wp2
    refine bodyPost_ret (v := .tuple #[.agg #[.int .i64 (2 * (n * 2 ^ (k / 2).toNat) - ((b - d) * x + (b + d) * y)), .int .i64 (Int.tdiv (- (2 * (a * x + c * y))) 2)], .int .i64 (n * 2 ^ (k / 2).toNat)]) (by simp [results, Try.results29, go_sem, *]) rfl ⟨rfl, ?_⟩
    exact (by repeat (first | exact Ext.refl _ | assumption | refine Ext.alloc ?_ _ | refine Ext.drew ?_ | refine Ext.drewN ?_ _ | refine Ext.setCell ?_ (by first | omega | (dsimp only; omega) | (simp; done) | (simp; omega)) _ | refine Ext.trans ?_ (by assumption)))

set_option maxHeartbeats 1000000 in
theorem l27Error_any (x y n a b c d k : Int) (h : Small x y n a b c d k) (w : World) :
    Calls Try.prog 62 #[.agg #[.int .i64 x, .int .i64 y, .int .i64 n], .agg #[.int .i64 a, .int .i64 b, .int .i64 c, .int .i64 d], .int .i64 k] w fun e w' =>
      e = .returned (.tuple #[.agg #[.int .i64 (erP x y n a b c d k), .int .i64 (erQ x y a b c d k)], .int .i64 (erM n k)]) ∧ Ext w w' := by
  obtain ⟨h1, h2, h3, h4, h5⟩ := h.bd
  obtain ⟨ha, hb, hc, hd, hk, hn⟩ := (⟨h.a, h.b, h.c, h.d, h.k, h.n⟩ : _ ∧ _ ∧ _ ∧ _ ∧ _ ∧ _)
  have h5' := h5
  unfold erM at h5'
  have hp := pow2_half hk
  have hq : 0 ≤ k / 2 ∧ k / 2 ≤ 4 := by omega
  by_cases hm : k % 2 = 0
  · have HP : Hid (erP x y n a b c d k = 2 * (n * 2 ^ (k / 2).toNat) - 2 * (a * x + c * y)) := if_pos hm
    have HQ : Hid (erQ x y a b c d k = - ((b - d) * x + (b + d) * y)) := if_pos hm
    have HM : Hid (erM n k = n * 2 ^ (k / 2).toNat) := rfl
    have hm' : (k % 2 == 0) = true := by simpa using hm
    clear hm h h5
    rw [HP.out, HQ.out, HM.out]
    clear HP HQ HM
    go_enter Try.func62, Try.ntmps62
    go_wp2
    refine bodyPost_ret (v := .tuple #[.agg #[.int .i64 (2 * (n * 2 ^ (k / 2).toNat) - 2 * (a * x + c * y)), .int .i64 (- ((b - d) * x + (b + d) * y))], .int .i64 (n * 2 ^ (k / 2).toNat)]) (by simp [results, Try.results62, go_sem, *]) rfl ⟨rfl, ?_⟩
    exact (by repeat (first | exact Ext.refl _ | assumption | refine Ext.alloc ?_ _ | refine Ext.drew ?_ | refine Ext.drewN ?_ _ | refine Ext.setCell ?_ (by first | omega | (dsimp only; omega) | (simp; done) | (simp; omega)) _ | refine Ext.trans ?_ (by assumption)))
  · have HP : Hid (erP x y n a b c d k = 2 * (n * 2 ^ (k / 2).toNat) - ((b - d) * x + (b + d) * y)) := if_neg hm
    have HQ : Hid (erQ x y a b c d k = Int.tdiv (- (2 * (a * x + c * y))) 2) := if_neg hm
    have HM : Hid (erM n k = n * 2 ^ (k / 2).toNat) := rfl
    have hm' : (k % 2 == 0) = false := by simpa using hm
    clear hm h h5
    rw [HP.out, HQ.out, HM.out]
    clear HP HQ HM
    go_enter Try.func62, Try.ntmps62
    go_wp2
    refine bodyPost_ret (v := .tuple #[.agg #[.int .i64 (2 * (n * 2 ^ (k / 2).toNat) - ((b - d) * x + (b + d) * y)), .int .i64 (Int.tdiv (- (2 * (a * x + c * y))) 2)], .int .i64 (n * 2 ^ (k / 2).toNat)]) (by simp [results, Try.results62, go_sem, *]) rfl ⟨rfl, ?_⟩
    exact (by repeat (first | exact Ext.refl _ | assumption | refine Ext.alloc ?_ _ | refine Ext.drew ?_ | refine Ext.drewN ?_ _ | refine Ext.setCell ?_ (by first | omega | (dsimp only; omega) | (simp; done) | (simp; omega)) _ | refine Ext.trans ?_ (by assumption)))

def okEr (x y n a b c d e f g h k : Int) : Bool := Tg x y n && Apx a b c d e f g h k
theorem small_of {x y n a b c d e f g h k : Int} (ht : Tg x y n = true) (ha : Apx a b c d e f g h k = true) : Small x y n a b c d k := by
  simp only [Tg, Apx, Bool.and_eq_true, S16, Wn_iff] at ht ha
  obtain ⟨⟨⟨hn, hx⟩, hy⟩, _⟩ := ht
  obtain ⟨⟨⟨hk, ⟨⟨⟨⟨⟨⟨⟨h1, h2⟩, h3⟩, h4⟩, h5⟩, h6⟩, h7⟩, h8⟩⟩, hu⟩, hv⟩ := ha
  exact ⟨hn, by omega, by omega, h1, h2, h3, h4, hk⟩
def reP (x y n a b c d e f g h k : Int) : Int := if okEr x y n a b c d e f g h k then erP x y n a b c d k else 0
def reQ (x y n a b c d e f g h k : Int) : Int := if okEr x y n a b c d e f g h k then erQ x y a b c d k else 0
def reM (x y n a b c d e f g h k : Int) : Int := if okEr x y n a b c d e f g h k then erM n k else 0

end Go.Proofs.Ytbffcpnpdpgfeaa
