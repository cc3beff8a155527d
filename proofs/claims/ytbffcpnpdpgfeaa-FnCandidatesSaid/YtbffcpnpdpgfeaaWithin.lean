/- Whether a rotation is within a bound. -/
import Derived.Test.YtbffcpnpdpgfeaaRows
import Derived.Test.YtbffcpnpdpgfeaaRot
namespace Go.Proofs.Ytbffcpnpdpgfeaa
open Go.RowKit

/-- E / M is at most num / den -/
def clo (p q m num den : Int) : Bool := decide (S2 (den * p - m * num) (den * q) ≤ 0)
def Bnd (num den : Int) : Bool := Wn num 1 1000 && Wn den 1 1000
theorem Bnd_bd {num den : Int} (h : Bnd num den = true) : (1 ≤ num ∧ num ≤ 1000) ∧ 1 ≤ den ∧ den ≤ 1000 := by
  simpa [Bnd, Wn_iff] using h
structure CloB (p q m num den : Int) : Prop where
  a : -100000000 ≤ den * p ∧ den * p ≤ 100000000
  b : -100000000 ≤ den * q ∧ den * q ≤ 100000000
  c : -16000000 ≤ m * num ∧ m * num ≤ 16000000
theorem cloB {p q m num den : Int} (hp : -100000 ≤ p ∧ p ≤ 100000) (hq : -100000 ≤ q ∧ q ≤ 100000) (hm : 1 ≤ m ∧ m ≤ 16000) (h : Bnd num den = true) : CloB p q m num den := by
  have hb := Bnd_bd h
  exact ⟨mul_bd (A := 1000) (by omega) (by omega) hp.1 hp.2, mul_bd (A := 1000) (by omega) (by omega) hq.1 hq.2, mul_bd (A := 16000) (B := 1000) (by omega) (by omega) (by omega) (by omega)⟩

theorem isBound_any (num den : Int) (w : World) :
    Calls Try.prog 26 #[.int .i64 num, .int .i64 den] w fun e w' => e = .returned (.bool (Bnd num den)) ∧ w = w' := by
  cases h : Wn num 1 1000
  · have HB : Hid (Bnd num den = false) := by unfold Hid Bnd; rw [h]; rfl
    go_enter Try.func26, Try.ntmps26
    go_wp2_with (go_at_call 25; ((with_reducible refine (within_any _ _ _ _).mono ?_); rintro e w' ⟨rfl, rfl⟩))
    go_ret
    exact ⟨ret_bool (by rw [HB.out]), rfl⟩
  · have HB : Hid (Bnd num den = Wn den 1 1000) := by unfold Hid Bnd; rw [h]; rfl
    go_enter Try.func26, Try.ntmps26
    go_wp2_with (go_at_call 25; ((with_reducible refine (within_any _ _ _ _).mono ?_); rintro e w' ⟨rfl, rfl⟩))
    go_ret
    exact ⟨ret_bool (by rw [HB.out]), rfl⟩

theorem l1AllT_any (p q : Int) (b cap : Nat) (w : World) (h0 : w.cell? ⟨b, 0, none⟩ = some (.int .i64 p)) (h1 : w.cell? ⟨b, 1, none⟩ = some (.int .i64 q)) :
    Calls Try.prog 44 #[.slice (some ⟨b, 0, none⟩) 2 cap, .int .i64 1, .int .i64 1000] w fun e w' => e = .returned (.bool (Bnd p q)) ∧ w = w' :=
  (l1All2_any p q b cap _ _ w h0 h1).mono fun _ _ ⟨h, hw⟩ => ⟨h.trans (by rw [allW2]; rfl), hw⟩

theorem l27Bound_any (num den : Int) (w : World) :
    Calls Try.prog 23 #[.int .i64 num, .int .i64 den] w fun e w' => e = .returned (.bool (Bnd num den)) ∧ Ext w w' := by
  go_enter Try.func23, Try.ntmps23
  go_wp2_with (go_at_call 44; ((with_reducible refine (l1AllT_any num den _ _ _ (by simp [go_sem]) (by simp [go_sem])).mono ?_); rintro e w' ⟨rfl, rfl⟩))
  go_ret
  exact ⟨rfl, (by repeat (first | exact Ext.refl _ | assumption | refine Ext.alloc ?_ _ | refine Ext.drew ?_ | refine Ext.drewN ?_ _ | refine Ext.setCell ?_ (by first | omega | (dsimp only; omega) | (simp; done) | (simp; omega)) _ | refine Ext.trans ?_ (by assumption)))⟩

theorem isClose_any (p q m num den : Int) (h : CloB p q m num den) (w : World) :
    Calls Try.prog 30 #[.agg #[.int .i64 p, .int .i64 q], .int .i64 m, .int .i64 num, .int .i64 den] w fun e w' => e = .returned (.bool (clo p q m num den)) ∧ Ext w w' := by
  obtain ⟨h1, h2, h3⟩ := h
  have HR : Hid (rsV (den * p - m * num) (den * q) = S2 (den * p - m * num) (den * q)) := by unfold Hid rsV; rw [Cf_mk (by omega), Cf_mk (by omega)]; rfl
  have HC : Hid (clo p q m num den = decide (S2 (den * p - m * num) (den * q) ≤ 0)) := rfl
  have hb := S2_bd (den * p - m * num) (den * q)
  go_enter Try.func30, Try.ntmps30
  go_wp2_with (go_at_call 52; ((with_reducible refine (realSign_any _ _ _).mono ?_); rintro e w' ⟨rfl, rfl⟩))
  go_ret
  exact ⟨ret_bool (by rw [HC.out, HR.out]), (by repeat (first | exact Ext.refl _ | assumption | refine Ext.alloc ?_ _ | refine Ext.drew ?_ | refine Ext.drewN ?_ _ | refine Ext.setCell ?_ (by first | omega | (dsimp only; omega) | (simp; done) | (simp; omega)) _ | refine Ext.trans ?_ (by assumption)))⟩

theorem clo_spec (p q m num den : Int) : decide (0 ≤ S2 (num * m - den * p) (-den * q)) = clo p q m num den := by
  unfold clo
  have e1 : num * m - den * p = -(den * p - m * num) := by rw [Int.mul_comm num m]; omega
  have e2 : -den * q = -(den * q) := by rw [Int.neg_mul]
  rw [e1, e2, S2_anti]
  have h := S2_bd (den * p - m * num) (den * q)
  rw [decide_eq_decide]
  omega

set_option maxHeartbeats 1000000 in
theorem l27Within_any (x y n a b c d k num den : Int) (h : Small x y n a b c d k) (hb : Bnd num den = true) (w : World) :
    Calls Try.prog 46 #[.agg #[.int .i64 x, .int .i64 y, .int .i64 n], .agg #[.int .i64 a, .int .i64 b, .int .i64 c, .int .i64 d], .int .i64 k, .int .i64 num, .int .i64 den] w fun e w' =>
      e = .returned (.bool (clo (erP x y n a b c d k) (erQ x y a b c d k) (erM n k) num den)) ∧ Ext w w' := by
  have HC := Lib.hid (clo_spec (erP x y n a b c d k) (erQ x y a b c d k) (erM n k) num den)
  have he := h.er
  have hm := h.bd.2.2.2.2
  obtain ⟨h1, h2, h3⟩ := cloB he.1 he.2 hm hb
  have h2' : -100000000 ≤ -den * erQ x y a b c d k ∧ -den * erQ x y a b c d k ≤ 100000000 := by rw [Int.neg_mul]; omega
  have h3' : -16000000 ≤ num * erM n k ∧ num * erM n k ≤ 16000000 := by rw [Int.mul_comm]; exact h3
  have hd := (Bnd_bd hb).2
  have HS : Hid (Small x y n a b c d k) := h
  have hbb := S2_bd (num * erM n k - den * erP x y n a b c d k) (-den * erQ x y a b c d k)
  clear h hb
  go_enter Try.func46, Try.ntmps46
  go_wp2_with fail
  refine (l27Error_any _ _ _ _ _ _ _ _ HS.out _).mono ?_
  rintro e w1 ⟨rfl, hx1⟩
  obtain ⟨hc1, hf1⟩ := hx1.cells
  have hz1 := hx1.size
  try simp at hz1
  have hs1_0 := sz2 (a := w.heap.size) (b := w1.heap.size) (by omega)
  go_wp2_with (go_at_call 63; ((with_reducible refine (l2Sign_any _ _ (Cf_mk (by omega)) (Cf_mk (by omega)) _).mono ?_); rintro e w' ⟨rfl, rfl⟩))
  go_ret
  exact ⟨ret_bool (by rw [← HC.out]), (by repeat (first | exact Ext.refl _ | assumption | refine Ext.alloc ?_ _ | refine Ext.drew ?_ | refine Ext.drewN ?_ _ | refine Ext.setCell ?_ (by first | omega | (dsimp only; omega) | (simp; done) | (simp; omega)) _ | refine Ext.trans ?_ (by assumption)))⟩

def okW (x y n a b c d e f g h k num den : Int) : Bool := okEr x y n a b c d e f g h k && Bnd num den
def isW (x y n a b c d e f g h k num den : Int) : Bool := okW x y n a b c d e f g h k num den && clo (erP x y n a b c d k) (erQ x y a b c d k) (erM n k) num den

end Go.Proofs.Ytbffcpnpdpgfeaa
