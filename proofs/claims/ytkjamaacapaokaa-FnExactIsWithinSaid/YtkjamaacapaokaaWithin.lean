/- Whether a rotation is within a bound. -/
import Derived.Test.YtkjamaacapaokaaRows
import Derived.Test.YtkjamaacapaokaaRot
namespace Go.Proofs.Ytkjamaacapaokaa
open Go.RowKit

/-- E / M is at most num / den -/
def clo (p q m num den : Int) : Bool := decide (S2 (den * p - m * num) (den * q) ≤ 0)
def Bnd (num den : Int) : Bool := Wn num 1 1000 && Wn den 1 1000
theorem Bnd_bd {num den : Int} (h : Bnd num den = true) : (1 ≤ num ∧ num ≤ 1000) ∧ 1 ≤ den ∧ den ≤ 1000 := by
  simpa [Bnd, Wn_iff] using h
structure CloB (p q m num den : Int) : Prop where
  a : -100000000 ≤ den * p ∧ den * p ≤ 100000000
  b : -100000000 ≤ den * q ∧ den * q ≤ 100000000
  c : -16000000 ≤ m * num ∧ m * num ≤ 16000000
theorem cloB {p q m num den : Int} (hp : -100000 ≤ p ∧ p ≤ 100000) (hq : -100000 ≤ q ∧ q ≤ 100000) (hm : 1 ≤ m ∧ m ≤ 16000) (h : Bnd num den = true) : CloB p q m num den := by
  have hb := Bnd_bd h
  exact ⟨mul_bd (A := 1000) (by omega) (by omega) hp.1 hp.2, mul_bd (A := 1000) (by omega) (by omega) hq.1 hq.2, mul_bd (A := 16000) (B := 1000) (by omega) (by omega) (by omega) (by omega)⟩

theorem isBound_any (num den : Int) (w : World) :
    Calls Try.prog 76 #[.int .i64 num, .int .i64 den] w fun e w' => e = .returned (.bool (Bnd num den)) ∧ w = w' := by
  cases h : Wn num 1 1000
  · have HB : Hid (Bnd num den = false) := by unfold Hid Bnd; rw [h]; rfl
    go_enter Try.func76, Try.ntmps76
    go_wp2_with (go_at_call 60; ((with_reducible refine (within_any _ _ _ _).mono ?_); rintro e w' ⟨rfl, rfl⟩))
    go_ret
    exact ⟨ret_bool (by rw [HB.out]), rfl⟩
  · have HB : Hid (Bnd num den = Wn den 1 1000) := by unfold Hid Bnd; rw [h]; rfl
    go_enter Try.func76, Try.ntmps76
    go_wp2_with (go_at_call 60; ((with_reducible refine (within_any _ _ _ _).mono ?_); rintro e w' ⟨rfl, rfl⟩))
    go_ret
    exact ⟨ret_bool (by rw [HB.out]), rfl⟩

theorem l1AllT_any (p q : Int) (b cap : Nat) (w : World) (h0 : w.cell? ⟨b, 0, none⟩ = some (.int .i64 p)) (h1 : w.cell? ⟨b, 1, none⟩ = some (.int .i64 q)) :
    Calls Try.prog 100 #[.slice (some ⟨b, 0, none⟩) 2 cap, .int .i64 1, .int .i64 1000] w fun e w' => e = .returned (.bool (Bnd p q)) ∧ w = w' :=
  (l1All2_any p q b cap _ _ w h0 h1).mono fun _ _ ⟨h, hw⟩ => ⟨h.trans (by rw [allW2]; rfl), hw⟩

theorem l27Bound_any (num den : Int) (w : World) :
    Calls Try.prog 74 #[.int .i64 num, .int .i64 den] w fun e w' => e = .returned (.bool (Bnd num den)) ∧ Ext w w' := by
  go_enter Try.func74, Try.ntmps74
  go_wp2_with (go_at_call 100; ((with_reducible refine (l1AllT_any num den _ _ _ (by simp [go_sem]) (by simp [go_sem])).mono ?_); rintro e w' ⟨rfl, rfl⟩))
  go_ret
  exact ⟨rfl, (by repeat (first | exact Ext.refl _ | assumption | refine Ext.alloc ?_ _ | refine Ext.drew ?_ | refine Ext.drewN ?_ _ | refine Ext.setCell ?_ (by first | omega | (dsimp only; omega) | (simp; done) | (simp; omega)) _ | refine Ext.trans ?_ (by assumption)))⟩

theorem isClose_any (p q m num den : Int) (h : CloB p q m num den) (w : World) :
    Calls Try.prog 77 #[.agg #[.int .i64 p, .int .i64 q], .int .i64 m, .int .i64 num, .int .i64 den] w fun e w' => e = .returned (.bool (clo p q m num den)) ∧ Ext w w' := by
  obtain ⟨h1, h2, h3⟩ := h
  have HR : Hid (rsV (den * p - m * num) (den * q) = S2 (den * p - m * num) (den * q)) := by unfold Hid rsV; rw [Cf_mk (by omega), Cf_mk (by omega)]; rfl
  have HC : Hid (clo p q m num den = decide (S2 (den * p - m * num) (den * q) ≤ 0)) := rfl
  have hb := S2_bd (den * p - m * num) (den * q)
  go_enter Try.func77, Try.ntmps77
  go_wp2_with (go_at_call 118; ((with_reducible refine (realSign_any _ _ _).mono ?_); rintro e w' ⟨rfl, rfl⟩))
  go_ret
  exact ⟨ret_bool (by rw [HC.out, HR.out]), (by repeat (first | exact Ext.refl _ | assumption | refine Ext.alloc ?_ _ | refine Ext.drew ?_ | refine Ext.drewN ?_ _ | refine Ext.setCell ?_ (by first | omega | (dsimp only; omega) | (simp; done) | (simp; omega)) _ | refine Ext.trans ?_ (by assumption)))⟩

theorem clo_spec (p q m num den : Int) : decide (0 ≤ S2 (num * m - den * p) (-den * q)) = clo p q m num den := by
  unfold clo
  have e1 : num * m - den * p = -(den * p - m * num) := by rw [Int.mul_comm num m]; omega
  have e2 : -den * q = -(den * q) := by rw [Int.neg_mul]
  rw [e1, e2, S2_anti]
  have h := S2_bd (den * p - m * num) (den * q)
  rw [decide_eq_decide]
  omega

set_option maxHeartbeats 1000000 in
theorem l27Within_any (x y n a b c d k num den : Int) (h : Small x y n a b c d k) (hb : Bnd num den = true) (w : World) :
    Calls Try.prog 75 #[.agg #[.int .i64 x, .int .i64 y, .int .i64 n], .agg #[.int .i64 a, .int .i64 b, .int .i64 c, .int .i64 d], .int .i64 k, .int .i64 num, .int .i64 den] w fun e w' =>
      e = .returned (.bool (clo (erP x y n a b c d k) (erQ x y a b c d k) (erM n k) num den)) ∧ Ext w w' := by
  have HC := Lib.hid (clo_spec (erP x y n a b c d k) (erQ x y a b c d k) (erM n k) num den)
  have he := h.er
  have hm := h.bd.2.2.2.2
  obtain ⟨h1, h2, h3⟩ := cloB he.1 he.2 hm hb
  have h2' : -100000000 ≤ -den * erQ x y a b c d k ∧ -den * erQ x y a b c d k ≤ 100000000 := by rw [Int.neg_mul]; omega
  have h3' : -16000000 ≤ num * erM n k ∧ num * erM n k ≤ 16000000 := by rw [Int.mul_comm]; exact h3
  have hd := (Bnd_bd hb).2
  have HS : Hid (Small x y n a b c d k) := h
  have hbb := S2_bd (num * erM n k - den * erP x y n a b c d k) (-den * erQ x y a b c d k)
  clear h hb
  go_enter Try.func75, Try.ntmps75
  go_wp2_with fail
  refine (l27Error_any _ _ _ _ _ _ _ _ HS.out _).mono ?_
  rintro e w1 ⟨rfl, hx1⟩
  obtain ⟨hc1, hf1⟩ := hx1.cells
  have hz1 := hx1.size
  try simp at hz1
  have hs1_0 := sz2 (a := w.heap.size) (b := w1.heap.size) (by omega)
  go_wp2_with (go_at_call 117; ((with_reducible refine (l2Sign_any _ _ (Cf_mk (by omega)) (Cf_mk (by omega)) _).mono ?_); rintro e w' ⟨rfl, rfl⟩))
  go_ret
  exact ⟨ret_bool (by rw [← HC.out]), (by repeat (first | exact Ext.refl _ | assumption | refine Ext.alloc ?_ _ | refine Ext.drew ?_ | refine Ext.drewN ?_ _ | refine Ext.setCell ?_ (by first | omega | (dsimp only; omega) | (simp; done) | (simp; omega)) _ | refine Ext.trans ?_ (by assumption)))⟩

def okW (x y n a b c d e f g h k num den : Int) : Bool := okEr x y n a b c d e f g h k && Bnd num den
def isW (x y n a b c d e f g h k num den : Int) : Bool := okW x y n a b c d e f g h k num den && clo (erP x y n a b c d k) (erQ x y a b c d k) (erM n k) num den

set_option maxHeartbeats 1000000 in
theorem isWithin_any (x y n a b c d e f g h k num den : Int) (w : World) :
    Calls Try.prog 30 #[.agg #[.int .i64 x, .int .i64 y, .int .i64 n], .agg #[.int .i64 a, .int .i64 b, .int .i64 c, .int .i64 d, .int .i64 e, .int .i64 f, .int .i64 g, .int .i64 h, .int .i64 k], .int .i64 num, .int .i64 den] w fun en w' =>
      en = .returned (.tuple #[.bool (isW x y n a b c d e f g h k num den), .bool (okW x y n a b c d e f g h k num den)]) ∧ Ext w w' := by
  cases ho : okEr x y n a b c d e f g h k
  · have HO : Hid (okW x y n a b c d e f g h k num den = false) := by unfold Hid okW; rw [ho]; rfl
    have HW : Hid (isW x y n a b c d e f g h k num den = false) := by unfold Hid isW; rw [HO.out]; rfl
    rw [HO.out, HW.out]
    clear HO HW
    go_enter Try.func30, Try.ntmps30
    go_wp2_with fail
    refine (rotationError_any _ _ _ _ _ _ _ _ _ _ _ _ _).mono ?_
    rintro e w1 ⟨rfl, hx1⟩
    obtain ⟨hc1, hf1⟩ := hx1.cells
    have hz1 := hx1.size
    try simp at hz1
    have hs1_0 := sz2 (a := w.heap.size) (b := w1.heap.size) (by omega)
    go_wp2
    go_ret2
    exact ⟨rfl, (by repeat (first | exact Ext.refl _ | assumption | refine Ext.alloc ?_ _ | refine Ext.drew ?_ | refine Ext.drewN ?_ _ | refine Ext.setCell ?_ (by first | omega | (dsimp only; omega) | (simp; done) | (simp; omega)) _ | refine Ext.trans ?_ (by assumption)))⟩
  have e1 : reP x y n a b c d e f g h k = erP x y n a b c d k := by unfold reP; rw [ho]; rfl
  have e2 : reQ x y n a b c d e f g h k = erQ x y a b c d k := by unfold reQ; rw [ho]; rfl
  have e3 : reM x y n a b c d e f g h k = erM n k := by unfold reM; rw [ho]; rfl
  cases hb : Bnd num den
  · have HO : Hid (okW x y n a b c d e f g h k num den = false) := by unfold Hid okW; rw [hb, Bool.and_false]
    have HW : Hid (isW x y n a b c d e f g h k num den = false) := by unfold Hid isW; rw [HO.out]; rfl
    rw [HO.out, HW.out]
    clear HO HW e1 e2 e3
    go_enter Try.func30, Try.ntmps30
    go_wp2_with fail
    refine (rotationError_any _ _ _ _ _ _ _ _ _ _ _ _ _).mono ?_
    rintro e w1 ⟨rfl, hx1⟩
    obtain ⟨hc1, hf1⟩ := hx1.cells
    have hz1 := hx1.size
    try simp at hz1
    have hs1_0 := sz2 (a := w.heap.size) (b := w1.heap.size) (by omega)
    go_wp2_with (go_at_call 76; ((with_reducible refine (isBound_any _ _ _).mono ?_); rintro e w' ⟨rfl, rfl⟩))
    go_ret2
    exact ⟨rfl, (by repeat (first | exact Ext.refl _ | assumption | refine Ext.alloc ?_ _ | refine Ext.drew ?_ | refine Ext.drewN ?_ _ | refine Ext.setCell ?_ (by first | omega | (dsimp only; omega) | (simp; done) | (simp; omega)) _ | refine Ext.trans ?_ (by assumption)))⟩
  have HO : Hid (okW x y n a b c d e f g h k num den = true) := by unfold Hid okW; rw [ho, hb]; rfl
  have HW : Hid (isW x y n a b c d e f g h k num den = clo (erP x y n a b c d k) (erQ x y a b c d k) (erM n k) num den) := by unfold Hid isW; rw [HO.out]; rfl
  have hs : Small x y n a b c d k := by
    simp only [okEr, Bool.and_eq_true] at ho
    exact small_of ho.1 ho.2
  have HK : Hid (CloB (erP x y n a b c d k) (erQ x y a b c d k) (erM n k) num den) := cloB hs.er.1 hs.er.2 hs.bd.2.2.2.2 hb
  have HT := Lib.hid (rotationError_any x y n a b c d e f g h k)
  unfold Hid at HT
  rw [e1, e2, e3, ho] at HT
  have HT := Lib.hid HT
  rw [HO.out, HW.out]
  clear HO HW hs e1 e2 e3
  go_enter Try.func30, Try.ntmps30
  go_wp2_with fail
  refine (HT.out _).mono ?_
  rintro e w1 ⟨rfl, hx1⟩
  obtain ⟨hc1, hf1⟩ := hx1.cells
  have hz1 := hx1.size
  try simp at hz1
  have hs1_0 := sz2 (a := w.heap.size) (b := w1.heap.size) (by omega)
  go_wp2_with (first | (go_at_call 76; ((with_reducible refine (isBound_any _ _ _).mono ?_); rintro e w' ⟨rfl, rfl⟩)) | fail)
  refine (isClose_any _ _ _ _ _ HK.out _).mono ?_
  rintro e' w2 ⟨rfl, hx2⟩
  obtain ⟨hc2, hf2⟩ := hx2.cells
  have hz2 := hx2.size
  try simp at hz2
  have hs2_0 := sz2 (a := w.heap.size) (b := w2.heap.size) (by omega)
  go_wp2
  go_ret2
  exact ⟨rfl, (by repeat (first | exact Ext.refl _ | assumption | refine Ext.alloc ?_ _ | refine Ext.drew ?_ | refine Ext.drewN ?_ _ | refine Ext.setCell ?_ (by first | omega | (dsimp only; omega) | (simp; done) | (simp; omega)) _ | refine Ext.trans ?_ (by assumption)))⟩

set_option maxHeartbeats 1000000 in
theorem s_isWithin_any (x y n a b c d e f g h k num den : Int) (w : World) :
    Calls Try.prog 29 #[.agg #[.int .i64 x, .int .i64 y, .int .i64 n], .agg #[.int .i64 a, .int .i64 b, .int .i64 c, .int .i64 d, .int .i64 e, .int .i64 f, .int .i64 g, .int .i64 h, .int .i64 k], .int .i64 num, .int .i64 den] w fun en w' =>
      en = .returned (.tuple #[.bool (isW x y n a b c d e f g h k num den), .bool (okW x y n a b c d e f g h k num den)]) ∧ Ext w w' := by
  cases ht : Tg x y n
  · have HO : Hid (okW x y n a b c d e f g h k num den = false) := by unfold Hid okW okEr; rw [ht]; rfl
    have HW : Hid (isW x y n a b c d e f g h k num den = false) := by unfold Hid isW; rw [HO.out]; rfl
    rw [HO.out, HW.out]
    clear HO HW
    go_enter Try.func29, Try.ntmps29
    go_wp2_with fail
    refine (l27Target_any _ _ _ _).mono ?_
    rintro e w1 ⟨rfl, hx1⟩
    obtain ⟨hc1, hf1⟩ := hx1.cells
    have hz1 := hx1.size
    try simp at hz1
    have hs1_0 := sz2 (a := w.heap.size) (b := w1.heap.size) (by omega)
    go_wp2
    go_ret2
    exact ⟨rfl, (by repeat (first | exact Ext.refl _ | assumption | refine Ext.alloc ?_ _ | refine Ext.drew ?_ | refine Ext.drewN ?_ _ | refine Ext.setCell ?_ (by first | omega | (dsimp only; omega) | (simp; done) | (simp; omega)) _ | refine Ext.trans ?_ (by assumption)))⟩
  cases ha : Apx a b c d e f g h k
  · have HO : Hid (okW x y n a b c d e f g h k num den = false) := by unfold Hid okW okEr; rw [ha, Bool.and_false]; rfl
    have HW : Hid (isW x y n a b c d e f g h k num den = false) := by unfold Hid isW; rw [HO.out]; rfl
    rw [HO.out, HW.out]
    clear HO HW
    go_enter Try.func29, Try.ntmps29
    go_wp2_with fail
    refine (l27Target_any _ _ _ _).mono ?_
    rintro e w1 ⟨rfl, hx1⟩
    obtain ⟨hc1, hf1⟩ := hx1.cells
    have hz1 := hx1.size
    try simp at hz1
    have hs1_0 := sz2 (a := w.heap.size) (b := w1.heap.size) (by omega)
    go_wp2_with fail
    refine (l27Valid_any _ _ _ _ _ _ _ _ _ _).mono ?_
    rintro e w2 ⟨rfl, hx2⟩
    obtain ⟨hc2, hf2⟩ := hx2.cells
    have hz2 := hx2.size
    try simp at hz2
    have hs2_0 := sz2 (a := w.heap.size) (b := w2.heap.size) (by omega)
    go_wp2
    go_ret2
    exact ⟨rfl, (by repeat (first | exact Ext.refl _ | assumption | refine Ext.alloc ?_ _ | refine Ext.drew ?_ | refine Ext.drewN ?_ _ | refine Ext.setCell ?_ (by first | omega | (dsimp only; omega) | (simp; done) | (simp; omega)) _ | refine Ext.trans ?_ (by assumption)))⟩
  cases hb : Bnd num den
  · have HO : Hid (okW x y n a b c d e f g h k num den = false) := by unfold Hid okW; rw [hb, Bool.and_false]
    have HW : Hid (isW x y n a b c d e f g h k num den = false) := by unfold Hid isW; rw [HO.out]; rfl
    rw [HO.out, HW.out]
    clear HO HW
    go_enter Try.func29, Try.ntmps29
    go_wp2_with fail
    refine (l27Target_any _ _ _ _).mono ?_
    rintro e w1 ⟨rfl, hx1⟩
    obtain ⟨hc1, hf1⟩ := hx1.cells
    have hz1 := hx1.size
    try simp at hz1
    have hs1_0 := sz2 (a := w.heap.size) (b := w1.heap.size) (by omega)
    go_wp2_with fail
    refine (l27Valid_any _ _ _ _ _ _ _ _ _ _).mono ?_
    rintro e w2 ⟨rfl, hx2⟩
    obtain ⟨hc2, hf2⟩ := hx2.cells
    have hz2 := hx2.size
    try simp at hz2
    have hs2_0 := sz2 (a := w.heap.size) (b := w2.heap.size) (by omega)
    go_wp2_with fail
    refine (l27Bound_any _ _ _).mono ?_
    rintro e w3 ⟨rfl, hx3⟩
    obtain ⟨hc3, hf3⟩ := hx3.cells
    have hz3 := hx3.size
    try simp at hz3
    have hs3_0 := sz2 (a := w.heap.size) (b := w3.heap.size) (by omega)
    go_wp2
    go_ret2
    exact ⟨rfl, (by repeat (first | exact Ext.refl _ | assumption | refine Ext.alloc ?_ _ | refine Ext.drew ?_ | refine Ext.drewN ?_ _ | refine Ext.setCell ?_ (by first | omega | (dsimp only; omega) | (simp; done) | (simp; omega)) _ | refine Ext.trans ?_ (by assumption)))⟩
  have HO : Hid (okW x y n a b c d e f g h k num den = true) := by unfold Hid okW okEr; rw [ht, ha, hb]; rfl
  have HW : Hid (isW x y n a b c d e f g h k num den = clo (erP x y n a b c d k) (erQ x y a b c d k) (erM n k) num den) := by unfold Hid isW; rw [HO.out]; rfl
  have HS : Hid (Small x y n a b c d k) := small_of ht ha
  rw [HO.out, HW.out]
  clear HO HW
  go_enter Try.func29, Try.ntmps29
  go_wp2_with fail
  refine (l27Target_any _ _ _ _).mono ?_
  rintro e w1 ⟨rfl, hx1⟩
  obtain ⟨hc1, hf1⟩ := hx1.cells
  have hz1 := hx1.size
  try simp at hz1
  have hs1_0 := sz2 (a := w.heap.size) (b := w1.heap.size) (by omega)
  go_wp2_with fail
  refine (l27Valid_any _ _ _ _ _ _ _ _ _ _).mono ?_
  rintro e w2 ⟨rfl, hx2⟩
  obtain ⟨hc2, hf2⟩ := hx2.cells
  have hz2 := hx2.size
  try simp at hz2
  have hs2_0 := sz2 (a := w.heap.size) (b := w2.heap.size) (by omega)
  go_wp2_with fail
  refine (l27Bound_any _ _ _).mono ?_
  rintro e w3 ⟨rfl, hx3⟩
  obtain ⟨hc3, hf3⟩ := hx3.cells
  have hz3 := hx3.size
  try simp at hz3
  have hs3_0 := sz2 (a := w.heap.size) (b := w3.heap.size) (by omega)
  go_wp2_with fail
  refine (l27Within_any _ _ _ _ _ _ _ _ _ _ HS.out hb _).mono ?_
  rintro e w4 ⟨rfl, hx4⟩
  obtain ⟨hc4, hf4⟩ := hx4.cells
  have hz4 := hx4.size
  try simp at hz4
  have hs4_0 := sz2 (a := w.heap.size) (b := w4.heap.size) (by omega)
  go_wp2
  go_ret2
  exact ⟨rfl, (by repeat (first | exact Ext.refl _ | assumption | refine Ext.alloc ?_ _ | refine Ext.drew ?_ | refine Ext.drewN ?_ _ | refine Ext.setCell ?_ (by first | omega | (dsimp only; omega) | (simp; done) | (simp; omega)) _ | refine Ext.trans ?_ (by assumption)))⟩

theorem law_IsWithin (x y n a b c d e f g h k num den : Int) (w : World) :
    Calls Try.prog 6 #[.agg #[.int .i64 x, .int .i64 y, .int .i64 n], .agg #[.int .i64 a, .int .i64 b, .int .i64 c, .int .i64 d, .int .i64 e, .int .i64 f, .int .i64 g, .int .i64 h, .int .i64 k], .int .i64 num, .int .i64 den] w fun en w' => en = .returned (.bool true) ∧ Ext w w' := by
  go_enter Try.func6, Try.ntmps6
  go_wp2
  refine wp_region_xt (by kernel_rfl) (by kernel_rfl) (fun hxc => ?_)
  repeat (first | go_big_quiet_step ((first | (go_at_call 21; exact calls_xt (toTarget_any _ _ _ _)) | (go_at_call 22; exact calls_xt (toApproximation_any _ _ _ _ _ _ _ _ _ _)) | (go_at_call 29; exact calls_xt (s_isWithin_any _ _ _ _ _ _ _ _ _ _ _ _ _ _ _)))) | quiet_step ((first | (go_at_call 21; exact calls_xt (toTarget_any _ _ _ _)) | (go_at_call 22; exact calls_xt (toApproximation_any _ _ _ _ _ _ _ _ _ _)) | (go_at_call 29; exact calls_xt (s_isWithin_any _ _ _ _ _ _ _ _ _ _ _ _ _ _ _)))))
  refine wpQuiet_nil (forall_xt ?_)
  clear hxc
  intro w1 hx1
  obtain ⟨hc1, hf1⟩ := hx1.cells
  have hz1 := hx1.size
  try simp at hz1
  have hs1_0 := sz2 (a := w.heap.size) (b := w1.heap.size) (by omega)
  go_wp2
  refine wp_region_xt (by kernel_rfl) (by kernel_rfl) (fun hxc => ?_)
  repeat (first | go_big_quiet_step ((first | (go_at_call 21; exact calls_xt (toTarget_any _ _ _ _)) | (go_at_call 22; exact calls_xt (toApproximation_any _ _ _ _ _ _ _ _ _ _)) | (go_at_call 30; exact calls_xt (isWithin_any _ _ _ _ _ _ _ _ _ _ _ _ _ _ _)))) | quiet_step ((first | (go_at_call 21; exact calls_xt (toTarget_any _ _ _ _)) | (go_at_call 22; exact calls_xt (toApproximation_any _ _ _ _ _ _ _ _ _ _)) | (go_at_call 30; exact calls_xt (isWithin_any _ _ _ _ _ _ _ _ _ _ _ _ _ _ _)))))
  refine wpQuiet_nil (forall_xt ?_)
  clear hxc
  intro w2 hx2
  obtain ⟨hc2, hf2⟩ := hx2.cells
  have hz2 := hx2.size
  try simp at hz2
  go_wp2
  go_ret
  exact ⟨rfl, (by repeat (first | exact Ext.refl _ | assumption | refine Ext.alloc ?_ _ | refine Ext.drew ?_ | refine Ext.drewN ?_ _ | refine Ext.setCell ?_ (by first | omega | (dsimp only; omega) | (simp; done) | (simp; omega)) _ | refine Ext.trans ?_ (by assumption)))⟩

end Go.Proofs.Ytkjamaacapaokaa
