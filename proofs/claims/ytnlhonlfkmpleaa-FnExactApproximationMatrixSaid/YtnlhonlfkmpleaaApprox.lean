/- Approximations: pairs of numbers of the ring on a sphere. -/
import Derived.Test.YtnlhonlfkmpleaaRows
import Derived.Test.YtnlhonlfkmpleaaRing
namespace Go.Proofs.Ytnlhonlfkmpleaa
open Go.RowKit

theorem toApproximation_any (a b c d e f g h k : Int) (w : World) :
    Calls Try.prog 31 #[.agg #[.int .i64 a, .int .i64 b, .int .i64 c, .int .i64 d, .int .i64 e, .int .i64 f, .int .i64 g, .int .i64 h, .int .i64 k]] w fun en w' =>
      en = .returned (.agg #[.int .i64 a, .int .i64 b, .int .i64 c, .int .i64 d, .int .i64 e, .int .i64 f, .int .i64 g, .int .i64 h, .int .i64 k]) ∧ Ext w w' := by
  go_enter Try.func31, Try.ntmps31
  go_wp2
  refine bodyPost_ret (v := .agg #[.int .i64 a, .int .i64 b, .int .i64 c, .int .i64 d]) (by simp [results, Try.results55, go_sem]) rfl ?_
  go_wp2
  refine bodyPost_ret (v := .agg #[.int .i64 e, .int .i64 f, .int .i64 g, .int .i64 h]) (by simp [results, Try.results55, go_sem]) rfl ?_
  go_wp2
  refine bodyPost_ret (v := .agg #[.int .i64 a, .int .i64 b, .int .i64 c, .int .i64 d, .int .i64 e, .int .i64 f, .int .i64 g, .int .i64 h, .int .i64 k]) (by simp [results, Try.results31, go_sem]) rfl ⟨rfl, ?_⟩
  exact (by repeat (first | exact Ext.refl _ | assumption | refine Ext.alloc ?_ _ | refine Ext.drew ?_ | refine Ext.drewN ?_ _ | refine Ext.setCell ?_ (by first | omega | (dsimp only; omega) | (simp; done) | (simp; omega)) _ | refine Ext.trans ?_ (by assumption)))

def S16 (a : Int) : Bool := Wn a (-16) 16
def Apx (a b c d e f g h k : Int) : Bool :=
  Wn k 0 8 && (S16 a && S16 b && S16 c && S16 d && S16 e && S16 f && S16 g && S16 h) && (sqU a b c d + sqU e f g h == 2 ^ k.toNat) && (sqV a b c d + sqV e f g h == 0)
theorem sq_pos (a : Int) : 0 ≤ a * a := (sq_bd (a := a) (A := if a < 0 then -a else a) (by split <;> omega) (by split <;> omega)).1
theorem small_of_sq {a : Int} (h : a * a ≤ 256) : -16 ≤ a ∧ a ≤ 16 := by
  by_cases h1 : 16 < a
  · have := Int.mul_le_mul (a := 17) (b := 17) (c := a) (d := a) (by omega) (by omega) (by omega) (by omega)
    omega
  · by_cases h2 : a < -16
    · have := Int.mul_le_mul (a := 17) (b := 17) (c := -a) (d := -a) (by omega) (by omega) (by omega) (by omega)
      rw [Int.neg_mul_neg] at this
      omega
    · omega
theorem pow_le {k : Int} (h : 0 ≤ k ∧ k ≤ 8) : 1 ≤ (2 : Int) ^ k.toNat ∧ (2 : Int) ^ k.toNat ≤ 256 := by
  have : k = 0 ∨ k = 1 ∨ k = 2 ∨ k = 3 ∨ k = 4 ∨ k = 5 ∨ k = 6 ∨ k = 7 ∨ k = 8 := by omega
  rcases this with rfl | rfl | rfl | rfl | rfl | rfl | rfl | rfl | rfl <;> decide
theorem sqU_small {a b c d : Int} (h : sqU a b c d ≤ 256) : (-16 ≤ a ∧ a ≤ 16) ∧ (-16 ≤ b ∧ b ≤ 16) ∧ (-16 ≤ c ∧ c ≤ 16) ∧ (-16 ≤ d ∧ d ≤ 16) := by
  unfold sqU at h
  have := sq_pos a
  have := sq_pos b
  have := sq_pos c
  have := sq_pos d
  exact ⟨small_of_sq (by omega), small_of_sq (by omega), small_of_sq (by omega), small_of_sq (by omega)⟩
theorem sqU_pos (a b c d : Int) : 0 ≤ sqU a b c d := by
  unfold sqU
  have := sq_pos a
  have := sq_pos b
  have := sq_pos c
  have := sq_pos d
  omega
theorem sq16 {a b : Int} (ha : -16 ≤ a ∧ a ≤ 16) (hb : -16 ≤ b ∧ b ≤ 16) : -256 ≤ a * b ∧ a * b ≤ 256 := mul_bd ha.1 ha.2 hb.1 hb.2
theorem okSq_small {a b c d : Int} (h : (-16 ≤ a ∧ a ≤ 16) ∧ (-16 ≤ b ∧ b ≤ 16) ∧ (-16 ≤ c ∧ c ≤ 16) ∧ (-16 ≤ d ∧ d ≤ 16)) : okSq a b c d = true := by
  have h1 := sq16 h.1 h.1
  have h2 := sq16 h.2.1 h.2.1
  have h3 := sq16 h.2.2.1 h.2.2.1
  have h4 := sq16 h.2.2.2 h.2.2.2
  have h5 := sq16 h.1 h.2.1
  have h6 := sq16 h.2.1 h.2.2.1
  have h7 := sq16 h.2.2.1 h.2.2.2
  have h8 := sq16 h.2.2.2 h.1
  unfold okSq
  rw [Rg_mk (by omega), Cf_mk (by unfold sqU; omega), Cf_mk (by unfold sqV; omega)]
  rfl
theorem Apx_eq (a b c d e f g h k : Int) : Apx a b c d e f g h k = (okSq a b c d && okSq e f g h && Wn k 0 8 && (absU a b c d + absU e f g h == 2 ^ k.toNat) && (absV a b c d + absV e f g h == 0)) := by
  rw [Bool.eq_iff_iff]
  unfold Apx
  simp only [Bool.and_eq_true, beq_iff_eq, S16, Wn_iff]
  constructor
  · rintro ⟨⟨⟨hk, ⟨⟨⟨⟨⟨⟨⟨h1, h2⟩, h3⟩, h4⟩, h5⟩, h6⟩, h7⟩, h8⟩⟩, hu⟩, hv⟩
    have o1 := okSq_small ⟨h1, h2, h3, h4⟩
    have o2 := okSq_small ⟨h5, h6, h7, h8⟩
    refine ⟨⟨⟨⟨o1, o2⟩, hk⟩, ?_⟩, ?_⟩
    · unfold absU; rw [if_pos o1, if_pos o2]; exact hu
    · unfold absV; rw [if_pos o1, if_pos o2]; exact hv
  · rintro ⟨⟨⟨⟨o1, o2⟩, hk⟩, hu⟩, hv⟩
    unfold absU at hu
    unfold absV at hv
    rw [if_pos o1, if_pos o2] at hu hv
    have hp := pow_le hk
    have p1 := sqU_pos a b c d
    have p2 := sqU_pos e f g h
    obtain ⟨h1, h2, h3, h4⟩ := sqU_small (a := a) (b := b) (c := c) (d := d) (by omega)
    obtain ⟨h5, h6, h7, h8⟩ := sqU_small (a := e) (b := f) (c := g) (d := h) (by omega)
    exact ⟨⟨⟨hk, ⟨⟨⟨⟨⟨⟨⟨h1, h2⟩, h3⟩, h4⟩, h5⟩, h6⟩, h7⟩, h8⟩⟩, hu⟩, hv⟩

set_option maxHeartbeats 1000000 in
theorem isValidApproximation_any (a b c d e f g h k : Int) (w : World) :
    Calls Try.prog 72 #[.agg #[.int .i64 a, .int .i64 b, .int .i64 c, .int .i64 d, .int .i64 e, .int .i64 f, .int .i64 g, .int .i64 h, .int .i64 k]] w fun en w' =>
      en = .returned (.bool (Apx a b c d e f g h k)) ∧ Ext w w' := by
  have HA := Lib.hid (Apx_eq a b c d e f g h k)
  cases h1 : okSq a b c d
  · go_enter Try.func72, Try.ntmps72
    go_wp2_with fail
    refine (absSquare_any _ _ _ _ _).mono ?_
    rintro e w1 ⟨rfl, hx1⟩
    obtain ⟨hc1, hf1⟩ := hx1.cells
    have hz1 := hx1.size
    try simp at hz1
    have hs1_0 := sz1 (a := w.heap.size) (b := w1.heap.size) (by omega)
    go_wp2_with fail
    refine (absSquare_any _ _ _ _ _).mono ?_
    rintro e w2 ⟨rfl, hx2⟩
    obtain ⟨hc2, hf2⟩ := hx2.cells
    have hz2 := hx2.size
    try simp at hz2
    have hs2_0 := sz1 (a := w.heap.size) (b := w2.heap.size) (by omega)
    go_wp2
    go_ret
    exact ⟨ret_bool (by rw [HA.out, h1]; rfl), (by repeat (first | exact Ext.refl _ | assumption | refine Ext.alloc ?_ _ | refine Ext.drew ?_ | refine Ext.drewN ?_ _ | refine Ext.setCell ?_ (by first | omega | (dsimp only; omega) | (simp; done) | (simp; omega)) _ | refine Ext.trans ?_ (by assumption)))⟩
  cases h2 : okSq e f g h
  · go_enter Try.func72, Try.ntmps72
    go_wp2_with fail
    refine (absSquare_any _ _ _ _ _).mono ?_
    rintro e w1 ⟨rfl, hx1⟩
    obtain ⟨hc1, hf1⟩ := hx1.cells
    have hz1 := hx1.size
    try simp at hz1
    have hs1_0 := sz1 (a := w.heap.size) (b := w1.heap.size) (by omega)
    go_wp2_with fail
    refine (absSquare_any _ _ _ _ _).mono ?_
    rintro e w2 ⟨rfl, hx2⟩
    obtain ⟨hc2, hf2⟩ := hx2.cells
    have hz2 := hx2.size
    try simp at hz2
    have hs2_0 := sz1 (a := w.heap.size) (b := w2.heap.size) (by omega)
    go_wp2
    go_ret
    exact ⟨ret_bool (by rw [HA.out, h1, h2]; rfl), (by repeat (first | exact Ext.refl _ | assumption | refine Ext.alloc ?_ _ | refine Ext.drew ?_ | refine Ext.drewN ?_ _ | refine Ext.setCell ?_ (by first | omega | (dsimp only; omega) | (simp; done) | (simp; omega)) _ | refine Ext.trans ?_ (by assumption)))⟩
  cases h3 : Wn k 0 8
  · go_enter Try.func72, Try.ntmps72
    go_wp2_with fail
    refine (absSquare_any _ _ _ _ _).mono ?_
    rintro e w1 ⟨rfl, hx1⟩
    obtain ⟨hc1, hf1⟩ := hx1.cells
    have hz1 := hx1.size
    try simp at hz1
    have hs1_0 := sz1 (a := w.heap.size) (b := w1.heap.size) (by omega)
    go_wp2_with fail
    refine (absSquare_any _ _ _ _ _).mono ?_
    rintro e w2 ⟨rfl, hx2⟩
    obtain ⟨hc2, hf2⟩ := hx2.cells
    have hz2 := hx2.size
    try simp at hz2
    have hs2_0 := sz1 (a := w.heap.size) (b := w2.heap.size) (by omega)
    go_wp2_with (go_at_call 49; ((with_reducible refine (within_any _ _ _ _).mono ?_); rintro e w' ⟨rfl, rfl⟩))
    go_ret
    exact ⟨ret_bool (by rw [HA.out, h1, h2, h3]; rfl), (by repeat (first | exact Ext.refl _ | assumption | refine Ext.alloc ?_ _ | refine Ext.drew ?_ | refine Ext.drewN ?_ _ | refine Ext.setCell ?_ (by first | omega | (dsimp only; omega) | (simp; done) | (simp; omega)) _ | refine Ext.trans ?_ (by assumption)))⟩
  have bk := Wn_iff.1 h3
  have b1 : -1000000000 ≤ absU a b c d ∧ absU a b c d ≤ 1000000000 := by
    unfold absU; rw [if_pos h1]
    simp only [okSq, Bool.and_eq_true] at h1
    exact Cf_bd h1.1.2
  have b2 : -1000000000 ≤ absU e f g h ∧ absU e f g h ≤ 1000000000 := by
    unfold absU; rw [if_pos h2]
    simp only [okSq, Bool.and_eq_true] at h2
    exact Cf_bd h2.1.2
  have b3 : -1000000000 ≤ absV a b c d ∧ absV a b c d ≤ 1000000000 := by
    unfold absV; rw [if_pos h1]
    simp only [okSq, Bool.and_eq_true] at h1
    exact Cf_bd h1.2
  have b4 : -1000000000 ≤ absV e f g h ∧ absV e f g h ≤ 1000000000 := by
    unfold absV; rw [if_pos h2]
    simp only [okSq, Bool.and_eq_true] at h2
    exact Cf_bd h2.2
  have bp := pow_le bk
  by_cases h4 : absU a b c d + absU e f g h = 2 ^ k.toNat
  · have hv : Hid (Apx a b c d e f g h k = (absV a b c d + absV e f g h == 0)) := by
      unfold Hid; rw [HA.out, h1, h2, h3, h4]; simp
    have h4' : (absU a b c d + absU e f g h == 2 ^ k.toNat) = true := by simpa using h4
    clear h4
    go_enter Try.func72, Try.ntmps72
    go_wp2_with fail
    refine (absSquare_any _ _ _ _ _).mono ?_
    rintro e w1 ⟨rfl, hx1⟩
    obtain ⟨hc1, hf1⟩ := hx1.cells
    have hz1 := hx1.size
    try simp at hz1
    have hs1_0 := sz1 (a := w.heap.size) (b := w1.heap.size) (by omega)
    go_wp2_with fail
    refine (absSquare_any _ _ _ _ _).mono ?_
    rintro e w2 ⟨rfl, hx2⟩
    obtain ⟨hc2, hf2⟩ := hx2.cells
    have hz2 := hx2.size
    try simp at hz2
    have hs2_0 := sz1 (a := w.heap.size) (b := w2.heap.size) (by omega)
    go_wp2_with (go_at_call 49; ((with_reducible refine (within_any _ _ _ _).mono ?_); rintro e w' ⟨rfl, rfl⟩))
    go_ret
    exact ⟨ret_bool (by rw [hv.out]), (by repeat (first | exact Ext.refl _ | assumption | refine Ext.alloc ?_ _ | refine Ext.drew ?_ | refine Ext.drewN ?_ _ | refine Ext.setCell ?_ (by first | omega | (dsimp only; omega) | (simp; done) | (simp; omega)) _ | refine Ext.trans ?_ (by assumption)))⟩
  · have hv : Hid (Apx a b c d e f g h k = false) := by
      unfold Hid; rw [HA.out, h1, h2, h3]; simp [h4]
    have h4' : (absU a b c d + absU e f g h == 2 ^ k.toNat) = false := by simpa using h4
    clear h4
    go_enter Try.func72, Try.ntmps72
    go_wp2_with fail
    refine (absSquare_any _ _ _ _ _).mono ?_
    rintro e w1 ⟨rfl, hx1⟩
    obtain ⟨hc1, hf1⟩ := hx1.cells
    have hz1 := hx1.size
    try simp at hz1
    have hs1_0 := sz1 (a := w.heap.size) (b := w1.heap.size) (by omega)
    go_wp2_with fail
    refine (absSquare_any _ _ _ _ _).mono ?_
    rintro e w2 ⟨rfl, hx2⟩
    obtain ⟨hc2, hf2⟩ := hx2.cells
    have hz2 := hx2.size
    try simp at hz2
    have hs2_0 := sz1 (a := w.heap.size) (b := w2.heap.size) (by omega)
    go_wp2_with (go_at_call 49; ((with_reducible refine (within_any _ _ _ _).mono ?_); rintro e w' ⟨rfl, rfl⟩))
    go_ret
    exact ⟨ret_bool (by rw [hv.out]), (by repeat (first | exact Ext.refl _ | assumption | refine Ext.alloc ?_ _ | refine Ext.drew ?_ | refine Ext.drewN ?_ _ | refine Ext.setCell ?_ (by first | omega | (dsimp only; omega) | (simp; done) | (simp; omega)) _ | refine Ext.trans ?_ (by assumption)))⟩

def All16 (l : List Int) : Bool := AllW l (-16) 16
theorem all16_8 (a b c d e f g h : Int) : All16 [a, b, c, d, e, f, g, h] = (S16 a && S16 b && S16 c && S16 d && S16 e && S16 f && S16 g && S16 h) := by
  simp [All16, AllW, S16, Bool.and_assoc]
theorem cells_of {w : World} {b : Nat} {t : TypeId} {xs : List Int} (h : w.heap[b]? = some (.cells (xs.map (Value.int .i64)).toArray t (0, 0))) : ∀ k, (hk : k < xs.length) → w.cell? ⟨b, k, none⟩ = some (.int .i64 xs[k]) := by
  intro k hk
  rw [cell_of_row w b k _ t (0, 0) h]
  simp [hk]

set_option maxHeartbeats 1000000 in
theorem l27Valid_any (a b c d e f g h k : Int) (w : World) :
    Calls Try.prog 70 #[.agg #[.int .i64 a, .int .i64 b, .int .i64 c, .int .i64 d, .int .i64 e, .int .i64 f, .int .i64 g, .int .i64 h, .int .i64 k]] w fun en w' =>
      en = .returned (.bool (Apx a b c d e f g h k)) ∧ Ext w w' := by
  have HA : Hid (Apx a b c d e f g h k = (Wn k 0 8 && All16 [a, b, c, d, e, f, g, h] && (sqU a b c d + sqU e f g h == 2 ^ k.toNat) && (sqV a b c d + sqV e f g h == 0))) := by
    unfold Hid; rw [all16_8]; rfl
  cases h1 : Wn k 0 8
  · go_enter Try.func70, Try.ntmps70
    go_wp2_with (go_at_call 47; ((with_reducible refine (l1In_any _ _ _ _).mono ?_); rintro e w' ⟨rfl, rfl⟩))
    go_ret
    exact ⟨ret_bool (by rw [HA.out, h1]; rfl), (by repeat (first | exact Ext.refl _ | assumption | refine Ext.alloc ?_ _ | refine Ext.drew ?_ | refine Ext.drewN ?_ _ | refine Ext.setCell ?_ (by first | omega | (dsimp only; omega) | (simp; done) | (simp; omega)) _ | refine Ext.trans ?_ (by assumption)))⟩
  have bk := Wn_iff.1 h1
  have bp := pow_le bk
  have HW1 := Lib.hid h1
  obtain ⟨xs, hxs⟩ : ∃ xs, xs = [a, b, c, d, e, f, g, h] := ⟨_, rfl⟩
  have HXS := Lib.hid hxs
  have lx : xs.length ≤ 8 ∧ 8 ≤ xs.length := by subst hxs; simp
  rw [← hxs] at HA
  clear hxs
  go_enter Try.func70, Try.ntmps70
  go_wp2_with (go_at_call 47; ((with_reducible refine (l1In_any _ _ _ _).mono ?_); rintro e w' ⟨rfl, rfl⟩))
  clear h1
  generalize hW : ((w.alloc _).alloc _) = W
  have hE : Ext w W := by rw [← hW]; exact ((Ext.refl w).alloc _).alloc _
  have HC : Hid (∀ j, (hj : j < xs.length) → W.cell? ⟨w.heap.size + 1, j, none⟩ = some (.int .i64 xs[j])) := by
    refine cells_of (t := 3) ?_
    rw [← hW, HXS.out]
    have := heap_alloc_new (w.alloc (.cells #[.int .i64 a, .int .i64 b, .int .i64 c, .int .i64 d, .int .i64 e, .int .i64 f, .int .i64 g, .int .i64 h, .int .i64 k] 55)) (.cells #[.int .i64 a, .int .i64 b, .int .i64 c, .int .i64 d, .int .i64 e, .int .i64 f, .int .i64 g, .int .i64 h] 3)
    rw [World.size_alloc] at this
    exact this
  have hb0 : W.heap[w.heap.size]? = some (.cells #[.int .i64 a, .int .i64 b, .int .i64 c, .int .i64 d, .int .i64 e, .int .i64 f, .int .i64 g, .int .i64 h, .int .i64 k] 55 (0, 0)) := by
    rw [← hW]
    exact ((Ext.refl (w.alloc _)).alloc _).heap (by simp) |>.trans (heap_alloc_new _ _)
  have hcb : ∀ j, W.cell? ⟨w.heap.size, j, none⟩ = (#[.int .i64 a, .int .i64 b, .int .i64 c, .int .i64 d, .int .i64 e, .int .i64 f, .int .i64 g, .int .i64 h, .int .i64 k] : Array Value)[j]? := fun j => cell_of_row _ _ _ _ _ _ hb0
  have hsz : w.heap.size + 2 ≤ W.heap.size := by rw [← hW]; simp
  have hsW := sz2 (a := w.heap.size) (b := W.heap.size) (by omega)
  clear hb0 hW
  go_loop [4, 39] (fun _ i => ∃ j : Nat, j ≤ 8 ∧ i = .int .i64 j ∧ Hid (All16 (xs.take j) = true)) (fun _ i => 8 - (intOf i).toNat)
  case atStart => exact ⟨0, by omega, rfl, rfl⟩
  case round =>
    obtain ⟨j, hj, rfl, hh⟩ := hrel
    by_cases hlt : j < 8
    · have hck := HC.out j (by omega)
      cases hw : Wn xs[j] (-16) 16
      · go_wp2_with (go_at_call 47; ((with_reducible refine (l1In_any _ _ _ _).mono ?_); rintro e w' ⟨rfl, rfl⟩))
        go_ret
        exact ⟨ret_bool (by rw [HA.out, HW1.out, All16, allW_false xs (-16) 16 j (by omega) hw]; rfl), hE⟩
      · go_wp2_with (go_at_call 47; ((with_reducible refine (l1In_any _ _ _ _).mono ?_); rintro e w' ⟨rfl, rfl⟩))
        go_round
        case rel => exact ⟨j + 1, by omega, by go_num, by unfold Hid All16; rw [allW_take_succ _ _ _ _ (by omega), ← All16, hh.out, hw]; rfl⟩
        case measure => simp [intOf]; omega
    · have hall : All16 xs = true := by rw [← hh.out, List.take_of_length_le (by omega)]
      have hall' := hall
      rw [HXS.out, all16_8] at hall'
      simp only [Bool.and_eq_true, S16, Wn_iff] at hall'
      obtain ⟨⟨⟨⟨⟨⟨⟨s1, s2⟩, s3⟩, s4⟩, s5⟩, s6⟩, s7⟩, s8⟩ := hall'
      have q1 : Rg a b c d = true := Rg_mk (by omega)
      have q2 : Rg e f g h = true := Rg_mk (by omega)
      have u1 : -1024 ≤ sqU a b c d ∧ sqU a b c d ≤ 1024 := by
        have := sq16 s1 s1; have := sq16 s2 s2; have := sq16 s3 s3; have := sq16 s4 s4; unfold sqU; omega
      have u2 : -1024 ≤ sqU e f g h ∧ sqU e f g h ≤ 1024 := by
        have := sq16 s5 s5; have := sq16 s6 s6; have := sq16 s7 s7; have := sq16 s8 s8; unfold sqU; omega
      have v1 : -1024 ≤ sqV a b c d ∧ sqV a b c d ≤ 1024 := by
        have := sq16 s1 s2; have := sq16 s2 s3; have := sq16 s3 s4; have := sq16 s4 s1; unfold sqV; omega
      have v2 : -1024 ≤ sqV e f g h ∧ sqV e f g h ≤ 1024 := by
        have := sq16 s5 s6; have := sq16 s6 s7; have := sq16 s7 s8; have := sq16 s8 s5; unfold sqV; omega
      have HALL := Lib.hid hall
      clear hall s1 s2 s3 s4 s5 s6 s7 s8 HC hh
      by_cases h4 : sqU a b c d + sqU e f g h = 2 ^ k.toNat
      · have hv : Hid (Apx a b c d e f g h k = (sqV a b c d + sqV e f g h == 0)) := by
          unfold Hid; rw [HA.out, HW1.out, HALL.out, h4]; simp
        have h4' : (sqU a b c d + sqU e f g h == 2 ^ k.toNat) = true := by simpa using h4
        clear h4
        go_wp2_with fail
        refine (l1Abs_any _ _ _ _ q1 _).mono ?_
        rintro e w1 ⟨rfl, hx1⟩
        obtain ⟨hc1, hf1⟩ := hx1.cells
        have hz1 := hx1.size
        try simp at hz1
        have hs1_0 := sz2 (a := w.heap.size) (b := w1.heap.size) (by omega)
        go_wp2_with fail
        refine (l1Abs_any _ _ _ _ q2 _).mono ?_
        rintro e w2 ⟨rfl, hx2⟩
        obtain ⟨hc2, hf2⟩ := hx2.cells
        have hz2 := hx2.size
        try simp at hz2
        have hs2_0 := sz2 (a := w.heap.size) (b := w2.heap.size) (by omega)
        go_wp2
        go_ret
        exact ⟨ret_bool (by rw [hv.out]), (hE.trans hx1).trans hx2⟩
      · have hv : Hid (Apx a b c d e f g h k = false) := by
          unfold Hid; rw [HA.out, HW1.out, HALL.out]; simp [h4]
        have h4' : (sqU a b c d + sqU e f g h == 2 ^ k.toNat) = false := by simpa using h4
        clear h4
        go_wp2_with fail
        refine (l1Abs_any _ _ _ _ q1 _).mono ?_
        rintro e w1 ⟨rfl, hx1⟩
        obtain ⟨hc1, hf1⟩ := hx1.cells
        have hz1 := hx1.size
        try simp at hz1
        have hs1_0 := sz2 (a := w.heap.size) (b := w1.heap.size) (by omega)
        go_wp2_with fail
        refine (l1Abs_any _ _ _ _ q2 _).mono ?_
        rintro e w2 ⟨rfl, hx2⟩
        obtain ⟨hc2, hf2⟩ := hx2.cells
        have hz2 := hx2.size
        try simp at hz2
        have hs2_0 := sz2 (a := w.heap.size) (b := w2.heap.size) (by omega)
        go_wp2
        go_ret
        exact ⟨ret_bool (by rw [hv.out]), (hE.trans hx1).trans hx2⟩

end Go.Proofs.Ytnlhonlfkmpleaa
