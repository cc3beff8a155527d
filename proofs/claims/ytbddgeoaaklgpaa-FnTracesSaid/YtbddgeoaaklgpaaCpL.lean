/- Canonical phases: plain laws. -/
import Derived.Test.YtbddgeoaaklgpaaCopM
import Derived.Test.YtbddgeoaaklgpaaDyJ
namespace Go.Proofs.Ytbddgeoaaklgpaa
open Go.RowKit
set_option linter.unusedVariables false
set_option linter.unusedSimpArgs false

/-- times the eighth root of one -/
def R4.turn (x : R4) : R4 := ⟨-x.d, x.a, x.b, x.c⟩
def turns : Nat → R4 → R4
  | 0, x => x
  | k + 1, x => (turns k x).turn
def R4.one : R4 := ⟨1, 0, 0, 0⟩
theorem cf_neg (d : Int) : Cf (-d) = Cf d := by
  unfold Cf Wn
  rw [Bool.eq_iff_iff]
  simp only [Bool.and_eq_true, decide_eq_true_eq]
  omega
theorem rg_turn (x : R4) : x.turn.rg = x.rg := by
  unfold R4.turn R4.rg Rg
  simp only [cf_neg]
  cases Cf x.a <;> cases Cf x.b <;> cases Cf x.c <;> cases Cf x.d <;> rfl
theorem ev_turn (x : R4) : x.turn.ev = x.ev := by
  unfold R4.turn R4.ev evR
  simp only
  rw [Bool.eq_iff_iff]
  simp only [Bool.and_eq_true, beq_iff_eq]
  have tm2 : ∀ n : Int, Int.tmod n 2 = 0 ↔ 2 ∣ n := fun n => ⟨Int.dvd_of_tmod_eq_zero, Int.tmod_eq_zero_of_dvd⟩
  simp only [tm2]
  omega
theorem rg_turns (x : R4) : ∀ k, (turns k x).rg = x.rg
  | 0 => rfl
  | k + 1 => (rg_turn _).trans (rg_turns x k)
theorem ev_turns (x : R4) : ∀ k, (turns k x).ev = x.ev
  | 0 => rfl
  | k + 1 => (ev_turn _).trans (ev_turns x k)
theorem gd_turns (x : R4) (e : Int) (k : Nat) : GD (turns k x) e = GD x e := by
  unfold GD
  rw [rg_turns, ev_turns]
theorem mul_turn (x y : R4) : x.mul y.turn = (x.mul y).turn := by
  unfold R4.mul R4.turn mrA mrB mrC mrD
  simp only [R4.mk.injEq, Int.mul_neg]
  refine ⟨?_, ?_, ?_, ?_⟩ <;> omega
theorem mul_one4 (x : R4) : x.mul R4.one = x := by
  unfold R4.mul R4.one mrA mrB mrC mrD
  simp
theorem mul_turns (x : R4) : ∀ k, x.mul (turns k R4.one) = turns k x
  | 0 => mul_one4 x
  | k + 1 => by
    show x.mul (turns k R4.one).turn = (turns k x).turn
    rw [mul_turn, mul_turns x k]
theorem phase_gd (k : Nat) : GD (turns k R4.one) 0 = true := by
  rw [gd_turns]
  decide
theorem mu_phase {x : R4} {e : Int} (h : GD x e = true) (k : Nat) : muOk x e (turns k R4.one) 0 = true ∧ muX x e (turns k R4.one) 0 = turns k x ∧ muE x e (turns k R4.one) 0 = e := by
  obtain ⟨h1, h2, h3, h4⟩ := GD_rg h
  have hr : (turns k x).rg = true := by rw [rg_turns]; exact h1
  have hb : mvBad x e.toNat (turns k R4.one) (0 : Int).toNat = false := by
    unfold mvBad
    rw [mul_turns, hr]
    simp
    omega
  have ho : muOk x e (turns k R4.one) 0 = true := by
    unfold muOk
    rw [h, phase_gd, hb]
    rfl
  have hl := low_end (k := e.toNat) (x := turns k x) (by
    rw [ev_turns]
    rcases h4 with h4 | h4
    · left; omega
    · right; exact h4)
  obtain ⟨m1, m2⟩ := mu_true ho
  refine ⟨ho, ?_, ?_⟩
  · rw [m1]
    unfold mvX
    rw [if_neg (by simp; omega), mul_turns, clip_true hr]
    exact hl.1
  · rw [m2]
    unfold mvE
    rw [if_neg (by simp; omega), mul_turns, clip_true hr]
    show (lowE e.toNat (turns k x) : Int) = e
    rw [hl.2]
    omega

/-- coefficients in order -/
def rLt (x y : R4) : Bool := if x.a ≠ y.a then decide (x.a < y.a) else if x.b ≠ y.b then decide (x.b < y.b) else if x.c ≠ y.c then decide (x.c < y.c) else decide (x.d < y.d)
def cmpZ (a b : Int) : Int := if a < b then -1 else if b < a then 1 else 0
/-- the first that is not zero of the comparisons -/
def cmpTo (xs ys : List Int) : Nat → Int
  | 0 => 0
  | n + 1 => if cmpTo xs ys n = 0 then cmpZ (at3 xs n) (at3 ys n) else cmpTo xs ys n
theorem cmpTo_keep {xs ys : List Int} {k : Nat} (h : cmpTo xs ys k ≠ 0) : ∀ d, cmpTo xs ys (k + d) = cmpTo xs ys k
  | 0 => rfl
  | d + 1 => by
    show (if cmpTo xs ys (k + d) = 0 then _ else cmpTo xs ys (k + d)) = _
    rw [cmpTo_keep h d, if_neg h]
theorem cmp_lt (x y : R4) : decide (0 < cmpTo [x.a, x.b, x.c, x.d] [y.a, y.b, y.c, y.d] 4) = rLt y x := by
  have e0 : ∀ a b c d : Int, at3 [a, b, c, d] 0 = a := fun _ _ _ _ => rfl
  have e1 : ∀ a b c d : Int, at3 [a, b, c, d] 1 = b := fun _ _ _ _ => rfl
  have e2 : ∀ a b c d : Int, at3 [a, b, c, d] 2 = c := fun _ _ _ _ => rfl
  have e3 : ∀ a b c d : Int, at3 [a, b, c, d] 3 = d := fun _ _ _ _ => rfl
  unfold cmpTo cmpTo cmpTo cmpTo cmpTo rLt cmpZ
  simp only [e0, e1, e2, e3]
  rw [Bool.eq_iff_iff]
  simp only [decide_eq_true_eq]
  by_cases a1 : x.a < y.a
  · simp [a1, show y.a ≠ x.a by omega]; omega
  by_cases a2 : y.a < x.a
  · simp [a1, a2, show y.a ≠ x.a by omega]
  have a3 : y.a = x.a := by omega
  by_cases b1 : x.b < y.b
  · simp [a3, b1, show y.b ≠ x.b by omega]; omega
  by_cases b2 : y.b < x.b
  · simp [a3, b1, b2, show y.b ≠ x.b by omega]
  have b3 : y.b = x.b := by omega
  by_cases c1 : x.c < y.c
  · simp [a3, b3, c1, show y.c ≠ x.c by omega]; omega
  by_cases c2 : y.c < x.c
  · simp [a3, b3, c1, c2, show y.c ≠ x.c by omega]
  have c3 : y.c = x.c := by omega
  by_cases d1 : x.d < y.d
  · simp [a3, b3, c3, d1]; omega
  by_cases d2 : y.d < x.d
  · simp [a3, b3, c3, d1, d2]
  simp [a3, b3, c3, d1, d2]
/-- the best of the first n turns -/
def cpB (x : R4) : Nat → Nat
  | 0 => 0
  | k + 1 => if rLt (turns (cpB x k) x) (turns (k + 1) x) then k + 1 else cpB x k
theorem cpB_le (x : R4) : ∀ n, cpB x n ≤ n
  | 0 => Nat.le_refl _
  | n + 1 => by
    unfold cpB
    split
    · exact Nat.le_refl _
    · exact Nat.le_succ_of_le (cpB_le x n)

/-- is the j-th number not zero -/
def nzAt (xs : List Int) (j : Nat) : Bool := !((at3 xs (j * 5) == 0) && ((at3 xs (j * 5 + 1) == 0) && ((at3 xs (j * 5 + 2) == 0) && ((at3 xs (j * 5 + 3) == 0) && (at3 xs (j * 5 + 4) == 0)))))
/-- the first number that is not zero -/
def fz (xs : List Int) : Nat → Int
  | 0 => -1
  | n + 1 => if fz xs n < 0 then (if nzAt xs n then (n : Int) else -1) else fz xs n
theorem fz_keep {xs : List Int} {k : Nat} (h : 0 ≤ fz xs k) : ∀ d, fz xs (k + d) = fz xs k
  | 0 => rfl
  | d + 1 => by
    show (if fz xs (k + d) < 0 then _ else fz xs (k + d)) = _
    rw [fz_keep h d, if_neg (by omega)]
theorem fz_hit {xs : List Int} {j n : Nat} (h : fz xs j = -1) (hz : nzAt xs j = true) (hj : j < n) : fz xs n = j := by
  have h1 : fz xs (j + 1) = j := by
    show (if fz xs j < 0 then _ else _) = _
    rw [h, if_pos (by omega), if_pos hz]
  obtain ⟨d, rfl⟩ : ∃ d, n = j + 1 + d := ⟨n - j - 1, by omega⟩
  rw [fz_keep (by rw [h1]; omega) d, h1]
theorem fz_miss {xs : List Int} {j : Nat} (h : fz xs j = -1) (hz : nzAt xs j = false) : fz xs (j + 1) = -1 := by
  show (if fz xs j < 0 then _ else _) = _
  rw [h, if_pos (by omega), if_neg (by rw [hz]; simp)]
theorem fz_bd (xs : List Int) : ∀ n, fz xs n = -1 ∨ (0 ≤ fz xs n ∧ fz xs n < n)
  | 0 => .inl rfl
  | n + 1 => by
    have e : fz xs (n + 1) = if fz xs n < 0 then (if nzAt xs n then (n : Int) else -1) else fz xs n := rfl
    rw [e]
    rcases fz_bd xs n with h | ⟨h1, h2⟩
    · rw [if_pos (by omega)]
      split
      · right; omega
      · exact .inl rfl
    · rw [if_neg (by omega)]
      right; omega

def cpOk (r c : Int) (n : Nat) (xs : List Int) : Bool := mGood r c n xs && decide (0 ≤ fz xs n)
def cpK (n : Nat) (xs : List Int) : Nat := cpB (dyAt xs (fz xs n).toNat) 7
def cpM (xs : List Int) (k n : Nat) : List Int := moL (fun p => turns k (dyAt xs p)) (exAt xs) n


open Go.RowKit Go.Lib
set_option linter.unusedVariables false
set_option linter.unusedSimpArgs false

theorem heap_set4 {w : World} {g : Nat} {t : TypeId} {a b c d x y z u : Value} (h : w.heap[g]? = some (.cells #[a, b, c, d] t (0, 0))) : ((((w.setCell ⟨g, 0, none⟩ x).setCell ⟨g, 1, none⟩ y).setCell ⟨g, 2, none⟩ z).setCell ⟨g, 3, none⟩ u).heap[g]? = some (.cells #[x, y, z, u] t (0, 0)) :=
  heap_set_at (heap_set_at (heap_set_at (heap_set_at h 0 x) 1 y) 2 z) 3 u
theorem heap_sets4 {w : World} {g k : Nat} {o : Obj} {x y z u : Value} (hk : k ≠ g) (h : w.heap[k]? = some o) : ((((w.setCell ⟨g, 0, none⟩ x).setCell ⟨g, 1, none⟩ y).setCell ⟨g, 2, none⟩ z).setCell ⟨g, 3, none⟩ u).heap[k]? = some o :=
  heap_set_ne hk (heap_set_ne hk (heap_set_ne hk (heap_set_ne hk h)))

set_option maxHeartbeats 2000000 in
theorem mulOmega_any (X : R4) (hX : X.rg = true) (k : Nat) (hk : k ≤ 7) (w : World) :
    Calls Try.prog 107 #[.agg #[.int .i64 X.a, .int .i64 X.b, .int .i64 X.c, .int .i64 X.d], .int .i64 k] w fun en w' =>
      en = .returned (.tuple #[.agg #[.int .i64 (turns k X).a, .int .i64 (turns k X).b, .int .i64 (turns k X).c, .int .i64 (turns k X).d], .bool true]) ∧ Ext w w' := by
  have t1 : Int.tmod (k : Int) 8 = k := Int.tmod_eq_of_lt (by omega) (by omega)
  have t2 : Int.tmod ((k : Int) + 8) 8 = k := by
    have : ((k : Int) + 8) = ((k + 8 : Nat) : Int) := by push_cast; rfl
    rw [this, show (8 : Int) = ((8 : Nat) : Int) from rfl, ← Int.ofNat_tmod]
    omega
  have HW : ∀ w', Hid (Calls Try.prog 68 #[.int .i64 k, .int .i64 (-1000), .int .i64 1000] w' fun e w'' => e = .returned (.bool true) ∧ w' = w'') := fun w' => by
    have := within_any k (-1000) 1000 w'
    rw [show Wn (k : Int) (-1000) 1000 = true by unfold Wn; simp; omega] at this
    exact this
  have HV : ∀ w', Hid (Calls Try.prog 116 #[.agg #[.int .i64 X.a, .int .i64 X.b, .int .i64 X.c, .int .i64 X.d]] w' fun e w'' => e = .returned (.bool true) ∧ Ext w' w'') := fun w' => by
    have := isValidRing_any X.a X.b X.c X.d w'
    rw [show Rg X.a X.b X.c X.d = true from hX] at this
    exact this
  have HX := Lib.hid hX
  clear hX
  go_enter Try.func107, Try.ntmps107
  go_wp2_with fail
  refine ((HW _).out).mono ?_
  rintro e w' ⟨rfl, rfl⟩
  go_wp2_with fail
  refine ((HV _).out).mono ?_
  rintro e w1 ⟨rfl, hx1⟩
  obtain ⟨hc1, hf1⟩ := hx1.cells
  have hz1 := hx1.size
  try simp at hz1
  have hs1_0 := sz2 (a := w.heap.size) (b := w1.heap.size) (by omega)
  have hS1 : w1.heap[w.heap.size]? = some (.cells #[.int .i64 X.a, .int .i64 X.b, .int .i64 X.c, .int .i64 X.d] 105 (0, 0)) := (hx1.heap (by simp <;> omega)).trans (heap_alloc_lt (heap_alloc_new _ _))
  have hR1 : w1.heap[w.heap.size + 1]? = some (.cells #[.int .i64 0, .int .i64 0, .int .i64 0, .int .i64 0] 105 (0, 0)) := (hx1.heap (by simp <;> omega)).trans (heap_alloc_at _ _ _ (by simp))
  have hE1 : Ext w w1 := (by repeat (first | exact Ext.refl _ | assumption | refine Ext.alloc ?_ _ | refine Ext.drew ?_ | refine Ext.drewN ?_ _ | refine Ext.setCell ?_ (by first | omega | (dsimp only; omega) | (simp; done) | (simp; omega)) _ | refine Ext.trans ?_ (by assumption)))
  go_wp2
  go_loopw [19] (fun s1 wr => ∃ (m : Nat), m ≤ k ∧ s1 = .int .i64 m ∧ Hid (wr.heap[w.heap.size]? = some (.cells #[.int .i64 (turns m X).a, .int .i64 (turns m X).b, .int .i64 (turns m X).c, .int .i64 (turns m X).d] 105 (0, 0))) ∧
    Hid (wr.heap[w.heap.size + 1]? = some (.cells #[.int .i64 0, .int .i64 0, .int .i64 0, .int .i64 0] 105 (0, 0))) ∧ Ext w wr) (fun s1 _ => k - (intOf s1).toNat)
  case atStart => exact ⟨0, by omega, rfl, hS1, hR1, hE1⟩
  case round =>
    clear t1 t2 hc1 hf1
    obtain ⟨m, hm, rfl, HS, HR, hE⟩ := hrel
    have lS := (Array.getElem?_eq_some_iff.1 HS.out).1
    have lR := (Array.getElem?_eq_some_iff.1 HR.out).1
    have HT : Hid (turns (m + 1) X = ⟨-(turns m X).d, (turns m X).a, (turns m X).b, (turns m X).c⟩) := rfl
    obtain ⟨b1, b2, b3, b4⟩ := Rg_bd ((rg_turns X m).trans HX.out)
    have HZ : Hid (m = k → turns m X = turns k X) := fun h => by rw [h]
    generalize turns m X = Y at *
    obtain ⟨a, b, c, d⟩ := Y
    dsimp only at b1 b2 b3 b4
    have zS : ∀ q, wr.cell? ⟨w.heap.size, q, none⟩ = (#[.int .i64 a, .int .i64 b, .int .i64 c, .int .i64 d] : Array Value)[q]? := fun q => cell_of_row _ _ _ _ _ _ HS.out
    have fS : ∀ q, wr.frozen? ⟨w.heap.size, q, none⟩ = false := fun q => frozen_of_row _ _ _ _ _ HS.out
    have zR : ∀ q, wr.cell? ⟨w.heap.size + 1, q, none⟩ = (#[.int .i64 0, .int .i64 0, .int .i64 0, .int .i64 0] : Array Value)[q]? := fun q => cell_of_row _ _ _ _ _ _ HR.out
    have fR : ∀ q, wr.frozen? ⟨w.heap.size + 1, q, none⟩ = false := fun q => frozen_of_row _ _ _ _ _ HR.out
    by_cases hlt : m < k
    · have hlt' : (m : Int) < k := by omega
      go_wp2
      go_roundw
      case rel =>
        refine ⟨m + 1, by omega, by go_num, ?_, heap_sets4 (by omega) HR.out, (by repeat (first | exact Ext.refl _ | assumption | refine Ext.alloc ?_ _ | refine Ext.drew ?_ | refine Ext.drewN ?_ _ | refine Ext.setCell ?_ (by first | omega | (dsimp only; omega) | (simp; done) | (simp; omega)) _ | refine Ext.trans ?_ (by assumption)))⟩
        unfold Hid
        rw [HT.out]
        exact heap_set4 HS.out
      case measure => simp [intOf]; omega
    · obtain rfl : m = k := by omega
      have HY := Lib.hid (HZ.out rfl)
      go_wp2
      refine bodyPost_ret (v := .tuple #[.agg #[.int .i64 a, .int .i64 b, .int .i64 c, .int .i64 d], .bool true]) (by simp [results, Try.results107, go_sem, *]) rfl ?_
      rw [← HY.out]
      exact ⟨rfl, (by repeat (first | (with_reducible refine Ext.setCell ?_ (by first | (simp; done) | (simp; omega)) _) | with_reducible refine Ext.alloc ?_ _ | with_reducible refine Ext.drew ?_ | with_reducible refine Ext.drewN ?_ _ | with_reducible assumption | with_reducible exact Ext.refl _ | with_reducible refine Ext.trans ?_ (by with_reducible assumption)))⟩

theorem phase_any (k : Nat) (hk : k ≤ 7) (w : World) :
    Calls Try.prog 94 #[.int .i64 k] w fun en w' =>
      en = .returned (.agg #[.int .i64 (turns k R4.one).a, .int .i64 (turns k R4.one).b, .int .i64 (turns k R4.one).c, .int .i64 (turns k R4.one).d, .int .i64 0]) ∧ Ext w w' := by
  have HM := fun w' => Lib.hid (mulOmega_any R4.one (by decide) k hk w')
  generalize turns k R4.one = Y at *
  unfold R4.one at HM
  dsimp only at HM
  go_enter Try.func94, Try.ntmps94
  go_wp2_with fail
  refine ((HM _).out).mono ?_
  rintro e w1 ⟨rfl, hx1⟩
  obtain ⟨hc1, hf1⟩ := hx1.cells
  have hz1 := hx1.size
  try simp at hz1
  have hs1_0 := sz1 (a := w.heap.size) (b := w1.heap.size) (by omega)
  go_wp2
  refine bodyPost_ret (v := .agg #[.int .i64 Y.a, .int .i64 Y.b, .int .i64 Y.c, .int .i64 Y.d, .int .i64 0]) (by simp [results, Try.results94, go_sem, *]) rfl ?_
  exact ⟨rfl, (by repeat (first | (with_reducible refine Ext.setCell ?_ (by first | (simp; done) | (simp; omega)) _) | with_reducible refine Ext.alloc ?_ _ | with_reducible refine Ext.drew ?_ | with_reducible refine Ext.drewN ?_ _ | with_reducible assumption | with_reducible exact Ext.refl _ | with_reducible refine Ext.trans ?_ (by with_reducible assumption)))⟩


open Go.RowKit Go.Lib
set_option linter.unusedVariables false
set_option linter.unusedSimpArgs false

theorem rv_lit4 {w : World} {B : Nat} {t : TypeId} {a b c d : Int} (h : w.heap[B]? = some (.cells #[.int .i64 a, .int .i64 b, .int .i64 c, .int .i64 d] t (0, 0))) : RV w 1 (.slice (some ⟨B, 0, none⟩) 4 4) 4 [a, b, c, d] := by
  refine ⟨rfl, _, _, rfl, Nat.le_refl _, by decide, fun _ => ⟨B, 0, rfl, (Array.getElem?_eq_some_iff.1 h).1, fun j u hu => ?_⟩⟩
  rw [Nat.zero_add, cell_of_row _ _ _ _ _ _ h]
  simpa [IL] using hu

end Go.Proofs.Ytbddgeoaaklgpaa
