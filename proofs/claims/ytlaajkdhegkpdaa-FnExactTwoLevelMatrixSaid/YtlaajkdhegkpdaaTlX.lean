/- Two-level matrices: both functions. -/
import Derived.Test.YtlaajkdhegkpdaaTlV
import Derived.Test.YtlaajkdhegkpdaaTlP
import Derived.Test.YtlaajkdhegkpdaaRoot2
import Derived.Test.YtlaajkdhegkpdaaValM
import Derived.Deep.RegionHeld3
namespace Go.Proofs.Ytlaajkdhegkpdaa
open Go.RowKit Go.Lib
set_option linter.unusedVariables false
set_option linter.unusedSimpArgs false

theorem heap_keep {W W' : World} {k : Nat} {x : Obj} (hx : Ext W W') (h : W.heap[k]? = some x) : W'.heap[k]? = some x := (hx.heap (Array.getElem?_eq_some_iff.1 h).1).trans h
theorem heap_far {W W' : World} {row : Option Nat} {k : Nat} {x : Obj} (hg : W.grownBy W' row) (h : W.heap[k]? = some x) (hne : ∀ j, row = some j → j ≠ k) : W'.heap[k]? = some x :=
  (hg.block k (Array.getElem?_eq_some_iff.1 h).1 (fun e => hne k e.symm rfl)).trans h
theorem own_far {w w' : World} {base : Nat} {e : TypeId} {size : Nat} {v : Value} {n : Nat} {xs : List Value} {row : Option Nat} (h : w.ownsRow base e size v n xs) (hg : w.grownBy w' row) (hne : ∀ j, row = some j → ∀ k, v.ownBlock = some k → j ≠ k) : w'.ownsRow base e size v n xs := by
  refine h.kept hg ?_
  cases hv : v.ownBlock with
  | none => exact .inl rfl
  | some k => exact .inr fun he => hne k he.symm k hv rfl

def lvD (n : Int) : Bool := n == 2 || (n == 4 || n == 8)
def tlOk (n K I J M : Int) : Bool := lvD n && (Wn I 0 (n - 1) && (Wn J 0 (n - 1) && (if K = 1 then (J == 0 && Wn M 1 7) else if K = 2 then (decide (I < J) && M == 0) else (K == 3 && (decide (I < J) && Wn M 0 7)))))
theorem lvD_bd {n : Int} (h : lvD n = true) : n = 2 ∨ n = 4 ∨ n = 8 := by simpa [lvD] using h
theorem lvD_no {n : Int} (h : lvD n = false) : ¬ n = 2 ∧ ¬ n = 4 ∧ ¬ n = 8 := by simpa [lvD] using h
theorem lvD_case (n : Int) {P : Int → Bool → Prop} (h2 : P 2 true) (h4 : P 4 true) (h8 : P 8 true) (hn : ¬ n = 2 → ¬ n = 4 → ¬ n = 8 → P n false) : P n (lvD n) := by
  cases h : lvD n
  · obtain ⟨a, b, c⟩ := lvD_no h
    exact hn a b c
  · rcases lvD_bd h with rfl | rfl | rfl <;> assumption

theorem l11Dim_any (n : Int) (w : World) : Calls Try.prog 20 #[.int .i64 n] w fun e w' => e = .returned (.bool (lvD n)) ∧ w = w' := by
  refine lvD_case n (P := fun n b => Calls Try.prog 20 #[.int .i64 n] w fun e w' => e = .returned (.bool b) ∧ w = w') ?_ ?_ ?_ ?_
  · go_enter Try.func20, Try.ntmps20
    go_wp2
    go_ret
    exact ⟨rfl, rfl⟩
  · go_enter Try.func20, Try.ntmps20
    go_wp2
    go_ret
    exact ⟨rfl, rfl⟩
  · go_enter Try.func20, Try.ntmps20
    go_wp2
    go_ret
    exact ⟨rfl, rfl⟩
  · intro h2 h4 h8
    go_enter Try.func20, Try.ntmps20
    go_wp2
    go_ret
    exact ⟨ret_bool (by simp [h2, h4, h8]), rfl⟩

theorem isLevelDim_any (n : Int) (w : World) : Calls Try.prog 26 #[.int .i64 n] w fun e w' => e = .returned (.bool (lvD n)) ∧ w = w' := by
  refine lvD_case n (P := fun n b => Calls Try.prog 26 #[.int .i64 n] w fun e w' => e = .returned (.bool b) ∧ w = w') ?_ ?_ ?_ ?_
  · go_enter Try.func26, Try.ntmps26
    go_wp2
    go_ret
    exact ⟨rfl, rfl⟩
  · go_enter Try.func26, Try.ntmps26
    go_wp2
    go_ret
    exact ⟨rfl, rfl⟩
  · go_enter Try.func26, Try.ntmps26
    go_wp2
    go_ret
    exact ⟨rfl, rfl⟩
  · intro h2 h4 h8
    go_enter Try.func26, Try.ntmps26
    go_wp2
    go_ret
    exact ⟨ret_bool (by simp [h2, h4, h8]), rfl⟩

set_option maxHeartbeats 2000000 in
theorem l11Valid_any (n K I J M : Int) (w : World) : Calls Try.prog 10 #[.int .i64 n, .agg #[.int .i64 K, .int .i64 I, .int .i64 J, .int .i64 M]] w fun e w' => e = .returned (.bool (tlOk n K I J M)) ∧ Ext w w' := by
  have HD := fun w' => Lib.hid (l11Dim_any n w')
  have HN := fun a b c w' => Lib.hid (l1In_any a b c w')
  have HT : Hid (tlOk n K I J M = (lvD n && (Wn I 0 (n - 1) && (Wn J 0 (n - 1) && (if K = 1 then (J == 0 && Wn M 1 7) else if K = 2 then (decide (I < J) && M == 0) else (K == 3 && (decide (I < J) && Wn M 0 7))))))) := rfl
  cases hd : lvD n
  · rw [hd] at HD HT
    go_enter Try.func10, Try.ntmps10
    go_wp2_with fail
    refine ((HD _).out).mono ?_
    rintro e w' ⟨rfl, rfl⟩
    go_wp2
    go_ret
    exact ⟨ret_bool (by rw [HT.out]; rfl), (by repeat (first | exact Ext.refl _ | assumption | refine Ext.alloc ?_ _ | refine Ext.drew ?_ | refine Ext.drewN ?_ _ | refine Ext.setCell ?_ (by first | omega | (dsimp only; omega) | (simp; done) | (simp; omega)) _ | refine Ext.trans ?_ (by assumption)))⟩
  rw [hd] at HD HT
  have hb : 2 ≤ n ∧ n ≤ 8 := by rcases lvD_bd hd with h | h | h <;> omega
  clear hd
  have HI := fun w' => HN I 0 (n - 1) w'
  have HJ := fun w' => HN J 0 (n - 1) w'
  have HM1 := fun w' => HN M 1 7 w'
  have HM0 := fun w' => HN M 0 7 w'
  clear HN
  cases hi : Wn I 0 (n - 1)
  · rw [hi] at HI HT
    clear hi
    go_enter Try.func10, Try.ntmps10
    go_wp2_with fail
    refine ((HD _).out).mono ?_
    rintro e w' ⟨rfl, rfl⟩
    go_wp2_with fail
    refine ((HI _).out).mono ?_
    rintro e w' ⟨rfl, rfl⟩
    go_wp2
    go_ret
    exact ⟨ret_bool (by rw [HT.out]; rfl), (by repeat (first | exact Ext.refl _ | assumption | refine Ext.alloc ?_ _ | refine Ext.drew ?_ | refine Ext.drewN ?_ _ | refine Ext.setCell ?_ (by first | omega | (dsimp only; omega) | (simp; done) | (simp; omega)) _ | refine Ext.trans ?_ (by assumption)))⟩
  rw [hi] at HI HT
  clear hi
  cases hj : Wn J 0 (n - 1)
  · rw [hj] at HJ HT
    clear hj
    go_enter Try.func10, Try.ntmps10
    go_wp2_with fail
    refine ((HD _).out).mono ?_
    rintro e w' ⟨rfl, rfl⟩
    go_wp2_with fail
    refine ((HI _).out).mono ?_
    rintro e w' ⟨rfl, rfl⟩
    go_wp2_with fail
    refine ((HJ _).out).mono ?_
    rintro e w' ⟨rfl, rfl⟩
    go_wp2
    go_ret
    exact ⟨ret_bool (by rw [HT.out]; rfl), (by repeat (first | exact Ext.refl _ | assumption | refine Ext.alloc ?_ _ | refine Ext.drew ?_ | refine Ext.drewN ?_ _ | refine Ext.setCell ?_ (by first | omega | (dsimp only; omega) | (simp; done) | (simp; omega)) _ | refine Ext.trans ?_ (by assumption)))⟩
  rw [hj] at HJ HT
  clear hj
  simp only [Bool.true_and] at HT
  generalize Wn M 1 7 = m1 at *
  generalize Wn M 0 7 = m0 at *
  by_cases k1 : K = 1
  · subst k1
    by_cases j0 : J = 0
    · subst j0
      go_enter Try.func10, Try.ntmps10
      go_wp2_with fail
      refine ((HD _).out).mono ?_
      rintro e w' ⟨rfl, rfl⟩
      go_wp2_with fail
      refine ((HI _).out).mono ?_
      rintro e w' ⟨rfl, rfl⟩
      go_wp2_with fail
      refine ((HJ _).out).mono ?_
      rintro e w' ⟨rfl, rfl⟩
      go_wp2_with fail
      refine ((HM1 _).out).mono ?_
      rintro e w' ⟨rfl, rfl⟩
      go_wp2
      go_ret
      exact ⟨ret_bool (by rw [HT.out]; simp), (by repeat (first | exact Ext.refl _ | assumption | refine Ext.alloc ?_ _ | refine Ext.drew ?_ | refine Ext.drewN ?_ _ | refine Ext.setCell ?_ (by first | omega | (dsimp only; omega) | (simp; done) | (simp; omega)) _ | refine Ext.trans ?_ (by assumption)))⟩
    · go_enter Try.func10, Try.ntmps10
      go_wp2_with fail
      refine ((HD _).out).mono ?_
      rintro e w' ⟨rfl, rfl⟩
      go_wp2_with fail
      refine ((HI _).out).mono ?_
      rintro e w' ⟨rfl, rfl⟩
      go_wp2_with fail
      refine ((HJ _).out).mono ?_
      rintro e w' ⟨rfl, rfl⟩
      go_wp2
      go_ret
      exact ⟨ret_bool (by rw [HT.out]; simp [j0]), (by repeat (first | exact Ext.refl _ | assumption | refine Ext.alloc ?_ _ | refine Ext.drew ?_ | refine Ext.drewN ?_ _ | refine Ext.setCell ?_ (by first | omega | (dsimp only; omega) | (simp; done) | (simp; omega)) _ | refine Ext.trans ?_ (by assumption)))⟩
  by_cases k2 : K = 2
  · subst k2
    by_cases ij : I < J
    · have HIJ : Hid (decide (I < J) = true) := decide_eq_true ij
      go_enter Try.func10, Try.ntmps10
      go_wp2_with fail
      refine ((HD _).out).mono ?_
      rintro e w' ⟨rfl, rfl⟩
      go_wp2_with fail
      refine ((HI _).out).mono ?_
      rintro e w' ⟨rfl, rfl⟩
      go_wp2_with fail
      refine ((HJ _).out).mono ?_
      rintro e w' ⟨rfl, rfl⟩
      go_wp2
      all_goals go_ret
      all_goals exact ⟨ret_bool (by rw [HT.out, HIJ.out]; simp), (by repeat (first | exact Ext.refl _ | assumption | refine Ext.alloc ?_ _ | refine Ext.drew ?_ | refine Ext.drewN ?_ _ | refine Ext.setCell ?_ (by first | omega | (dsimp only; omega) | (simp; done) | (simp; omega)) _ | refine Ext.trans ?_ (by assumption)))⟩
    · have HIJ : Hid (decide (I < J) = false) := decide_eq_false ij
      go_enter Try.func10, Try.ntmps10
      go_wp2_with fail
      refine ((HD _).out).mono ?_
      rintro e w' ⟨rfl, rfl⟩
      go_wp2_with fail
      refine ((HI _).out).mono ?_
      rintro e w' ⟨rfl, rfl⟩
      go_wp2_with fail
      refine ((HJ _).out).mono ?_
      rintro e w' ⟨rfl, rfl⟩
      go_wp2
      go_ret
      exact ⟨ret_bool (by rw [HT.out, HIJ.out]; simp), (by repeat (first | exact Ext.refl _ | assumption | refine Ext.alloc ?_ _ | refine Ext.drew ?_ | refine Ext.drewN ?_ _ | refine Ext.setCell ?_ (by first | omega | (dsimp only; omega) | (simp; done) | (simp; omega)) _ | refine Ext.trans ?_ (by assumption)))⟩
  by_cases k3 : K = 3
  · subst k3
    by_cases ij : I < J
    · have HIJ : Hid (decide (I < J) = true) := decide_eq_true ij
      go_enter Try.func10, Try.ntmps10
      go_wp2_with fail
      refine ((HD _).out).mono ?_
      rintro e w' ⟨rfl, rfl⟩
      go_wp2_with fail
      refine ((HI _).out).mono ?_
      rintro e w' ⟨rfl, rfl⟩
      go_wp2_with fail
      refine ((HJ _).out).mono ?_
      rintro e w' ⟨rfl, rfl⟩
      go_wp2_with fail
      refine ((HM0 _).out).mono ?_
      rintro e w' ⟨rfl, rfl⟩
      go_wp2
      go_ret
      exact ⟨ret_bool (by rw [HT.out, HIJ.out]; simp), (by repeat (first | exact Ext.refl _ | assumption | refine Ext.alloc ?_ _ | refine Ext.drew ?_ | refine Ext.drewN ?_ _ | refine Ext.setCell ?_ (by first | omega | (dsimp only; omega) | (simp; done) | (simp; omega)) _ | refine Ext.trans ?_ (by assumption)))⟩
    · have HIJ : Hid (decide (I < J) = false) := decide_eq_false ij
      go_enter Try.func10, Try.ntmps10
      go_wp2_with fail
      refine ((HD _).out).mono ?_
      rintro e w' ⟨rfl, rfl⟩
      go_wp2_with fail
      refine ((HI _).out).mono ?_
      rintro e w' ⟨rfl, rfl⟩
      go_wp2_with fail
      refine ((HJ _).out).mono ?_
      rintro e w' ⟨rfl, rfl⟩
      go_wp2
      go_ret
      exact ⟨ret_bool (by rw [HT.out, HIJ.out]; simp), (by repeat (first | exact Ext.refl _ | assumption | refine Ext.alloc ?_ _ | refine Ext.drew ?_ | refine Ext.drewN ?_ _ | refine Ext.setCell ?_ (by first | omega | (dsimp only; omega) | (simp; done) | (simp; omega)) _ | refine Ext.trans ?_ (by assumption)))⟩
  · go_enter Try.func10, Try.ntmps10
    go_wp2_with fail
    refine ((HD _).out).mono ?_
    rintro e w' ⟨rfl, rfl⟩
    go_wp2_with fail
    refine ((HI _).out).mono ?_
    rintro e w' ⟨rfl, rfl⟩
    go_wp2_with fail
    refine ((HJ _).out).mono ?_
    rintro e w' ⟨rfl, rfl⟩
    go_wp2
    go_ret
    exact ⟨ret_bool (by rw [HT.out]; simp [k1, k2, k3]), (by repeat (first | exact Ext.refl _ | assumption | refine Ext.alloc ?_ _ | refine Ext.drew ?_ | refine Ext.drewN ?_ _ | refine Ext.setCell ?_ (by first | omega | (dsimp only; omega) | (simp; done) | (simp; omega)) _ | refine Ext.trans ?_ (by assumption)))⟩

theorem tl_eq {n K I J M : Int} (hn : 2 ≤ n) (hI : Wn I 0 (n - 1) = true) : (Wn J 0 (n - 1) && (if K = 1 then (J == 0 && Wn M 1 7) else if K = 2 then (decide (I < J) && M == 0) else (K == 3 && (decide (I < J) && Wn M 0 7)))) =
    (if K = 1 then (J == 0 && Wn M 1 7) else if K = 2 then (Wn J (I + 1) (n - 1) && M == 0) else (K == 3 && (Wn J (I + 1) (n - 1) && Wn M 0 7))) := by
  have h := Wn_iff.1 hI
  have e : (Wn J 0 (n - 1) && decide (I < J)) = Wn J (I + 1) (n - 1) := by
    rw [Bool.eq_iff_iff, Bool.and_eq_true, Wn_iff, Wn_iff, decide_eq_true_eq]
    omega
  by_cases k1 : K = 1
  · rw [if_pos k1, if_pos k1]
    by_cases j0 : J = 0
    · subst j0
      have : Wn 0 0 (n - 1) = true := Wn_iff.2 (by omega)
      rw [this]; rfl
    · have : (J == 0) = false := by simpa using j0
      rw [this]; simp
  · rw [if_neg k1, if_neg k1]
    by_cases k2 : K = 2
    · rw [if_pos k2, if_pos k2, ← e, Bool.and_assoc]
    · rw [if_neg k2, if_neg k2, ← e]
      cases (K == 3) <;> simp [Bool.and_assoc]

set_option maxHeartbeats 2000000 in
theorem isValidTwoLevel_any (n K I J M : Int) (w : World) : Calls Try.prog 13 #[.int .i64 n, .agg #[.int .i64 K, .int .i64 I, .int .i64 J, .int .i64 M]] w fun e w' => e = .returned (.bool (tlOk n K I J M)) ∧ Ext w w' := by
  have HD := fun w' => Lib.hid (isLevelDim_any n w')
  have HN := fun a b c w' => Lib.hid (within_any a b c w')
  have HT : Hid (tlOk n K I J M = (lvD n && (Wn I 0 (n - 1) && (Wn J 0 (n - 1) && (if K = 1 then (J == 0 && Wn M 1 7) else if K = 2 then (decide (I < J) && M == 0) else (K == 3 && (decide (I < J) && Wn M 0 7))))))) := rfl
  cases hd : lvD n
  · rw [hd] at HD HT
    go_enter Try.func13, Try.ntmps13
    go_wp2_with fail
    refine ((HD _).out).mono ?_
    rintro e w' ⟨rfl, rfl⟩
    go_wp2
    go_ret
    exact ⟨ret_bool (by rw [HT.out]; rfl), (by repeat (first | exact Ext.refl _ | assumption | refine Ext.alloc ?_ _ | refine Ext.drew ?_ | refine Ext.drewN ?_ _ | refine Ext.setCell ?_ (by first | omega | (dsimp only; omega) | (simp; done) | (simp; omega)) _ | refine Ext.trans ?_ (by assumption)))⟩
  rw [hd] at HD HT
  have hb : 2 ≤ n ∧ n ≤ 8 := by rcases lvD_bd hd with h | h | h <;> omega
  clear hd
  have HI := fun w' => HN I 0 (n - 1) w'
  have HJ := fun w' => HN J (I + 1) (n - 1) w'
  have HM1 := fun w' => HN M 1 7 w'
  have HM0 := fun w' => HN M 0 7 w'
  clear HN
  cases hi : Wn I 0 (n - 1)
  · rw [hi] at HI HT
    clear hi
    go_enter Try.func13, Try.ntmps13
    go_wp2_with fail
    refine ((HD _).out).mono ?_
    rintro e w' ⟨rfl, rfl⟩
    go_wp2_with fail
    refine ((HI _).out).mono ?_
    rintro e w' ⟨rfl, rfl⟩
    go_wp2
    go_ret
    exact ⟨ret_bool (by rw [HT.out]; rfl), (by repeat (first | exact Ext.refl _ | assumption | refine Ext.alloc ?_ _ | refine Ext.drew ?_ | refine Ext.drewN ?_ _ | refine Ext.setCell ?_ (by first | omega | (dsimp only; omega) | (simp; done) | (simp; omega)) _ | refine Ext.trans ?_ (by assumption)))⟩
  have hib := Wn_iff.1 hi
  rw [tl_eq hb.1 hi] at HT
  rw [hi] at HI HT
  clear hi
  simp only [Bool.true_and] at HT
  generalize Wn M 1 7 = m1 at *
  generalize Wn M 0 7 = m0 at *
  generalize Wn J (I + 1) (n - 1) = oj at *
  by_cases k1 : K = 1
  · subst k1
    by_cases j0 : J = 0
    · subst j0
      go_enter Try.func13, Try.ntmps13
      go_wp2_with fail
      refine ((HD _).out).mono ?_
      rintro e w' ⟨rfl, rfl⟩
      go_wp2_with fail
      refine ((HI _).out).mono ?_
      rintro e w' ⟨rfl, rfl⟩
      go_wp2_with fail
      refine ((HM1 _).out).mono ?_
      rintro e w' ⟨rfl, rfl⟩
      go_wp2
      go_ret
      exact ⟨ret_bool (by rw [HT.out]; simp), (by repeat (first | exact Ext.refl _ | assumption | refine Ext.alloc ?_ _ | refine Ext.drew ?_ | refine Ext.drewN ?_ _ | refine Ext.setCell ?_ (by first | omega | (dsimp only; omega) | (simp; done) | (simp; omega)) _ | refine Ext.trans ?_ (by assumption)))⟩
    · go_enter Try.func13, Try.ntmps13
      go_wp2_with fail
      refine ((HD _).out).mono ?_
      rintro e w' ⟨rfl, rfl⟩
      go_wp2_with fail
      refine ((HI _).out).mono ?_
      rintro e w' ⟨rfl, rfl⟩
      go_wp2
      go_ret
      exact ⟨ret_bool (by rw [HT.out]; simp [j0]), (by repeat (first | exact Ext.refl _ | assumption | refine Ext.alloc ?_ _ | refine Ext.drew ?_ | refine Ext.drewN ?_ _ | refine Ext.setCell ?_ (by first | omega | (dsimp only; omega) | (simp; done) | (simp; omega)) _ | refine Ext.trans ?_ (by assumption)))⟩
  by_cases k2 : K = 2
  · subst k2
    cases oj
    · go_enter Try.func13, Try.ntmps13
      go_wp2_with fail
      refine ((HD _).out).mono ?_
      rintro e w' ⟨rfl, rfl⟩
      go_wp2_with fail
      refine ((HI _).out).mono ?_
      rintro e w' ⟨rfl, rfl⟩
      go_wp2_with fail
      refine ((HJ _).out).mono ?_
      rintro e w' ⟨rfl, rfl⟩
      go_wp2
      go_ret
      exact ⟨ret_bool (by rw [HT.out]; simp), (by repeat (first | exact Ext.refl _ | assumption | refine Ext.alloc ?_ _ | refine Ext.drew ?_ | refine Ext.drewN ?_ _ | refine Ext.setCell ?_ (by first | omega | (dsimp only; omega) | (simp; done) | (simp; omega)) _ | refine Ext.trans ?_ (by assumption)))⟩
    · go_enter Try.func13, Try.ntmps13
      go_wp2_with fail
      refine ((HD _).out).mono ?_
      rintro e w' ⟨rfl, rfl⟩
      go_wp2_with fail
      refine ((HI _).out).mono ?_
      rintro e w' ⟨rfl, rfl⟩
      go_wp2_with fail
      refine ((HJ _).out).mono ?_
      rintro e w' ⟨rfl, rfl⟩
      go_wp2
      all_goals go_ret
      all_goals exact ⟨ret_bool (by rw [HT.out]; simp), (by repeat (first | exact Ext.refl _ | assumption | refine Ext.alloc ?_ _ | refine Ext.drew ?_ | refine Ext.drewN ?_ _ | refine Ext.setCell ?_ (by first | omega | (dsimp only; omega) | (simp; done) | (simp; omega)) _ | refine Ext.trans ?_ (by assumption)))⟩
  by_cases k3 : K = 3
  · subst k3
    cases oj
    · go_enter Try.func13, Try.ntmps13
      go_wp2_with fail
      refine ((HD _).out).mono ?_
      rintro e w' ⟨rfl, rfl⟩
      go_wp2_with fail
      refine ((HI _).out).mono ?_
      rintro e w' ⟨rfl, rfl⟩
      go_wp2_with fail
      refine ((HJ _).out).mono ?_
      rintro e w' ⟨rfl, rfl⟩
      go_wp2
      go_ret
      exact ⟨ret_bool (by rw [HT.out]; simp), (by repeat (first | exact Ext.refl _ | assumption | refine Ext.alloc ?_ _ | refine Ext.drew ?_ | refine Ext.drewN ?_ _ | refine Ext.setCell ?_ (by first | omega | (dsimp only; omega) | (simp; done) | (simp; omega)) _ | refine Ext.trans ?_ (by assumption)))⟩
    · go_enter Try.func13, Try.ntmps13
      go_wp2_with fail
      refine ((HD _).out).mono ?_
      rintro e w' ⟨rfl, rfl⟩
      go_wp2_with fail
      refine ((HI _).out).mono ?_
      rintro e w' ⟨rfl, rfl⟩
      go_wp2_with fail
      refine ((HJ _).out).mono ?_
      rintro e w' ⟨rfl, rfl⟩
      go_wp2_with fail
      refine ((HM0 _).out).mono ?_
      rintro e w' ⟨rfl, rfl⟩
      go_wp2
      go_ret
      exact ⟨ret_bool (by rw [HT.out]; simp), (by repeat (first | exact Ext.refl _ | assumption | refine Ext.alloc ?_ _ | refine Ext.drew ?_ | refine Ext.drewN ?_ _ | refine Ext.setCell ?_ (by first | omega | (dsimp only; omega) | (simp; done) | (simp; omega)) _ | refine Ext.trans ?_ (by assumption)))⟩
  · go_enter Try.func13, Try.ntmps13
    go_wp2_with fail
    refine ((HD _).out).mono ?_
    rintro e w' ⟨rfl, rfl⟩
    go_wp2_with fail
    refine ((HI _).out).mono ?_
    rintro e w' ⟨rfl, rfl⟩
    go_wp2
    go_ret
    exact ⟨ret_bool (by rw [HT.out]; simp [k1, k2, k3]), (by repeat (first | exact Ext.refl _ | assumption | refine Ext.alloc ?_ _ | refine Ext.drew ?_ | refine Ext.drewN ?_ _ | refine Ext.setCell ?_ (by first | omega | (dsimp only; omega) | (simp; done) | (simp; omega)) _ | refine Ext.trans ?_ (by assumption)))⟩
/-- the operator's numbers, when it is valid -/
theorem tl_facts {n K I J M : Int} (h : tlOk n K I J M = true) : ∃ n' I' J' M' : Nat, n = n' ∧ I = I' ∧ J = J' ∧ M = M' ∧ (2 ≤ n' ∧ n' ≤ 8) ∧ dimB (n' : Int) = true ∧ I' < n' ∧ J' < n' ∧ M' < 8 ∧ (K = 1 ∨ (K = 2 ∧ I' < J' ∧ M' = 0) ∨ (K = 3 ∧ I' < J')) := by
  simp only [tlOk, Bool.and_eq_true, Wn_iff] at h
  obtain ⟨hd, hi, hj, hk⟩ := h
  have hn := lvD_bd hd
  have hM : 0 ≤ M ∧ M ≤ 7 ∧ (K = 1 ∨ (K = 2 ∧ I < J ∧ M = 0) ∨ (K = 3 ∧ I < J)) := by
    by_cases k1 : K = 1
    · rw [if_pos k1] at hk
      simp only [Bool.and_eq_true, Wn_iff] at hk
      exact ⟨by omega, by omega, .inl k1⟩
    · rw [if_neg k1] at hk
      by_cases k2 : K = 2
      · rw [if_pos k2] at hk
        simp only [Bool.and_eq_true, decide_eq_true_eq, beq_iff_eq] at hk
        exact ⟨by omega, by omega, .inr (.inl ⟨k2, hk.1, hk.2⟩)⟩
      · rw [if_neg k2] at hk
        simp only [Bool.and_eq_true, decide_eq_true_eq, beq_iff_eq, Wn_iff] at hk
        exact ⟨hk.2.2.1, hk.2.2.2, .inr (.inr ⟨hk.1, hk.2.1⟩)⟩
  refine ⟨n.toNat, I.toNat, J.toNat, M.toNat, by omega, by omega, by omega, by omega, by omega, ?_, by omega, by omega, by omega, ?_⟩
  · rcases hn with rfl | rfl | rfl <;> rfl
  · rcases hM.2.2 with h | ⟨h1, h2, h3⟩ | ⟨h1, h2⟩
    · exact .inl h
    · exact .inr (.inl ⟨h1, by omega, by omega⟩)
    · exact .inr (.inr ⟨h1, by omega⟩)

theorem toTwoLevel_any (K I J M : Int) (w : World) : Calls Try.prog 5 #[.agg #[.int .i64 K, .int .i64 I, .int .i64 J, .int .i64 M]] w fun e w' => e = .returned (.agg #[.int .i64 K, .int .i64 I, .int .i64 J, .int .i64 M]) ∧ Ext w w' := by
  go_enter Try.func5, Try.ntmps5
  go_wp2
  refine bodyPost_ret (v := .agg #[.int .i64 K, .int .i64 I, .int .i64 J, .int .i64 M]) (by simp [results, Try.results5, go_sem, *]) rfl ?_
  exact ⟨rfl, (by repeat (first | (with_reducible refine Ext.setCell ?_ (by first | (simp; done) | (simp; omega)) _) | with_reducible refine Ext.alloc ?_ _ | with_reducible refine Ext.drew ?_ | with_reducible refine Ext.drewN ?_ _ | with_reducible assumption | with_reducible exact Ext.refl _ | with_reducible refine Ext.trans ?_ (by with_reducible assumption)))⟩

theorem own_far3 {w : World} {base b : Nat} {e : TypeId} {k : Nat} {v : Value} {n : Nat} {xs : List Value} (h : w.ownsRow base e k v n xs) (x y z : Value) (hb : ∀ g, v.ownBlock = some g → g ≠ b) : (((w.setCell ⟨b, 0, none⟩ x).setCell ⟨b, 1, none⟩ y).setCell ⟨b, 2, none⟩ z).ownsRow base e k v n xs :=
  own_gxT h ((((GX.refl [b] w).setCell (.inl (by simp)) x).setCell (.inl (by simp)) y).setCell (.inl (by simp)) z) (fun k hk => by have := hb k hk; simpa using this)
/-- the matrix of an operator -/
def tlL (n K I J M : Int) : List Int := moL (fun p => tlX K I.toNat J.toNat M.toNat (p / n.toNat) (p % n.toNat)) (fun p => (tlE K I.toNat J.toNat M.toNat (p / n.toNat) (p % n.toNat) : Int)) (n.toNat * n.toNat)
def tlN (n : Int) : Nat := n.toNat * n.toNat
theorem tlL_len (n K I J M : Int) : (ifL (tlOk n K I J M) (tlL n K I J M)).length = ifN (tlOk n K I J M) (tlN n) * 5 := ifNL_len _ (moL_len _ _ _)
theorem tlN_le (n K I J M : Int) : ifN (tlOk n K I J M) (tlN n) ≤ 64 := by
  cases h : tlOk n K I J M
  · exact Nat.zero_le _
  · obtain ⟨n', _, _, _, rfl, _, _, _, hn, _⟩ := tl_facts h
    show (n' : Int).toNat * (n' : Int).toNat ≤ 64
    rw [Int.toNat_natCast]
    exact Nat.le_trans (Nat.mul_le_mul hn.2 hn.2) (by decide)
theorem lv_full {K : Int} {I J M n N : Nat} (hn : 0 < n) : moL (lvX K I J M n n) (fun p => (lvE K I J M n n p : Int)) N = moL (fun p => tlX K I J M (p / n) (p % n)) (fun p => (tlE K I J M (p / n) (p % n) : Int)) N := by
  refine moL_congr fun p _ => ?_
  have hlt := Nat.mod_lt p hn
  unfold lvX lvE
  rw [if_pos hlt, if_pos hlt]
  exact ⟨rfl, rfl⟩
theorem allTo_tt : ∀ n, allTo (fun _ => true) n = true
  | 0 => rfl
  | n + 1 => by rw [allTo_succ, allTo_tt n]; rfl

set_option maxRecDepth 20000 in
set_option maxHeartbeats 4000000 in
theorem closTwo_any (K : Int) (I J M i j : Nat) (hM : M < 8) (hK : K = 1 ∨ (K = 2 ∧ I < J) ∨ (K = 3 ∧ I < J)) (b1 : Nat) (w : World) (hb : w.heap[b1]? = some (.cells #[.int .i64 K, .int .i64 I, .int .i64 J, .int .i64 M] 29 (0, 0))) :
    Calls Try.prog 15 #[.int .i64 i, .int .i64 j, .pointer (some ⟨b1, 0, none⟩)] w fun en w' =>
      en = .returned (.tuple #[.agg #[.int .i64 (tlX K I J M i j).a, .int .i64 (tlX K I J M i j).b, .int .i64 (tlX K I J M i j).c, .int .i64 (tlX K I J M i j).d, .int .i64 (tlE K I J M i j : Nat)], .bool true]) ∧ Ext w w' := by
  have HC := fun w' => Lib.hid (levelCell_any K I J M i j hM hK w')
  generalize tlX K I J M i j = X at *
  generalize tlE K I J M i j = x at *
  have l1 : b1 < w.heap.size := (Array.getElem?_eq_some_iff.1 hb).1
  have z1 : ∀ k, w.cell? ⟨b1, k, none⟩ = (#[.int .i64 K, .int .i64 I, .int .i64 J, .int .i64 M] : Array Value)[k]? := fun k => cell_of_row _ _ _ _ _ _ hb
  clear hb hK
  go_enter Try.func15, Try.ntmps15
  go_wp2_with fail
  refine ((HC _).out).mono ?_
  rintro e w1 ⟨rfl, hx1⟩
  obtain ⟨hc1, hf1⟩ := hx1.cells
  have hz1 := hx1.size
  try simp at hz1
  have hs1_0 := sz1 (a := w.heap.size) (b := w1.heap.size) (by omega)
  go_wp2
  refine bodyPost_ret (v := .tuple #[.agg #[.int .i64 X.a, .int .i64 X.b, .int .i64 X.c, .int .i64 X.d, .int .i64 x], .bool true]) (by simp [results, Try.results15, go_sem, *]) rfl ?_
  exact ⟨rfl, (by repeat (first | (with_reducible refine Ext.setCell ?_ (by first | (simp; done) | (simp; omega)) _) | with_reducible refine Ext.alloc ?_ _ | with_reducible refine Ext.drew ?_ | with_reducible refine Ext.drewN ?_ _ | with_reducible assumption | with_reducible exact Ext.refl _ | with_reducible refine Ext.trans ?_ (by with_reducible assumption)))⟩

set_option maxRecDepth 20000 in
set_option maxHeartbeats 4000000 in
theorem twoLevelMatrix_any (n K I J M : Int) (w : World) :
    Calls Try.prog 6 #[.int .i64 n, .agg #[.int .i64 K, .int .i64 I, .int .i64 J, .int .i64 M]] w fun en w' => ∃ v, en = .returned (.tuple #[.agg #[.int .i64 (ifZ (tlOk n K I J M) n), .int .i64 (ifZ (tlOk n K I J M) n), v], .bool (tlOk n K I J M)]) ∧
      w'.ownsRow w.heap.size 44 5 v (ifN (tlOk n K I J M) (tlN n)) (IL (ifL (tlOk n K I J M) (tlL n K I J M))) ∧ Ext w w' := by
  have HV := fun w' => Lib.hid (isValidTwoLevel_any n K I J M w')
  cases hok : tlOk n K I J M
  · rw [hok] at HV
    clear hok
    go_enter Try.func6, Try.ntmps6
    go_wp2_with fail
    refine ((HV _).out).mono ?_
    rintro e w1 ⟨rfl, hx1⟩
    obtain ⟨hc1, hf1⟩ := hx1.cells
    have hz1 := hx1.size
    try simp at hz1
    have hs1_0 := sz2 (a := w.heap.size) (b := w1.heap.size) (by omega)
    go_wp2
    refine bodyPost_ret (v := .tuple #[.agg #[.int .i64 0, .int .i64 0, .slice none 0 0], .bool false]) (by simp [results, Try.results6, go_sem, *]) rfl ?_
    exact ⟨_, rfl, own_nil _ _ _ _, (by repeat (first | (with_reducible refine Ext.setCell ?_ (by first | (simp; done) | (simp; omega)) _) | with_reducible refine Ext.alloc ?_ _ | with_reducible refine Ext.drew ?_ | with_reducible refine Ext.drewN ?_ _ | with_reducible assumption | with_reducible exact Ext.refl _ | with_reducible refine Ext.trans ?_ (by with_reducible assumption)))⟩
  · rw [hok] at HV
    obtain ⟨n', I', J', M', rfl, rfl, rfl, rfl, hn, hd, hI, hJ, hM, hK⟩ := tl_facts hok
    have hK2 : K = 1 ∨ (K = 2 ∧ I' < J') ∨ (K = 3 ∧ I' < J') := by
      rcases hK with h | ⟨h1, h2, _⟩ | h
      · exact .inl h
      · exact .inr (.inl ⟨h1, h2⟩)
      · exact .inr (.inr h)
    have HMO := fun w2 hcl => Lib.hid (matrixOf_two n' n' hd hd w.heap.size (fun p => tlX K I' J' M' (p / n') (p % n')) (fun p => (tlE K I' J' M' (p / n') (p % n') : Int)) (fun _ => true) w2 hcl)
    have HCC := fun (i j : Nat) (w' : World) => Lib.hid (closTwo_any K I' J' M' i j hM hK2 w.heap.size w')
    simp only [allTo_tt] at HMO
    have hLL : tlL (n' : Int) K (I' : Int) (J' : Int) (M' : Int) = moL (fun p => tlX K I' J' M' (p / n') (p % n')) (fun p => (tlE K I' J' M' (p / n') (p % n') : Int)) (n' * n') := by unfold tlL; simp only [Int.toNat_natCast]
    have hNN : tlN (n' : Int) = n' * n' := by unfold tlN; rw [Int.toNat_natCast]
    rw [hLL, hNN]
    have HPD : Hid (∀ i j, j < n' → (i * n' + j) / n' = i ∧ (i * n' + j) % n' = j) := fun i j h => pair_dm h
    clear hok hLL hNN hK hd hK2
    generalize moL (fun p => tlX K I' J' M' (p / n') (p % n')) (fun p => (tlE K I' J' M' (p / n') (p % n') : Int)) (n' * n') = L at HMO ⊢
    generalize n' * n' = N at HMO ⊢
    go_enter Try.func6, Try.ntmps6
    go_wp2_with fail
    refine ((HV _).out).mono ?_
    rintro e w1 ⟨rfl, hx1⟩
    obtain ⟨hc1, hf1⟩ := hx1.cells
    have hz1 := hx1.size
    try simp at hz1
    have hs1_0 := sz2 (a := w.heap.size) (b := w1.heap.size) (by omega)
    have hb1 : w1.heap[w.heap.size]? = some (.cells #[.int .i64 K, .int .i64 I', .int .i64 J', .int .i64 M'] 29 (0, 0)) := (hx1.heap (by simp <;> omega)).trans (heap_alloc_lt (heap_alloc_new _ _))
    have HCL := HMO w1 (fun i j w' hi hj hx => by
      have h := HCC i j w' |>.out ((hx.heap (Array.getElem?_eq_some_iff.1 hb1).1).trans hb1)
      obtain ⟨d1, d2⟩ := HPD.out i j hj
      show Hid _
      unfold Hid
      simp only [d1, d2]
      exact h)
    clear HMO HCC hb1 HV HPD
    go_wp2_with fail
    refine HCL.out.mono ?_
    rintro e w3 ⟨v, rfl, o3, hx3⟩
    obtain ⟨hc3, hf3⟩ := hx3.cells
    have hz3 := hx3.size
    try simp at hz3
    have hs3_0 := sz2 (a := w.heap.size) (b := w3.heap.size) (by omega)
    have O3 := Lib.hid (own_base (base' := w1.heap.size) o3 (by omega))
    obtain ⟨a', cap', rfl, q1, q2, q3⟩ := own_shape o3
    clear q3 o3 HCL
    go_wp2
    refine bodyPost_ret (v := .tuple #[.agg #[.int .i64 (ifZ true n'), .int .i64 (ifZ true n'), .slice a' (ifN true N) cap'], .bool true]) (by simp [results, Try.results6, go_sem, *]) rfl ?_
    have hlt1 : w.heap.size + 1 < w1.heap.size := by have := hx1.size; simp at this; omega
    have HB3 : ∀ g, (Value.slice a' (ifN true N) cap').ownBlock = some g → g ≠ w.heap.size + 1 := fun g hg => by have := (O3.out.lt g hg).1; omega
    exact ⟨.slice a' (ifN true N) cap', rfl, own_base (base := w1.heap.size) (own_far3 O3.out _ _ _ HB3) (by omega), (by repeat (first | (with_reducible refine Ext.setCell ?_ (by first | (simp; done) | (simp; omega)) _) | with_reducible refine Ext.alloc ?_ _ | with_reducible refine Ext.drew ?_ | with_reducible refine Ext.drewN ?_ _ | with_reducible assumption | with_reducible exact Ext.refl _ | with_reducible refine Ext.trans ?_ (by with_reducible assumption)))⟩

set_option maxRecDepth 20000 in
set_option maxHeartbeats 4000000 in
theorem s_twoLevelMatrix_any (n K I J M : Int) (w : World) :
    Calls Try.prog 4 #[.int .i64 n, .agg #[.int .i64 K, .int .i64 I, .int .i64 J, .int .i64 M]] w fun en w' => ∃ v, en = .returned (.tuple #[.agg #[.int .i64 (ifZ (tlOk n K I J M) n), .int .i64 (ifZ (tlOk n K I J M) n), v], .bool (tlOk n K I J M)]) ∧
      w'.ownsRow w.heap.size 44 5 v (ifN (tlOk n K I J M) (tlN n)) (IL (ifL (tlOk n K I J M) (tlL n K I J M))) ∧ Ext w w' := by
  have HV := fun w' => Lib.hid (l11Valid_any n K I J M w')
  cases hok : tlOk n K I J M
  · rw [hok] at HV
    clear hok
    go_enter Try.func4, Try.ntmps4
    go_wp2_with fail
    refine ((HV _).out).mono ?_
    rintro e w1 ⟨rfl, hx1⟩
    obtain ⟨hc1, hf1⟩ := hx1.cells
    have hz1 := hx1.size
    try simp at hz1
    have hs1_0 := sz2 (a := w.heap.size) (b := w1.heap.size) (by omega)
    go_wp2
    refine bodyPost_ret (v := .tuple #[.agg #[.int .i64 0, .int .i64 0, .slice none 0 0], .bool false]) (by simp [results, Try.results4, go_sem, *]) rfl ?_
    exact ⟨_, rfl, own_nil _ _ _ _, (by repeat (first | (with_reducible refine Ext.setCell ?_ (by first | (simp; done) | (simp; omega)) _) | with_reducible refine Ext.alloc ?_ _ | with_reducible refine Ext.drew ?_ | with_reducible refine Ext.drewN ?_ _ | with_reducible assumption | with_reducible exact Ext.refl _ | with_reducible refine Ext.trans ?_ (by with_reducible assumption)))⟩
  · rw [hok] at HV
    obtain ⟨n', I', J', M', rfl, rfl, rfl, rfl, hn, hd, hI, hJ, hM, hK⟩ := tl_facts hok
    have HU := fun w' => Lib.hid (l3Unit_any n' (by omega) w')
    have HLV := fun bc gm bm capm w' hb hbm hm => Lib.hid (level_any bc n' I' J' M' K (by omega) hI hJ hM hK (N := n' * n') (gm := gm) (bm := bm) (capm := capm) rfl w' hb hbm hm)
    rw [lv_full (by omega)] at HLV
    have hLL : tlL (n' : Int) K (I' : Int) (J' : Int) (M' : Int) = moL (fun p => tlX K I' J' M' (p / n') (p % n')) (fun p => (tlE K I' J' M' (p / n') (p % n') : Int)) (n' * n') := by unfold tlL; simp only [Int.toNat_natCast]
    have hNN : tlN (n' : Int) = n' * n' := by unfold tlN; rw [Int.toNat_natCast]
    rw [hLL, hNN]
    clear hok hLL hNN hK hd
    generalize moL (fun p => tlX K I' J' M' (p / n') (p % n')) (fun p => (tlE K I' J' M' (p / n') (p % n') : Int)) (n' * n') = L at *
    generalize moL (unX n' n') (fun x => 0) (n' * n') = U at *
    generalize n' * n' = N at *
    go_enter Try.func4, Try.ntmps4
    go_wp2_with fail
    refine ((HV _).out).mono ?_
    rintro e w1 ⟨rfl, hx1⟩
    obtain ⟨hc1, hf1⟩ := hx1.cells
    have hz1 := hx1.size
    try simp at hz1
    have hs1_0 := sz2 (a := w.heap.size) (b := w1.heap.size) (by omega)
    have hE1 : Ext w w1 := (by repeat (first | (with_reducible refine Ext.setCell ?_ (by first | (simp; done) | (simp; omega)) _) | with_reducible refine Ext.alloc ?_ _ | with_reducible refine Ext.drew ?_ | with_reducible refine Ext.drewN ?_ _ | with_reducible assumption | with_reducible exact Ext.refl _ | with_reducible refine Ext.trans ?_ (by with_reducible assumption)))
    have hT1 : w1.heap[w.heap.size]? = some (.cells #[.int .i64 K, .int .i64 I', .int .i64 J', .int .i64 M'] 29 (0, 0)) := (hx1.heap (by simp <;> omega)).trans (heap_alloc_lt (heap_alloc_new _ _))
    have hR1 : w1.heap[w.heap.size + 1]? = some (.cells #[.int .i64 0, .int .i64 0, .slice none 0 0] 26 (0, 0)) := (hx1.heap (by simp <;> omega)).trans (heap_alloc_at _ _ _ (by simp))
    obtain ⟨w2, hw2⟩ : ∃ w2, w2 = w1.alloc (.cells #[.bool false] 37) := ⟨_, rfl⟩
    have hE2 : Ext w1 w2 := by rw [hw2]; exact (Ext.refl _).alloc _
    have hC2 : w2.heap[w1.heap.size]? = some (.cells #[.bool false] 37 (0, 0)) := by rw [hw2]; exact heap_alloc_new _ _
    have hs1 : w.heap.size + 1 < w1.heap.size := (Array.getElem?_eq_some_iff.1 hR1).1
    have hs2 : w1.heap.size < w2.heap.size := (Array.getElem?_eq_some_iff.1 hC2).1
    have hT2 := (hE2.heap (Array.getElem?_eq_some_iff.1 hT1).1).trans hT1
    have hR2 := (hE2.heap (Array.getElem?_eq_some_iff.1 hR1).1).trans hR1
    have HK : Hid (∀ W, GX [w1.heap.size, w.heap.size + 1] w2 W → (W.cell? ⟨w.heap.size, 0, none⟩ = some (.int .i64 K) ∧ W.cell? ⟨w.heap.size, 1, none⟩ = some (.int .i64 I') ∧ W.cell? ⟨w.heap.size, 2, none⟩ = some (.int .i64 J') ∧ W.cell? ⟨w.heap.size, 3, none⟩ = some (.int .i64 M'))) := fun W hg =>
      ⟨(hg.cell _ 0 (by omega) (by simp; omega)).trans (cell_of_row _ _ 0 _ _ _ hT2), (hg.cell _ 1 (by omega) (by simp; omega)).trans (cell_of_row _ _ 1 _ _ _ hT2), (hg.cell _ 2 (by omega) (by simp; omega)).trans (cell_of_row _ _ 2 _ _ _ hT2), (hg.cell _ 3 (by omega) (by simp; omega)).trans (cell_of_row _ _ 3 _ _ _ hT2)⟩
    have HW12 := Lib.hid (hE1.trans hE2)
    clear hx1 hc1 hf1 hz1
    go_upto_region 4 with fail
    rw [← hw2]
    clear hw2
    go_region_held3 (fun W => W.cell? ⟨w.heap.size, 0, none⟩ = some (.int .i64 K) ∧ W.cell? ⟨w.heap.size, 1, none⟩ = some (.int .i64 I') ∧ W.cell? ⟨w.heap.size, 2, none⟩ = some (.int .i64 J') ∧ W.cell? ⟨w.heap.size, 3, none⟩ = some (.int .i64 M')) (exact HK.out _ (by first | (with_reducible assumption) | (with_reducible refine GX.ofExt ?_; with_reducible assumption) | exact GX.refl _ _ | exact (by repeat (first | (with_reducible refine GX.setCell ?_ (by first | (simp; done) | (simp; omega)) _) | with_reducible refine GX.alloc ?_ _ | with_reducible refine GX.drew ?_ | with_reducible refine GX.drewN ?_ _ | with_reducible assumption | with_reducible exact GX.refl _ _ | with_reducible refine GX.ext ?_ (by with_reducible assumption) | with_reducible refine GX.trans ?_ (by with_reducible assumption))))) (first
      | (go_at_call 12; refine (HU _).out.mono ?_; rintro e w3 ⟨g, cap, rfl, o3, hx3⟩; have O3 := Lib.hid o3; clear o3; have hx23 : Ext w2 w3 := (by repeat (first | (with_reducible refine Ext.setCell ?_ (by first | (simp; done) | (simp; omega)) _) | with_reducible refine Ext.alloc ?_ _ | with_reducible refine Ext.drew ?_ | with_reducible refine Ext.drewN ?_ _ | with_reducible assumption | with_reducible exact Ext.refl _ | with_reducible refine Ext.trans ?_ (by with_reducible assumption))); have hC3 : w3.heap[w1.heap.size]? = some (.cells #[.bool false] 37 (0, 0)) := (hx23.heap hs2).trans hC2; have hz3 := hx23.size)
      | (go_at_call 11; refine (HLV w1.heap.size _ _ _ _ hC3 (by first | omega | (simp; omega)) O3.out).out.mono ?_; rintro e w4 ⟨a4, c4, rfl, o4, hg4⟩; have O4 := Lib.hid (own_base (base' := w.heap.size) o4 (by first | omega | (simp; omega))); have HB4 := Lib.hid (fun g hg => (by have := (o4.lt g hg).1; (try simp at this); omega : g ≠ w.heap.size + 1)); clear o4; have hgk : GX [w1.heap.size, w.heap.size + 1] w2 w4 := ((GX.ofExt (S := [w1.heap.size]) hx23).trans hg4).mono (fun k hk => .inl (by simp at hk; simp [hk])); have hE4 : Ext w w4 := ((GX.ofExt (HW12.out.trans hx23)).trans hg4).toExt (by simp; omega); have hR4 : w4.heap[w.heap.size + 1]? = some (.cells #[.int .i64 0, .int .i64 0, .slice none 0 0] 26 (0, 0)) := (hg4.heap (by omega) (by simp; omega)).trans ((hx23.heap (by omega)).trans hR2); have zR := (fun q => cell_of_row _ _ q _ _ _ hR4); have fR := (fun q => frozen_of_row _ _ q _ _ hR4); have lR := (Array.getElem?_eq_some_iff.1 hR4).1))
    all_goals
      go_wp2
      refine bodyPost_ret (v := .tuple #[.agg #[.int .i64 n', .int .i64 n', .slice a4 N c4], .bool true]) (by simp [results, Try.results4, go_sem, *]) rfl ?_
      exact ⟨_, rfl, own_far3 O4.out _ _ _ HB4.out, (by repeat (first | (with_reducible refine Ext.setCell ?_ (by first | (simp; done) | (simp; omega)) _) | with_reducible refine Ext.alloc ?_ _ | with_reducible refine Ext.drew ?_ | with_reducible refine Ext.drewN ?_ _ | with_reducible assumption | with_reducible exact Ext.refl _ | with_reducible refine Ext.trans ?_ (by with_reducible assumption)))⟩

end Go.Proofs.Ytlaajkdhegkpdaa
