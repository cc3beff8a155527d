/- Dimensions of matrices. -/
import Derived.Test.YtamiploliebplaaDoorCopM
import Derived.Test.YtamiploliebplaaDoorRoot2
import Derived.Laws.AppendOwnNone
namespace Go.Proofs.YtamiploliebplaaDoor
open Go.RowKit
set_option linter.unusedVariables false
set_option linter.unusedSimpArgs false

/-- is x among the first n -/
def hasTo (xs : List Int) (x : Int) (n : Nat) : Bool := !(allTo (fun j => !(at3 xs j == x)) n)
theorem hasTo_succ (xs : List Int) (x : Int) (n : Nat) : hasTo xs x (n + 1) = (hasTo xs x n || at3 xs n == x) := by
  unfold hasTo; rw [allTo_succ]; simp
theorem hasTo_at {xs : List Int} {x : Int} {n k : Nat} (h : (at3 xs k == x) = true) (hk : k < n) : hasTo xs x n = true := by
  unfold hasTo; rw [allTo_false (k := k) (by rw [h]; rfl) hk]; rfl

set_option maxHeartbeats 1000000 in
theorem l1Has_any (x : Int) {v : Value} {m : Nat} {xs : List Int} (hm : m ≤ 2000000) (w : World) (h : RV w 1 v m xs) :
    Calls Tryd.prog 90 #[v, .int .i64 x] w fun e w' => e = .returned (.bool (hasTo xs x m)) ∧ w = w' := by
  obtain ⟨hl, a, cap, rfl, c1, c2, H⟩ := h
  have HH := Lib.hid H
  have HL := Lib.hid hl
  clear H hl
  go_enter Tryd.func90, Tryd.ntmps90
  go_wp2
  go_loop [6, 9] (fun _ i => ∃ j : Nat, j ≤ m ∧ i = .int .i64 j ∧ hasTo xs x j = false) (fun _ i => m - (intOf i).toNat)
  case atStart => exact ⟨0, by omega, rfl, rfl⟩
  case round =>
    obtain ⟨j, hj, rfl, hno⟩ := hrel
    have HA := Lib.hid hno
    clear hno
    by_cases hlt : j < m
    · have hlt' : (j : Int) < m := by omega
      have HS : Hid (hasTo xs x (j + 1) = (hasTo xs x j || at3 xs j == x)) := hasTo_succ xs x j
      have HF : Hid ((at3 xs j == x) = true → hasTo xs x m = true) := fun h => hasTo_at h hlt
      have hE := Ext.refl w
      obtain ⟨b, off, rfl, hbk, hcell⟩ := HH.out (by omega)
      have hbr : b < w.heap.size := by have := hE.size; omega
      have z0 : w.cell? ⟨b, off + j, none⟩ = some (.int .i64 (at3 xs (j))) := (hE.cells.1 b (off + (j)) hbk).trans (hcell _ _ (at3_get (by have := HL.out; omega)))
      clear hcell
      generalize at3 xs j = k0 at *
      cases hk : (k0 == x)
      · go_wp2
        go_round
        case rel => exact ⟨j + 1, by omega, by go_num, by rw [HS.out, HA.out, hk]; rfl⟩
        case measure => simp [intOf]; omega
      · go_wp2
        go_ret
        exact ⟨ret_bool (by rw [HF.out hk]), rfl⟩
    · obtain rfl : j = m := by omega
      go_wp2
      go_ret
      exact ⟨ret_bool (by rw [HA.out]), rfl⟩

def dimB (n : Int) : Bool := hasTo [1, 2, 4, 8, 16, 32] n 6
theorem dimB_iff (n : Int) : dimB n = true ↔ n = 1 ∨ n = 2 ∨ n = 4 ∨ n = 8 ∨ n = 16 ∨ n = 32 := by
  simp [dimB, hasTo, allTo, at3]
  omega
theorem dimB_not (n : Int) : dimB n = false ↔ ¬ (n = 1 ∨ n = 2 ∨ n = 4 ∨ n = 8 ∨ n = 16 ∨ n = 32) := by
  rw [← dimB_iff]; simp

theorem l3Dim_any (n : Int) (w : World) : Calls Tryd.prog 67 #[.int .i64 n] w fun e w' => e = .returned (.bool (dimB n)) ∧ Ext w w' := by
  have HH := fun (v : Value) (w' : World) (h : RV w' 1 v 6 [1, 2, 4, 8, 16, 32]) => Lib.hid (l1Has_any n (by omega) w' h)
  have HD : Hid (hasTo [1, 2, 4, 8, 16, 32] n 6 = dimB n) := rfl
  rw [HD.out] at HH
  generalize dimB n = o at *
  clear HD
  go_enter Tryd.func67, Tryd.ntmps67
  go_wp2_with fail
  refine (HH _ _ (RV.own (own_lit2 (N := w.heap.size) (by simp) (by decide) (by rfl) (by rfl)) rfl)).out.mono ?_
  rintro e w1 ⟨rfl, rfl⟩
  go_wp2
  go_ret
  exact ⟨rfl, (by repeat (first | exact Ext.refl _ | assumption | refine Ext.alloc ?_ _ | refine Ext.drew ?_ | refine Ext.drewN ?_ _ | refine Ext.setCell ?_ (by first | omega | (dsimp only; omega) | (simp; done) | (simp; omega)) _ | refine Ext.trans ?_ (by assumption)))⟩

theorem isDim_any (n : Int) (w : World) : Calls Tryd.prog 57 #[.int .i64 n] w fun e w' => e = .returned (.bool (dimB n)) ∧ w = w' := by
  cases h : Wn n 1 32
  · have HD : Hid (dimB n = false) := by
      have := Wn_not.1 h
      exact (dimB_not n).2 (by omega)
    rw [HD.out]
    go_enter Tryd.func57, Tryd.ntmps57
    go_wp2_with (go_at_call 60; ((with_reducible refine (within_any _ _ _ _).mono ?_); rintro e w' ⟨rfl, rfl⟩))
    go_ret
    exact ⟨rfl, rfl⟩
  · have hb := Wn_iff.1 h
    have hc : n = 1 ∨ n = 2 ∨ n = 3 ∨ n = 4 ∨ n = 5 ∨ n = 6 ∨ n = 7 ∨ n = 8 ∨ n = 9 ∨ n = 10 ∨ n = 11 ∨ n = 12 ∨ n = 13 ∨ n = 14 ∨ n = 15 ∨ n = 16 ∨ n = 17 ∨ n = 18 ∨ n = 19 ∨ n = 20 ∨ n = 21 ∨ n = 22 ∨ n = 23 ∨ n = 24 ∨ n = 25 ∨ n = 26 ∨ n = 27 ∨ n = 28 ∨ n = 29 ∨ n = 30 ∨ n = 31 ∨ n = 32 := by omega
    clear hb
    rcases hc with rfl | rfl | rfl | rfl | rfl | rfl | rfl | rfl | rfl | rfl | rfl | rfl | rfl | rfl | rfl | rfl | rfl | rfl | rfl | rfl | rfl | rfl | rfl | rfl | rfl | rfl | rfl | rfl | rfl | rfl | rfl | rfl
    all_goals
      go_enter Tryd.func57, Tryd.ntmps57
      go_wp2_with (go_at_call 60; ((with_reducible refine (within_any _ _ _ _).mono ?_); rintro e w' ⟨rfl, rfl⟩))
      go_ret
      exact ⟨rfl, rfl⟩


open Go.RowKit
set_option linter.unusedVariables false
set_option linter.unusedSimpArgs false

def dyAt (xs : List Int) (j : Nat) : R4 := ⟨at3 xs (j * 5), at3 xs (j * 5 + 1), at3 xs (j * 5 + 2), at3 xs (j * 5 + 3)⟩
def exAt (xs : List Int) (j : Nat) : Int := at3 xs (j * 5 + 4)
def mOk (xs : List Int) (m : Nat) : Bool := allTo (fun i => GD (dyAt xs i) (exAt xs i)) m
theorem mOk_succ (xs : List Int) (j : Nat) : mOk xs (j + 1) = (mOk xs j && GD ⟨at3 xs (j * 5), at3 xs (j * 5 + 1), at3 xs (j * 5 + 2), at3 xs (j * 5 + 3)⟩ (at3 xs (j * 5 + 4))) := rfl
theorem mOk_bad {xs : List Int} {j n : Nat} (h : GD ⟨at3 xs (j * 5), at3 xs (j * 5 + 1), at3 xs (j * 5 + 2), at3 xs (j * 5 + 3)⟩ (at3 xs (j * 5 + 4)) = false) (hj : j < n) : mOk xs n = false := allTo_false (k := j) h hj
theorem mOk_at {xs : List Int} {n j : Nat} (h : mOk xs n = true) (hj : j < n) : GD (dyAt xs j) (exAt xs j) = true := allTo_at h hj
def mGood (r c : Int) (n : Nat) (xs : List Int) : Bool := dimB r && (dimB c && (((n : Int) == r * c) && mOk xs n))
theorem dim_bd {n : Int} (h : dimB n = true) : 1 ≤ n ∧ n ≤ 32 := by
  have := (dimB_iff n).1 h
  omega
theorem mGood_facts {r c : Int} {n : Nat} {xs : List Int} (h : mGood r c n xs = true) : dimB r = true ∧ dimB c = true ∧ (n : Int) = r * c ∧ mOk xs n = true := by
  simp only [mGood, Bool.and_eq_true, beq_iff_eq] at h
  exact ⟨h.1, h.2.1, h.2.2.1, h.2.2.2⟩

set_option maxHeartbeats 2000000 in
theorem l3Good_any (r c : Int) {v : Value} {n : Nat} {xs : List Int} (w : World) (h : RV w 5 v n xs) :
    Calls Tryd.prog 33 #[.agg #[.int .i64 r, .int .i64 c, v]] w fun e w' => e = .returned (.bool (mGood r c n xs)) ∧ Ext w w' := by
  have HG : Hid (mGood r c n xs = (dimB r && (dimB c && (((n : Int) == r * c) && mOk xs n)))) := rfl
  have HR := fun w' => Lib.hid (l3Dim_any r w')
  have HC := fun w' => Lib.hid (l3Dim_any c w')
  obtain ⟨hl, a, cap, rfl, c1, c2, H⟩ := h
  have HH := Lib.hid H
  have HL := Lib.hid hl
  clear H hl
  have c3 : (n : Int) ≤ 9223372036854775807 := by simp only [maxLen] at c2; omega
  cases h1 : dimB r
  · rw [h1] at HR HG
    go_enter Tryd.func33, Tryd.ntmps33
    go_wp2_with fail
    refine ((HR _).out).mono ?_
    rintro e w1 ⟨rfl, hx1⟩
    obtain ⟨hc1, hf1⟩ := hx1.cells
    have hz1 := hx1.size
    try simp at hz1
    have hs1_0 := sz1 (a := w.heap.size) (b := w1.heap.size) (by omega)
    go_wp2
    go_ret
    exact ⟨ret_bool (by rw [HG.out]; rfl), (by repeat (first | exact Ext.refl _ | assumption | refine Ext.alloc ?_ _ | refine Ext.drew ?_ | refine Ext.drewN ?_ _ | refine Ext.setCell ?_ (by first | omega | (dsimp only; omega) | (simp; done) | (simp; omega)) _ | refine Ext.trans ?_ (by assumption)))⟩
  cases h2 : dimB c
  · rw [h1] at HR HG
    rw [h2] at HC HG
    go_enter Tryd.func33, Tryd.ntmps33
    go_wp2_with fail
    refine ((HR _).out).mono ?_
    rintro e w1 ⟨rfl, hx1⟩
    obtain ⟨hc1, hf1⟩ := hx1.cells
    have hz1 := hx1.size
    try simp at hz1
    have hs1_0 := sz1 (a := w.heap.size) (b := w1.heap.size) (by omega)
    go_wp2_with fail
    refine ((HC _).out).mono ?_
    rintro e w2 ⟨rfl, hx2⟩
    obtain ⟨hc2, hf2⟩ := hx2.cells
    have hz2 := hx2.size
    try simp at hz2
    have hs2_0 := sz1 (a := w.heap.size) (b := w2.heap.size) (by omega)
    go_wp2
    go_ret
    exact ⟨ret_bool (by rw [HG.out]; rfl), (by repeat (first | exact Ext.refl _ | assumption | refine Ext.alloc ?_ _ | refine Ext.drew ?_ | refine Ext.drewN ?_ _ | refine Ext.setCell ?_ (by first | omega | (dsimp only; omega) | (simp; done) | (simp; omega)) _ | refine Ext.trans ?_ (by assumption)))⟩
  have br := dim_bd h1
  have bc := dim_bd h2
  have hrc := mul_bd (a := r) (b := c) (A := 32) (B := 32) (by omega) (by omega) (by omega) (by omega)
  rw [h1] at HR HG
  rw [h2] at HC HG
  clear h1 h2
  by_cases h3 : (n : Int) = r * c
  case neg =>
    have h3' : ((n : Int) == r * c) = false := by simpa using h3
    rw [h3'] at HG
    go_enter Tryd.func33, Tryd.ntmps33
    go_wp2_with fail
    refine ((HR _).out).mono ?_
    rintro e w1 ⟨rfl, hx1⟩
    obtain ⟨hc1, hf1⟩ := hx1.cells
    have hz1 := hx1.size
    try simp at hz1
    have hs1_0 := sz1 (a := w.heap.size) (b := w1.heap.size) (by omega)
    go_wp2_with fail
    refine ((HC _).out).mono ?_
    rintro e w2 ⟨rfl, hx2⟩
    obtain ⟨hc2, hf2⟩ := hx2.cells
    have hz2 := hx2.size
    try simp at hz2
    have hs2_0 := sz1 (a := w.heap.size) (b := w2.heap.size) (by omega)
    go_wp2
    go_ret
    exact ⟨ret_bool (by rw [HG.out]; rfl), (by repeat (first | exact Ext.refl _ | assumption | refine Ext.alloc ?_ _ | refine Ext.drew ?_ | refine Ext.drewN ?_ _ | refine Ext.setCell ?_ (by first | omega | (dsimp only; omega) | (simp; done) | (simp; omega)) _ | refine Ext.trans ?_ (by assumption)))⟩
  have h3' : ((n : Int) == r * c) = true := by simpa using h3
  rw [h3'] at HG
  have hn : n ≤ 1024 := by omega
  have h3r : r * c = (n : Int) := h3.symm
  clear h3 h3'
  go_enter Tryd.func33, Tryd.ntmps33
  go_wp2_with fail
  refine ((HR _).out).mono ?_
  rintro e w1 ⟨rfl, hx1⟩
  obtain ⟨hc1, hf1⟩ := hx1.cells
  have hz1 := hx1.size
  try simp at hz1
  have hs1_0 := sz1 (a := w.heap.size) (b := w1.heap.size) (by omega)
  go_wp2_with fail
  refine ((HC _).out).mono ?_
  rintro e w2 ⟨rfl, hx2⟩
  obtain ⟨hc2, hf2⟩ := hx2.cells
  have hz2 := hx2.size
  try simp at hz2
  have hs2_0 := sz1 (a := w.heap.size) (b := w2.heap.size) (by omega)
  go_wp2
  go_loopw [4, 29] (fun _ i wr => ∃ j : Nat, j ≤ n ∧ i = .int .i64 j ∧ mOk xs j = true ∧ Ext w wr) (fun _ i _ => n - (intOf i).toNat)
  case atStart => exact ⟨0, by omega, rfl, rfl, (by repeat (first | exact Ext.refl _ | assumption | refine Ext.alloc ?_ _ | refine Ext.drew ?_ | refine Ext.drewN ?_ _ | refine Ext.setCell ?_ (by first | omega | (dsimp only; omega) | (simp; done) | (simp; omega)) _ | refine Ext.trans ?_ (by assumption)))⟩
  case round =>
    obtain ⟨j, hj, rfl, hok, hE⟩ := hrel
    have HO := Lib.hid hok
    clear hok
    by_cases hlt : j < n
    · have hlt' : (j : Int) < n := by omega
      have HS := Lib.hid (mOk_succ xs j)
      have HB : Hid (GD ⟨at3 xs (j * 5), at3 xs (j * 5 + 1), at3 xs (j * 5 + 2), at3 xs (j * 5 + 3)⟩ (at3 xs (j * 5 + 4)) = false → mOk xs n = false) := fun h => mOk_bad h hlt
      obtain ⟨b, off, rfl, hbk, hcell⟩ := HH.out (by omega)
      have hbr : b < wr.heap.size := by have := hE.size; omega
      have z0 : wr.cell? ⟨b, off + j * 5, none⟩ = some (.int .i64 (at3 xs (j * 5))) := (hE.cells.1 b (off + (j * 5)) hbk).trans (hcell _ _ (at3_get (by have := HL.out; omega)))
      have z1 : wr.cell? ⟨b, off + j * 5 + 1, none⟩ = some (.int .i64 (at3 xs (j * 5 + 1))) := (hE.cells.1 b (off + (j * 5 + 1)) hbk).trans (hcell _ _ (at3_get (by have := HL.out; omega)))
      have z2 : wr.cell? ⟨b, off + j * 5 + 2, none⟩ = some (.int .i64 (at3 xs (j * 5 + 2))) := (hE.cells.1 b (off + (j * 5 + 2)) hbk).trans (hcell _ _ (at3_get (by have := HL.out; omega)))
      have z3 : wr.cell? ⟨b, off + j * 5 + 3, none⟩ = some (.int .i64 (at3 xs (j * 5 + 3))) := (hE.cells.1 b (off + (j * 5 + 3)) hbk).trans (hcell _ _ (at3_get (by have := HL.out; omega)))
      have z4 : wr.cell? ⟨b, off + j * 5 + 4, none⟩ = some (.int .i64 (at3 xs (j * 5 + 4))) := (hE.cells.1 b (off + (j * 5 + 4)) hbk).trans (hcell _ _ (at3_get (by have := HL.out; omega)))
      clear hcell
      generalize at3 xs (j * 5) = k0 at *
      generalize at3 xs (j * 5 + 1) = k1 at *
      generalize at3 xs (j * 5 + 2) = k2 at *
      generalize at3 xs (j * 5 + 3) = k3 at *
      generalize at3 xs (j * 5 + 4) = k4 at *
      have HD := fun w' => Lib.hid (l2Good_any k0 k1 k2 k3 k4 w')
      generalize hg : GD ⟨k0, k1, k2, k3⟩ k4 = g at *
      clear hg
      cases g
      · go_wp2_with fail
        refine ((HD _).out).mono ?_
        rintro e w3 ⟨rfl, hx3⟩
        obtain ⟨hc3, hf3⟩ := hx3.cells
        have hz3 := hx3.size
        try simp at hz3
        have hs3_0 := sz1 (a := wr.heap.size) (b := w3.heap.size) (by omega)
        go_wp2
        go_ret
        exact ⟨ret_bool (by rw [HG.out, HB.out (by first | rfl | trivial)]; rfl), (by repeat (first | exact Ext.refl _ | assumption | refine Ext.alloc ?_ _ | refine Ext.drew ?_ | refine Ext.drewN ?_ _ | refine Ext.setCell ?_ (by first | omega | (dsimp only; omega) | (simp; done) | (simp; omega)) _ | refine Ext.trans ?_ (by assumption)))⟩
      · go_wp2_with fail
        refine ((HD _).out).mono ?_
        rintro e w3 ⟨rfl, hx3⟩
        obtain ⟨hc3, hf3⟩ := hx3.cells
        have hz3 := hx3.size
        try simp at hz3
        have hs3_0 := sz1 (a := wr.heap.size) (b := w3.heap.size) (by omega)
        go_wp2
        go_roundw
        case rel => exact ⟨j + 1, by omega, by go_num, by rw [HS.out, HO.out]; rfl, (by repeat (first | exact Ext.refl _ | assumption | refine Ext.alloc ?_ _ | refine Ext.drew ?_ | refine Ext.drewN ?_ _ | refine Ext.setCell ?_ (by first | omega | (dsimp only; omega) | (simp; done) | (simp; omega)) _ | refine Ext.trans ?_ (by assumption)))⟩
        case measure => simp [intOf]; omega
    · obtain rfl : j = n := by omega
      go_wp2
      go_ret
      exact ⟨ret_bool (by rw [HG.out, HO.out]; rfl), (by repeat (first | exact Ext.refl _ | assumption | refine Ext.alloc ?_ _ | refine Ext.drew ?_ | refine Ext.drewN ?_ _ | refine Ext.setCell ?_ (by first | omega | (dsimp only; omega) | (simp; done) | (simp; omega)) _ | refine Ext.trans ?_ (by assumption)))⟩

theorem validCell_any (a b c d e : Int) (w : World) :
    Calls Tryd.prog 59 #[.agg #[.int .i64 a, .int .i64 b, .int .i64 c, .int .i64 d, .int .i64 e]] w fun en w' => en = .returned (.bool (!(GD ⟨a, b, c, d⟩ e))) ∧ Ext w w' := by
  have HD := fun w' => Lib.hid (isValidDyadic_any a b c d e w')
  generalize GD ⟨a, b, c, d⟩ e = g at *
  go_enter Tryd.func59, Tryd.ntmps59
  go_wp2_with fail
  refine ((HD _).out).mono ?_
  rintro e w1 ⟨rfl, hx1⟩
  obtain ⟨hc1, hf1⟩ := hx1.cells
  have hz1 := hx1.size
  try simp at hz1
  have hs1_0 := sz1 (a := w.heap.size) (b := w1.heap.size) (by omega)
  go_wp2
  go_ret
  exact ⟨rfl, (by repeat (first | exact Ext.refl _ | assumption | refine Ext.alloc ?_ _ | refine Ext.drew ?_ | refine Ext.drewN ?_ _ | refine Ext.setCell ?_ (by first | omega | (dsimp only; omega) | (simp; done) | (simp; omega)) _ | refine Ext.trans ?_ (by assumption)))⟩

set_option maxHeartbeats 2000000 in
theorem indexInvalid_any {v : Value} {n : Nat} {xs : List Int} (hn : n ≤ 2000000) (w : World) (h : RV w 5 v n xs) :
    Calls Tryd.prog 26 #[v, .func (.func 59) #[] #[]] w fun e w' => ∃ r : Int, e = .returned (.int .i64 r) ∧ ((r = -1 ∧ mOk xs n = true) ∨ (0 ≤ r ∧ mOk xs n = false)) ∧ Ext w w' := by
  obtain ⟨hl, a, cap, rfl, c1, c2, H⟩ := h
  have HH := Lib.hid H
  have HL := Lib.hid hl
  clear H hl
  go_enter Tryd.func26, Tryd.ntmps26
  go_wp2
  go_loopw [5, 8] (fun _ i wr => ∃ j : Nat, j ≤ n ∧ i = .int .i64 j ∧ mOk xs j = true ∧ Ext w wr) (fun _ i _ => n - (intOf i).toNat)
  case atStart => exact ⟨0, by omega, rfl, rfl, (by repeat (first | exact Ext.refl _ | assumption | refine Ext.alloc ?_ _ | refine Ext.drew ?_ | refine Ext.drewN ?_ _ | refine Ext.setCell ?_ (by first | omega | (dsimp only; omega) | (simp; done) | (simp; omega)) _ | refine Ext.trans ?_ (by assumption)))⟩
  case round =>
    obtain ⟨j, hj, rfl, hok, hE⟩ := hrel
    have HO := Lib.hid hok
    clear hok
    by_cases hlt : j < n
    · have hlt' : (j : Int) < n := by omega
      have HS := Lib.hid (mOk_succ xs j)
      have HB : Hid (GD ⟨at3 xs (j * 5), at3 xs (j * 5 + 1), at3 xs (j * 5 + 2), at3 xs (j * 5 + 3)⟩ (at3 xs (j * 5 + 4)) = false → mOk xs n = false) := fun h => mOk_bad h hlt
      obtain ⟨b, off, rfl, hbk, hcell⟩ := HH.out (by omega)
      have hbr : b < wr.heap.size := by have := hE.size; omega
      have z0 : wr.cell? ⟨b, off + j * 5, none⟩ = some (.int .i64 (at3 xs (j * 5))) := (hE.cells.1 b (off + (j * 5)) hbk).trans (hcell _ _ (at3_get (by have := HL.out; omega)))
      have z1 : wr.cell? ⟨b, off + j * 5 + 1, none⟩ = some (.int .i64 (at3 xs (j * 5 + 1))) := (hE.cells.1 b (off + (j * 5 + 1)) hbk).trans (hcell _ _ (at3_get (by have := HL.out; omega)))
      have z2 : wr.cell? ⟨b, off + j * 5 + 2, none⟩ = some (.int .i64 (at3 xs (j * 5 + 2))) := (hE.cells.1 b (off + (j * 5 + 2)) hbk).trans (hcell _ _ (at3_get (by have := HL.out; omega)))
      have z3 : wr.cell? ⟨b, off + j * 5 + 3, none⟩ = some (.int .i64 (at3 xs (j * 5 + 3))) := (hE.cells.1 b (off + (j * 5 + 3)) hbk).trans (hcell _ _ (at3_get (by have := HL.out; omega)))
      have z4 : wr.cell? ⟨b, off + j * 5 + 4, none⟩ = some (.int .i64 (at3 xs (j * 5 + 4))) := (hE.cells.1 b (off + (j * 5 + 4)) hbk).trans (hcell _ _ (at3_get (by have := HL.out; omega)))
      clear hcell
      generalize at3 xs (j * 5) = k0 at *
      generalize at3 xs (j * 5 + 1) = k1 at *
      generalize at3 xs (j * 5 + 2) = k2 at *
      generalize at3 xs (j * 5 + 3) = k3 at *
      generalize at3 xs (j * 5 + 4) = k4 at *
      have HD := fun w' => Lib.hid (validCell_any k0 k1 k2 k3 k4 w')
      generalize hg : GD ⟨k0, k1, k2, k3⟩ k4 = g at *
      clear hg
      cases g
      · go_wp2_with fail
        refine ((HD _).out).mono ?_
        rintro e w3 ⟨rfl, hx3⟩
        obtain ⟨hc3, hf3⟩ := hx3.cells
        have hz3 := hx3.size
        try simp at hz3
        go_wp2
        go_ret
        exact ⟨_, rfl, .inr ⟨by omega, HB.out (by first | rfl | trivial)⟩, (by repeat (first | exact Ext.refl _ | assumption | refine Ext.alloc ?_ _ | refine Ext.drew ?_ | refine Ext.drewN ?_ _ | refine Ext.setCell ?_ (by first | omega | (dsimp only; omega) | (simp; done) | (simp; omega)) _ | refine Ext.trans ?_ (by assumption)))⟩
      · go_wp2_with fail
        refine ((HD _).out).mono ?_
        rintro e w3 ⟨rfl, hx3⟩
        obtain ⟨hc3, hf3⟩ := hx3.cells
        have hz3 := hx3.size
        try simp at hz3
        go_wp2
        go_roundw
        case rel => exact ⟨j + 1, by omega, by go_num, by rw [HS.out, HO.out]; rfl, (by repeat (first | exact Ext.refl _ | assumption | refine Ext.alloc ?_ _ | refine Ext.drew ?_ | refine Ext.drewN ?_ _ | refine Ext.setCell ?_ (by first | omega | (dsimp only; omega) | (simp; done) | (simp; omega)) _ | refine Ext.trans ?_ (by assumption)))⟩
        case measure => simp [intOf]; omega
    · obtain rfl : j = n := by omega
      go_wp2
      go_ret
      exact ⟨_, rfl, .inl ⟨rfl, HO.out⟩, (by repeat (first | exact Ext.refl _ | assumption | refine Ext.alloc ?_ _ | refine Ext.drew ?_ | refine Ext.drewN ?_ _ | refine Ext.setCell ?_ (by first | omega | (dsimp only; omega) | (simp; done) | (simp; omega)) _ | refine Ext.trans ?_ (by assumption)))⟩

theorem containsInvalid_any {v : Value} {n : Nat} {xs : List Int} (hn : n ≤ 2000000) (w : World) (h : RV w 5 v n xs) :
    Calls Tryd.prog 58 #[v, .func (.func 59) #[] #[]] w fun e w' => e = .returned (.bool (!(mOk xs n))) ∧ Ext w w' := by
  have HI := Lib.hid (indexInvalid_any hn w h)
  obtain ⟨_, a, cap, rfl, _⟩ := h
  generalize mOk xs n = g at *
  go_enter Tryd.func58, Tryd.ntmps58
  go_wp2_with fail
  refine (HI.out).mono ?_
  rintro e w1 ⟨r, rfl, hr, hx1⟩
  rcases hr with ⟨rfl, rfl⟩ | ⟨h1, rfl⟩
  · go_wp2
    go_ret
    exact ⟨rfl, (by repeat (first | exact Ext.refl _ | assumption | refine Ext.alloc ?_ _ | refine Ext.drew ?_ | refine Ext.drewN ?_ _ | refine Ext.setCell ?_ (by first | omega | (dsimp only; omega) | (simp; done) | (simp; omega)) _ | refine Ext.trans ?_ (by assumption)))⟩
  · go_wp2
    go_ret
    exact ⟨ret_bool (by simp; try omega), (by repeat (first | exact Ext.refl _ | assumption | refine Ext.alloc ?_ _ | refine Ext.drew ?_ | refine Ext.drewN ?_ _ | refine Ext.setCell ?_ (by first | omega | (dsimp only; omega) | (simp; done) | (simp; omega)) _ | refine Ext.trans ?_ (by assumption)))⟩

set_option maxHeartbeats 1000000 in
theorem isValidMatrix_any (r c : Int) {v : Value} {n : Nat} {xs : List Int} (hn : n ≤ 2000000) (w : World) (h : RV w 5 v n xs) :
    Calls Tryd.prog 28 #[.agg #[.int .i64 r, .int .i64 c, v]] w fun e w' => e = .returned (.bool (mGood r c n xs)) ∧ Ext w w' := by
  have HG : Hid (mGood r c n xs = (dimB r && (dimB c && (((n : Int) == r * c) && mOk xs n)))) := rfl
  have HR := fun w' => Lib.hid (isDim_any r w')
  have HC := fun w' => Lib.hid (isDim_any c w')
  have HI := fun w' (hx : Ext w w') => Lib.hid (containsInvalid_any hn w' (h.ext hx))
  obtain ⟨hl, a, cap, rfl, c1, c2, H⟩ := h
  clear H hl
  have c3 : (n : Int) ≤ 9223372036854775807 := by simp only [maxLen] at c2; omega
  generalize mOk xs n = ok at *
  cases h1 : dimB r
  · rw [h1] at HR HG
    go_enter Tryd.func28, Tryd.ntmps28
    go_wp2_with (go_at_call 57; ((with_reducible refine ((HR _).out).mono ?_); rintro e w' ⟨rfl, rfl⟩))
    go_ret
    exact ⟨ret_bool (by rw [HG.out]; rfl), (by repeat (first | exact Ext.refl _ | assumption | refine Ext.alloc ?_ _ | refine Ext.drew ?_ | refine Ext.drewN ?_ _ | refine Ext.setCell ?_ (by first | omega | (dsimp only; omega) | (simp; done) | (simp; omega)) _ | refine Ext.trans ?_ (by assumption)))⟩
  cases h2 : dimB c
  · rw [h1] at HR HG
    rw [h2] at HC HG
    go_enter Tryd.func28, Tryd.ntmps28
    go_wp2_with fail
    refine ((HR _).out).mono ?_
    rintro e w' ⟨rfl, rfl⟩
    go_wp2_with fail
    refine ((HC _).out).mono ?_
    rintro e w' ⟨rfl, rfl⟩
    go_wp2
    go_ret
    exact ⟨ret_bool (by rw [HG.out]; rfl), (by repeat (first | exact Ext.refl _ | assumption | refine Ext.alloc ?_ _ | refine Ext.drew ?_ | refine Ext.drewN ?_ _ | refine Ext.setCell ?_ (by first | omega | (dsimp only; omega) | (simp; done) | (simp; omega)) _ | refine Ext.trans ?_ (by assumption)))⟩
  have br := dim_bd h1
  have bc := dim_bd h2
  have hrc := mul_bd (a := r) (b := c) (A := 32) (B := 32) (by omega) (by omega) (by omega) (by omega)
  rw [h1] at HR HG
  rw [h2] at HC HG
  clear h1 h2
  by_cases h3 : (n : Int) = r * c
  case neg =>
    have h3' : ((n : Int) == r * c) = false := by simpa using h3
    rw [h3'] at HG
    go_enter Tryd.func28, Tryd.ntmps28
    go_wp2_with fail
    refine ((HR _).out).mono ?_
    rintro e w' ⟨rfl, rfl⟩
    go_wp2_with fail
    refine ((HC _).out).mono ?_
    rintro e w' ⟨rfl, rfl⟩
    go_wp2
    go_ret
    exact ⟨ret_bool (by rw [HG.out]; rfl), (by repeat (first | exact Ext.refl _ | assumption | refine Ext.alloc ?_ _ | refine Ext.drew ?_ | refine Ext.drewN ?_ _ | refine Ext.setCell ?_ (by first | omega | (dsimp only; omega) | (simp; done) | (simp; omega)) _ | refine Ext.trans ?_ (by assumption)))⟩
  have h3' : ((n : Int) == r * c) = true := by simpa using h3
  rw [h3'] at HG
  have h3r : r * c = (n : Int) := h3.symm
  clear h3 h3'
  go_enter Tryd.func28, Tryd.ntmps28
  go_wp2_with fail
  refine ((HR _).out).mono ?_
  rintro e w' ⟨rfl, rfl⟩
  go_wp2_with fail
  refine ((HC _).out).mono ?_
  rintro e w' ⟨rfl, rfl⟩
  go_wp2_with fail
  refine (HI _ (by repeat (first | exact Ext.refl _ | assumption | refine Ext.alloc ?_ _ | refine Ext.drew ?_ | refine Ext.drewN ?_ _ | refine Ext.setCell ?_ (by first | omega | (dsimp only; omega) | (simp; done) | (simp; omega)) _ | refine Ext.trans ?_ (by assumption)))).out.mono ?_
  rintro e w1 ⟨rfl, hx1⟩
  go_wp2
  go_ret
  exact ⟨ret_bool (by rw [HG.out]; simp), (by repeat (first | exact Ext.refl _ | assumption | refine Ext.alloc ?_ _ | refine Ext.drew ?_ | refine Ext.drewN ?_ _ | refine Ext.setCell ?_ (by first | omega | (dsimp only; omega) | (simp; done) | (simp; omega)) _ | refine Ext.trans ?_ (by assumption)))⟩

set_option maxHeartbeats 1000000 in
theorem at_any (r c : Int) {v : Value} {n : Nat} {xs : List Int} (hn : n ≤ 2000000) (i1 i2 : Int) (j : Nat) (hp : i1 * c + i2 = j) (hlt : j < n) (hb : -1000000 ≤ i1 * c ∧ i1 * c ≤ 1000000) (hb2 : -1000000 ≤ i2 ∧ i2 ≤ 1000000) (w : World) (h : RV w 5 v n xs) :
    Calls Tryd.prog 66 #[.agg #[.int .i64 r, .int .i64 c, v], .int .i64 i1, .int .i64 i2] w fun e w' => e = .returned (.agg #[.int .i64 (dyAt xs j).a, .int .i64 (dyAt xs j).b, .int .i64 (dyAt xs j).c, .int .i64 (dyAt xs j).d, .int .i64 (exAt xs j)]) ∧ Ext w w' := by
  obtain ⟨hl, a, cap, rfl, c1, c2, H⟩ := h
  have HH := Lib.hid H
  have HL := Lib.hid hl
  clear H hl
  unfold dyAt exAt
  simp only
  have hE := Ext.refl w
  obtain ⟨b, off, rfl, hbk, hcell⟩ := HH.out (by omega)
  have hbr : b < w.heap.size := by have := hE.size; omega
  have z0 : w.cell? ⟨b, off + j * 5, none⟩ = some (.int .i64 (at3 xs (j * 5))) := (hE.cells.1 b (off + (j * 5)) hbk).trans (hcell _ _ (at3_get (by have := HL.out; omega)))
  have z1 : w.cell? ⟨b, off + j * 5 + 1, none⟩ = some (.int .i64 (at3 xs (j * 5 + 1))) := (hE.cells.1 b (off + (j * 5 + 1)) hbk).trans (hcell _ _ (at3_get (by have := HL.out; omega)))
  have z2 : w.cell? ⟨b, off + j * 5 + 2, none⟩ = some (.int .i64 (at3 xs (j * 5 + 2))) := (hE.cells.1 b (off + (j * 5 + 2)) hbk).trans (hcell _ _ (at3_get (by have := HL.out; omega)))
  have z3 : w.cell? ⟨b, off + j * 5 + 3, none⟩ = some (.int .i64 (at3 xs (j * 5 + 3))) := (hE.cells.1 b (off + (j * 5 + 3)) hbk).trans (hcell _ _ (at3_get (by have := HL.out; omega)))
  have z4 : w.cell? ⟨b, off + j * 5 + 4, none⟩ = some (.int .i64 (at3 xs (j * 5 + 4))) := (hE.cells.1 b (off + (j * 5 + 4)) hbk).trans (hcell _ _ (at3_get (by have := HL.out; omega)))
  clear hcell
  generalize at3 xs (j * 5) = k0 at *
  generalize at3 xs (j * 5 + 1) = k1 at *
  generalize at3 xs (j * 5 + 2) = k2 at *
  generalize at3 xs (j * 5 + 3) = k3 at *
  generalize at3 xs (j * 5 + 4) = k4 at *
  have hj2 : (j : Int) < n := by omega
  go_enter Tryd.func66, Tryd.ntmps66
  go_wp2
  refine bodyPost_ret (v := .agg #[.int .i64 k0, .int .i64 k1, .int .i64 k2, .int .i64 k3, .int .i64 k4]) (by simp [results, Tryd.results66, go_sem, *]) rfl ⟨rfl, ?_⟩
  exact (by repeat (first | (with_reducible refine Ext.setCell ?_ (by first | (simp; done) | (simp; omega)) _) | with_reducible refine Ext.alloc ?_ _ | with_reducible refine Ext.drew ?_ | with_reducible refine Ext.drewN ?_ _ | with_reducible assumption | with_reducible exact Ext.refl _ | with_reducible refine Ext.trans ?_ (by with_reducible assumption)))

end Go.Proofs.YtamiploliebplaaDoor
