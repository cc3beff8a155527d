/- Slices of dyadic numbers and matrices: sizes and copies. -/
import Derived.Test.YtbddgeoaaklgpaaRow
import Derived.Test.YtbddgeoaaklgpaaDyL
import Derived.Test.YtbddgeoaaklgpaaBase
import Derived.Laws.AppendOwnNone
import Derived.Test.YtbddgeoaaklgpaaRing
import Derived.Test.YtbddgeoaaklgpaaMade
namespace Go.Proofs.Ytbddgeoaaklgpaa
open Go.RowKit
set_option linter.unusedVariables false
set_option linter.unusedSimpArgs false

/-- the first k cells are copied -/
def CP5 (zs ys : List Value) (k : Nat) : Prop := ∀ j, j < k → zs[j]? = ys[j]?
theorem CP5.snoc {zs ys : List Value} {k k' i : Nat} {u : Value} (h : CP5 zs ys k) (hk : k < zs.length) (hi : i = k) (hu : ys[k]? = some u) (hk' : k' = k + 1) : CP5 (zs.set i u) ys k' := by
  subst hi; subst hk'
  intro j hj
  rw [List.getElem?_set]
  split
  · rename_i e; subst e; first | rw [if_pos hk, hu] | rw [hu]
  · exact h j (by omega)
theorem CP5.full {zs ys : List Value} {k : Nat} (h : CP5 zs ys k) (h1 : zs.length = k) (h2 : ys.length = k) : zs = ys := by
  apply List.ext_getElem?
  intro j
  by_cases hj : j < k
  · exact h j hj
  · rw [List.getElem?_eq_none (by omega), List.getElem?_eq_none (by omega)]

theorem info_dyadic : (Try.prog.info? 107).map (fun i => (i.zero, i.size, i.bytes)) = some (some (.agg #[.int .i64 0, .int .i64 0, .int .i64 0, .int .i64 0, .int .i64 0]), 5, 40) := by kernel_rfl


open Go.RowKit
set_option linter.unusedVariables false
set_option linter.unusedSimpArgs false

/-- is x among the first n -/
def hasTM (xs : List Int) (x : Int) (n : Nat) : Bool := !(allTo (fun j => !(at3 xs j == x)) n)
theorem hasTM_succ (xs : List Int) (x : Int) (n : Nat) : hasTM xs x (n + 1) = (hasTM xs x n || at3 xs n == x) := by
  unfold hasTM; rw [allTo_succ]; simp
theorem hasTM_at {xs : List Int} {x : Int} {n k : Nat} (h : (at3 xs k == x) = true) (hk : k < n) : hasTM xs x n = true := by
  unfold hasTM; rw [allTo_false (k := k) (by rw [h]; rfl) hk]; rfl

set_option maxHeartbeats 1000000 in
theorem l1HasM_any (x : Int) {v : Value} {m : Nat} {xs : List Int} (hm : m ≤ 2000000) (w : World) (h : RV w 1 v m xs) :
    Calls Try.prog 65 #[v, .int .i64 x] w fun e w' => e = .returned (.bool (hasTM xs x m)) ∧ w = w' := by
  obtain ⟨hl, a, cap, rfl, c1, c2, H⟩ := h
  have HH := Lib.hid H
  have HL := Lib.hid hl
  clear H hl
  go_enter Try.func65, Try.ntmps65
  go_wp2
  go_loop [6, 9] (fun _ i => ∃ j : Nat, j ≤ m ∧ i = .int .i64 j ∧ hasTM xs x j = false) (fun _ i => m - (intOf i).toNat)
  case atStart => exact ⟨0, by omega, rfl, rfl⟩
  case round =>
    obtain ⟨j, hj, rfl, hno⟩ := hrel
    have HA := Lib.hid hno
    clear hno
    by_cases hlt : j < m
    · have hlt' : (j : Int) < m := by omega
      have HS : Hid (hasTM xs x (j + 1) = (hasTM xs x j || at3 xs j == x)) := hasTM_succ xs x j
      have HF : Hid ((at3 xs j == x) = true → hasTM xs x m = true) := fun h => hasTM_at h hlt
      have hE := Ext.refl w
      obtain ⟨b, off, rfl, hbk, hcell⟩ := HH.out (by omega)
      have hbr : b < w.heap.size := by have := hE.size; omega
      have z0 : w.cell? ⟨b, off + j, none⟩ = some (.int .i64 (at3 xs (j))) := (hE.cells.1 b (off + (j)) hbk).trans (hcell _ _ (at3_get (by have := HL.out; omega)))
      clear hcell
      generalize at3 xs j = k0 at *
      cases hk : (k0 == x)
      · go_wp2
        go_round
        case rel => exact ⟨j + 1, by omega, by go_num, by rw [HS.out, HA.out, hk]; rfl⟩
        case measure => simp [intOf]; omega
      · go_wp2
        go_ret
        exact ⟨ret_bool (by rw [HF.out hk]), rfl⟩
    · obtain rfl : j = m := by omega
      go_wp2
      go_ret
      exact ⟨ret_bool (by rw [HA.out]), rfl⟩

def dimB (n : Int) : Bool := hasTM [1, 2, 4, 8, 16, 32] n 6
theorem dimB_iff (n : Int) : dimB n = true ↔ n = 1 ∨ n = 2 ∨ n = 4 ∨ n = 8 ∨ n = 16 ∨ n = 32 := by
  simp [dimB, hasTM, allTo, at3]
  omega
theorem dimB_not (n : Int) : dimB n = false ↔ ¬ (n = 1 ∨ n = 2 ∨ n = 4 ∨ n = 8 ∨ n = 16 ∨ n = 32) := by
  rw [← dimB_iff]; simp

theorem isDim_any (n : Int) (w : World) : Calls Try.prog 92 #[.int .i64 n] w fun e w' => e = .returned (.bool (dimB n)) ∧ w = w' := by
  cases h : Wn n 1 32
  · have HD : Hid (dimB n = false) := by
      have := Wn_not.1 h
      exact (dimB_not n).2 (by omega)
    rw [HD.out]
    go_enter Try.func92, Try.ntmps92
    go_wp2_with (go_at_call 68; ((with_reducible refine (within_any _ _ _ _).mono ?_); rintro e w' ⟨rfl, rfl⟩))
    go_ret
    exact ⟨rfl, rfl⟩
  · have hb := Wn_iff.1 h
    have hc : n = 1 ∨ n = 2 ∨ n = 3 ∨ n = 4 ∨ n = 5 ∨ n = 6 ∨ n = 7 ∨ n = 8 ∨ n = 9 ∨ n = 10 ∨ n = 11 ∨ n = 12 ∨ n = 13 ∨ n = 14 ∨ n = 15 ∨ n = 16 ∨ n = 17 ∨ n = 18 ∨ n = 19 ∨ n = 20 ∨ n = 21 ∨ n = 22 ∨ n = 23 ∨ n = 24 ∨ n = 25 ∨ n = 26 ∨ n = 27 ∨ n = 28 ∨ n = 29 ∨ n = 30 ∨ n = 31 ∨ n = 32 := by omega
    clear hb
    rcases hc with rfl | rfl | rfl | rfl | rfl | rfl | rfl | rfl | rfl | rfl | rfl | rfl | rfl | rfl | rfl | rfl | rfl | rfl | rfl | rfl | rfl | rfl | rfl | rfl | rfl | rfl | rfl | rfl | rfl | rfl | rfl | rfl
    all_goals
      go_enter Try.func92, Try.ntmps92
      go_wp2_with (go_at_call 68; ((with_reducible refine (within_any _ _ _ _).mono ?_); rintro e w' ⟨rfl, rfl⟩))
      go_ret
      exact ⟨rfl, rfl⟩


open Go.RowKit
set_option linter.unusedVariables false
set_option linter.unusedSimpArgs false

def dyAt (xs : List Int) (j : Nat) : R4 := ⟨at3 xs (j * 5), at3 xs (j * 5 + 1), at3 xs (j * 5 + 2), at3 xs (j * 5 + 3)⟩
def exAt (xs : List Int) (j : Nat) : Int := at3 xs (j * 5 + 4)
def mOk (xs : List Int) (m : Nat) : Bool := allTo (fun i => GD (dyAt xs i) (exAt xs i)) m
theorem mOk_succ (xs : List Int) (j : Nat) : mOk xs (j + 1) = (mOk xs j && GD ⟨at3 xs (j * 5), at3 xs (j * 5 + 1), at3 xs (j * 5 + 2), at3 xs (j * 5 + 3)⟩ (at3 xs (j * 5 + 4))) := rfl
theorem mOk_bad {xs : List Int} {j n : Nat} (h : GD ⟨at3 xs (j * 5), at3 xs (j * 5 + 1), at3 xs (j * 5 + 2), at3 xs (j * 5 + 3)⟩ (at3 xs (j * 5 + 4)) = false) (hj : j < n) : mOk xs n = false := allTo_false (k := j) h hj
theorem mOk_at {xs : List Int} {n j : Nat} (h : mOk xs n = true) (hj : j < n) : GD (dyAt xs j) (exAt xs j) = true := allTo_at h hj
def mGood (r c : Int) (n : Nat) (xs : List Int) : Bool := dimB r && (dimB c && (((n : Int) == r * c) && mOk xs n))
theorem dim_bd {n : Int} (h : dimB n = true) : 1 ≤ n ∧ n ≤ 32 := by
  have := (dimB_iff n).1 h
  omega
theorem mGood_facts {r c : Int} {n : Nat} {xs : List Int} (h : mGood r c n xs = true) : dimB r = true ∧ dimB c = true ∧ (n : Int) = r * c ∧ mOk xs n = true := by
  simp only [mGood, Bool.and_eq_true, beq_iff_eq] at h
  exact ⟨h.1, h.2.1, h.2.2.1, h.2.2.2⟩

theorem validCell_any (a b c d e : Int) (w : World) :
    Calls Try.prog 109 #[.agg #[.int .i64 a, .int .i64 b, .int .i64 c, .int .i64 d, .int .i64 e]] w fun en w' => en = .returned (.bool (!(GD ⟨a, b, c, d⟩ e))) ∧ Ext w w' := by
  have HD := fun w' => Lib.hid (isValidDyadic_any a b c d e w')
  generalize GD ⟨a, b, c, d⟩ e = g at *
  go_enter Try.func109, Try.ntmps109
  go_wp2_with fail
  refine ((HD _).out).mono ?_
  rintro e w1 ⟨rfl, hx1⟩
  obtain ⟨hc1, hf1⟩ := hx1.cells
  have hz1 := hx1.size
  try simp at hz1
  have hs1_0 := sz1 (a := w.heap.size) (b := w1.heap.size) (by omega)
  go_wp2
  go_ret
  exact ⟨rfl, (by repeat (first | exact Ext.refl _ | assumption | refine Ext.alloc ?_ _ | refine Ext.drew ?_ | refine Ext.drewN ?_ _ | refine Ext.setCell ?_ (by first | omega | (dsimp only; omega) | (simp; done) | (simp; omega)) _ | refine Ext.trans ?_ (by assumption)))⟩

set_option maxHeartbeats 2000000 in
theorem indexInvalid_any {v : Value} {n : Nat} {xs : List Int} (hn : n ≤ 2000000) (w : World) (h : RV w 5 v n xs) :
    Calls Try.prog 117 #[v, .func (.func 109) #[] #[]] w fun e w' => ∃ r : Int, e = .returned (.int .i64 r) ∧ ((r = -1 ∧ mOk xs n = true) ∨ (0 ≤ r ∧ mOk xs n = false)) ∧ Ext w w' := by
  obtain ⟨hl, a, cap, rfl, c1, c2, H⟩ := h
  have HH := Lib.hid H
  have HL := Lib.hid hl
  clear H hl
  go_enter Try.func117, Try.ntmps117
  go_wp2
  go_loopw [5, 8] (fun _ i wr => ∃ j : Nat, j ≤ n ∧ i = .int .i64 j ∧ mOk xs j = true ∧ Ext w wr) (fun _ i _ => n - (intOf i).toNat)
  case atStart => exact ⟨0, by omega, rfl, rfl, (by repeat (first | exact Ext.refl _ | assumption | refine Ext.alloc ?_ _ | refine Ext.drew ?_ | refine Ext.drewN ?_ _ | refine Ext.setCell ?_ (by first | omega | (dsimp only; omega) | (simp; done) | (simp; omega)) _ | refine Ext.trans ?_ (by assumption)))⟩
  case round =>
    obtain ⟨j, hj, rfl, hok, hE⟩ := hrel
    have HO := Lib.hid hok
    clear hok
    by_cases hlt : j < n
    · have hlt' : (j : Int) < n := by omega
      have HS := Lib.hid (mOk_succ xs j)
      have HB : Hid (GD ⟨at3 xs (j * 5), at3 xs (j * 5 + 1), at3 xs (j * 5 + 2), at3 xs (j * 5 + 3)⟩ (at3 xs (j * 5 + 4)) = false → mOk xs n = false) := fun h => mOk_bad h hlt
      obtain ⟨b, off, rfl, hbk, hcell⟩ := HH.out (by omega)
      have hbr : b < wr.heap.size := by have := hE.size; omega
      have z0 : wr.cell? ⟨b, off + j * 5, none⟩ = some (.int .i64 (at3 xs (j * 5))) := (hE.cells.1 b (off + (j * 5)) hbk).trans (hcell _ _ (at3_get (by have := HL.out; omega)))
      have z1 : wr.cell? ⟨b, off + j * 5 + 1, none⟩ = some (.int .i64 (at3 xs (j * 5 + 1))) := (hE.cells.1 b (off + (j * 5 + 1)) hbk).trans (hcell _ _ (at3_get (by have := HL.out; omega)))
      have z2 : wr.cell? ⟨b, off + j * 5 + 2, none⟩ = some (.int .i64 (at3 xs (j * 5 + 2))) := (hE.cells.1 b (off + (j * 5 + 2)) hbk).trans (hcell _ _ (at3_get (by have := HL.out; omega)))
      have z3 : wr.cell? ⟨b, off + j * 5 + 3, none⟩ = some (.int .i64 (at3 xs (j * 5 + 3))) := (hE.cells.1 b (off + (j * 5 + 3)) hbk).trans (hcell _ _ (at3_get (by have := HL.out; omega)))
      have z4 : wr.cell? ⟨b, off + j * 5 + 4, none⟩ = some (.int .i64 (at3 xs (j * 5 + 4))) := (hE.cells.1 b (off + (j * 5 + 4)) hbk).trans (hcell _ _ (at3_get (by have := HL.out; omega)))
      clear hcell
      generalize at3 xs (j * 5) = k0 at *
      generalize at3 xs (j * 5 + 1) = k1 at *
      generalize at3 xs (j * 5 + 2) = k2 at *
      generalize at3 xs (j * 5 + 3) = k3 at *
      generalize at3 xs (j * 5 + 4) = k4 at *
      have HD := fun w' => Lib.hid (validCell_any k0 k1 k2 k3 k4 w')
      generalize hg : GD ⟨k0, k1, k2, k3⟩ k4 = g at *
      clear hg
      cases g
      · go_wp2_with fail
        refine ((HD _).out).mono ?_
        rintro e w3 ⟨rfl, hx3⟩
        obtain ⟨hc3, hf3⟩ := hx3.cells
        have hz3 := hx3.size
        try simp at hz3
        go_wp2
        go_ret
        exact ⟨_, rfl, .inr ⟨by omega, HB.out (by first | rfl | trivial)⟩, (by repeat (first | exact Ext.refl _ | assumption | refine Ext.alloc ?_ _ | refine Ext.drew ?_ | refine Ext.drewN ?_ _ | refine Ext.setCell ?_ (by first | omega | (dsimp only; omega) | (simp; done) | (simp; omega)) _ | refine Ext.trans ?_ (by assumption)))⟩
      · go_wp2_with fail
        refine ((HD _).out).mono ?_
        rintro e w3 ⟨rfl, hx3⟩
        obtain ⟨hc3, hf3⟩ := hx3.cells
        have hz3 := hx3.size
        try simp at hz3
        go_wp2
        go_roundw
        case rel => exact ⟨j + 1, by omega, by go_num, by rw [HS.out, HO.out]; rfl, (by repeat (first | exact Ext.refl _ | assumption | refine Ext.alloc ?_ _ | refine Ext.drew ?_ | refine Ext.drewN ?_ _ | refine Ext.setCell ?_ (by first | omega | (dsimp only; omega) | (simp; done) | (simp; omega)) _ | refine Ext.trans ?_ (by assumption)))⟩
        case measure => simp [intOf]; omega
    · obtain rfl : j = n := by omega
      go_wp2
      go_ret
      exact ⟨_, rfl, .inl ⟨rfl, HO.out⟩, (by repeat (first | exact Ext.refl _ | assumption | refine Ext.alloc ?_ _ | refine Ext.drew ?_ | refine Ext.drewN ?_ _ | refine Ext.setCell ?_ (by first | omega | (dsimp only; omega) | (simp; done) | (simp; omega)) _ | refine Ext.trans ?_ (by assumption)))⟩

theorem containsInvalid_any {v : Value} {n : Nat} {xs : List Int} (hn : n ≤ 2000000) (w : World) (h : RV w 5 v n xs) :
    Calls Try.prog 108 #[v, .func (.func 109) #[] #[]] w fun e w' => e = .returned (.bool (!(mOk xs n))) ∧ Ext w w' := by
  have HI := Lib.hid (indexInvalid_any hn w h)
  obtain ⟨_, a, cap, rfl, _⟩ := h
  generalize mOk xs n = g at *
  go_enter Try.func108, Try.ntmps108
  go_wp2_with fail
  refine (HI.out).mono ?_
  rintro e w1 ⟨r, rfl, hr, hx1⟩
  rcases hr with ⟨rfl, rfl⟩ | ⟨h1, rfl⟩
  · go_wp2
    go_ret
    exact ⟨rfl, (by repeat (first | exact Ext.refl _ | assumption | refine Ext.alloc ?_ _ | refine Ext.drew ?_ | refine Ext.drewN ?_ _ | refine Ext.setCell ?_ (by first | omega | (dsimp only; omega) | (simp; done) | (simp; omega)) _ | refine Ext.trans ?_ (by assumption)))⟩
  · go_wp2
    go_ret
    exact ⟨ret_bool (by simp; try omega), (by repeat (first | exact Ext.refl _ | assumption | refine Ext.alloc ?_ _ | refine Ext.drew ?_ | refine Ext.drewN ?_ _ | refine Ext.setCell ?_ (by first | omega | (dsimp only; omega) | (simp; done) | (simp; omega)) _ | refine Ext.trans ?_ (by assumption)))⟩

set_option maxHeartbeats 1000000 in
theorem isValidMatrix_any (r c : Int) {v : Value} {n : Nat} {xs : List Int} (hn : n ≤ 2000000) (w : World) (h : RV w 5 v n xs) :
    Calls Try.prog 100 #[.agg #[.int .i64 r, .int .i64 c, v]] w fun e w' => e = .returned (.bool (mGood r c n xs)) ∧ Ext w w' := by
  have HG : Hid (mGood r c n xs = (dimB r && (dimB c && (((n : Int) == r * c) && mOk xs n)))) := rfl
  have HR := fun w' => Lib.hid (isDim_any r w')
  have HC := fun w' => Lib.hid (isDim_any c w')
  have HI := fun w' (hx : Ext w w') => Lib.hid (containsInvalid_any hn w' (h.ext hx))
  obtain ⟨hl, a, cap, rfl, c1, c2, H⟩ := h
  clear H hl
  have c3 : (n : Int) ≤ 9223372036854775807 := by simp only [maxLen] at c2; omega
  generalize mOk xs n = ok at *
  cases h1 : dimB r
  · rw [h1] at HR HG
    go_enter Try.func100, Try.ntmps100
    go_wp2_with (go_at_call 92; ((with_reducible refine ((HR _).out).mono ?_); rintro e w' ⟨rfl, rfl⟩))
    go_ret
    exact ⟨ret_bool (by rw [HG.out]; rfl), (by repeat (first | exact Ext.refl _ | assumption | refine Ext.alloc ?_ _ | refine Ext.drew ?_ | refine Ext.drewN ?_ _ | refine Ext.setCell ?_ (by first | omega | (dsimp only; omega) | (simp; done) | (simp; omega)) _ | refine Ext.trans ?_ (by assumption)))⟩
  cases h2 : dimB c
  · rw [h1] at HR HG
    rw [h2] at HC HG
    go_enter Try.func100, Try.ntmps100
    go_wp2_with fail
    refine ((HR _).out).mono ?_
    rintro e w' ⟨rfl, rfl⟩
    go_wp2_with fail
    refine ((HC _).out).mono ?_
    rintro e w' ⟨rfl, rfl⟩
    go_wp2
    go_ret
    exact ⟨ret_bool (by rw [HG.out]; rfl), (by repeat (first | exact Ext.refl _ | assumption | refine Ext.alloc ?_ _ | refine Ext.drew ?_ | refine Ext.drewN ?_ _ | refine Ext.setCell ?_ (by first | omega | (dsimp only; omega) | (simp; done) | (simp; omega)) _ | refine Ext.trans ?_ (by assumption)))⟩
  have br := dim_bd h1
  have bc := dim_bd h2
  have hrc := mul_bd (a := r) (b := c) (A := 32) (B := 32) (by omega) (by omega) (by omega) (by omega)
  rw [h1] at HR HG
  rw [h2] at HC HG
  clear h1 h2
  by_cases h3 : (n : Int) = r * c
  case neg =>
    have h3' : ((n : Int) == r * c) = false := by simpa using h3
    rw [h3'] at HG
    go_enter Try.func100, Try.ntmps100
    go_wp2_with fail
    refine ((HR _).out).mono ?_
    rintro e w' ⟨rfl, rfl⟩
    go_wp2_with fail
    refine ((HC _).out).mono ?_
    rintro e w' ⟨rfl, rfl⟩
    go_wp2
    go_ret
    exact ⟨ret_bool (by rw [HG.out]; rfl), (by repeat (first | exact Ext.refl _ | assumption | refine Ext.alloc ?_ _ | refine Ext.drew ?_ | refine Ext.drewN ?_ _ | refine Ext.setCell ?_ (by first | omega | (dsimp only; omega) | (simp; done) | (simp; omega)) _ | refine Ext.trans ?_ (by assumption)))⟩
  have h3' : ((n : Int) == r * c) = true := by simpa using h3
  rw [h3'] at HG
  have h3r : r * c = (n : Int) := h3.symm
  clear h3 h3'
  go_enter Try.func100, Try.ntmps100
  go_wp2_with fail
  refine ((HR _).out).mono ?_
  rintro e w' ⟨rfl, rfl⟩
  go_wp2_with fail
  refine ((HC _).out).mono ?_
  rintro e w' ⟨rfl, rfl⟩
  go_wp2_with fail
  refine (HI _ (by repeat (first | exact Ext.refl _ | assumption | refine Ext.alloc ?_ _ | refine Ext.drew ?_ | refine Ext.drewN ?_ _ | refine Ext.setCell ?_ (by first | omega | (dsimp only; omega) | (simp; done) | (simp; omega)) _ | refine Ext.trans ?_ (by assumption)))).out.mono ?_
  rintro e w1 ⟨rfl, hx1⟩
  go_wp2
  go_ret
  exact ⟨ret_bool (by rw [HG.out]; simp), (by repeat (first | exact Ext.refl _ | assumption | refine Ext.alloc ?_ _ | refine Ext.drew ?_ | refine Ext.drewN ?_ _ | refine Ext.setCell ?_ (by first | omega | (dsimp only; omega) | (simp; done) | (simp; omega)) _ | refine Ext.trans ?_ (by assumption)))⟩

set_option maxHeartbeats 1000000 in
theorem at_any (r c : Int) {v : Value} {n : Nat} {xs : List Int} (hn : n ≤ 2000000) (i1 i2 : Int) (j : Nat) (hp : i1 * c + i2 = j) (hlt : j < n) (hb : -1000000 ≤ i1 * c ∧ i1 * c ≤ 1000000) (hb2 : -1000000 ≤ i2 ∧ i2 ≤ 1000000) (w : World) (h : RV w 5 v n xs) :
    Calls Try.prog 103 #[.agg #[.int .i64 r, .int .i64 c, v], .int .i64 i1, .int .i64 i2] w fun e w' => e = .returned (.agg #[.int .i64 (dyAt xs j).a, .int .i64 (dyAt xs j).b, .int .i64 (dyAt xs j).c, .int .i64 (dyAt xs j).d, .int .i64 (exAt xs j)]) ∧ Ext w w' := by
  obtain ⟨hl, a, cap, rfl, c1, c2, H⟩ := h
  have HH := Lib.hid H
  have HL := Lib.hid hl
  clear H hl
  unfold dyAt exAt
  simp only
  have hE := Ext.refl w
  obtain ⟨b, off, rfl, hbk, hcell⟩ := HH.out (by omega)
  have hbr : b < w.heap.size := by have := hE.size; omega
  have z0 : w.cell? ⟨b, off + j * 5, none⟩ = some (.int .i64 (at3 xs (j * 5))) := (hE.cells.1 b (off + (j * 5)) hbk).trans (hcell _ _ (at3_get (by have := HL.out; omega)))
  have z1 : w.cell? ⟨b, off + j * 5 + 1, none⟩ = some (.int .i64 (at3 xs (j * 5 + 1))) := (hE.cells.1 b (off + (j * 5 + 1)) hbk).trans (hcell _ _ (at3_get (by have := HL.out; omega)))
  have z2 : w.cell? ⟨b, off + j * 5 + 2, none⟩ = some (.int .i64 (at3 xs (j * 5 + 2))) := (hE.cells.1 b (off + (j * 5 + 2)) hbk).trans (hcell _ _ (at3_get (by have := HL.out; omega)))
  have z3 : w.cell? ⟨b, off + j * 5 + 3, none⟩ = some (.int .i64 (at3 xs (j * 5 + 3))) := (hE.cells.1 b (off + (j * 5 + 3)) hbk).trans (hcell _ _ (at3_get (by have := HL.out; omega)))
  have z4 : w.cell? ⟨b, off + j * 5 + 4, none⟩ = some (.int .i64 (at3 xs (j * 5 + 4))) := (hE.cells.1 b (off + (j * 5 + 4)) hbk).trans (hcell _ _ (at3_get (by have := HL.out; omega)))
  clear hcell
  generalize at3 xs (j * 5) = k0 at *
  generalize at3 xs (j * 5 + 1) = k1 at *
  generalize at3 xs (j * 5 + 2) = k2 at *
  generalize at3 xs (j * 5 + 3) = k3 at *
  generalize at3 xs (j * 5 + 4) = k4 at *
  have hj2 : (j : Int) < n := by omega
  go_enter Try.func103, Try.ntmps103
  go_wp2
  refine bodyPost_ret (v := .agg #[.int .i64 k0, .int .i64 k1, .int .i64 k2, .int .i64 k3, .int .i64 k4]) (by simp [results, Try.results103, go_sem, *]) rfl ⟨rfl, ?_⟩
  exact (by repeat (first | (with_reducible refine Ext.setCell ?_ (by first | (simp; done) | (simp; omega)) _) | with_reducible refine Ext.alloc ?_ _ | with_reducible refine Ext.drew ?_ | with_reducible refine Ext.drewN ?_ _ | with_reducible assumption | with_reducible exact Ext.refl _ | with_reducible refine Ext.trans ?_ (by with_reducible assumption)))


open Go.RowKit
set_option linter.unusedVariables false
set_option linter.unusedSimpArgs false

/-- the cells, one after the other -/
def moL (X : Nat → R4) (E : Nat → Int) : Nat → List Int
  | 0 => []
  | n + 1 => moL X E n ++ [(X n).a, (X n).b, (X n).c, (X n).d, E n]
theorem moL_len (X : Nat → R4) (E : Nat → Int) : ∀ n, (moL X E n).length = n * 5
  | 0 => rfl
  | n + 1 => by rw [moL, List.length_append, moL_len X E n]; simp; omega
theorem moL_succ (X : Nat → R4) (E : Nat → Int) (n : Nat) : IL (moL X E (n + 1)) = IL (moL X E n) ++ [.int .i64 (X n).a, .int .i64 (X n).b, .int .i64 (X n).c, .int .i64 (X n).d, .int .i64 (E n)] := by
  simp [moL, IL]
theorem moL_congr {X Y : Nat → R4} {E F : Nat → Int} : ∀ {n : Nat}, (∀ k, k < n → X k = Y k ∧ E k = F k) → moL X E n = moL Y F n
  | 0, _ => rfl
  | n + 1, h => by
    obtain ⟨h1, h2⟩ := h n (by omega)
    rw [moL, moL, moL_congr (n := n) (fun k hk => h k (by omega)), h1, h2]

def ifN (b : Bool) (n : Nat) : Nat := if b then n else 0
def ifL (b : Bool) (l : List Int) : List Int := if b then l else []
theorem ifNL_len (b : Bool) {n : Nat} {l : List Int} (h : l.length = n * 5) : (ifL b l).length = ifN b n * 5 := by
  cases b
  · rfl
  · exact h
theorem ifN_le (b : Bool) (n : Nat) : ifN b n ≤ n := by
  cases b
  · exact Nat.zero_le _
  · exact Nat.le_refl _
/-- the state of the loops: the matrix in its box, its cells a row of its own -/
structure MR (r c : Int) (w : World) (L : List Int) (k : Nat) (v : Value) (wr : World) : Prop where
  own : wr.ownsRow (w.heap.size + 2) 107 5 v k (IL L)
  res : wr.heap[w.heap.size]? = some (.cells #[.int .i64 0, .int .i64 0, .slice none 0 0] 71 (0, 0))
  out : wr.heap[w.heap.size + 1]? = some (.cells #[.int .i64 r, .int .i64 c, v] 71 (0, 0))
  ext : Ext w wr
theorem MR.lt {r c : Int} {w : World} {L : List Int} {k : Nat} {v : Value} {wr : World} (h : MR r c w L k v wr) : w.heap.size + 1 < wr.heap.size := (Array.getElem?_eq_some_iff.1 h.out).1
theorem MR.keep {r c : Int} {w : World} {L : List Int} {k : Nat} {v : Value} {wr wr' : World} (h : MR r c w L k v wr) (hx : Ext wr wr') : MR r c w L k v wr' :=
  ⟨own_ext h.own hx, (hx.heap (by have := h.lt; omega)).trans h.res, (hx.heap h.lt).trans h.out, h.ext.trans hx⟩
theorem MR.step {r c : Int} {w : World} {L L' : List Int} {k k' : Nat} {v v' : Value} {wr wa wb : World} (h : MR r c w L k v wr) (hx : Ext wr wa) (hg : wa.grownBy wb v.ownBlock) (hown : wb.ownsRow (w.heap.size + 2) 107 5 v' k' (IL L')) :
    MR r c w L' k' v' (wb.setCell ⟨w.heap.size + 1, 2, none⟩ v') := by
  have hl := h.lt
  have hs := hx.size
  have hb : ∀ j, v.ownBlock = some j → w.heap.size + 2 ≤ j := fun j hj => (h.own.lt j hj).1
  refine ⟨own_set hown (by simp) _, heap_set_ne (by simp) ((hg.block _ (by omega) (fun e => by have := hb _ e.symm; omega)).trans ((hx.heap (by omega)).trans h.res)), ?_, Ext.setCell (Ext.grown (h.ext.trans hx) hg (fun j hj => by have := hb j hj; omega)) (by simp) _⟩
  exact heap_set_at ((hg.block _ (by omega) (fun e => by have := hb _ e.symm; omega)).trans ((hx.heap (by omega)).trans h.out)) 2 v'


open Go.RowKit
set_option linter.unusedVariables false
set_option linter.unusedSimpArgs false

set_option maxRecDepth 20000 in
set_option maxHeartbeats 4000000 in
theorem matrixOf_mul (R C : Nat) (hR : dimB R = true) (hC : dimB C = true) (b1 b2 : Nat) (X : Nat → R4) (E : Nat → Int) (ok : Nat → Bool) (w : World)
    (HCl : ∀ (i j : Nat) (w' : World), i < R → j < C → Ext w w' → Hid (Calls Try.prog 101 #[.int .i64 i, .int .i64 j, .pointer (some ⟨b1, 0, none⟩), .pointer (some ⟨b2, 0, none⟩)] w' fun e w'' => e = .returned (.tuple #[.agg #[.int .i64 (X (i * C + j)).a, .int .i64 (X (i * C + j)).b, .int .i64 (X (i * C + j)).c, .int .i64 (X (i * C + j)).d, .int .i64 (E (i * C + j))], .bool (ok (i * C + j))]) ∧ Ext w' w'')) :
    Calls Try.prog 78 #[.int .i64 R, .int .i64 C, .func (.func 101) #[] #[.pointer (some ⟨b1, 0, none⟩), .pointer (some ⟨b2, 0, none⟩)]] w fun e w' => ∃ v, e = .returned (.tuple #[.agg #[.int .i64 (ifZ (allTo ok (R * C)) R), .int .i64 (ifZ (allTo ok (R * C)) C), v], .bool (allTo ok (R * C))]) ∧
      w'.ownsRow w.heap.size 107 5 v (ifN (allTo ok (R * C)) (R * C)) (IL (ifL (allTo ok (R * C)) (moL X E (R * C)))) ∧ Ext w w' := by
  obtain ⟨i0, hi, iz0, iz1, iz2⟩ := info_parts info_dyadic
  have bR := dim_bd hR
  have bC := dim_bd hC
  have HR := fun w' => Lib.hid (isDim_any R w')
  have HC := fun w' => Lib.hid (isDim_any C w')
  rw [hR] at HR
  rw [hC] at HC
  clear hR hC
  go_enter Try.func78, Try.ntmps78
  go_wp2_with fail
  refine ((HR _).out).mono ?_
  rintro e w' ⟨rfl, rfl⟩
  go_wp2_with fail
  refine ((HC _).out).mono ?_
  rintro e w' ⟨rfl, rfl⟩
  go_wp2
  go_loopw [9, 10, 11, 12, 26, 30] (fun _ _ _ _ i _ wr => ∃ (p : Nat) (v : Value), p ≤ R ∧ i = .int .i64 p ∧ allTo ok (p * C) = true ∧ MR R C w (moL X E (p * C)) (p * C) v wr) (fun _ _ _ _ i _ _ => R - (intOf i).toNat)
  case atStart =>
    refine ⟨0, .slice none 0 0, by omega, rfl, by rw [Nat.zero_mul]; rfl, ?_⟩
    rw [Nat.zero_mul]
    exact ⟨own_nil _ _ _ _, heap_alloc_lt (heap_alloc_new _ _), heap_alloc_at _ _ _ (by simp), (by repeat (first | exact Ext.refl _ | assumption | refine Ext.alloc ?_ _ | refine Ext.drew ?_ | refine Ext.drewN ?_ _ | refine Ext.setCell ?_ (by first | omega | (dsimp only; omega) | (simp; done) | (simp; omega)) _ | refine Ext.trans ?_ (by assumption)))⟩
  case round =>
    obtain ⟨p, v, hp, rfl, hok, hM⟩ := hrel
    have HO := Lib.hid hok
    have HM := Lib.hid hM
    clear hok hM
    by_cases hlt : p < R
    · have hlt' : (p : Int) < R := by omega
      go_wp2
      go_loopw [10, 11, 12, 30] (fun _ _ _ q wq => ∃ (j : Nat) (v : Value), j ≤ C ∧ q = .int .i64 j ∧ allTo ok (p * C + j) = true ∧ MR R C w (moL X E (p * C + j)) (p * C + j) v wq) (fun _ _ _ q _ => C - (intOf q).toNat)
      case atStart => exact ⟨0, v, by omega, rfl, HO.out, HM.out⟩
      case round =>
        clear HM HO
        obtain ⟨j, v, hj, rfl, hok, hM⟩ := hrel
        have HO := Lib.hid hok
        have hsz := hM.lt
        obtain ⟨av, cv, rfl, _, _, _⟩ := own_shape hM.own
        have HM := Lib.hid hM
        clear hok hM
        by_cases hlj : j < C
        · have hlj' : (j : Int) < C := by omega
          have HCC := Lib.hid (HCl p j _ hlt hlj HM.out.ext)
          have HT : Hid (allTo ok (p * C + j + 1) = (allTo ok (p * C + j) && ok (p * C + j))) := rfl
          have hidx : p * C + j < R * C := by
            have : (p + 1) * C ≤ R * C := Nat.mul_le_mul_right C hlt
            rw [Nat.succ_mul] at this
            omega
          have HF : Hid (ok (p * C + j) = false → allTo ok (R * C) = false) := fun h => allTo_false h hidx
          have hRC : p * C + j < 1024 := by
            have := Nat.mul_le_mul (show R ≤ 32 by omega) (show C ≤ 32 by omega)
            omega
          have HL := Lib.hid (moL_succ X E (p * C + j))
          generalize hoo : ok (p * C + j) = o at *
          generalize hX1 : X (p * C + j) = Xp at *
          generalize hE1 : E (p * C + j) = Ep at *
          clear hoo hX1 hE1
          go_wp2_with fail
          refine HCC.out.out.mono ?_
          rintro e w1 ⟨rfl, hx1⟩
          have HM1 : Hid (MR R C w (moL X E (p * C + j)) (p * C + j) (.slice av (p * C + j) cv) w1) := HM.out.keep hx1
          have hs1 : w.heap.size + 1 < w1.heap.size := HM1.out.lt
          have hs0 : w.heap.size < w1.heap.size := by omega
          have z1 : ∀ k, w1.cell? ⟨w.heap.size + 1, k, none⟩ = (#[.int .i64 R, .int .i64 C, .slice av (p * C + j) cv] : Array Value)[k]? := fun k => cell_of_row _ _ _ _ _ _ HM1.out.out
          have f1 : ∀ k, w1.frozen? ⟨w.heap.size + 1, k, none⟩ = false := fun k => frozen_of_row _ _ _ _ _ HM1.out.out
          have z0 : ∀ k, w1.cell? ⟨w.heap.size, k, none⟩ = (#[.int .i64 0, .int .i64 0, .slice none 0 0] : Array Value)[k]? := fun k => cell_of_row _ _ _ _ _ _ HM1.out.res
          have f0 : ∀ k, w1.frozen? ⟨w.heap.size, k, none⟩ = false := fun k => frozen_of_row _ _ _ _ _ HM1.out.res
          cases o
          · have HFF := Lib.hid (HF.out rfl)
            have HE : Hid (Ext w w1) := HM1.out.ext
            go_wp2
            refine bodyPost_ret (v := .tuple #[.agg #[.int .i64 0, .int .i64 0, .slice none 0 0], .bool false]) (by simp [results, Try.results78, go_sem, *]) rfl ?_
            rw [HFF.out]
            have HEE := HE.out
            exact ⟨_, rfl, own_nil _ _ _ _, (by repeat (first | (with_reducible refine Ext.setCell ?_ (by first | (simp; done) | (simp; omega)) _) | with_reducible refine Ext.alloc ?_ _ | with_reducible refine Ext.drew ?_ | with_reducible refine Ext.drewN ?_ _ | with_reducible assumption | with_reducible exact Ext.refl _ | with_reducible refine Ext.trans ?_ (by with_reducible assumption)))⟩
          · have hfar : ∀ k, (Value.slice av (p * C + j) cv).ownBlock = some k → k ≠ w.heap.size + 1 := fun k hk => by have := (HM1.out.own.lt k hk).1; omega
            go_wp2_with (at_builtin; refine wpList_append_lies _ rfl (.tmp 44) (.tmp 46) _ rfl (w.heap.size + 2) 107 i0 (.agg #[.int .i64 0, .int .i64 0, .int .i64 0, .int .i64 0, .int .i64 0]) 5 40 Try.underlying69 hi iz0 iz1 iz2 rfl (by decide) _ (p * C + j) (IL (moL X E (p * C + j))) (by rfl) ((HM1.out.own.alloc _).alloc _) ⟨w1.heap.size + 1, 0, none⟩ 1 1 [.int .i64 Xp.a, .int .i64 Xp.b, .int .i64 Xp.c, .int .i64 Xp.d, .int .i64 Ep] (by rfl) (by rfl) (news3 (by simp) rfl) (by intro u hu; simp at hu; rcases hu with rfl | rfl | rfl | rfl | rfl <;> rfl) (by decide) (by simp only [maxLen] <;> omega) (by omega) (by simp <;> omega) _ (by rfl) ?_; intro g2 cap w2 hown2 hgrow hat hlt2; have f2 : ∀ k, w2.frozen? ⟨w.heap.size + 1, k, none⟩ = false := fun k => (hgrow.frozen_far ⟨w.heap.size + 1, k, none⟩ (by simp <;> omega) (fun e => hfar _ e.symm rfl)).trans ((((Ext.refl w1).alloc _).alloc _).cells.2 _ _ (by omega) |>.trans (f1 k)); have z2 : ∀ k, w2.cell? ⟨w.heap.size + 1, k, none⟩ = (#[.int .i64 R, .int .i64 C, .slice av (p * C + j) cv] : Array Value)[k]? := fun k => (hgrow.cell_far ⟨w.heap.size + 1, k, none⟩ (by simp <;> omega) (fun e => hfar _ e.symm rfl)).trans ((((Ext.refl w1).alloc _).alloc _).cells.1 _ _ (by omega) |>.trans (z1 k)))
            go_roundw
            case rel =>
              refine ⟨j + 1, .slice (some ⟨g2, 0, none⟩) (p * C + j + 1) cap, by omega, by go_num, by rw [← Nat.add_assoc, HT.out, HO.out]; rfl, ?_⟩
              rw [← HL.out] at hown2
              exact HM1.out.step (((Ext.refl w1).alloc _).alloc _) hgrow hown2
            case measure => simp [intOf]; omega
        · obtain rfl : j = C := by omega
          go_wp2
          go_roundw
          case rel =>
            refine ⟨p + 1, .slice av (p * j + j) cv, by omega, by go_num, ?_, ?_⟩
            · rw [Nat.succ_mul]; exact HO.out
            · rw [Nat.succ_mul]; exact HM.out
          case measure => simp [intOf]; omega
    · obtain rfl : p = R := by omega
      obtain ⟨av, cv, rfl, _, _, _⟩ := own_shape HM.out.own
      have hsz := HM.out.lt
      have hs0 : w.heap.size < wr.heap.size := by omega
      have z1 : ∀ k, wr.cell? ⟨w.heap.size + 1, k, none⟩ = (#[.int .i64 p, .int .i64 C, .slice av (p * C) cv] : Array Value)[k]? := fun k => cell_of_row _ _ _ _ _ _ HM.out.out
      have f0 : ∀ k, wr.frozen? ⟨w.heap.size, k, none⟩ = false := fun k => frozen_of_row _ _ _ _ _ HM.out.res
      have z0 : ∀ k, wr.cell? ⟨w.heap.size, k, none⟩ = (#[.int .i64 0, .int .i64 0, .slice none 0 0] : Array Value)[k]? := fun k => cell_of_row _ _ _ _ _ _ HM.out.res
      have HE : Hid (Ext w wr) := HM.out.ext
      have HW := Lib.hid HM.out.own
      go_wp2
      refine bodyPost_ret (v := .tuple #[.agg #[.int .i64 p, .int .i64 C, .slice av (p * C) cv], .bool true]) (by simp [results, Try.results78, go_sem, *]) rfl ?_
      rw [HO.out]
      have HEE := HE.out
      exact ⟨_, rfl, own_base (own_set (own_set (own_set HW.out (by simp) _) (by simp) _) (by simp) _) (by omega), (by repeat (first | (with_reducible refine Ext.setCell ?_ (by first | (simp; done) | (simp; omega)) _) | with_reducible refine Ext.alloc ?_ _ | with_reducible refine Ext.drew ?_ | with_reducible refine Ext.drewN ?_ _ | with_reducible assumption | with_reducible exact Ext.refl _ | with_reducible refine Ext.trans ?_ (by with_reducible assumption)))⟩

end Go.Proofs.Ytbddgeoaaklgpaa
