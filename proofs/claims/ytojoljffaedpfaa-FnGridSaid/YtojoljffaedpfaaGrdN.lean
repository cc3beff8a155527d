/- The grid: the nearest point. -/
import Derived.Test.YtojoljffaedpfaaGrdW
import Derived.Test.YtojoljffaedpfaaGrdG
import Derived.Deep.Cut
namespace Go.Proofs.Ytojoljffaedpfaa
open Go.RowKit Go.Lib
set_option linter.unusedVariables false
set_option linter.unusedSimpArgs false

/-- the nearer one of two to a number, the second not less than the first -/
def npS (K : Int) (b x : Int × Int) : Int × Int := if ky b.1 b.2 + ky x.1 x.2 < 2 * K then x else b
/-- after j elements -/
def npJ (K : Int) (xs : List Int) : Nat → Int × Int
  | 0 => (at3 xs 0, at3 xs 1)
  | j + 1 => npS K (npJ K xs j) (at3 xs (j * 2), at3 xs (j * 2 + 1))
/-- a list of points: bounds, and it rises -/
structure PL (xs : List Int) (n : Nat) : Prop where
  b : ∀ j, j < n → (-1000000 ≤ at3 xs (j * 2) ∧ at3 xs (j * 2) ≤ 1000000) ∧ (-1000000 ≤ at3 xs (j * 2 + 1) ∧ at3 xs (j * 2 + 1) ≤ 1000000)
  r : ∀ i j, i < j → j < n → ky (at3 xs (i * 2)) (at3 xs (i * 2 + 1)) < ky (at3 xs (j * 2)) (at3 xs (j * 2 + 1))
theorem npJ_mem (K : Int) (xs : List Int) : ∀ j, ∃ i, (i < j ∨ i = 0) ∧ npJ K xs j = (at3 xs (i * 2), at3 xs (i * 2 + 1))
  | 0 => ⟨0, .inr rfl, rfl⟩
  | j + 1 => by
    obtain ⟨i, hi, e⟩ := npJ_mem K xs j
    unfold npJ npS
    split
    · exact ⟨j, .inl (by omega), rfl⟩
    · exact ⟨i, by omega, e⟩
theorem npJ_bd {K : Int} {xs : List Int} {n : Nat} (h : PL xs n) (hn : 0 < n) (j : Nat) (hj : j ≤ n) : (-1000000 ≤ (npJ K xs j).1 ∧ (npJ K xs j).1 ≤ 1000000) ∧ (-1000000 ≤ (npJ K xs j).2 ∧ (npJ K xs j).2 ≤ 1000000) := by
  obtain ⟨i, hi, e⟩ := npJ_mem K xs j
  rw [e]
  exact h.b i (by omega)
theorem npJ_le {K : Int} {xs : List Int} {n : Nat} (h : PL xs n) (j : Nat) (hj : j < n) : ky (npJ K xs j).1 (npJ K xs j).2 ≤ ky (at3 xs (j * 2)) (at3 xs (j * 2 + 1)) := by
  obtain ⟨i, hi, e⟩ := npJ_mem K xs j
  rw [e]
  rcases hi with hi | rfl
  · have := h.r i j hi hj; show ky (at3 xs (i * 2)) (at3 xs (i * 2 + 1)) ≤ _; omega
  · rcases Nat.eq_zero_or_pos j with h0 | h0
    · subst h0; exact Int.le_refl _
    · have := h.r 0 j h0 hj; show ky (at3 xs (0 * 2)) (at3 xs (0 * 2 + 1)) ≤ _; omega

/-- |x - y| -/
def dsP (p q r s : Int) : Int := if S2 (p - r) (q - s) < 0 then r - p else p - r
def dsQ (p q r s : Int) : Int := if S2 (p - r) (q - s) < 0 then s - q else q - s
theorem ds_ky {p q r s : Int} (h1 : Cf (p - r) = true) (h2 : Cf (q - s) = true) : ky (dsP p q r s) (dsQ p q r s) = if ky p q < ky r s then ky r s - ky p q else ky p q - ky r s := by
  have h3 : S2 (p - r) (q - s) < 0 ↔ ky p q < ky r s := by rw [S2_ky h1 h2, ky_sub, sg_ltU]; omega
  unfold dsP dsQ
  by_cases h : S2 (p - r) (q - s) < 0
  · rw [if_pos h, if_pos h, if_pos (h3.1 h), ky_sub]
  · rw [if_neg h, if_neg h, if_neg (fun k => h (h3.2 k)), ky_sub]
theorem ds_bd {p q r s : Int} (h : (-1000000 ≤ p ∧ p ≤ 1000000) ∧ (-1000000 ≤ q ∧ q ≤ 1000000)) (h' : (-1000000 ≤ r ∧ r ≤ 1000000) ∧ (-1000000 ≤ s ∧ s ≤ 1000000)) : (-2000000 ≤ dsP p q r s ∧ dsP p q r s ≤ 2000000) ∧ (-2000000 ≤ dsQ p q r s ∧ dsQ p q r s ≤ 2000000) := by
  unfold dsP dsQ
  split <;> omega

theorem heap_set2N {w : World} {g : Nat} {t : TypeId} {a b x y : Value} (h : w.heap[g]? = some (.cells #[a, b] t (0, 0))) : ((w.setCell ⟨g, 0, none⟩ x).setCell ⟨g, 1, none⟩ y).heap[g]? = some (.cells #[x, y] t (0, 0)) := by
  have h1 := heap_set_at h 0 x
  have h2 := heap_set_at h1 1 y
  simpa using h2
set_option maxHeartbeats 2000000 in
theorem distance_any (p q r s : Int) (h : (-1000000 ≤ p ∧ p ≤ 1000000) ∧ (-1000000 ≤ q ∧ q ≤ 1000000)) (h' : (-1000000 ≤ r ∧ r ≤ 1000000) ∧ (-1000000 ≤ s ∧ s ≤ 1000000)) (w : World) :
    Calls Try.prog 44 #[.agg #[.int .i64 p, .int .i64 q], .agg #[.int .i64 r, .int .i64 s]] w fun e w' => e = .returned (.agg #[.int .i64 (dsP p q r s), .int .i64 (dsQ p q r s)]) ∧ Ext w w' := by
  have HC := fun w => Lib.hid (compareRoot2_any p q r s (Cf_mk (by omega)) (Cf_mk (by omega)) w)
  have HP : Hid (dsP p q r s = if S2 (p - r) (q - s) < 0 then r - p else p - r) := rfl
  have HQ : Hid (dsQ p q r s = if S2 (p - r) (q - s) < 0 then s - q else q - s) := rfl
  generalize S2 (p - r) (q - s) = c at *
  by_cases hc : c < 0
  · have HP2 : Hid (dsP p q r s = r - p) := HP.out.trans (if_pos hc)
    have HQ2 : Hid (dsQ p q r s = s - q) := HQ.out.trans (if_pos hc)
    go_enter Try.func44, Try.ntmps44
    go_wp2_with fail
    refine ((HC _).out).mono ?_
    rintro e w1 ⟨rfl, hx1⟩
    obtain ⟨hc1, hf1⟩ := hx1.cells
    have hz1 := hx1.size
    try simp at hz1
    have hs1_0 := sz3 (a := w.heap.size) (b := w1.heap.size) (by omega)
    have hA1 : w1.heap[w.heap.size]? = some (.cells #[.int .i64 p, .int .i64 q] 34 (0, 0)) := (hx1.heap (by simp; omega)).trans (heap_alloc_lt (heap_alloc_lt (heap_alloc_new _ _)))
    have hB1 : w1.heap[w.heap.size + 1]? = some (.cells #[.int .i64 r, .int .i64 s] 34 (0, 0)) := (hx1.heap (by simp)).trans (heap_alloc_lt (heap_alloc_at _ _ _ (by simp)))
    have hR1 : w1.heap[w.heap.size + 1 + 1]? = some (.cells #[.int .i64 0, .int .i64 0] 34 (0, 0)) := (hx1.heap (by simp)).trans (heap_alloc_at _ _ _ (by simp))
    have hE1 : Ext w w1 := (by repeat (first | (with_reducible refine Ext.setCell ?_ (by first | (simp; done) | (simp; omega)) _) | with_reducible refine Ext.alloc ?_ _ | with_reducible refine Ext.drew ?_ | with_reducible refine Ext.drewN ?_ _ | with_reducible assumption | with_reducible exact Ext.refl _ | with_reducible refine Ext.trans ?_ (by with_reducible assumption)))
    have HA1 := Lib.hid hA1
    have HB1 := Lib.hid hB1
    have HR1 := Lib.hid hR1
    clear hA1 hB1 hR1
    go_upto_region 3 with fail
    have hx2 : Ext w ((((w1.setCell ⟨w.heap.size, 0, none⟩ (.int .i64 r)).setCell ⟨w.heap.size, 1, none⟩ (.int .i64 s)).setCell ⟨w.heap.size + 1, 0, none⟩ (.int .i64 p)).setCell ⟨w.heap.size + 1, 1, none⟩ (.int .i64 q)) := (by repeat (first | (with_reducible refine Ext.setCell ?_ (by first | (simp; done) | (simp; omega)) _) | with_reducible refine Ext.alloc ?_ _ | with_reducible refine Ext.drew ?_ | with_reducible refine Ext.drewN ?_ _ | with_reducible assumption | with_reducible exact Ext.refl _ | with_reducible refine Ext.trans ?_ (by with_reducible assumption)))
    have hA2 := heap_set_ne (p := ⟨w.heap.size + 1, 1, none⟩) (u := .int .i64 q) (by simp) (heap_set_ne (p := ⟨w.heap.size + 1, 0, none⟩) (u := .int .i64 p) (by simp) (heap_set2N (x := .int .i64 r) (y := .int .i64 s) HA1.out))
    have hB2 := heap_set2N (x := .int .i64 p) (y := .int .i64 q) (heap_set_ne (p := ⟨w.heap.size, 1, none⟩) (u := .int .i64 s) (by simp) (heap_set_ne (p := ⟨w.heap.size, 0, none⟩) (u := .int .i64 r) (by simp) HB1.out))
    have hR2 := heap_set_ne (p := ⟨w.heap.size + 1, 1, none⟩) (u := .int .i64 q) (by show w.heap.size + 1 + 1 ≠ _; simp <;> omega) (heap_set_ne (p := ⟨w.heap.size + 1, 0, none⟩) (u := .int .i64 p) (by show w.heap.size + 1 + 1 ≠ _; simp <;> omega) (heap_set_ne (p := ⟨w.heap.size, 1, none⟩) (u := .int .i64 s) (by show w.heap.size + 1 + 1 ≠ _; simp <;> omega) (heap_set_ne (p := ⟨w.heap.size, 0, none⟩) (u := .int .i64 r) (by show w.heap.size + 1 + 1 ≠ _; simp <;> omega) HR1.out)))
    generalize ((((w1.setCell ⟨w.heap.size, 0, none⟩ (.int .i64 r)).setCell ⟨w.heap.size, 1, none⟩ (.int .i64 s)).setCell ⟨w.heap.size + 1, 0, none⟩ (.int .i64 p)).setCell ⟨w.heap.size + 1, 1, none⟩ (.int .i64 q)) = W at *
    have zA := fun k => cell_of_row _ _ k _ _ _ hA2
    have zB := fun k => cell_of_row _ _ k _ _ _ hB2
    have zR := fun k => cell_of_row _ _ k _ _ _ hR2
    have fR := fun k => frozen_of_row _ _ k _ _ hR2
    have lA := (Array.getElem?_eq_some_iff.1 hA2).1
    have lB := (Array.getElem?_eq_some_iff.1 hB2).1
    have lR := (Array.getElem?_eq_some_iff.1 hR2).1
    clear hA2 hB2 hR2 hc1 hf1
    go_wp2
    refine bodyPost_ret (v := .agg #[.int .i64 (r - p), .int .i64 (s - q)]) (by simp [results, Try.results44, go_sem, *]) rfl ?_
    rw [HP2.out, HQ2.out]
    exact ⟨rfl, (by repeat (first | (with_reducible refine Ext.setCell ?_ (by first | (simp; done) | (simp; omega)) _) | with_reducible refine Ext.alloc ?_ _ | with_reducible refine Ext.drew ?_ | with_reducible refine Ext.drewN ?_ _ | with_reducible assumption | with_reducible exact Ext.refl _ | with_reducible refine Ext.trans ?_ (by with_reducible assumption)))⟩
  · have HP2 : Hid (dsP p q r s = p - r) := HP.out.trans (if_neg hc)
    have HQ2 : Hid (dsQ p q r s = q - s) := HQ.out.trans (if_neg hc)
    go_enter Try.func44, Try.ntmps44
    go_wp2_with fail
    refine ((HC _).out).mono ?_
    rintro e w1 ⟨rfl, hx1⟩
    obtain ⟨hc1, hf1⟩ := hx1.cells
    have hz1 := hx1.size
    try simp at hz1
    have hs1_0 := sz3 (a := w.heap.size) (b := w1.heap.size) (by omega)
    go_wp2
    refine bodyPost_ret (v := .agg #[.int .i64 (p - r), .int .i64 (q - s)]) (by simp [results, Try.results44, go_sem, *]) rfl ?_
    rw [HP2.out, HQ2.out]
    exact ⟨rfl, (by repeat (first | (with_reducible refine Ext.setCell ?_ (by first | (simp; done) | (simp; omega)) _) | with_reducible refine Ext.alloc ?_ _ | with_reducible refine Ext.drew ?_ | with_reducible refine Ext.drewN ?_ _ | with_reducible assumption | with_reducible exact Ext.refl _ | with_reducible refine Ext.trans ?_ (by with_reducible assumption)))⟩

/-- what is returned -/
noncomputable def npOk (lo hi den lo' hi' den' p q : Int) : Bool := gpOk lo hi den lo' hi' den' && (decide (0 < (gpV lo hi den lo' hi' den').length) && R2 p q)
noncomputable def npV (lo hi den lo' hi' den' p q : Int) : Int × Int := if npOk lo hi den lo' hi' den' p q then npJ (ky p q) (fl2 (gpV lo hi den lo' hi' den')) (gpV lo hi den lo' hi' den').length else (0, 0)
theorem npV_no {lo hi den lo' hi' den' p q : Int} (h : npOk lo hi den lo' hi' den' p q = false) : npV lo hi den lo' hi' den' p q = (0, 0) := by unfold npV; rw [h]; rfl
theorem npV_yes {lo hi den lo' hi' den' p q : Int} (h : npOk lo hi den lo' hi' den' p q = true) : npV lo hi den lo' hi' den' p q = npJ (ky p q) (fl2 (gpV lo hi den lo' hi' den')) (gpV lo hi den lo' hi' den').length := by unfold npV; rw [h]; rfl
theorem gpL_sorted {lo hi den lo' hi' den' : Int} {L : List (Int × Int)} (hn : L.Nodup) (hm : ∀ x, x ∈ L ↔ Sol 1 lo hi den lo' hi' den' x) : (gpL lo hi den lo' hi' den').Pairwise ltK := by
  have hp := List.mergeSort_perm L (fun x y => decide (ky x.1 x.2 ≤ ky y.1 y.2))
  have hs := List.pairwise_mergeSort (le := fun x y : Int × Int => decide (ky x.1 x.2 ≤ ky y.1 y.2)) (by intro a b c h1 h2; simp only [decide_eq_true_eq] at *; omega) (by intro a b; simp only [Bool.or_eq_true, decide_eq_true_eq]; omega) L
  have e := gpL_by hn hm hp (hs.imp (by intro x y h; simp only [decide_eq_true_eq] at h; omega))
  rw [← e]
  have h2 := List.pairwise_and_iff.2 ⟨hp.nodup_iff.2 hn, hs⟩
  refine h2.imp_of_mem ?_
  rintro x y hx hy ⟨h3, h4⟩
  have h4' : ky x.1 x.2 ≤ ky y.1 y.2 := of_decide_eq_true h4
  have h5 : ¬ ky x.1 x.2 = ky y.1 y.2 := fun e => h3 (ky_inj (sol1_bnd x ((hm x).1 (hp.mem_iff.1 hx))) (sol1_bnd y ((hm y).1 (hp.mem_iff.1 hy))) e)
  show ky x.1 x.2 < ky y.1 y.2
  omega
theorem theL_sorted {α : Type} {r : α → α → Prop} {P : α → Prop} : (theL r P).Pairwise r := by
  unfold theL
  split
  · rename_i h
    exact h.choose_spec.1
  · exact List.Pairwise.nil
theorem gp_PL {lo hi den lo' hi' den' : Int} (h : gpOk lo hi den lo' hi' den' = true) : PL (fl2 (gpV lo hi den lo' hi' den')) (gpV lo hi den lo' hi' den').length := by
  rw [gpV_yes h]
  have h1 := h
  unfold gpOk at h1
  simp only [Bool.and_eq_true, decide_eq_true_eq, List.all_eq_true] at h1
  have h2 := h1.2.2.2
  have hs : (gpL lo hi den lo' hi' den').Pairwise ltK := theL_sorted
  constructor
  · intro j hj
    rw [(at3_fl2 _ j hj).1, (at3_fl2 _ j hj).2]
    exact R2_bd (h2 _ (List.getElem_mem hj))
  · intro i j hij hj
    rw [(at3_fl2 _ j hj).1, (at3_fl2 _ j hj).2, (at3_fl2 _ i (by omega)).1, (at3_fl2 _ i (by omega)).2]
    exact List.pairwise_iff_getElem.1 hs i j (by omega) hj hij
/-- the program's step -/
theorem np_step {p q p1 q1 p2 q2 : Int} (hT : (-1000000 ≤ p ∧ p ≤ 1000000) ∧ (-1000000 ≤ q ∧ q ≤ 1000000)) (hb : (-1000000 ≤ p1 ∧ p1 ≤ 1000000) ∧ (-1000000 ≤ q1 ∧ q1 ≤ 1000000)) (hx : (-1000000 ≤ p2 ∧ p2 ≤ 1000000) ∧ (-1000000 ≤ q2 ∧ q2 ≤ 1000000)) (h : ky p1 q1 ≤ ky p2 q2) :
    (S2 (dsP p2 q2 p q - dsP p1 q1 p q) (dsQ p2 q2 p q - dsQ p1 q1 p q) < 0 → npS (ky p q) (p1, q1) (p2, q2) = (p2, q2)) ∧ (¬ S2 (dsP p2 q2 p q - dsP p1 q1 p q) (dsQ p2 q2 p q - dsQ p1 q1 p q) < 0 → npS (ky p q) (p1, q1) (p2, q2) = (p1, q1)) := by
  have d1 := ds_bd hx hT
  have d2 := ds_bd hb hT
  rw [S2_ky (Cf_mk (by omega)) (Cf_mk (by omega)), ky_sub, sg_ltU, ds_ky (Cf_mk (by omega)) (Cf_mk (by omega)), ds_ky (Cf_mk (by omega)) (Cf_mk (by omega))]
  unfold npS
  simp only
  by_cases he : ky p1 q1 = ky p2 q2
  · have hpq := ky_inj (x := (p1, q1)) (y := (p2, q2)) ⟨by show _ ∧ _; omega, by show _ ∧ _; omega⟩ ⟨by show _ ∧ _; omega, by show _ ∧ _; omega⟩ he
    simp only [Prod.mk.injEq] at hpq
    obtain ⟨rfl, rfl⟩ := hpq
    simp
  · generalize ky p q = K at *
    generalize ky p1 q1 = B at *
    generalize ky p2 q2 = X at *
    constructor
    · intro h1
      rw [if_pos]
      split at h1 <;> split at h1 <;> omega
    · intro h1
      rw [if_neg]
      split at h1 <;> split at h1 <;> omega
/-- the reference's step -/
theorem np_stepS {p q p1 q1 p2 q2 : Int} (hT : (-1000000 ≤ p ∧ p ≤ 1000000) ∧ (-1000000 ≤ q ∧ q ≤ 1000000)) (hb : (-1000000 ≤ p1 ∧ p1 ≤ 1000000) ∧ (-1000000 ≤ q1 ∧ q1 ≤ 1000000)) (hx : (-1000000 ≤ p2 ∧ p2 ≤ 1000000) ∧ (-1000000 ≤ q2 ∧ q2 ≤ 1000000)) :
    (0 < S2 (2 * p - p1 - p2) (2 * q - q1 - q2) → npS (ky p q) (p1, q1) (p2, q2) = (p2, q2)) ∧ (¬ 0 < S2 (2 * p - p1 - p2) (2 * q - q1 - q2) → npS (ky p q) (p1, q1) (p2, q2) = (p1, q1)) := by
  rw [S2_ky (Cf_mk (by omega)) (Cf_mk (by omega)), ky_sub, ky_sub]
  have e : ky (2 * p) (2 * q) = 2 * ky p q := by unfold ky; omega
  have hs : ∀ n : Int, 0 < sg n ↔ 0 < n := by
    intro n; unfold sg; split
    · omega
    · split <;> omega
  rw [e, hs]
  unfold npS
  simp only
  constructor
  · intro h; rw [if_pos (by omega)]
  · intro h; rw [if_neg (by omega)]

end Go.Proofs.Ytojoljffaedpfaa
