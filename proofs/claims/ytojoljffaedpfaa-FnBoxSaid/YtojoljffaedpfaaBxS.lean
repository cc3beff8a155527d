/- Boxes: the reference's functions. -/
import Derived.Test.YtojoljffaedpfaaBxL
import Derived.Test.YtojoljffaedpfaaGrdU
namespace Go.Proofs.Ytojoljffaedpfaa
open Go.RowKit Go.Lib
set_option linter.unusedVariables false
set_option linter.unusedSimpArgs false

theorem Sid_ways (lo hi den : Int) : (Rng lo hi den = false ∧ Sid lo hi den = false) ∨ (Rng lo hi den = true ∧ ¬ hi - lo ≤ 8 * den ∧ Sid lo hi den = false ∧ 1 ≤ den ∧ den ≤ 100 ∧ -1000000 ≤ lo ∧ lo ≤ 1000000 ∧ -1000000 ≤ hi ∧ hi ≤ 1000000) ∨
    (Rng lo hi den = true ∧ hi - lo ≤ 8 * den ∧ Wn lo (-100 * den) (100 * den) = false ∧ Sid lo hi den = false ∧ 1 ≤ den ∧ den ≤ 100 ∧ -1000000 ≤ lo ∧ lo ≤ 1000000 ∧ -1000000 ≤ hi ∧ hi ≤ 1000000) ∨
    (Rng lo hi den = true ∧ hi - lo ≤ 8 * den ∧ Wn lo (-100 * den) (100 * den) = true ∧ Sid lo hi den = Wn hi (-100 * den) (100 * den) ∧ 1 ≤ den ∧ den ≤ 100 ∧ -1000000 ≤ lo ∧ lo ≤ 1000000 ∧ -1000000 ≤ hi ∧ hi ≤ 1000000) := by
  unfold Sid
  cases h1 : Rng lo hi den
  · exact .inl ⟨rfl, rfl⟩
  have b := Rng_bd h1
  by_cases h2 : hi - lo ≤ 8 * den
  · rw [decide_eq_true h2]
    cases h3 : Wn lo (-100 * den) (100 * den)
    · exact .inr (.inr (.inl ⟨rfl, h2, rfl, rfl, by omega, by omega, by omega, by omega, by omega, by omega⟩))
    · exact .inr (.inr (.inr ⟨rfl, h2, rfl, rfl, by omega, by omega, by omega, by omega, by omega, by omega⟩))
  · rw [decide_eq_false h2]
    exact .inr (.inl ⟨rfl, h2, rfl, by omega, by omega, by omega, by omega, by omega, by omega⟩)

theorem isSide_any (lo hi den : Int) (w : World) :
    Calls Try.prog 48 #[.agg #[.int .i64 lo, .int .i64 hi, .int .i64 den]] w fun e w' => e = .returned (.bool (Sid lo hi den)) ∧ Ext w w' := by
  have HV := fun w => Lib.hid (isValidRange_any lo hi den w)
  have HL := fun w => Lib.hid (within_any lo (-100 * den) (100 * den) w)
  have HH := fun w => Lib.hid (within_any hi (-100 * den) (100 * den) w)
  rcases Sid_ways lo hi den with ⟨h1, hr⟩ | ⟨h1, h2, hr, b1, b2, b3, b4, b5, b6⟩ | ⟨h1, h2, h3, hr, b1, b2, b3, b4, b5, b6⟩ | ⟨h1, h2, h3, hr, b1, b2, b3, b4, b5, b6⟩
  all_goals
    have HR := Lib.hid hr
    rw [h1] at HV
    try rw [h3] at HL
    clear hr h1
    try clear h3
    go_enter Try.func48, Try.ntmps48
    go_wp2_with fail
    refine ((HV _).out).mono ?_
    rintro e w1 ⟨rfl, hx1⟩
    obtain ⟨hc1, hf1⟩ := hx1.cells
    have hz1 := hx1.size
    try simp at hz1
    have hs1_0 := sz1 (a := w.heap.size) (b := w1.heap.size) (by omega)
    go_wp2_with (first | (go_at_call 65; ((with_reducible refine ((HL _).out).mono ?_); rintro e w' ⟨rfl, rfl⟩)) | (go_at_call 65; ((with_reducible refine ((HH _).out).mono ?_); rintro e w' ⟨rfl, rfl⟩)))
    go_ret
    exact ⟨ret_bool (by rw [HR.out]), (by repeat (first | exact Ext.refl _ | assumption | refine Ext.alloc ?_ _ | refine Ext.drew ?_ | refine Ext.drewN ?_ _ | refine Ext.setCell ?_ (by first | omega | (dsimp only; omega) | (simp; done) | (simp; omega)) _ | refine Ext.trans ?_ (by assumption)))⟩

theorem l25Side_any (lo hi den : Int) (w : World) :
    Calls Try.prog 45 #[.agg #[.int .i64 lo, .int .i64 hi, .int .i64 den]] w fun e w' => e = .returned (.bool (Sid lo hi den)) ∧ Ext w w' := by
  have HV := fun w => Lib.hid (l25Valid_any lo hi den w)
  rcases Sid_ways lo hi den with ⟨h1, hr⟩ | ⟨h1, h2, hr, b1, b2, b3, b4, b5, b6⟩ | ⟨h1, h2, h3, hr, b1, b2, b3, b4, b5, b6⟩ | ⟨h1, h2, h3, hr, b1, b2, b3, b4, b5, b6⟩
  case inl =>
    have HR := Lib.hid hr
    rw [h1] at HV
    clear hr h1
    go_enter Try.func45, Try.ntmps45
    go_wp2_with fail
    refine ((HV _).out).mono ?_
    rintro e w1 ⟨rfl, hx1⟩
    obtain ⟨hc1, hf1⟩ := hx1.cells
    have hz1 := hx1.size
    try simp at hz1
    have hs1_0 := sz1 (a := w.heap.size) (b := w1.heap.size) (by omega)
    go_wp2
    go_ret
    exact ⟨ret_bool (by rw [HR.out]), (by repeat (first | exact Ext.refl _ | assumption | refine Ext.alloc ?_ _ | refine Ext.drew ?_ | refine Ext.drewN ?_ _ | refine Ext.setCell ?_ (by first | omega | (dsimp only; omega) | (simp; done) | (simp; omega)) _ | refine Ext.trans ?_ (by assumption)))⟩
  case inr.inl =>
    have HR := Lib.hid hr
    rw [h1] at HV
    clear hr h1
    go_enter Try.func45, Try.ntmps45
    go_wp2_with fail
    refine ((HV _).out).mono ?_
    rintro e w1 ⟨rfl, hx1⟩
    obtain ⟨hc1, hf1⟩ := hx1.cells
    have hz1 := hx1.size
    try simp at hz1
    have hs1_0 := sz1 (a := w.heap.size) (b := w1.heap.size) (by omega)
    go_wp2
    go_ret
    exact ⟨ret_bool (by rw [HR.out]), (by repeat (first | exact Ext.refl _ | assumption | refine Ext.alloc ?_ _ | refine Ext.drew ?_ | refine Ext.drewN ?_ _ | refine Ext.setCell ?_ (by first | omega | (dsimp only; omega) | (simp; done) | (simp; omega)) _ | refine Ext.trans ?_ (by assumption)))⟩
  all_goals
    have HA : Hid (AllW [lo, hi] (-100 * den) (100 * den) = Sid lo hi den) := by unfold Hid; rw [allW2, h3, hr]; simp
    generalize Sid lo hi den = v at *
    rw [h1] at HV
    clear hr h1 h3
    go_enter Try.func45, Try.ntmps45
    go_wp2_with fail
    refine ((HV _).out).mono ?_
    rintro e w1 ⟨rfl, hx1⟩
    obtain ⟨hc1, hf1⟩ := hx1.cells
    have hz1 := hx1.size
    try simp at hz1
    have hs1_0 := sz1 (a := w.heap.size) (b := w1.heap.size) (by omega)
    go_wp2_with (go_at_call 61; ((with_reducible refine (l1All2_any lo hi _ _ _ _ _ (by simp [go_sem]) (by simp [go_sem])).mono ?_); rintro e w' ⟨rfl, rfl⟩))
    go_ret
    exact ⟨ret_bool (by rw [HA.out]), (by repeat (first | exact Ext.refl _ | assumption | refine Ext.alloc ?_ _ | refine Ext.drew ?_ | refine Ext.drewN ?_ _ | refine Ext.setCell ?_ (by first | omega | (dsimp only; omega) | (simp; done) | (simp; omega)) _ | refine Ext.trans ?_ (by assumption)))⟩

theorem lies_half (p q lo hi den : Int) : Lies (2 * p) q 1 (2 * lo) (2 * hi) den = Lies (2 * p) q 2 lo hi den := by
  unfold Lies
  rw [Int.one_mul, Int.one_mul]
theorem l25Half_any (p q lo hi den : Int) (h : Sid lo hi den = true) (hp : -110 ≤ p ∧ p ≤ 110) (hq : -300 ≤ q ∧ q ≤ 300) (w : World) :
    Calls Try.prog 46 #[.int .i64 p, .int .i64 q, .agg #[.int .i64 lo, .int .i64 hi, .int .i64 den]] w fun e w' => e = .returned (.bool (Lies (2 * p) q 2 lo hi den)) ∧ Ext w w' := by
  obtain ⟨a1, a2, a3, a4, a5, a6⟩ := Sid_bd h
  have d := Rng_bd a1
  have HI := fun w => Lib.hid (l25In_any (2 * p) q (2 * lo) (2 * hi) den ⟨by omega, by omega, by omega, by omega, by omega, by omega⟩ w)
  rw [lies_half] at HI
  generalize Lies (2 * p) q 2 lo hi den = v at *
  clear a1 h
  go_enter Try.func46, Try.ntmps46
  go_wp2_with fail
  refine ((HI _).out).mono ?_
  rintro e w1 ⟨rfl, hx1⟩
  obtain ⟨hc1, hf1⟩ := hx1.cells
  have hz1 := hx1.size
  try simp at hz1
  have hs1_0 := sz1 (a := w.heap.size) (b := w1.heap.size) (by omega)
  go_wp2
  go_ret
  exact ⟨rfl, (by repeat (first | exact Ext.refl _ | assumption | refine Ext.alloc ?_ _ | refine Ext.drew ?_ | refine Ext.drewN ?_ _ | refine Ext.setCell ?_ (by first | omega | (dsimp only; omega) | (simp; done) | (simp; omega)) _ | refine Ext.trans ?_ (by assumption)))⟩

/-- coefficients in order -/
def lsR (a b c d e f g h : Int) : Bool := if a = e then (if b = f then (if c = g then decide (d < h) else decide (c < g)) else decide (b < f)) else decide (a < e)
theorem lsR_ky {a b c d e f g h : Int} (hx : Bn4 (a, b, c, d)) (hy : Bn4 (e, f, g, h)) : lsR a b c d e f g h = true ↔ kyR (a, b, c, d) < kyR (e, f, g, h) := by
  unfold Bn4 at hx hy
  simp only at hx hy
  unfold lsR kyR
  simp only
  repeat' split
  all_goals
    rw [decide_eq_true_eq]
    omega
theorem l25Less_any (a b c d e f g h : Int) (w : World) :
    Calls Try.prog 73 #[.agg #[.int .i64 a, .int .i64 b, .int .i64 c, .int .i64 d], .agg #[.int .i64 e, .int .i64 f, .int .i64 g, .int .i64 h]] w fun en w' => en = .returned (.bool (lsR a b c d e f g h)) ∧ Ext w w' := by
  by_cases h1 : a = e
  case neg =>
    have HD : Hid (lsR a b c d e f g h = decide (a < e)) := by unfold Hid lsR; rw [if_neg h1]
    go_enter Try.func73, Try.ntmps73
    go_wp2
    go_ret
    exact ⟨ret_bool (by rw [HD.out]), (by repeat (first | exact Ext.refl _ | assumption | refine Ext.alloc ?_ _ | refine Ext.drew ?_ | refine Ext.drewN ?_ _ | refine Ext.setCell ?_ (by first | omega | (dsimp only; omega) | (simp; done) | (simp; omega)) _ | refine Ext.trans ?_ (by assumption)))⟩
  by_cases h2 : b = f
  case neg =>
    have HD : Hid (lsR a b c d e f g h = decide (b < f)) := by unfold Hid lsR; rw [if_pos h1, if_neg h2]
    go_enter Try.func73, Try.ntmps73
    go_wp2
    go_ret
    exact ⟨ret_bool (by rw [HD.out]), (by repeat (first | exact Ext.refl _ | assumption | refine Ext.alloc ?_ _ | refine Ext.drew ?_ | refine Ext.drewN ?_ _ | refine Ext.setCell ?_ (by first | omega | (dsimp only; omega) | (simp; done) | (simp; omega)) _ | refine Ext.trans ?_ (by assumption)))⟩
  by_cases h3 : c = g
  case neg =>
    have HD : Hid (lsR a b c d e f g h = decide (c < g)) := by unfold Hid lsR; rw [if_pos h1, if_pos h2, if_neg h3]
    go_enter Try.func73, Try.ntmps73
    go_wp2
    go_ret
    exact ⟨ret_bool (by rw [HD.out]), (by repeat (first | exact Ext.refl _ | assumption | refine Ext.alloc ?_ _ | refine Ext.drew ?_ | refine Ext.drewN ?_ _ | refine Ext.setCell ?_ (by first | omega | (dsimp only; omega) | (simp; done) | (simp; omega)) _ | refine Ext.trans ?_ (by assumption)))⟩
  case pos =>
    have HD : Hid (lsR a b c d e f g h = decide (d < h)) := by unfold Hid lsR; rw [if_pos h1, if_pos h2, if_pos h3]
    go_enter Try.func73, Try.ntmps73
    go_wp2
    go_ret
    exact ⟨ret_bool (by rw [HD.out]), (by repeat (first | exact Ext.refl _ | assumption | refine Ext.alloc ?_ _ | refine Ext.drew ?_ | refine Ext.drewN ?_ _ | refine Ext.setCell ?_ (by first | omega | (dsimp only; omega) | (simp; done) | (simp; omega)) _ | refine Ext.trans ?_ (by assumption)))⟩

theorem elt_ring : Elt Try.prog 40 51 4 32 := elt_of (z := .agg #[.int .i64 0, .int .i64 0, .int .i64 0, .int .i64 0]) (by kernel_rfl) (by kernel_rfl) rfl (by decide) (by decide)
/-- the number x at its place in the list -/
def PutR (L : List Q4) (x : Q4) (M : List Q4) : Prop := ∃ k, k ≤ L.length ∧ M = L.take k ++ x :: L.drop k ∧ (∀ y ∈ L.drop k, kyR x < kyR y) ∧ (k = 0 ∨ ∃ h : k - 1 < L.length, kyR L[k - 1] ≤ kyR x)

set_option maxRecDepth 20000 in
set_option maxHeartbeats 4000000 in
theorem l25Ring_any {v : Value} {n : Nat} {L : List Q4} (hn : L.length = n) (hn2 : n ≤ 2000000) (hb : ∀ y ∈ L, Bn4 y) (p q r s : Int) (hx : Bn4 (p, q, r, s)) (w : World) (h : RVt w 4 v n (fl4 L)) :
    Calls Try.prog 47 #[v, .agg #[.int .i64 p, .int .i64 q, .int .i64 r, .int .i64 s]] w fun e w' => ∃ v', e = .returned v' ∧ ∃ M, M.length = n + 1 ∧ PutR L (p, q, r, s) M ∧ w'.ownsRow w.heap.size 51 4 v' (n + 1) (IL (fl4 M)) ∧ Ext w w' := by
  rcases h.2 with ⟨rfl, rfl⟩ | ⟨b, off, cap, rfl, h1, h2, h3, h4⟩
  · obtain rfl : L = [] := List.eq_nil_of_length_eq_zero hn
    have HR0 : Hid (∀ W : World, RV W 4 (.slice none 0 0) 0 []) := fun W => ⟨rfl, none, 0, rfl, Nat.le_refl _, Nat.zero_le _, fun h => absurd h (by omega)⟩
    clear h hb hn
    go_enter Try.func47, Try.ntmps47
    go_wp2
    go_loopw [5] (fun i wr => i = .int .i64 0 ∧ Ext (w.alloc (.cells #[.int .i64 p, .int .i64 q, .int .i64 r, .int .i64 s] 51 (0, 0))) wr) (fun i _ => 0)
    case atStart => exact ⟨rfl, Ext.refl _⟩
    case round =>
      obtain ⟨rfl, hE⟩ := hrel
      go_wp2
      refine wp_region_madeC (m := 36) (by kernel_rfl) (by kernel_rfl) rfl (fun hxc => ?_)
      repeat (refine mw_quiet ?_; apply Exists.intro; refine ⟨fun σ => ?_, ?_⟩; (first | (go_simp; rfl) | fail); simp only [Act.put, List.setIfInBounds_toArray, List.set_cons_succ, List.set_cons_zero, List.nil_append, List.cons_append])
      refine ⟨by kernel_rfl, fun σ w2 hF2 => ?_⟩
      have hx2 := hF2.ext
      clear hF2 hxc
      obtain ⟨hc2, hf2⟩ := hx2.cells
      have hz2 := hx2.size
      try simp at hz2
      have hE := hE.trans hx2
      clear hx2 hc2 hf2 hz2
      have HE := Lib.hid (((Ext.refl w).alloc _).trans hE)
      have hw1 : w.heap.size + 1 ≤ w2.heap.size := by have := hE.size; simp at this; exact this
      have HBX := Lib.hid ((hE.heap (k := w.heap.size) (by simp)).trans (heap_alloc_new _ _))
      clear hE
      go_upto_region 5 with (at_builtin; go_loud (refine wpList_append_rvt (base := w2.heap.size) rfl elt_ring rfl (.slice (some ⟨w2.heap.size, 0, none⟩) 0 0) 0 [] rfl (own_zeroU (Nat.le_refl _) (heap_alloc_new _ _)) (.slice none 0 0) 0 [] rfl (HR0.out _) (by omega) (by simp) ?_); intro v4 w4 hown4 hgrow4 hiff4 hloc4; have hx4 : Ext w2 w4 := ext_grownB ((Ext.refl w2).alloc _) hgrow4 (own_zeroU (k := 4) (Nat.le_refl _) (heap_alloc_new _ _)) (Nat.le_refl _); rw [Nat.zero_add, List.nil_append] at hown4; have O4 := Lib.hid hown4; obtain ⟨a4, c4, rfl, _, _, _⟩ := own_shape hown4; have HX4 := Lib.hid hx4; have hb4 := (hx4.heap (k := w.heap.size) (by omega)).trans HBX.out; have z4 := fun k => cell_of_row _ _ k _ _ _ hb4; have l4 := (Array.getElem?_eq_some_iff.1 hb4).1; have s4 := hx4.size; clear hown4 hgrow4 hiff4 hloc4 hx4 hb4)
      have O5 := Lib.hid (own_ext O4.out ((Ext.refl w4).alloc (.cells #[.int .i64 p, .int .i64 q, .int .i64 r, .int .i64 s] 51 (0, 0))))
      have M5 := Lib.hid (heap_alloc_new w4 (.cells #[.int .i64 p, .int .i64 q, .int .i64 r, .int .i64 s] 51 (0, 0)))
      go_upto_region 6 with (at_builtin; go_loud (refine wpList_append_rvt (base := w2.heap.size) rfl elt_ring rfl (.slice a4 0 c4) 0 [] rfl O5.out _ 1 [p, q, r, s] rfl (rv_heap M5.out rfl rfl (by omega) (by decide)) (by omega) (by simp; omega) ?_); intro v5 w5 hown5 hgrow5 hiff5 hloc5)
      have hx5 : Ext w2 w5 := ext_grownB (HX4.out.alloc _) hgrow5 O5.out (Nat.le_refl _)
      rw [Nat.zero_add, List.nil_append] at hown5
      have O6 := Lib.hid hown5
      obtain ⟨a5, c5, rfl, _, _, _⟩ := own_shape hown5
      have HX5 := Lib.hid hx5
      have s5 := hx5.size
      clear hown5 hgrow5 hiff5 hloc5 hx5 z4
      go_wp2_with (at_builtin; go_loud (refine wpList_append_rvt (base := w2.heap.size) rfl elt_ring rfl (.slice a5 1 c5) 1 _ rfl O6.out (.slice none 0 0) 0 [] rfl (HR0.out _) (by omega) (by omega) ?_); intro v6 w6 hown6 hgrow6 hiff6 hloc6)
      have hx6 : Ext w2 w6 := ext_grownB HX5.out hgrow6 O6.out (Nat.le_refl _)
      have O7 := Lib.hid hown6
      have HX6 := Lib.hid hx6
      clear hown6 hgrow6 hiff6 hloc6 hx6
      go_wp2
      go_ret
      have h7 := O7.out
      rw [List.append_nil] at h7
      refine ⟨_, rfl, [(p, q, r, s)], rfl, ⟨0, Nat.le_refl _, rfl, fun y hy => (by cases hy), .inl rfl⟩, own_base h7 (by omega), HE.out.trans HX6.out⟩
  have HBX4 := Lib.hid hx
  have HB : Hid (∀ k, (hk : k < n) → ∃ h : k < L.length, Bn4 L[k] ∧ L[k] = (at3 (fl4 L) (k * 4), at3 (fl4 L) (k * 4 + 1), at3 (fl4 L) (k * 4 + 2), at3 (fl4 L) (k * 4 + 3))) := fun k hk => by
    have hl : k < L.length := by omega
    have e := at3_fl4 L k hl
    exact ⟨hl, hb _ (List.getElem_mem hl), by rw [e.1, e.2.1, e.2.2.1, e.2.2.2]⟩
  have HL := Lib.hid h.1
  have HC : Hid (∀ W, Ext w W → ∀ k, k < n → W.cell? ⟨b, off + k * 4, none⟩ = some (.int .i64 (at3 (fl4 L) (k * 4))) ∧ W.cell? ⟨b, off + k * 4 + 1, none⟩ = some (.int .i64 (at3 (fl4 L) (k * 4 + 1))) ∧ W.cell? ⟨b, off + k * 4 + 2, none⟩ = some (.int .i64 (at3 (fl4 L) (k * 4 + 2))) ∧ W.cell? ⟨b, off + k * 4 + 3, none⟩ = some (.int .i64 (at3 (fl4 L) (k * 4 + 3)))) := fun W hW k hk => by
    have l0 := h.1
    refine ⟨?_, ?_, ?_, ?_⟩
    · rw [hW.cells.1 _ _ h3, h4 _ _ (at3_get (by omega))]
    · rw [Nat.add_assoc, hW.cells.1 _ _ h3, h4 _ _ (at3_get (by omega))]
    · rw [Nat.add_assoc, hW.cells.1 _ _ h3, h4 _ _ (at3_get (by omega))]
    · rw [Nat.add_assoc, hW.cells.1 _ _ h3, h4 _ _ (at3_get (by omega))]
  have H4 := Lib.hid h4
  have HD0 : Hid (∀ y ∈ L.drop n, kyR (p, q, r, s) < kyR y) := by intro y hy; rw [List.drop_of_length_le (by omega)] at hy; cases hy
  clear h h4 hb hx
  go_enter Try.func47, Try.ntmps47
  go_wp2
  go_loopw [5] (fun i wr => ∃ k : Nat, k ≤ n ∧ i = .int .i64 k ∧ Hid (∀ y ∈ L.drop k, kyR (p, q, r, s) < kyR y) ∧ Ext (w.alloc (.cells #[.int .i64 p, .int .i64 q, .int .i64 r, .int .i64 s] 51 (0, 0))) wr) (fun i _ => (intOf i).toNat)
  case atStart => exact ⟨n, Nat.le_refl _, rfl, HD0, Ext.refl _⟩
  case round =>
    obtain ⟨k, hk, rfl, HD, hE⟩ := hrel
    rcases Nat.eq_zero_or_pos k with hk0 | hk0
    · subst hk0
      have HK : Hid (0 = 0 ∨ ∃ h : 0 - 1 < L.length, kyR L[0 - 1] ≤ kyR (p, q, r, s)) := .inl rfl
      go_wp2
      refine wp_region_madeC (m := 36) (by kernel_rfl) (by kernel_rfl) rfl (fun hxc => ?_)
      repeat (refine mw_quiet ?_; apply Exists.intro; refine ⟨fun σ => ?_, ?_⟩; (first | (go_simp; rfl) | fail); simp only [Act.put, List.setIfInBounds_toArray, List.set_cons_succ, List.set_cons_zero, List.nil_append, List.cons_append])
      refine ⟨by kernel_rfl, fun σ w2 hF2 => ?_⟩
      have hx2 := hF2.ext
      clear hF2 hxc
      obtain ⟨hc2, hf2⟩ := hx2.cells
      have hz2 := hx2.size
      try simp at hz2
      have hE := hE.trans hx2
      clear hx2 hc2 hf2 hz2
      have HE := Lib.hid (((Ext.refl w).alloc _).trans hE)
      have hw1 : w.heap.size + 1 ≤ w2.heap.size := by have := hE.size; simp at this; exact this
      have HBX := Lib.hid ((hE.heap (k := w.heap.size) (by simp)).trans (heap_alloc_new _ _))
      have hbr : b < w2.heap.size := by omega
      have HR1 : Hid (∀ W : World, RV W 4 (.slice (some ⟨b, off, none⟩) 0 cap) 0 []) := fun W => ⟨rfl, _, cap, rfl, Nat.zero_le _, h2, fun h => absurd h (by omega)⟩
      have HR3 : Hid (∀ W, Ext w W → RV W 4 (.slice (some ⟨b, off, none⟩) n cap) n ((fl4 L).take (n * 4))) := fun W hW => rvt_head HL.out (by have := hW.size; omega) (fun i u hu => (hW.cells.1 b (off + i) h3).trans (H4.out i u hu)) n (Nat.le_refl _) h1 h2
      have hkc : (0 : Int) ≤ cap := by omega
      have hkc' : 0 ≤ cap := by omega
      have hkn : (0 : Int) ≤ n := by omega
      have hnc : (n : Int) ≤ cap := by omega
      have hE1 := hE
      clear hE
      go_upto_region 5 with (at_builtin; go_loud (refine wpList_append_rvt (base := w2.heap.size) rfl elt_ring rfl (.slice (some ⟨w2.heap.size, 0, none⟩) 0 0) 0 [] rfl (own_zeroU (Nat.le_refl _) (heap_alloc_new _ _)) (.slice (some ⟨b, off, none⟩) 0 cap) 0 [] rfl (HR1.out _) (by omega) (by simp) ?_); intro v4 w4 hown4 hgrow4 hiff4 hloc4; have hx4 : Ext w2 w4 := ext_grownB ((Ext.refl w2).alloc _) hgrow4 (own_zeroU (k := 4) (Nat.le_refl _) (heap_alloc_new _ _)) (Nat.le_refl _); rw [Nat.zero_add, List.nil_append] at hown4; have O4 := Lib.hid hown4; obtain ⟨a4, c4, rfl, _, _, _⟩ := own_shape hown4; have HX4 := Lib.hid hx4; have hb4 := (hx4.heap (k := w.heap.size) (by omega)).trans HBX.out; have z4 := fun kk => cell_of_row _ _ kk _ _ _ hb4; have l4 := (Array.getElem?_eq_some_iff.1 hb4).1; have s4 := hx4.size; clear hown4 hgrow4 hiff4 hloc4 hx4 hb4)
      have O5 := Lib.hid (own_ext O4.out ((Ext.refl w4).alloc (.cells #[.int .i64 p, .int .i64 q, .int .i64 r, .int .i64 s] 51 (0, 0))))
      have M5 := Lib.hid (heap_alloc_new w4 (.cells #[.int .i64 p, .int .i64 q, .int .i64 r, .int .i64 s] 51 (0, 0)))
      go_upto_region 6 with (at_builtin; go_loud (refine wpList_append_rvt (base := w2.heap.size) rfl elt_ring rfl (.slice a4 0 c4) 0 [] rfl O5.out _ 1 [p, q, r, s] rfl (rv_heap M5.out rfl rfl (by omega) (by decide)) (by omega) (by simp; omega) ?_); intro v5 w5 hown5 hgrow5 hiff5 hloc5)
      have hx5 : Ext w2 w5 := ext_grownB (HX4.out.alloc _) hgrow5 O5.out (Nat.le_refl _)
      rw [Nat.zero_add, List.nil_append] at hown5
      have O6 := Lib.hid hown5
      obtain ⟨a5, c5, rfl, _, _, _⟩ := own_shape hown5
      have HX5 := Lib.hid hx5
      have R6 := Lib.hid (HR3.out w5 (HE.out.trans hx5))
      have s5 := hx5.size
      clear hown5 hgrow5 hiff5 hloc5 hx5 z4
      go_wp2_with (at_builtin; go_loud (refine wpList_append_rvt (base := w2.heap.size) rfl elt_ring rfl (.slice a5 1 c5) 1 _ rfl O6.out _ n _ rfl R6.out (by omega) (by omega) ?_); intro v6 w6 hown6 hgrow6 hiff6 hloc6)
      have hx6 : Ext w2 w6 := ext_grownB HX5.out hgrow6 O6.out (Nat.le_refl _)
      have O7 := Lib.hid hown6
      have HX6 := Lib.hid hx6
      clear hown6 hgrow6 hiff6 hloc6 hx6
      go_wp2
      go_ret
      have hM : IL ([p, q, r, s] ++ (fl4 L).take (n * 4)) = IL (fl4 ((p, q, r, s) :: L)) := by
        rw [List.take_of_length_le (by rw [HL.out]; omega)]
        rfl
      have h7 := O7.out
      rw [hM, Nat.add_comm 1 n] at h7
      rw [Nat.add_comm 1 n] at *
      refine ⟨_, rfl, (p, q, r, s) :: L, ?_, ⟨0, by omega, by simp, HD.out, .inl rfl⟩, own_base h7 (by omega), HE.out.trans HX6.out⟩
      rw [List.length_cons]
      omega
    · obtain ⟨j, hj⟩ : ∃ j, k = j + 1 := ⟨k - 1, by omega⟩
      obtain ⟨z0, z1, z2, z3⟩ := HC.out wr (((Ext.refl w).alloc _).trans hE) j (by omega)
      obtain ⟨hjl, hjb, e1⟩ := HB.out j (by omega)
      have HE12 := Lib.hid e1
      have hbx0 := (hE.heap (k := w.heap.size) (by simp)).trans (heap_alloc_new _ _)
      have zx := fun k => cell_of_row _ _ k _ _ _ hbx0
      have lx := (Array.getElem?_eq_some_iff.1 hbx0).1
      have lbr : b < wr.heap.size := by omega
      have hkj : (k : Int) - 1 = j := by omega
      have hkp : (0 : Int) < k := by omega
      have HKJ := Lib.hid hj
      rw [e1] at hjb
      clear hbx0 e1
      generalize at3 (fl4 L) (j * 4) = x0 at *
      generalize at3 (fl4 L) (j * 4 + 1) = x1 at *
      generalize at3 (fl4 L) (j * 4 + 2) = x2 at *
      generalize at3 (fl4 L) (j * 4 + 3) = x3 at *
      have HS := fun w => Lib.hid (l25Less_any p q r s x0 x1 x2 x3 w)
      have HKY : Hid (lsR p q r s x0 x1 x2 x3 = true ↔ kyR (p, q, r, s) < kyR (x0, x1, x2, x3)) := lsR_ky HBX4.out hjb
      clear hjb
      cases hlt : lsR p q r s x0 x1 x2 x3
      case true =>
        rw [hlt] at HS
        have HD' : Hid (∀ y ∈ L.drop j, kyR (p, q, r, s) < kyR y) := fun y hy => by
          rw [List.drop_eq_getElem_cons hjl] at hy
          rcases List.mem_cons.1 hy with rfl | hy
          · rw [HE12.out]
            exact HKY.out.1 hlt
          · exact HD.out y (by rw [HKJ.out]; exact hy)
        clear hlt HKY
        have hjn : (j : Int) < n := by omega
        have hjn' : j < n := by omega
        have hwr : IntKind.i64.wrap (j : Int) = j := IntWalk.i64_in _ (by omega)
        have hw2 : wrap64 (j : Int) = j := by rw [← IntWalk.i64_left]; exact hwr
        clear hj
        go_wp2
        refine wp_region_madeC (m := 36) (by kernel_rfl) (by kernel_rfl) rfl (fun hxc => ?_)
        repeat (refine mw_quiet ?_; apply Exists.intro; refine ⟨fun σ => ?_, ?_⟩; (first | (go_simp; rfl) | (go_simp; intro x; first | (go_at_call 73; exact (HS _).out))); simp only [Act.put, List.setIfInBounds_toArray, List.set_cons_succ, List.set_cons_zero, List.nil_append, List.cons_append])
        refine ⟨by kernel_rfl, fun σ w2 hF2 => ?_⟩
        have hx2 := hF2.ext
        clear hF2 hxc
        obtain ⟨hc2, hf2⟩ := hx2.cells
        have hz2 := hx2.size
        try simp at hz2
        clear hwr hw2
        go_wp2
        go_roundw
        case rel => exact ⟨j, by omega, by first | rfl | trivial, HD'.out, hE.trans hx2⟩
        case measure => have := HKJ.out; simp [intOf]; omega
      case false =>
        rw [hlt] at HS
        have HK : Hid (k = 0 ∨ ∃ h : k - 1 < L.length, kyR L[k - 1] ≤ kyR (p, q, r, s)) := .inr (by
          have hkk := HKJ.out
          subst hkk
          have e4 : ¬ (kyR (p, q, r, s) < kyR (x0, x1, x2, x3)) := fun h => by have := HKY.out.2 h; rw [hlt] at this; cases this
          have e3 : L[j + 1 - 1]'(by omega) = L[j] := rfl
          refine ⟨by omega, ?_⟩
          rw [e3, HE12.out]
          omega)
        clear hlt HKY
        have hjn : (j : Int) < n := by omega
        have hjn' : j < n := by omega
        have hwr : IntKind.i64.wrap (j : Int) = j := IntWalk.i64_in _ (by omega)
        have hw2 : wrap64 (j : Int) = j := by rw [← IntWalk.i64_left]; exact hwr
        clear hj
        go_wp2
        refine wp_region_madeC (m := 36) (by kernel_rfl) (by kernel_rfl) rfl (fun hxc => ?_)
        repeat (refine mw_quiet ?_; apply Exists.intro; refine ⟨fun σ => ?_, ?_⟩; (first | (go_simp; rfl) | (go_simp; intro x; first | (go_at_call 73; exact (HS _).out))); simp only [Act.put, List.setIfInBounds_toArray, List.set_cons_succ, List.set_cons_zero, List.nil_append, List.cons_append])
        refine ⟨by kernel_rfl, fun σ w2 hF2 => ?_⟩
        have hx2 := hF2.ext
        clear hF2 hxc
        obtain ⟨hc2, hf2⟩ := hx2.cells
        have hz2 := hx2.size
        try simp at hz2
        clear hwr hw2
        have hE := hE.trans hx2
        clear hx2 hc2 hf2 hz2
        have HE := Lib.hid (((Ext.refl w).alloc _).trans hE)
        have hw1 : w.heap.size + 1 ≤ w2.heap.size := by have := hE.size; simp at this; exact this
        have HBX := Lib.hid ((hE.heap (k := w.heap.size) (by simp)).trans (heap_alloc_new _ _))
        have hbr : b < w2.heap.size := by omega
        have HR1 : Hid (∀ W, Ext w W → RV W 4 (.slice (some ⟨b, off, none⟩) k cap) k ((fl4 L).take (k * 4))) := fun W hW => rvt_head HL.out (by have := hW.size; omega) (fun i u hu => (hW.cells.1 b (off + i) h3).trans (H4.out i u hu)) k hk (by omega) h2
        have HR3 : Hid (∀ W, Ext w W → RV W 4 (.slice (if cap = k then some ⟨b, off, none⟩ else some ⟨b, off + k * 4, none⟩) (n - k) (cap - k)) (n - k) (((fl4 L).drop (k * 4)).take ((n - k) * 4))) := fun W hW =>
          rvt_cut HL.out (by have := hW.size; omega) (fun i u hu => (hW.cells.1 b (off + i) h3).trans (H4.out i u hu)) h1 h2 hk
        have hkc : (k : Int) ≤ cap := by omega
        have hkc' : k ≤ cap := by omega
        have hkn : (k : Int) ≤ n := by omega
        have hnc : (n : Int) ≤ cap := by omega
        have hE1 := hE
        clear hE
        rcases Decidable.em (cap = k) with hcE | hcE
        all_goals
          first
            | (have pE := eq_false hcE)
            | (have pE := eq_true hcE)
          have HCE := Lib.hid hcE
          clear hcE
          go_upto_region 5 with (at_builtin; go_loud (refine wpList_append_rvt (base := w2.heap.size) rfl elt_ring rfl (.slice (some ⟨w2.heap.size, 0, none⟩) 0 0) 0 [] rfl (own_zeroU (Nat.le_refl _) (heap_alloc_new _ _)) (.slice (some ⟨b, off, none⟩) k cap) k ((fl4 L).take (k * 4)) rfl (HR1.out _ (HE.out.alloc _)) (by omega) (by simp) ?_); intro v4 w4 hown4 hgrow4 hiff4 hloc4; have hx4 : Ext w2 w4 := ext_grownB ((Ext.refl w2).alloc _) hgrow4 (own_zeroU (k := 4) (Nat.le_refl _) (heap_alloc_new _ _)) (Nat.le_refl _); rw [Nat.zero_add, List.nil_append] at hown4; have O4 := Lib.hid hown4; obtain ⟨a4, c4, rfl, _, _, _⟩ := own_shape hown4; have HX4 := Lib.hid hx4; have hb4 := (hx4.heap (k := w.heap.size) (by omega)).trans HBX.out; have z4 := fun k => cell_of_row _ _ k _ _ _ hb4; have l4 := (Array.getElem?_eq_some_iff.1 hb4).1; have s4 := hx4.size; clear hown4 hgrow4 hiff4 hloc4 hx4 hb4)
          have O5 := Lib.hid (own_ext O4.out ((Ext.refl w4).alloc (.cells #[.int .i64 p, .int .i64 q, .int .i64 r, .int .i64 s] 51 (0, 0))))
          have M5 := Lib.hid (heap_alloc_new w4 (.cells #[.int .i64 p, .int .i64 q, .int .i64 r, .int .i64 s] 51 (0, 0)))
          go_upto_region 6 with (at_builtin; go_loud (refine wpList_append_rvt (base := w2.heap.size) rfl elt_ring rfl (.slice a4 k c4) k ((fl4 L).take (k * 4)) rfl O5.out _ 1 [p, q, r, s] rfl (rv_heap M5.out rfl rfl (by omega) (by decide)) (by omega) (by simp; omega) ?_); intro v5 w5 hown5 hgrow5 hiff5 hloc5)
          have hx5 : Ext w2 w5 := ext_grownB (HX4.out.alloc _) hgrow5 O5.out (Nat.le_refl _)
          have O6 := Lib.hid hown5
          obtain ⟨a5, c5, rfl, _, _, _⟩ := own_shape hown5
          have HX5 := Lib.hid hx5
          have R6 := Lib.hid (HR3.out w5 (HE.out.trans hx5))
          simp only [pE, if_true, if_false] at R6
          have s5 := hx5.size
          clear hown5 hgrow5 hiff5 hloc5 hx5 z4
          go_wp2_with (at_builtin; go_loud (refine wpList_append_rvt (base := w2.heap.size) rfl elt_ring rfl (.slice a5 (k + 1) c5) (k + 1) _ rfl O6.out _ (n - k) _ rfl R6.out (by omega) (by omega) ?_); intro v6 w6 hown6 hgrow6 hiff6 hloc6)
          have hx6 : Ext w2 w6 := ext_grownB HX5.out hgrow6 O6.out (Nat.le_refl _)
          have O7 := Lib.hid hown6
          have HX6 := Lib.hid hx6
          clear hown6 hgrow6 hiff6 hloc6 hx6
          go_wp2
          go_ret
          have hM : IL (((fl4 L).take (k * 4) ++ [p, q, r, s]) ++ ((fl4 L).drop (k * 4)).take ((n - k) * 4)) = IL (fl4 (L.take k ++ (p, q, r, s) :: L.drop k)) := by
            rw [List.take_of_length_le (l := (fl4 L).drop (k * 4)) (by rw [List.length_drop, HL.out]; omega), fl4_append]
            simp only [fl4, fl4_take, fl4_drop, List.append_assoc, List.cons_append, List.nil_append]
          have h7 := O7.out
          rw [hM, show k + 1 + (n - k) = n + 1 by omega] at h7
          rw [show k + 1 + (n - k) = n + 1 by omega] at *
          refine ⟨_, rfl, L.take k ++ (p, q, r, s) :: L.drop k, ?_, ⟨k, by omega, rfl, HD.out, HK.out⟩, own_base h7 (by omega), HE.out.trans HX6.out⟩
          rw [List.length_append, List.length_cons, List.length_take, List.length_drop]
          omega

end Go.Proofs.Ytojoljffaedpfaa
