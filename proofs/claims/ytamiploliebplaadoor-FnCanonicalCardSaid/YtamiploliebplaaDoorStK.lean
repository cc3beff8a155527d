/- Texts of rings and of dyadic numbers on both sides. -/
import Derived.Test.YtamiploliebplaaDoorSt
import Derived.Test.YtamiploliebplaaDoorCpI
import Derived.Test.YtamiploliebplaaDoorCpS
namespace Go.Proofs.YtamiploliebplaaDoor
open Go.RowKit
set_option linter.unusedVariables false
set_option linter.unusedSimpArgs false

/-- the text of a ring number -/
def rT (X : R4) : List UInt8 := Lib.join (IT [X.a, X.b, X.c, X.d]) [32]
/-- the text of a dyadic number -/
def dT (X : R4) (e : Int) : List UInt8 := rT X ++ 47 :: Lib.itoa e

theorem sm_of_rg {X : R4} (h : X.rg = true) : Sm X.a ∧ Sm X.b ∧ Sm X.c ∧ Sm X.d := by
  obtain ⟨b1, b2, b3, b4⟩ := Rg_bd h
  unfold Sm
  omega
theorem rT_eq (X : R4) : BA (rT X) = BA (Lib.itoa X.a) ++ BA [32] ++ BA (Lib.itoa X.b) ++ BA [32] ++ BA (Lib.itoa X.c) ++ BA [32] ++ BA (Lib.itoa X.d) := by
  simp only [ba_app]
  congr 1
  simp [rT, IT, Lib.join]
theorem rT_len {X : R4} (h : X.rg = true) : (BA (rT X)).size ≤ 100 := by
  obtain ⟨s1, s2, s3, s4⟩ := sm_of_rg h
  have l1 := itoa_len _ s1
  have l2 := itoa_len _ s2
  have l3 := itoa_len _ s3
  have l4 := itoa_len _ s4
  rw [ba_size, ← ba_size, rT_eq]
  simp only [ba_app, ba_size, List.length_append, List.length_cons, List.length_nil]
  omega
theorem dT_eq (X : R4) (e : Int) : BA (dT X e) = BA (rT X) ++ BA [47] ++ BA (Lib.itoa e) := by
  simp only [ba_app]
  congr 1
  simp [dT]
theorem dT_len {X : R4} {e : Int} (h : GD X e = true) : (dT X e).length ≤ 120 := by
  obtain ⟨h1, h2, h3⟩ : X.rg = true ∧ 0 ≤ e ∧ e ≤ 60 := by
    simp only [GD, Bool.and_eq_true, decide_eq_true_eq] at h
    exact ⟨h.1.1, h.1.2.1, h.1.2.2⟩
  have l1 := rT_len h1
  rw [ba_size] at l1
  have l2 := itoa_len e (by unfold Sm; omega)
  simp only [dT, List.length_append, List.length_cons]
  omega

set_option maxHeartbeats 2000000 in
theorem formatRing_any (X : R4) (hX : X.rg = true) (w : World) (hT : Tab w) :
    Calls Tryd.prog 44 #[.agg #[.int .i64 X.a, .int .i64 X.b, .int .i64 X.c, .int .i64 X.d]] w fun en w' => en = .returned (.tuple #[.string (BA (rT X)), .bool true]) ∧ Ext w w' := by
  have HV : ∀ w', Hid (Calls Tryd.prog 61 #[.agg #[.int .i64 X.a, .int .i64 X.b, .int .i64 X.c, .int .i64 X.d]] w' fun e w'' => e = .returned (.bool true) ∧ Ext w' w'') := fun w' => by
    have := isValidRing_any X.a X.b X.c X.d w'
    rw [show Rg X.a X.b X.c X.d = true from hX] at this
    exact this
  obtain ⟨s1, s2, s3, s4⟩ := sm_of_rg hX
  have HJ := fun w' (hx : Ext w w') B t (h : w'.heap[B]? = some (Obj.cells #[.int .i64 X.a, .int .i64 X.b, .int .i64 X.c, .int .i64 X.d] t (0, 0))) => Lib.hid (joinInts_any (n := 4) (xs := [X.a, X.b, X.c, X.d]) (by omega) (fun x hx => by
    simp only [List.mem_cons, List.not_mem_nil, or_false] at hx
    rcases hx with rfl | rfl | rfl | rfl <;> assumption) [32] (by decide) w' (hT.ext hx) (rv_lit4 h))
  rw [show Lib.join (IT [X.a, X.b, X.c, X.d]) [32] = rT X from rfl, show BA [32] = ⟨#[32]⟩ from rfl] at HJ
  clear hX s1 s2 s3 s4
  generalize BA (rT X) = S at *
  go_enter Tryd.func44, Tryd.ntmps44
  go_wp2_with fail
  refine ((HV _).out).mono ?_
  rintro e w1 ⟨rfl, hx1⟩
  obtain ⟨hc1, hf1⟩ := hx1.cells
  have hz1 := hx1.size
  try simp at hz1
  have hs1_0 := sz1 (a := w.heap.size) (b := w1.heap.size) (by omega)
  go_wp2_with fail
  refine ((HJ _ (by repeat (first | exact Ext.refl _ | assumption | refine Ext.alloc ?_ _ | refine Ext.drew ?_ | refine Ext.drewN ?_ _ | refine Ext.setCell ?_ (by first | omega | (dsimp only; omega) | (simp; done) | (simp; omega)) _ | refine Ext.trans ?_ (by assumption))) _ _ (heap_alloc_at _ _ _ (by simp))).out).mono ?_
  rintro e w2 ⟨rfl, hx2⟩
  go_wp2
  refine bodyPost_ret (v := .tuple #[.string S, .bool true]) (by simp [results, Tryd.results44, go_sem, *]) rfl ?_
  exact ⟨rfl, (by repeat (first | exact Ext.refl _ | assumption | refine Ext.alloc ?_ _ | refine Ext.drew ?_ | refine Ext.drewN ?_ _ | refine Ext.setCell ?_ (by first | omega | (dsimp only; omega) | (simp; done) | (simp; omega)) _ | refine Ext.trans ?_ (by assumption)))⟩

theorem strcat_ok {a b : ByteArray} (A B : Nat) (ha : a.size ≤ A) (hb : b.size ≤ B) (h : A + B ≤ 1000000000) : ¬ 9223372036854775807 < a.size + b.size ∧ (a ++ b).size ≤ A + B := ⟨by omega, by rw [ByteArray.size_append]; omega⟩

set_option maxHeartbeats 2000000 in
theorem l1Text_any (X : R4) (hX : X.rg = true) (w : World) :
    Calls Tryd.prog 74 #[.agg #[.int .i64 X.a, .int .i64 X.b, .int .i64 X.c, .int .i64 X.d]] w fun en w' => en = .returned (.string (BA (rT X))) ∧ Ext w w' := by
  obtain ⟨s1, s2, s3, s4⟩ := sm_of_rg hX
  have H1 := fun w' => Lib.hid (l1Int_any X.a s1 w')
  have H2 := fun w' => Lib.hid (l1Int_any X.b s2 w')
  have H3 := fun w' => Lib.hid (l1Int_any X.c s3 w')
  have H4 := fun w' => Lib.hid (l1Int_any X.d s4 w')
  rw [rT_eq, show BA [32] = ⟨#[32]⟩ from rfl]
  have z1 := itoa_size _ s1
  have z2 := itoa_size _ s2
  have z3 := itoa_size _ s3
  have z4 := itoa_size _ s4
  clear hX s1 s2 s3 s4
  generalize BA (Lib.itoa X.a) = S1 at *
  generalize BA (Lib.itoa X.b) = S2 at *
  generalize BA (Lib.itoa X.c) = S3 at *
  generalize BA (Lib.itoa X.d) = S4 at *
  have d1 : ¬ 9223372036854775807 < S1.size + 1 := by omega
  have d2 : ¬ 9223372036854775807 < S1.size + 1 + S2.size := by omega
  have d3 : ¬ 9223372036854775807 < S1.size + 1 + S2.size + 1 := by omega
  have d4 : ¬ 9223372036854775807 < S1.size + 1 + S2.size + 1 + S3.size := by omega
  have d5 : ¬ 9223372036854775807 < S1.size + 1 + S2.size + 1 + S3.size + 1 := by omega
  have d6 : ¬ 9223372036854775807 < S1.size + 1 + S2.size + 1 + S3.size + 1 + S4.size := by omega
  clear z1 z2 z3 z4
  obtain ⟨xa, xb, xc, xd⟩ := X
  dsimp only at H1 H2 H3 H4 ⊢
  go_enter Tryd.func74, Tryd.ntmps74
  go_wp2
  refine wp_region_xt (by kernel_rfl) (by kernel_rfl) (fun hxc => ?_)
  repeat (first | go_big_quiet_step ((first | (go_at_call 93; with_reducible exact calls_xt ((H1 _).out)) | (go_at_call 93; with_reducible exact calls_xt ((H2 _).out)) | (go_at_call 93; with_reducible exact calls_xt ((H3 _).out)) | (go_at_call 93; with_reducible exact calls_xt ((H4 _).out)))) | quiet_step ((first | (go_at_call 93; with_reducible exact calls_xt ((H1 _).out)) | (go_at_call 93; with_reducible exact calls_xt ((H2 _).out)) | (go_at_call 93; with_reducible exact calls_xt ((H3 _).out)) | (go_at_call 93; with_reducible exact calls_xt ((H4 _).out)))))
  refine wpQuiet_nil (forall_xt ?_)
  clear hxc
  intro w1 hx1
  obtain ⟨hc1, hf1⟩ := hx1.cells
  have hz1 := hx1.size
  try simp at hz1
  have hs1_0 := sz1 (a := w.heap.size) (b := w1.heap.size) (by omega)
  go_wp2
  go_ret
  exact ⟨rfl, (by repeat (first | exact Ext.refl _ | assumption | refine Ext.alloc ?_ _ | refine Ext.drew ?_ | refine Ext.drewN ?_ _ | refine Ext.setCell ?_ (by first | omega | (dsimp only; omega) | (simp; done) | (simp; omega)) _ | refine Ext.trans ?_ (by assumption)))⟩

set_option maxHeartbeats 2000000 in
theorem formatDyadic_any (X : R4) (e : Int) (hG : GD X e = true) (w : World) (hT : Tab w) :
    Calls Tryd.prog 20 #[.agg #[.int .i64 X.a, .int .i64 X.b, .int .i64 X.c, .int .i64 X.d, .int .i64 e]] w fun en w' => en = .returned (.tuple #[.string (BA (dT X e)), .bool true]) ∧ Ext w w' := by
  have HV : ∀ w', Hid (Calls Tryd.prog 43 #[.agg #[.int .i64 X.a, .int .i64 X.b, .int .i64 X.c, .int .i64 X.d, .int .i64 e]] w' fun e w'' => e = .returned (.bool true) ∧ Ext w' w'') := fun w' => by
    have := isValidDyadic_any X.a X.b X.c X.d e w'
    rw [show GD ⟨X.a, X.b, X.c, X.d⟩ e = true from hG] at this
    exact this
  obtain ⟨h1, h2, h3⟩ : X.rg = true ∧ 0 ≤ e ∧ e ≤ 60 := by
    simp only [GD, Bool.and_eq_true, decide_eq_true_eq] at hG
    exact ⟨hG.1.1, hG.1.2.1, hG.1.2.2⟩
  have sE : Sm e := by unfold Sm; omega
  have HR := fun w' (hx : Ext w w') => Lib.hid (formatRing_any X h1 w' (hT.ext hx))
  have HI := fun w' (hx : Ext w w') => Lib.hid (itoa_any e sE.wi w' (hT.ext hx))
  have z1 := rT_len h1
  have z2 := itoa_size _ sE
  rw [dT_eq, show BA [47] = ⟨#[47]⟩ from rfl]
  clear hG h1 sE
  generalize BA (rT X) = S at *
  generalize BA (Lib.itoa e) = E at *
  have d1 : ¬ 9223372036854775807 < S.size + 1 := by omega
  have d2 : ¬ 9223372036854775807 < S.size + 1 + E.size := by omega
  clear z1 z2
  go_enter Tryd.func20, Tryd.ntmps20
  go_wp2_with fail
  refine ((HV _).out).mono ?_
  rintro e w1 ⟨rfl, hx1⟩
  obtain ⟨hc1, hf1⟩ := hx1.cells
  have hz1 := hx1.size
  try simp at hz1
  have hs1_0 := sz1 (a := w.heap.size) (b := w1.heap.size) (by omega)
  go_wp2_with fail
  refine ((HR _ (by repeat (first | exact Ext.refl _ | assumption | refine Ext.alloc ?_ _ | refine Ext.drew ?_ | refine Ext.drewN ?_ _ | refine Ext.setCell ?_ (by first | omega | (dsimp only; omega) | (simp; done) | (simp; omega)) _ | refine Ext.trans ?_ (by assumption)))).out).mono ?_
  rintro e w2 ⟨rfl, hx2⟩
  obtain ⟨hc2, hf2⟩ := hx2.cells
  have hz2 := hx2.size
  try simp at hz2
  have hs2_0 := sz1 (a := w.heap.size) (b := w2.heap.size) (by omega)
  go_wp2_with fail
  refine ((HI _ (by repeat (first | exact Ext.refl _ | assumption | refine Ext.alloc ?_ _ | refine Ext.drew ?_ | refine Ext.drewN ?_ _ | refine Ext.setCell ?_ (by first | omega | (dsimp only; omega) | (simp; done) | (simp; omega)) _ | refine Ext.trans ?_ (by assumption)))).out).mono ?_
  rintro e w3 ⟨rfl, hx3⟩
  obtain ⟨hc3, hf3⟩ := hx3.cells
  have hz3 := hx3.size
  try simp at hz3
  go_wp2
  refine bodyPost_ret (v := .tuple #[.string (S ++ ⟨#[47]⟩ ++ E), .bool true]) (by simp [results, Tryd.results20, go_sem, *]) rfl ?_
  exact ⟨rfl, (by repeat (first | exact Ext.refl _ | assumption | refine Ext.alloc ?_ _ | refine Ext.drew ?_ | refine Ext.drewN ?_ _ | refine Ext.setCell ?_ (by first | omega | (dsimp only; omega) | (simp; done) | (simp; omega)) _ | refine Ext.trans ?_ (by assumption)))⟩

set_option maxHeartbeats 2000000 in
theorem l2Text_any (X : R4) (e : Int) (hG : GD X e = true) (w : World) :
    Calls Tryd.prog 41 #[.agg #[.int .i64 X.a, .int .i64 X.b, .int .i64 X.c, .int .i64 X.d, .int .i64 e]] w fun en w' => en = .returned (.string (BA (dT X e))) ∧ Ext w w' := by
  obtain ⟨h1, h2, h3⟩ : X.rg = true ∧ 0 ≤ e ∧ e ≤ 60 := by
    simp only [GD, Bool.and_eq_true, decide_eq_true_eq] at hG
    exact ⟨hG.1.1, hG.1.2.1, hG.1.2.2⟩
  have HR := fun w' => Lib.hid (l1Text_any X h1 w')
  obtain ⟨m, rfl⟩ : ∃ m : Nat, e = (m : Int) := ⟨e.toNat, by omega⟩
  have HI := fun w' => Lib.hid (l1Num_any m (by omega) w')
  have z1 := rT_len h1
  have z2 := dd_size m (by omega)
  rw [dT_eq, show BA [47] = ⟨#[47]⟩ from rfl, show Lib.itoa (m : Int) = Lib.decDigits m by unfold Lib.itoa; rw [if_neg (by omega)]; rfl]
  clear hG h1
  generalize BA (rT X) = S at *
  generalize BA (Lib.decDigits m) = E at *
  have d1 : ¬ 9223372036854775807 < S.size + 1 := by omega
  have d2 : ¬ 9223372036854775807 < S.size + 1 + E.size := by omega
  clear z1 z2
  go_enter Tryd.func41, Tryd.ntmps41
  go_wp2
  refine wp_region_xt (by kernel_rfl) (by kernel_rfl) (fun hxc => ?_)
  repeat (first | go_big_quiet_step ((first | (go_at_call 74; exact calls_xt ((HR _).out)) | (go_at_call 75; exact calls_xt ((HI _).out)))) | quiet_step ((first | (go_at_call 74; exact calls_xt ((HR _).out)) | (go_at_call 75; exact calls_xt ((HI _).out)))))
  refine wpQuiet_nil (forall_xt ?_)
  clear hxc
  intro w1 hx1
  obtain ⟨hc1, hf1⟩ := hx1.cells
  have hz1 := hx1.size
  try simp at hz1
  have hs1_0 := sz1 (a := w.heap.size) (b := w1.heap.size) (by omega)
  go_wp2
  go_ret
  exact ⟨rfl, (by repeat (first | exact Ext.refl _ | assumption | refine Ext.alloc ?_ _ | refine Ext.drew ?_ | refine Ext.drewN ?_ _ | refine Ext.setCell ?_ (by first | omega | (dsimp only; omega) | (simp; done) | (simp; omega)) _ | refine Ext.trans ?_ (by assumption)))⟩

/-- the texts of the cells of a matrix -/
def cT (xs : List Int) : Nat → List (List UInt8)
  | 0 => []
  | n + 1 => cT xs n ++ [dT (dyAt xs n) (exAt xs n)]
theorem cT_len (xs : List Int) : ∀ n, (cT xs n).length = n
  | 0 => rfl
  | n + 1 => by rw [cT, List.length_append, cT_len xs n]; rfl
theorem cT_each {xs : List Int} {n : Nat} (h : mOk xs n = true) : ∀ j, j ≤ n → ∀ s ∈ cT xs j, s.length ≤ 120
  | 0, _, s, hs => by cases hs
  | j + 1, hj, s, hs => by
    rw [cT, List.mem_append] at hs
    rcases hs with hs | hs
    · exact cT_each h j (by omega) s hs
    · obtain rfl := List.mem_singleton.1 hs
      exact dT_len (mOk_at h (by omega))
/-- the key -/
def kT (xs : List Int) (n : Nat) : List UInt8 := Lib.join (cT xs n) [44]
theorem join_snoc (sep x : List UInt8) : ∀ (l : List (List UInt8)), l ≠ [] → Lib.join (l ++ [x]) sep = Lib.join l sep ++ sep ++ x
  | [], h => absurd rfl h
  | [a], _ => by simp [Lib.join]
  | a :: b :: l, _ => by
    have := join_snoc sep x (b :: l) (by simp)
    simp only [List.cons_append, Lib.join] at this ⊢
    simp [this, List.append_assoc]
theorem kT_zero (xs : List Int) : kT xs 0 = [] := rfl
theorem kT_one (xs : List Int) : kT xs 1 = dT (dyAt xs 0) (exAt xs 0) := by simp [kT, cT, Lib.join]
theorem kT_succ (xs : List Int) (j : Nat) : kT xs (j + 2) = kT xs (j + 1) ++ [44] ++ dT (dyAt xs (j + 1)) (exAt xs (j + 1)) := by
  unfold kT
  rw [cT, join_snoc _ _ _ (by intro h; have := congrArg List.length h; simp [cT_len] at this)]
theorem kT_len {xs : List Int} {n : Nat} (h : mOk xs n = true) : ∀ j, j ≤ n → (kT xs j).length ≤ 130 * j
  | 0, _ => by simp [kT_zero]
  | 1, hj => by
    have := dT_len (mOk_at h (j := 0) (by omega))
    rw [kT_one]
    omega
  | j + 2, hj => by
    have := dT_len (mOk_at h (j := j + 1) (by omega))
    have := kT_len h (j + 1) (by omega)
    rw [kT_succ]
    simp only [List.length_append, List.length_cons, List.length_nil]
    omega


open Go.RowKit
set_option linter.unusedVariables false
set_option linter.unusedSimpArgs false

theorem moL_cell (X : Nat → R4) (E : Nat → Int) : ∀ {N p : Nat}, p < N → (IL (moL X E N))[p * 5]? = some (.int .i64 (X p).a) ∧ (IL (moL X E N))[p * 5 + 1]? = some (.int .i64 (X p).b) ∧ (IL (moL X E N))[p * 5 + 2]? = some (.int .i64 (X p).c) ∧ (IL (moL X E N))[p * 5 + 3]? = some (.int .i64 (X p).d) ∧ (IL (moL X E N))[p * 5 + 4]? = some (.int .i64 (E p))
  | N + 1, p, h => by
    rw [moL_succ]
    have hl : (IL (moL X E N)).length = N * 5 := by rw [il_length, moL_len]
    by_cases h1 : p = N
    · subst h1
      refine ⟨?_, ?_, ?_, ?_, ?_⟩ <;> rw [List.getElem?_append_right (by omega), hl]
      · rw [Nat.sub_self]; rfl
      · rw [Nat.add_sub_cancel_left]; rfl
      · rw [Nat.add_sub_cancel_left]; rfl
      · rw [Nat.add_sub_cancel_left]; rfl
      · rw [Nat.add_sub_cancel_left]; rfl
    · obtain ⟨e1, e2, e3, e4, e5⟩ := moL_cell X E (N := N) (p := p) (by omega)
      refine ⟨?_, ?_, ?_, ?_, ?_⟩ <;> rw [List.getElem?_append_left (by omega)] <;> assumption
theorem at3_of {xs : List Int} {j : Nat} {z : Int} (h : (IL xs)[j]? = some (.int .i64 z)) : at3 xs j = z := by
  by_cases hj : j < xs.length
  · rw [at3_get hj] at h
    simpa using h
  · rw [List.getElem?_eq_none (by rw [il_length]; omega)] at h
    cases h
theorem moL_dy (X : Nat → R4) (E : Nat → Int) {N p : Nat} (h : p < N) : dyAt (moL X E N) p = X p ∧ exAt (moL X E N) p = E p := by
  obtain ⟨h1, h2, h3, h4, h5⟩ := moL_cell X E h
  unfold dyAt exAt
  rw [at3_of h1, at3_of h2, at3_of h3, at3_of h4, at3_of h5]
  exact ⟨rfl, rfl⟩
theorem cpM_dy (xs : List Int) (k : Nat) {n p : Nat} (h : p < n) : dyAt (cpM xs k n) p = turns k (dyAt xs p) ∧ exAt (cpM xs k n) p = exAt xs p := moL_dy _ _ h
theorem allTo_mk {f : Nat → Bool} : ∀ {n : Nat}, (∀ j, j < n → f j = true) → allTo f n = true
  | 0, _ => rfl
  | n + 1, h => by
    unfold allTo
    rw [allTo_mk (n := n) fun j hj => h j (by omega), h n (by omega)]
    rfl
theorem cpM_ok {xs : List Int} {n : Nat} (k : Nat) (h : mOk xs n = true) : mOk (cpM xs k n) n = true := by
  refine allTo_mk fun j hj => ?_
  obtain ⟨h1, h2⟩ := cpM_dy xs k hj
  rw [h1, h2, gd_turns]
  exact mOk_at h hj

/-- the key of a matrix -/
def opT (r c : Int) (n : Nat) (xs : List Int) : List UInt8 := kT (ifL (cpOk r c n xs) (cpM xs (cpK n xs) n)) (ifN (cpOk r c n xs) n)
theorem dim_prod {r c : Int} {n : Nat} (h1 : 1 ≤ r ∧ r ≤ 32) (h2 : 1 ≤ c ∧ c ≤ 32) (h : (n : Int) = r * c) : n ≤ 1024 := by
  have : r * c ≤ 32 * 32 := Int.mul_le_mul h1.2 h2.2 (by omega) (by omega)
  omega
theorem op_facts (r c : Int) (n : Nat) (xs : List Int) : (ifL (cpOk r c n xs) (cpM xs (cpK n xs) n)).length = ifN (cpOk r c n xs) n * 5 ∧ mOk (ifL (cpOk r c n xs) (cpM xs (cpK n xs) n)) (ifN (cpOk r c n xs) n) = true ∧ ifN (cpOk r c n xs) n ≤ 1024 := by
  refine ⟨ifNL_len _ (moL_len _ _ n), ?_, ?_⟩
  · cases h : cpOk r c n xs
    · rfl
    · have hg : mGood r c n xs = true := by
        simp only [cpOk, Bool.and_eq_true] at h
        exact h.1
      exact cpM_ok _ (mGood_facts hg).2.2.2
  · cases h : cpOk r c n xs
    · exact Nat.zero_le _
    · have hg : mGood r c n xs = true := by
        simp only [cpOk, Bool.and_eq_true] at h
        exact h.1
      obtain ⟨h1, h2, h3, -⟩ := mGood_facts hg
      exact dim_prod (dim_bd h1) (dim_bd h2) h3

theorem key_len {LL : List Int} {nn : Nat} (hm : mOk LL nn = true) (hn : nn ≤ 1024) : ∀ j, j ≤ nn → (BA (kT LL j)).size ≤ 200000 := by
  intro j hj
  have := kT_len hm j hj
  rw [ba_size]
  omega

set_option maxRecDepth 20000 in
set_option maxHeartbeats 4000000 in
theorem operatorKey_any (r c : Int) {v : Value} {n : Nat} {xs : List Int} (hn : n ≤ 2000000) (w : World) (hT : Tab w) (h : RV w 5 v n xs) :
    Calls Tryd.prog 8 #[.agg #[.int .i64 r, .int .i64 c, v]] w fun en w' => en = .returned (.tuple #[.string (BA (opT r c n xs)), .bool (cpOk r c n xs)]) ∧ Ext w w' := by
  have HC := fun w' (hx : Ext w w') => Lib.hid (canonicalPhase_any r c hn w' (h.ext hx))
  obtain ⟨hlen, hok, hnn⟩ := op_facts r c n xs
  unfold opT
  generalize ifZ (cpOk r c n xs) r = rr at *
  generalize ifZ (cpOk r c n xs) c = cc at *
  generalize ifZ (cpOk r c n xs) (cpK n xs : Nat) = kk at *
  generalize ifL (cpOk r c n xs) (cpM xs (cpK n xs) n) = LL at *
  generalize ifN (cpOk r c n xs) n = nn at *
  generalize cpOk r c n xs = ok at *
  have HL := Lib.hid hlen
  have HJ := fun (v' : Value) (w' : World) b (ho : w'.ownsRow b 9 1 v' nn (SV (cT LL nn))) => Lib.hid (join_any [44] w' (by rw [cT_len]) ho (by omega) (by
    have := kT_len hok nn (Nat.le_refl _)
    unfold kT at this
    omega))
  rw [show BA [44] = ⟨#[44]⟩ from rfl, show Lib.join (cT LL nn) [44] = kT LL nn from rfl] at HJ
  have HO := Lib.hid hok
  obtain ⟨a, cap, rfl, c1, c2, -⟩ := h.2
  clear hlen hok h
  go_enter Tryd.func8, Tryd.ntmps8
  go_wp2_with fail
  refine ((HC _ (by repeat (first | exact Ext.refl _ | assumption | refine Ext.alloc ?_ _ | refine Ext.drew ?_ | refine Ext.drewN ?_ _ | refine Ext.setCell ?_ (by first | omega | (dsimp only; omega) | (simp; done) | (simp; omega)) _ | refine Ext.trans ?_ (by assumption)))).out).mono ?_
  rintro e w1 ⟨v1, rfl, o1, hx1⟩
  obtain ⟨a1, cap1, rfl, q1, q2, q3⟩ := own_shape o1
  have R1 := RV.own o1 HL.out
  obtain ⟨-, _, _, e1, -, -, H1⟩ := R1
  cases e1
  have HH := Lib.hid H1
  have hE1 := hx1
  have HE1 : Hid (Ext w w1) := (by repeat (first | exact Ext.refl _ | assumption | refine Ext.alloc ?_ _ | refine Ext.drew ?_ | refine Ext.drewN ?_ _ | refine Ext.setCell ?_ (by first | omega | (dsimp only; omega) | (simp; done) | (simp; omega)) _ | refine Ext.trans ?_ (by assumption)))
  clear HC o1 H1 hx1 q3
  go_wp2
  go_loopw [7, 9, 10, 11, 22] (fun s7 _ _ _ i wr => ∃ (j : Nat), j ≤ nn ∧ i = .int .i64 j ∧ Hid (wr.ownsRow (w1.heap.size + 1) 9 1 s7 j (SV (cT LL j))) ∧ Hid (Ext (w1.alloc (.cells #[.int .i64 rr, .int .i64 cc, .slice a1 nn cap1] 30 (0, 0))) wr)) (fun _ _ _ _ i _ => nn - (intOf i).toNat)
  case atStart =>
    refine ⟨0, by omega, rfl, ?_, (by repeat (first | exact Ext.refl _ | assumption | refine Ext.alloc ?_ _ | refine Ext.drew ?_ | refine Ext.drewN ?_ _ | refine Ext.setCell ?_ (by first | omega | (dsimp only; omega) | (simp; done) | (simp; omega)) _ | refine Ext.trans ?_ (by assumption)))⟩
    have := (World.ownsRow_lit (w1.alloc (.cells #[.int .i64 rr, .int .i64 cc, .slice a1 nn cap1] 30 (0, 0))) #[] 0 (by simp) (by decide) rfl : ((w1.alloc (.cells #[.int .i64 rr, .int .i64 cc, .slice a1 nn cap1] 30 (0, 0))).alloc (.cells #[] 9)).ownsRow (w1.heap.size + 1) 9 1 _ 0 _)
    simpa [SV, cT, Hid] using this
  case round =>
    obtain ⟨j, hj, rfl, hO, hE⟩ := hrel
    obtain ⟨a7, c7, rfl, _, _, _⟩ := own_shape hO.out
    have hE1 : Ext w1 wr := ((Ext.refl w1).alloc _).trans hE.out
    have hM : wr.heap[w1.heap.size]? = some (.cells #[.int .i64 rr, .int .i64 cc, .slice a1 nn cap1] 30 (0, 0)) := (hE.out.heap (by simp)).trans (heap_alloc_new _ _)
    have HEE := Lib.hid (HE1.out.trans hE1)
    by_cases hlt : j < nn
    · have hlt' : (j : Int) < nn := by omega
      have hG := mOk_at HO.out hlt
      obtain ⟨b, off, rfl, hbk, hcell⟩ := HH.out (by omega)
      have hbr : b < wr.heap.size := by have := hE1.size; omega
      have z0 : wr.cell? ⟨b, off + j * 5, none⟩ = some (.int .i64 (at3 LL (j * 5))) := (hE1.cells.1 b (off + (j * 5)) hbk).trans (hcell _ _ (at3_get (by have := HL.out; omega)))
      have z1 : wr.cell? ⟨b, off + j * 5 + 1, none⟩ = some (.int .i64 (at3 LL (j * 5 + 1))) := (hE1.cells.1 b (off + (j * 5 + 1)) hbk).trans (hcell _ _ (at3_get (by have := HL.out; omega)))
      have z2 : wr.cell? ⟨b, off + j * 5 + 2, none⟩ = some (.int .i64 (at3 LL (j * 5 + 2))) := (hE1.cells.1 b (off + (j * 5 + 2)) hbk).trans (hcell _ _ (at3_get (by have := HL.out; omega)))
      have z3 : wr.cell? ⟨b, off + j * 5 + 3, none⟩ = some (.int .i64 (at3 LL (j * 5 + 3))) := (hE1.cells.1 b (off + (j * 5 + 3)) hbk).trans (hcell _ _ (at3_get (by have := HL.out; omega)))
      have z4 : wr.cell? ⟨b, off + j * 5 + 4, none⟩ = some (.int .i64 (at3 LL (j * 5 + 4))) := (hE1.cells.1 b (off + (j * 5 + 4)) hbk).trans (hcell _ _ (at3_get (by have := HL.out; omega)))
      clear hcell
      have HI : Hid (cT LL (j + 1) = cT LL j ++ [dT (dyAt LL j) (exAt LL j)]) := rfl
      have HF := fun w' hT' => Lib.hid (formatDyadic_any (dyAt LL j) (exAt LL j) hG w' hT')
      have HTab := fun (W : World) (hx : Ext wr W) => Lib.hid (hT.ext (HEE.out.trans hx))
      unfold dyAt exAt at HF HI
      dsimp only at HF HI
      generalize dT ⟨at3 LL (j * 5), at3 LL (j * 5 + 1), at3 LL (j * 5 + 2), at3 LL (j * 5 + 3)⟩ (at3 LL (j * 5 + 4)) = S at *
      generalize at3 LL (j * 5) = x0 at *
      generalize at3 LL (j * 5 + 1) = x1 at *
      generalize at3 LL (j * 5 + 2) = x2 at *
      generalize at3 LL (j * 5 + 3) = x3 at *
      generalize at3 LL (j * 5 + 4) = x4 at *
      clear hG hM
      have HW := Lib.hid hE1
      clear hE1
      go_wp2_with fail
      refine ((HF _ (HTab _ (by repeat (first | exact Ext.refl _ | assumption | refine Ext.alloc ?_ _ | refine Ext.drew ?_ | refine Ext.drewN ?_ _ | refine Ext.setCell ?_ (by first | omega | (dsimp only; omega) | (simp; done) | (simp; omega)) _ | refine Ext.trans ?_ (by assumption)))).out).out).mono ?_
      rintro e w2 ⟨rfl, hx2⟩
      have HX2 : Hid (Ext wr w2) := (by repeat (first | exact Ext.refl _ | assumption | refine Ext.alloc ?_ _ | refine Ext.drew ?_ | refine Ext.drewN ?_ _ | refine Ext.setCell ?_ (by first | omega | (dsimp only; omega) | (simp; done) | (simp; omega)) _ | refine Ext.trans ?_ (by assumption)))
      clear hx2
      have HO2 := Lib.hid (own_ext hO.out HX2.out)
      have hbs : w1.heap.size + 1 ≤ w2.heap.size := by have := hE.out.size; have := HX2.out.size; simp at *; omega
      have HR2 := Lib.hid (RVV.ofHeap (heap_alloc_new w2 (.cells #[.string (BA S)] 9)) rfl (k := 1) (m := 1) (cap := 1) (ys := SV [S]) rfl (by simp [SV, Value.oneCell']))
      go_wp2_with (at_builtin; go_loud (refine wpList_append_val (base := w1.heap.size + 1) rfl elt_str rfl (.slice a7 j c7) j _ rfl (own_ext HO2.out ((Ext.refl _).alloc _)) (.slice (some ⟨w2.heap.size, 0, none⟩) 1 1) 1 (SV [S]) rfl HR2.out (by omega) (by simp; omega) ?_); intro v5 w5 hown5 hgrow5 hiff5 hloc5; have HW5 := Lib.hid hown5; have HG5 := Lib.hid hgrow5; clear hown5 hgrow5 hiff5 hloc5)
      go_roundw
      case rel =>
        refine ⟨j + 1, by omega, by go_num, ?_, ?_⟩
        · rw [HI.out, sv_app]
          exact HW5.out
        · exact ext_grownB ((hE.out.trans HX2.out).alloc _) HG5.out (own_ext HO2.out ((Ext.refl _).alloc _)) (by simp)
      case measure => simp [intOf]; omega
    · obtain rfl : j = nn := by omega
      go_wp2_with fail
      refine ((HJ _ _ _ hO.out).out).mono ?_
      rintro e w2 ⟨rfl, hx2⟩
      have HX2 := Lib.hid (HEE.out.trans hx2)
      clear hx2
      go_wp2
      refine bodyPost_ret (v := .tuple #[.string (BA (kT LL j)), .bool ok]) (by simp [results, Tryd.results8, go_sem, *]) rfl ?_
      exact ⟨rfl, HX2.out⟩

set_option maxRecDepth 20000 in
set_option maxHeartbeats 4000000 in
theorem l28Key_any (r c : Int) {v : Value} {n : Nat} {xs : List Int} (hn : n ≤ 1024) (hm : mOk xs n = true) (hz : 0 ≤ fz xs n) (w : World) (h : RV w 5 v n xs) :
    Calls Tryd.prog 18 #[.agg #[.int .i64 r, .int .i64 c, v]] w fun en w' => en = .returned (.string (BA (kT (cpM xs (cpK n xs) n) n))) ∧ Ext w w' := by
  have HC := fun w' (hx : Ext w w') => Lib.hid (l28Canonical_any r c (by omega) hm w' (h.ext hx))
  have hlen : (cpM xs (cpK n xs) n).length = n * 5 := moL_len _ _ n
  have hok := cpM_ok (cpK n xs) hm
  have hd : decide (0 ≤ fz xs n) = true := by simp [hz]
  rw [hd] at HC
  simp only [ifZ_yes, show ∀ l, ifL true l = l from fun _ => rfl, show ∀ k, ifN true k = k from fun _ => rfl] at HC
  obtain ⟨a, cap, rfl, c1, c2, -⟩ := h.2
  generalize cpM xs (cpK n xs) n = LL at *
  generalize cpK n xs = kk at *
  have HL := Lib.hid hlen
  have HO := Lib.hid hok
  have HS := Lib.hid (key_len hok hn)
  clear hlen hok h hz hd hm
  go_enter Tryd.func18, Tryd.ntmps18
  go_wp2_with fail
  refine ((HC _ (by repeat (first | exact Ext.refl _ | assumption | refine Ext.alloc ?_ _ | refine Ext.drew ?_ | refine Ext.drewN ?_ _ | refine Ext.setCell ?_ (by first | omega | (dsimp only; omega) | (simp; done) | (simp; omega)) _ | refine Ext.trans ?_ (by assumption)))).out).mono ?_
  rintro e w1 ⟨v1, rfl, o1, hx1⟩
  obtain ⟨a1, cap1, rfl, q1, q2, q3⟩ := own_shape o1
  have R1 := RV.own o1 HL.out
  obtain ⟨-, _, _, e1, -, -, H1⟩ := R1
  cases e1
  have HH := Lib.hid H1
  have HE1 : Hid (Ext w w1) := (by repeat (first | exact Ext.refl _ | assumption | refine Ext.alloc ?_ _ | refine Ext.drew ?_ | refine Ext.drewN ?_ _ | refine Ext.setCell ?_ (by first | omega | (dsimp only; omega) | (simp; done) | (simp; omega)) _ | refine Ext.trans ?_ (by assumption)))
  clear HC o1 H1 hx1 q3
  go_wp2
  go_loopw [3, 7, 8, 18] (fun s3 _ _ i wr => ∃ (j : Nat), j ≤ n ∧ i = .int .i64 j ∧ s3 = .string (BA (kT LL j)) ∧ Hid (Ext w1 wr)) (fun _ _ _ i _ => n - (intOf i).toNat)
  case atStart => exact ⟨0, by omega, rfl, rfl, (by repeat (first | exact Ext.refl _ | assumption | refine Ext.alloc ?_ _ | refine Ext.drew ?_ | refine Ext.drewN ?_ _ | refine Ext.setCell ?_ (by first | omega | (dsimp only; omega) | (simp; done) | (simp; omega)) _ | refine Ext.trans ?_ (by assumption)))⟩
  case round =>
    obtain ⟨j, hj, rfl, rfl, hE⟩ := hrel
    have HEE := Lib.hid (HE1.out.trans hE.out)
    by_cases hlt : j < n
    · have hlt' : (j : Int) < n := by omega
      have hG := mOk_at HO.out hlt
      have hE1 := hE.out
      obtain ⟨b, off, rfl, hbk, hcell⟩ := HH.out (by omega)
      have hbr : b < wr.heap.size := by have := hE1.size; omega
      have z0 : wr.cell? ⟨b, off + j * 5, none⟩ = some (.int .i64 (at3 LL (j * 5))) := (hE1.cells.1 b (off + (j * 5)) hbk).trans (hcell _ _ (at3_get (by have := HL.out; omega)))
      have z1 : wr.cell? ⟨b, off + j * 5 + 1, none⟩ = some (.int .i64 (at3 LL (j * 5 + 1))) := (hE1.cells.1 b (off + (j * 5 + 1)) hbk).trans (hcell _ _ (at3_get (by have := HL.out; omega)))
      have z2 : wr.cell? ⟨b, off + j * 5 + 2, none⟩ = some (.int .i64 (at3 LL (j * 5 + 2))) := (hE1.cells.1 b (off + (j * 5 + 2)) hbk).trans (hcell _ _ (at3_get (by have := HL.out; omega)))
      have z3 : wr.cell? ⟨b, off + j * 5 + 3, none⟩ = some (.int .i64 (at3 LL (j * 5 + 3))) := (hE1.cells.1 b (off + (j * 5 + 3)) hbk).trans (hcell _ _ (at3_get (by have := HL.out; omega)))
      have z4 : wr.cell? ⟨b, off + j * 5 + 4, none⟩ = some (.int .i64 (at3 LL (j * 5 + 4))) := (hE1.cells.1 b (off + (j * 5 + 4)) hbk).trans (hcell _ _ (at3_get (by have := HL.out; omega)))
      clear hcell
      have HF := fun w' => Lib.hid (l2Text_any (dyAt LL j) (exAt LL j) hG w')
      have zs := HS.out j (by omega)
      have zd : (BA (dT (dyAt LL j) (exAt LL j))).size ≤ 120 := by rw [ba_size]; exact dT_len hG
      have HI : Hid (BA (kT LL (j + 1)) = if j = 0 then BA (dT (dyAt LL j) (exAt LL j)) else BA (kT LL j) ++ ⟨#[44]⟩ ++ BA (dT (dyAt LL j) (exAt LL j))) := by
        unfold Hid
        cases j with
        | zero => rw [kT_one, if_pos rfl]
        | succ j => rw [if_neg (by omega), kT_succ, show (⟨#[44]⟩ : ByteArray) = BA [44] from rfl, ba_app, ba_app]
      have HI0 : Hid (j = 0 → BA (kT LL j) = ⟨#[]⟩) := fun h => by subst h; rfl
      unfold dyAt exAt at HF HI zd
      dsimp only at HF HI
      generalize BA (dT ⟨at3 LL (j * 5), at3 LL (j * 5 + 1), at3 LL (j * 5 + 2), at3 LL (j * 5 + 3)⟩ (at3 LL (j * 5 + 4))) = S at *
      generalize at3 LL (j * 5) = x0 at *
      generalize at3 LL (j * 5 + 1) = x1 at *
      generalize at3 LL (j * 5 + 2) = x2 at *
      generalize at3 LL (j * 5 + 3) = x3 at *
      generalize at3 LL (j * 5 + 4) = x4 at *
      obtain ⟨U, hU⟩ : ∃ U, BA (kT LL j) = U := ⟨_, rfl⟩
      rw [hU] at HI HI0 zs
      have HU := Lib.hid hU
      have d1 : ¬ 9223372036854775807 < U.size + 1 := by omega
      have d2 : ¬ 9223372036854775807 < U.size + 1 + S.size := by omega
      have d3 : ¬ 9223372036854775807 < U.size + S.size := by omega
      have d4 : ¬ 9223372036854775807 < S.size := by omega
      have HW := Lib.hid hE1
      simp only [hU]
      clear hG hE1 zs zd hU
      by_cases h0 : j = 0
      · have hn0 : ¬ (0 : Int) < (j : Int) := by omega
        have HI2 := HI.out
        rw [if_pos h0] at HI2
        have HU0 := HI0.out h0
        have HX : Hid (U ++ S = BA (kT LL (j + 1))) := by unfold Hid; rw [HI2, HU0]; exact ByteArray.empty_append
        clear HI HI2 HU0 HI0 h0
        go_wp2_with fail
        refine ((HF _).out).mono ?_
        rintro e w2 ⟨rfl, hx2⟩
        go_wp2
        go_roundw
        case rel => exact ⟨j + 1, by omega, by go_num, by rw [← HX.out], (by repeat (first | exact Ext.refl _ | assumption | refine Ext.alloc ?_ _ | refine Ext.drew ?_ | refine Ext.drewN ?_ _ | refine Ext.setCell ?_ (by first | omega | (dsimp only; omega) | (simp; done) | (simp; omega)) _ | refine Ext.trans ?_ (by assumption)))⟩
        case measure => simp [intOf]; omega
      · have hn0 : (0 : Int) < (j : Int) := by omega
        have HI2 := HI.out
        rw [if_neg h0] at HI2
        have HX : Hid (U ++ ⟨#[44]⟩ ++ S = BA (kT LL (j + 1))) := HI2.symm
        clear HI HI2 HI0 h0
        go_wp2_with fail
        refine ((HF _).out).mono ?_
        rintro e w2 ⟨rfl, hx2⟩
        go_wp2
        go_roundw
        case rel => exact ⟨j + 1, by omega, by go_num, by rw [← HX.out], (by repeat (first | exact Ext.refl _ | assumption | refine Ext.alloc ?_ _ | refine Ext.drew ?_ | refine Ext.drewN ?_ _ | refine Ext.setCell ?_ (by first | omega | (dsimp only; omega) | (simp; done) | (simp; omega)) _ | refine Ext.trans ?_ (by assumption)))⟩
        case measure => simp [intOf]; omega
    · obtain rfl : j = n := by omega
      go_wp2
      go_ret
      exact ⟨rfl, HEE.out⟩

set_option maxHeartbeats 4000000 in
theorem s_operatorKey_any (r c : Int) {v : Value} {n : Nat} {xs : List Int} (hn : n ≤ 2000000) (w : World) (h : RV w 5 v n xs) :
    Calls Tryd.prog 6 #[.agg #[.int .i64 r, .int .i64 c, v]] w fun en w' => en = .returned (.tuple #[.string (BA (opT r c n xs)), .bool (cpOk r c n xs)]) ∧ Ext w w' := by
  have HC := fun w' (hx : Ext w w') => Lib.hid (s_canonicalPhase_any r c hn w' (h.ext hx))
  obtain ⟨-, -, hnn⟩ := op_facts r c n xs
  cases hk : cpOk r c n xs
  · have HT : Hid (BA (opT r c n xs) = ⟨#[]⟩) := by
      unfold Hid opT
      rw [hk]
      rfl
    rw [hk] at HC
    obtain ⟨a, cap, rfl, c1, c2, -⟩ := h.2
    clear h
    rw [HT.out]
    go_enter Tryd.func6, Tryd.ntmps6
    go_wp2_with fail
    refine ((HC _ (by repeat (first | exact Ext.refl _ | assumption | refine Ext.alloc ?_ _ | refine Ext.drew ?_ | refine Ext.drewN ?_ _ | refine Ext.setCell ?_ (by first | omega | (dsimp only; omega) | (simp; done) | (simp; omega)) _ | refine Ext.trans ?_ (by assumption)))).out).mono ?_
    rintro e w1 ⟨v1, rfl, o1, hx1⟩
    obtain ⟨a1, cap1, rfl, q1, q2, q3⟩ := own_shape o1
    go_wp2
    refine bodyPost_ret (v := .tuple #[.string ⟨#[]⟩, .bool false]) (by simp [results, Tryd.results6, go_sem, *]) rfl ?_
    exact ⟨rfl, (by repeat (first | exact Ext.refl _ | assumption | refine Ext.alloc ?_ _ | refine Ext.drew ?_ | refine Ext.drewN ?_ _ | refine Ext.setCell ?_ (by first | omega | (dsimp only; omega) | (simp; done) | (simp; omega)) _ | refine Ext.trans ?_ (by assumption)))⟩
  · have hg : mGood r c n xs = true ∧ 0 ≤ fz xs n := by
      simp only [cpOk, Bool.and_eq_true, decide_eq_true_eq] at hk
      exact hk
    rw [hk, show ifN true n = n from rfl] at hnn
    have HK := fun w' (hx : Ext w w') => Lib.hid (l28Key_any r c hnn (mGood_facts hg.1).2.2.2 hg.2 w' (h.ext hx))
    have HT : Hid (opT r c n xs = kT (cpM xs (cpK n xs) n) n) := by
      unfold Hid opT
      rw [hk]
      rfl
    rw [HT.out]
    rw [hk] at HC
    generalize BA (kT (cpM xs (cpK n xs) n) n) = S at *
    obtain ⟨a, cap, rfl, c1, c2, -⟩ := h.2
    clear h
    go_enter Tryd.func6, Tryd.ntmps6
    go_wp2_with fail
    refine ((HC _ (by repeat (first | exact Ext.refl _ | assumption | refine Ext.alloc ?_ _ | refine Ext.drew ?_ | refine Ext.drewN ?_ _ | refine Ext.setCell ?_ (by first | omega | (dsimp only; omega) | (simp; done) | (simp; omega)) _ | refine Ext.trans ?_ (by assumption)))).out).mono ?_
    rintro e w1 ⟨v1, rfl, o1, hx1⟩
    obtain ⟨a1, cap1, rfl, q1, q2, q3⟩ := own_shape o1
    have HM := Lib.hid (((Ext.refl w).alloc (.cells #[.int .i64 r, .int .i64 c, .slice a n cap] 30 (0, 0))).trans hx1)
    have hA := (hx1.heap (by simp)).trans (heap_alloc_new w (.cells #[.int .i64 r, .int .i64 c, .slice a n cap] 30 (0, 0)))
    have zA : ∀ q, w1.cell? ⟨w.heap.size, q, none⟩ = (#[.int .i64 r, .int .i64 c, .slice a n cap] : Array Value)[q]? := fun q => cell_of_row _ _ _ _ _ _ hA
    have lA := (Array.getElem?_eq_some_iff.1 hA).1
    clear hA hx1 o1 q3
    go_wp2_with fail
    refine ((HK _ (HM.out.trans (by repeat (first | exact Ext.refl _ | assumption | refine Ext.alloc ?_ _ | refine Ext.drew ?_ | refine Ext.drewN ?_ _ | refine Ext.setCell ?_ (by first | omega | (dsimp only; omega) | (simp; done) | (simp; omega)) _ | refine Ext.trans ?_ (by assumption))))).out).mono ?_
    rintro e w2 ⟨rfl, hx2⟩
    have HX2 := Lib.hid ((HM.out.alloc _).trans hx2)
    go_wp2
    refine bodyPost_ret (v := .tuple #[.string S, .bool true]) (by simp [results, Tryd.results6, go_sem, *]) rfl ?_
    exact ⟨rfl, HX2.out⟩

end Go.Proofs.YtamiploliebplaaDoor
