/- Dyadic numbers: the plain functions that both sides compute. -/
import Derived.Test.YtbddgeoaaklgpaaRing
import Derived.Test.YtbddgeoaaklgpaaMade
import Derived.Test.YtbddgeoaaklgpaaBase
namespace Go.Proofs.Ytbddgeoaaklgpaa
open Go.RowKit
set_option linter.unusedVariables false

/-- a number of the ring -/
structure R4 where
  a : Int
  b : Int
  c : Int
  d : Int
def R4.rg (x : R4) : Bool := Rg x.a x.b x.c x.d
def R4.ev (x : R4) : Bool := evR x.a x.b x.c x.d
def R4.zero : R4 := ⟨0, 0, 0, 0⟩
def R4.root (x : R4) : R4 := ⟨x.b - x.d, x.a + x.c, x.b + x.d, x.c - x.a⟩
def R4.add (x y : R4) : R4 := ⟨x.a + y.a, x.b + y.b, x.c + y.c, x.d + y.d⟩
def R4.sub (x y : R4) : R4 := ⟨x.a - y.a, x.b - y.b, x.c - y.c, x.d - y.d⟩
def R4.neg (x : R4) : R4 := ⟨-x.a, -x.b, -x.c, -x.d⟩
def R4.conj (x : R4) : R4 := ⟨x.a, -x.d, -x.c, -x.b⟩
def R4.mul (x y : R4) : R4 := ⟨mrA x.a x.b x.c x.d y.a y.b y.c y.d, mrB x.a x.b x.c x.d y.a y.b y.c y.d, mrC x.a x.b x.c x.d y.a y.b y.c y.d, mrD x.a x.b x.c x.d y.a y.b y.c y.d⟩
def R4.half (x : R4) : R4 := ⟨Int.tdiv (x.b - x.d) 2, Int.tdiv (x.a + x.c) 2, Int.tdiv (x.b + x.d) 2, Int.tdiv (x.c - x.a) 2⟩
/-- a number if it is valid, else zero -/
def R4.clip (x : R4) : R4 := if x.rg then x else R4.zero
def R4.val (x : R4) : Value := .agg #[.int .i64 x.a, .int .i64 x.b, .int .i64 x.c, .int .i64 x.d]
theorem rg_zero : R4.zero.rg = true := by decide
theorem rg_clip (x : R4) : x.clip.rg = true := by
  unfold R4.clip
  cases h : x.rg
  · exact rg_zero
  · exact h
theorem clip_true {x : R4} (h : x.rg = true) : x.clip = x := by unfold R4.clip; rw [h]; rfl
theorem clip_false {x : R4} (h : x.rg = false) : x.clip = R4.zero := by unfold R4.clip; rw [h]; rfl
/-- n times the root of two; zero where a step is not valid -/
def raiseV : Nat → R4 → R4
  | 0, x => x
  | n + 1, x => raiseV n x.root.clip
def raiseB : Nat → R4 → Bool
  | 0, _ => false
  | n + 1, x => !x.root.rg || raiseB n x.root.clip
theorem rg_raise : ∀ n x, x.rg = true → (raiseV n x).rg = true
  | 0, _, h => h
  | n + 1, x, _ => rg_raise n _ (rg_clip _)
theorem raise_zero : ∀ n, raiseV n R4.zero = R4.zero ∧ raiseB n R4.zero = false
  | 0 => ⟨rfl, rfl⟩
  | n + 1 => by
    have h : R4.zero.root.rg = true := by decide
    have h2 : R4.zero.root.clip = R4.zero := by rw [clip_true h]; rfl
    obtain ⟨h3, h4⟩ := raise_zero n
    unfold raiseV raiseB
    rw [h2, h, h3, h4]
    exact ⟨rfl, rfl⟩
/-- the lowest form -/
def lowX : Nat → R4 → R4
  | 0, x => x
  | n + 1, x => if x.ev then lowX n x.half else x
def lowE : Nat → R4 → Nat
  | 0, _ => 0
  | n + 1, x => if x.ev then lowE n x.half else n + 1
theorem rg_half {x : R4} (h : x.rg = true) : x.half.rg = true := by
  obtain ⟨ba, bb, bc, bd⟩ := Rg_bd h
  have h1 := half_bd bb bd
  have h2 := half_bd ba bc
  have h3 := half_bd bc ba
  exact Rg_mk ⟨h1.1, h2.2, h1.2, h3.1⟩
theorem rg_low : ∀ n x, x.rg = true → (lowX n x).rg = true
  | 0, _, h => h
  | n + 1, x, h => by
    unfold lowX
    split
    · exact rg_low n _ (rg_half h)
    · exact h
theorem lowE_le : ∀ n x, lowE n x ≤ n
  | 0, _ => Nat.le_refl _
  | n + 1, x => by
    unfold lowE
    split
    · exact Nat.le_succ_of_le (lowE_le n _)
    · exact Nat.le_refl _
theorem low_step {k : Nat} {x : R4} (h : 0 < k) (he : x.ev = true) : lowX (k - 1) x.half = lowX k x ∧ lowE (k - 1) x.half = lowE k x := by
  obtain ⟨m, rfl⟩ : ∃ m, k = m + 1 := ⟨k - 1, by omega⟩
  have e1 : lowX (m + 1) x = if x.ev then lowX m x.half else x := rfl
  have e2 : lowE (m + 1) x = if x.ev then lowE m x.half else m + 1 := rfl
  rw [e1, e2, if_pos he, if_pos he]
  exact ⟨rfl, rfl⟩
theorem low_end {k : Nat} {x : R4} (h : k = 0 ∨ x.ev = false) : lowX k x = x ∧ lowE k x = k := by
  cases k with
  | zero => exact ⟨rfl, rfl⟩
  | succ m =>
    rcases h with h | h
    · omega
    · unfold lowX lowE
      simp [h]
/-- a valid dyadic number -/
def GD (x : R4) (e : Int) : Bool := x.rg && (decide (0 ≤ e) && decide (e ≤ 60)) && (e == 0 || !x.ev)
theorem GD_rg {x : R4} {e : Int} (h : GD x e = true) : x.rg = true ∧ 0 ≤ e ∧ e ≤ 60 ∧ (e = 0 ∨ x.ev = false) := by
  simp only [GD, Bool.and_eq_true, Bool.or_eq_true, decide_eq_true_eq, beq_iff_eq, Bool.not_eq_true'] at h
  exact ⟨h.1.1, h.1.2.1, h.1.2.2, h.2⟩
/-- the sum -/
def dyS (x : R4) (m : Nat) (y : R4) (n : Nat) : R4 := (raiseV (n - m) x).add (raiseV (m - n) y)
def dyBad (x : R4) (m : Nat) (y : R4) (n : Nat) : Bool := raiseB (n - m) x || raiseB (m - n) y || !(dyS x m y n).rg
def dyX (x : R4) (m : Nat) (y : R4) (n : Nat) : R4 := lowX (max m n) (dyS x m y n).clip
def dyE (x : R4) (m : Nat) (y : R4) (n : Nat) : Nat := lowE (max m n) (dyS x m y n).clip


open Go.RowKit Go.Lib
set_option linter.unusedVariables false
set_option linter.unusedSimpArgs false

theorem GD_eq (a b c d e : Int) : GD ⟨a, b, c, d⟩ e = (Rg a b c d && Wn e 0 60 && (e == 0 || !evR a b c d)) := rfl

theorem isValidDyadic_any (a b c d e : Int) (w : World) :
    Calls Try.prog 110 #[.agg #[.int .i64 a, .int .i64 b, .int .i64 c, .int .i64 d, .int .i64 e]] w fun en w' => en = .returned (.bool (GD ⟨a, b, c, d⟩ e)) ∧ Ext w w' := by
  have HG : Hid (GD ⟨a, b, c, d⟩ e = (Rg a b c d && Wn e 0 60 && (e == 0 || !evR a b c d))) := GD_eq a b c d e
  cases h1 : Rg a b c d
  · go_enter Try.func110, Try.ntmps110
    go_wp2_with fail
    refine (isValidRing_any _ _ _ _ _).mono ?_
    rintro e w1 ⟨rfl, hx1⟩
    obtain ⟨hc1, hf1⟩ := hx1.cells
    have hz1 := hx1.size
    try simp at hz1
    have hs1_0 := sz1 (a := w.heap.size) (b := w1.heap.size) (by omega)
    go_wp2
    go_ret
    exact ⟨ret_bool (by rw [HG.out, h1]; rfl), (by repeat (first | exact Ext.refl _ | assumption | refine Ext.alloc ?_ _ | refine Ext.drew ?_ | refine Ext.drewN ?_ _ | refine Ext.setCell ?_ (by first | omega | (dsimp only; omega) | (simp; done) | (simp; omega)) _ | refine Ext.trans ?_ (by assumption)))⟩
  cases h2 : Wn e 0 60
  · go_enter Try.func110, Try.ntmps110
    go_wp2_with fail
    refine (isValidRing_any _ _ _ _ _).mono ?_
    rintro e w1 ⟨rfl, hx1⟩
    obtain ⟨hc1, hf1⟩ := hx1.cells
    have hz1 := hx1.size
    try simp at hz1
    have hs1_0 := sz1 (a := w.heap.size) (b := w1.heap.size) (by omega)
    go_wp2_with (go_at_call 68; ((with_reducible refine (within_any _ _ _ _).mono ?_); rintro e w' ⟨rfl, rfl⟩))
    go_ret
    exact ⟨ret_bool (by rw [HG.out, h1, h2]; rfl), (by repeat (first | exact Ext.refl _ | assumption | refine Ext.alloc ?_ _ | refine Ext.drew ?_ | refine Ext.drewN ?_ _ | refine Ext.setCell ?_ (by first | omega | (dsimp only; omega) | (simp; done) | (simp; omega)) _ | refine Ext.trans ?_ (by assumption)))⟩
  cases h3 : (e == 0)
  · go_enter Try.func110, Try.ntmps110
    go_wp2_with fail
    refine (isValidRing_any _ _ _ _ _).mono ?_
    rintro e w1 ⟨rfl, hx1⟩
    obtain ⟨hc1, hf1⟩ := hx1.cells
    have hz1 := hx1.size
    try simp at hz1
    have hs1_0 := sz1 (a := w.heap.size) (b := w1.heap.size) (by omega)
    go_wp2_with (go_at_call 68; ((with_reducible refine (within_any _ _ _ _).mono ?_); rintro e w' ⟨rfl, rfl⟩))
    refine (isEven_any _ _ _ _ h1 _).mono ?_
    rintro en w2 ⟨rfl, hx2⟩
    obtain ⟨hc2, hf2⟩ := hx2.cells
    have hz2 := hx2.size
    try simp at hz2
    have hs2_0 := sz1 (a := w.heap.size) (b := w2.heap.size) (by omega)
    go_wp2
    go_ret
    exact ⟨ret_bool (by rw [HG.out, h1, h2, h3]; rfl), (by repeat (first | exact Ext.refl _ | assumption | refine Ext.alloc ?_ _ | refine Ext.drew ?_ | refine Ext.drewN ?_ _ | refine Ext.setCell ?_ (by first | omega | (dsimp only; omega) | (simp; done) | (simp; omega)) _ | refine Ext.trans ?_ (by assumption)))⟩
  · go_enter Try.func110, Try.ntmps110
    go_wp2_with fail
    refine (isValidRing_any _ _ _ _ _).mono ?_
    rintro e w1 ⟨rfl, hx1⟩
    obtain ⟨hc1, hf1⟩ := hx1.cells
    have hz1 := hx1.size
    try simp at hz1
    have hs1_0 := sz1 (a := w.heap.size) (b := w1.heap.size) (by omega)
    go_wp2_with (go_at_call 68; ((with_reducible refine (within_any _ _ _ _).mono ?_); rintro e w' ⟨rfl, rfl⟩))
    go_ret
    exact ⟨ret_bool (by rw [HG.out, h1, h2, h3]; rfl), (by repeat (first | exact Ext.refl _ | assumption | refine Ext.alloc ?_ _ | refine Ext.drew ?_ | refine Ext.drewN ?_ _ | refine Ext.setCell ?_ (by first | omega | (dsimp only; omega) | (simp; done) | (simp; omega)) _ | refine Ext.trans ?_ (by assumption)))⟩


open Go.RowKit Go.Lib
set_option linter.unusedVariables false
set_option linter.unusedSimpArgs false


open Go.RowKit Go.Lib
set_option linter.unusedVariables false
set_option linter.unusedSimpArgs false


open Go.RowKit Go.Lib
set_option linter.unusedVariables false
set_option linter.unusedSimpArgs false

def adOk (X : R4) (e : Int) (Y : R4) (j : Int) : Bool := GD X e && GD Y j && !dyBad X e.toNat Y j.toNat
def adX (X : R4) (e : Int) (Y : R4) (j : Int) : R4 := if adOk X e Y j then dyX X e.toNat Y j.toNat else R4.zero
def adE (X : R4) (e : Int) (Y : R4) (j : Int) : Int := if adOk X e Y j then (dyE X e.toNat Y j.toNat : Int) else 0

theorem ad_false {X : R4} {e : Int} {Y : R4} {j : Int} (h : adOk X e Y j = false) : adX X e Y j = R4.zero ∧ adE X e Y j = 0 := by
  unfold adX adE
  rw [h]
  exact ⟨rfl, rfl⟩
theorem ad_true {X : R4} {e : Int} {Y : R4} {j : Int} (h : GD X e = true) (h2 : GD Y j = true) :
    adOk X e Y j = !dyBad X e.toNat Y j.toNat ∧ (adX X e Y j).a = ifZ (!dyBad X e.toNat Y j.toNat) ((dyX X e.toNat Y j.toNat).a) ∧ (adX X e Y j).b = ifZ (!dyBad X e.toNat Y j.toNat) ((dyX X e.toNat Y j.toNat).b) ∧
    (adX X e Y j).c = ifZ (!dyBad X e.toNat Y j.toNat) ((dyX X e.toNat Y j.toNat).c) ∧ (adX X e Y j).d = ifZ (!dyBad X e.toNat Y j.toNat) ((dyX X e.toNat Y j.toNat).d) ∧ adE X e Y j = ifZ (!dyBad X e.toNat Y j.toNat) ((dyE X e.toNat Y j.toNat : Int)) := by
  have e1 : adOk X e Y j = !dyBad X e.toNat Y j.toNat := by unfold adOk; rw [h, h2]; rfl
  unfold adX adE
  rw [e1]
  cases dyBad X e.toNat Y j.toNat
  · exact ⟨rfl, rfl, rfl, rfl, rfl, rfl⟩
  · exact ⟨rfl, rfl, rfl, rfl, rfl, rfl⟩

/-- the opposite of the second number -/
theorem neg_valid {Y : R4} {j : Int} : GD Y.neg j = GD Y j := by
  have e1 : Y.neg.rg = Y.rg := by
    unfold R4.rg R4.neg Rg Cf Wn
    congr 1
    · congr 1
      · congr 1
        all_goals (rw [Bool.eq_iff_iff]; simp; omega)
      · rw [Bool.eq_iff_iff]; simp; omega
    · rw [Bool.eq_iff_iff]; simp; omega
  have e2 : Y.neg.ev = Y.ev := by
    unfold R4.ev R4.neg evR
    have h1 : ∀ x y : Int, (Int.tmod (-x + -y) 2 == 0) = (Int.tmod (x + y) 2 == 0) := by
      intro x y
      rw [show -x + -y = -(x + y) by omega, Int.neg_tmod]
      rw [Bool.eq_iff_iff]
      simp
    simp only [h1]
  unfold GD
  rw [e1, e2]


open Go.RowKit Go.Lib
set_option linter.unusedVariables false
set_option linter.unusedSimpArgs false

theorem rg_neg {Y : R4} (h : Y.rg = true) : Y.neg.rg = true := by
  obtain ⟨a, b, c, d⟩ := Rg_bd h
  exact Rg_mk (by simp only [R4.neg]; omega)


open Go.RowKit Go.Lib
set_option linter.unusedVariables false
set_option linter.unusedSimpArgs false

theorem rg_conj {X : R4} (h : X.rg = true) : X.conj.rg = true := by
  obtain ⟨a, b, c, d⟩ := Rg_bd h
  exact Rg_mk (by simp only [R4.conj]; omega)
def mvBad (X : R4) (m : Nat) (Y : R4) (n : Nat) : Bool := decide (60 < m + n) || !(X.mul Y).rg
def mvX (X : R4) (m : Nat) (Y : R4) (n : Nat) : R4 := if 60 < m + n then R4.zero else lowX (m + n) (X.mul Y).clip
def mvE (X : R4) (m : Nat) (Y : R4) (n : Nat) : Nat := if 60 < m + n then 0 else lowE (m + n) (X.mul Y).clip

def nsOk (X : R4) (e : Int) : Bool := GD X e && !mvBad X e.toNat X.conj e.toNat
def nsX (X : R4) (e : Int) : R4 := if nsOk X e then mvX X e.toNat X.conj e.toNat else R4.zero
def nsE (X : R4) (e : Int) : Int := if nsOk X e then (mvE X e.toNat X.conj e.toNat : Int) else 0
theorem ns_false {X : R4} {e : Int} (h : nsOk X e = false) : nsX X e = R4.zero ∧ nsE X e = 0 := by
  unfold nsX nsE
  rw [h]
  exact ⟨rfl, rfl⟩
theorem ns_true {X : R4} {e : Int} (h : GD X e = true) :
    nsOk X e = !mvBad X e.toNat X.conj e.toNat ∧ (nsX X e).a = ifZ (!mvBad X e.toNat X.conj e.toNat) (mvX X e.toNat X.conj e.toNat).a ∧ (nsX X e).b = ifZ (!mvBad X e.toNat X.conj e.toNat) (mvX X e.toNat X.conj e.toNat).b ∧
    (nsX X e).c = ifZ (!mvBad X e.toNat X.conj e.toNat) (mvX X e.toNat X.conj e.toNat).c ∧ (nsX X e).d = ifZ (!mvBad X e.toNat X.conj e.toNat) (mvX X e.toNat X.conj e.toNat).d ∧ nsE X e = ifZ (!mvBad X e.toNat X.conj e.toNat) (mvE X e.toNat X.conj e.toNat : Int) := by
  have e1 : nsOk X e = !mvBad X e.toNat X.conj e.toNat := by unfold nsOk; rw [h]; rfl
  unfold nsX nsE
  rw [e1]
  cases mvBad X e.toNat X.conj e.toNat
  · exact ⟨rfl, rfl, rfl, rfl, rfl, rfl⟩
  · exact ⟨rfl, rfl, rfl, rfl, rfl, rfl⟩


open Go.RowKit Go.Lib
set_option linter.unusedVariables false
set_option linter.unusedSimpArgs false

theorem low_nev : ∀ n x, lowE n x = 0 ∨ (lowX n x).ev = false
  | 0, _ => .inl rfl
  | n + 1, x => by
    unfold lowE lowX
    cases h : x.ev
    · exact .inr (by simpa using h)
    · simpa using low_nev n x.half
theorem low_gd {n : Nat} {x : R4} (hn : n ≤ 60) (h : x.rg = true) : GD (lowX n x) (lowE n x) = true := by
  have h1 := rg_low n x h
  have h2 := lowE_le n x
  unfold GD
  rw [h1]
  rcases low_nev n x with h3 | h3
  · rw [h3]; rfl
  · rw [h3]; simp; omega
theorem mv_gd {X : R4} {m : Nat} {Y : R4} {n : Nat} : GD (mvX X m Y n) (mvE X m Y n) = true := by
  unfold mvX mvE
  split
  · decide
  · exact low_gd (by omega) (rg_clip _)
theorem ns_gd {X : R4} {e : Int} : GD (nsX X e) (nsE X e) = true := by
  unfold nsX nsE
  split
  · exact mv_gd
  · decide
theorem ad_gd {X : R4} {m : Nat} {Y : R4} {n : Nat} (hm : m ≤ 60) (hn : n ≤ 60) : GD (dyX X m Y n) (dyE X m Y n) = true := low_gd (by omega) (rg_clip _)

def caOk (X : R4) (e : Int) (Y : R4) (j : Int) : Bool := nsOk X e && nsOk Y j && !dyBad (nsX X e) (nsE X e).toNat (nsX Y j).neg (nsE Y j).toNat
def caD (X : R4) (e : Int) (Y : R4) (j : Int) : R4 := dyX (nsX X e) (nsE X e).toNat (nsX Y j).neg (nsE Y j).toNat
def caV (X : R4) (e : Int) (Y : R4) (j : Int) : Int := if caOk X e Y j then S2 (caD X e Y j).a (caD X e Y j).b else 0


open Go.RowKit Go.Lib
set_option linter.unusedVariables false
set_option linter.unusedSimpArgs false

set_option maxHeartbeats 2000000 in
theorem divRootTwo_any (a b c d : Int) (h0 : Rg a b c d = true) (he : evR a b c d = true) (w : World) :
    Calls Try.prog 120 #[.agg #[.int .i64 a, .int .i64 b, .int .i64 c, .int .i64 d]] w fun en w' => en = .returned (.tuple #[.agg #[.int .i64 (Int.tdiv (b - d) 2), .int .i64 (Int.tdiv (a + c) 2), .int .i64 (Int.tdiv (b + d) 2), .int .i64 (Int.tdiv (c - a) 2)], .bool true]) ∧ Ext w w' := by
  obtain ⟨ba, bb, bc, bd⟩ := Rg_bd h0
  have HB : Hid (AllRg ([a, b, c, d] ++ [Int.tdiv (b - d) 2, Int.tdiv (a + c) 2, Int.tdiv (b + d) 2, Int.tdiv (c - a) 2]) (1 + 1) = true) := by
    unfold Hid
    rw [allRgN1, h0]
    exact rg_half (x := ⟨a, b, c, d⟩) h0
  have H0 := Lib.hid h0
  have HE : ∀ w', Hid (Calls Try.prog 118 #[.agg #[.int .i64 a, .int .i64 b, .int .i64 c, .int .i64 d]] w' fun e w'' => e = .returned (.bool true) ∧ Ext w' w'') := by
    rw [← he]
    exact fun w' => isEven_any a b c d h0 w'
  have HV : ∀ w', Hid (Calls Try.prog 116 #[.agg #[.int .i64 a, .int .i64 b, .int .i64 c, .int .i64 d]] w' fun e w'' => e = .returned (.bool true) ∧ Ext w' w'') := by
    rw [← h0]
    exact fun w' => isValidRing_any a b c d w'
  clear h0 he
  go_enter Try.func120, Try.ntmps120
  go_wp2_with fail
  refine ((HV _).out).mono ?_
  rintro e w1 ⟨rfl, hx1⟩
  obtain ⟨hc1, hf1⟩ := hx1.cells
  have hz1 := hx1.size
  try simp at hz1
  have hs1_0 := sz2 (a := w.heap.size) (b := w1.heap.size) (by omega)
  go_wp2_with fail
  refine ((HE _).out).mono ?_
  rintro e w2 ⟨rfl, hx2⟩
  obtain ⟨hc2, hf2⟩ := hx2.cells
  have hz2 := hx2.size
  try simp at hz2
  have hs2_0 := sz2 (a := w.heap.size) (b := w2.heap.size) (by omega)
  go_wp2_with fail
  have HT := Lib.hid (ringIf_any (Int.tdiv (b - d) 2) (Int.tdiv (a + c) 2) (Int.tdiv (b + d) 2) (Int.tdiv (c - a) 2) 1 w2.heap.size (.slice (some ⟨w2.heap.size, 0, none⟩) 1 1) [a, b, c, d] (by decide) rfl)
  unfold Hid at HT
  rw [HB.out] at HT
  refine (HT _ (by simp) (own_lit2 (by simp) (by decide) rfl rfl)).mono ?_
  rintro en w3 ⟨rfl, hx3⟩
  clear HT
  obtain ⟨hc3, hf3⟩ := Below.facts hx3
  have hz3 := hx3.size
  try simp at hz3
  have hs3 := sz3 (a := w.heap.size) (b := w3.heap.size) (by omega)
  have hx3' : Ext w w3 := Below.trans (by repeat (first | exact Ext.refl _ | assumption | refine Ext.alloc ?_ _ | refine Ext.drew ?_ | refine Ext.drewN ?_ _ | refine Ext.setCell ?_ (by first | omega | (dsimp only; omega) | (simp; done) | (simp; omega)) _ | refine Ext.trans ?_ (by assumption))) (Below.mono hx3 (by omega))
  clear hx3
  simp only [ifZ_true]
  go_wp2
  refine bodyPost_ret (v := .tuple #[.agg #[.int .i64 (Int.tdiv (b - d) 2), .int .i64 (Int.tdiv (a + c) 2), .int .i64 (Int.tdiv (b + d) 2), .int .i64 (Int.tdiv (c - a) 2)], .bool true]) (by simp [results, Try.results120, go_sem, *]) rfl ⟨rfl, ?_⟩
  (repeat (refine Ext.setCell ?_ (by first | (simp; done) | (simp; omega)) _)); exact hx3'

set_option maxHeartbeats 1000000 in
theorem dyadicOf_any (n : Nat) (hn : n ≤ 60) (X : R4) (hX : X.rg = true) (w : World) :
    Calls Try.prog 112 #[.agg #[.int .i64 X.a, .int .i64 X.b, .int .i64 X.c, .int .i64 X.d], .int .i64 n] w fun e w' => e = .returned (.tuple #[.agg #[.int .i64 (lowX n X).a, .int .i64 (lowX n X).b, .int .i64 (lowX n X).c, .int .i64 (lowX n X).d, .int .i64 (lowE n X)], .bool true]) ∧ Ext w w' := by
  obtain ⟨xa, xb, xc, xd⟩ := X
  have HX := Lib.hid hX
  have HV : ∀ w', Hid (Calls Try.prog 116 #[.agg #[.int .i64 xa, .int .i64 xb, .int .i64 xc, .int .i64 xd]] w' fun e w'' => e = .returned (.bool true) ∧ Ext w' w'') := by
    rw [← hX]
    exact fun w' => isValidRing_any xa xb xc xd w'
  have hw : Wn (n : Int) 0 60 = true := Wn_iff.2 (by omega)
  have HW : ∀ w', Hid (Calls Try.prog 68 #[.int .i64 n, .int .i64 0, .int .i64 60] w' fun e w'' => e = .returned (.bool true) ∧ w' = w'') := by
    rw [← hw]
    exact fun w' => within_any _ _ _ w'
  clear hX hw
  go_enter Try.func112, Try.ntmps112
  go_wp2_with fail
  refine ((HV _).out).mono ?_
  rintro e w1 ⟨rfl, hx1⟩
  obtain ⟨hc1, hf1⟩ := hx1.cells
  have hz1 := hx1.size
  try simp at hz1
  have hs1_0 := sz2 (a := w.heap.size) (b := w1.heap.size) (by omega)
  have hb1 : w1.heap[w.heap.size]? = some (.cells #[.int .i64 xa, .int .i64 xb, .int .i64 xc, .int .i64 xd] 105 (0, 0)) := (hx1.heap (by simp; omega)).trans (heap_alloc_lt (heap_alloc_new _ _))
  have hr1 : w1.heap[w.heap.size + 1]? = some (.cells #[.int .i64 0, .int .i64 0, .int .i64 0, .int .i64 0, .int .i64 0] 107 (0, 0)) := (hx1.heap (by simp)).trans (heap_alloc_at _ _ _ (by simp))
  have HB1 := Lib.hid hb1
  have HR1 := Lib.hid hr1
  clear hb1 hr1
  have hE1 : Ext w w1 := (((Ext.refl w).alloc _).alloc _).trans hx1
  go_wp2_with (go_at_call 68; ((with_reducible refine ((HW _).out).mono ?_); rintro e w' ⟨rfl, rfl⟩))
  go_loopw [1] (fun ev wr => ∃ (k : Nat) (Y : R4), k ≤ 60 ∧ ev = .int .i64 k ∧ Y.rg = true ∧ lowX k Y = lowX n ⟨xa, xb, xc, xd⟩ ∧ lowE k Y = lowE n ⟨xa, xb, xc, xd⟩ ∧ Ext w wr ∧ wr.heap[w.heap.size]? = some (.cells #[.int .i64 Y.a, .int .i64 Y.b, .int .i64 Y.c, .int .i64 Y.d] 105 (0, 0)) ∧ wr.heap[w.heap.size + 1]? = some (.cells #[.int .i64 0, .int .i64 0, .int .i64 0, .int .i64 0, .int .i64 0] 107 (0, 0))) (fun ev _ => (intOf ev).toNat)
  case atStart => exact ⟨n, ⟨xa, xb, xc, xd⟩, hn, rfl, HX.out, rfl, rfl, hE1, HB1.out, HR1.out⟩
  case round =>
    clear hc1 hf1 hz1 hs1_0
    obtain ⟨k, ⟨a, b, c, d⟩, hk, rfl, hY, hL, hE, hx, hb, hr⟩ := hrel
    have HL := Lib.hid hL
    have HE := Lib.hid hE
    have hY' : Rg a b c d = true := hY
    have HY := Lib.hid hY'
    have HYh : Hid ((R4.half ⟨a, b, c, d⟩).rg = true) := rg_half (x := ⟨a, b, c, d⟩) hY
    have HB := Lib.hid hb
    have HR := Lib.hid hr
    clear hL hE hY hY' hb hr
    have hc : ∀ k, wr.cell? ⟨w.heap.size, k, none⟩ = (#[.int .i64 a, .int .i64 b, .int .i64 c, .int .i64 d] : Array Value)[k]? := fun k => cell_of_row _ _ _ _ _ _ HB.out
    have hf : ∀ k, wr.frozen? ⟨w.heap.size, k, none⟩ = false := fun k => frozen_of_row _ _ _ _ _ HB.out
    have hcr : ∀ k, wr.cell? ⟨w.heap.size + 1, k, none⟩ = (#[.int .i64 0, .int .i64 0, .int .i64 0, .int .i64 0, .int .i64 0] : Array Value)[k]? := fun k => cell_of_row _ _ _ _ _ _ HR.out
    have hfr : ∀ k, wr.frozen? ⟨w.heap.size + 1, k, none⟩ = false := fun k => frozen_of_row _ _ _ _ _ HR.out
    have hs1 : w.heap.size + 1 < wr.heap.size := (Array.getElem?_eq_some_iff.1 HR.out).1
    have hl : w.heap.size < wr.heap.size := by omega
    by_cases h0 : 0 < k
    · have h0' : (0 : Int) < k := by omega
      have hk' : (k : Int) ≤ 60 := by omega
      cases he : evR a b c d
      · have HF := Lib.hid (low_end (k := k) (x := ⟨a, b, c, d⟩) (.inr he))
        go_wp2_with fail
        refine (isEven_any _ _ _ _ HY.out _).mono ?_
        rintro e w2 ⟨rfl, hx2⟩
        obtain ⟨hc2, hf2⟩ := hx2.cells
        have hz2 := hx2.size
        try simp at hz2
        have hs2_0 := sz2 (a := w.heap.size) (b := w2.heap.size) (by omega)
        rw [he]
        go_wp2
        refine bodyPost_ret (v := .tuple #[.agg #[.int .i64 a, .int .i64 b, .int .i64 c, .int .i64 d, .int .i64 k], .bool true]) (by simp [results, Try.results112, go_sem, *]) rfl ?_
        exact ⟨by rw [← HL.out, ← HE.out, HF.out.1, HF.out.2], (by repeat (first | (with_reducible refine Ext.setCell ?_ (by first | (simp; done) | (simp; omega)) _) | with_reducible refine Ext.alloc ?_ _ | with_reducible refine Ext.drew ?_ | with_reducible refine Ext.drewN ?_ _ | with_reducible assumption | with_reducible exact Ext.refl _ | with_reducible refine Ext.trans ?_ (by with_reducible assumption)))⟩
      · have HF := Lib.hid (low_step (k := k) (x := ⟨a, b, c, d⟩) h0 he)
        have HEV := Lib.hid he
        go_wp2_with fail
        refine (isEven_any _ _ _ _ HY.out _).mono ?_
        rintro e w2 ⟨rfl, hx2⟩
        obtain ⟨hc2, hf2⟩ := hx2.cells
        have hz2 := hx2.size
        try simp at hz2
        have hs2_0 := sz2 (a := w.heap.size) (b := w2.heap.size) (by omega)
        rw [he]
        clear he
        go_wp2_with fail
        refine (divRootTwo_any _ _ _ _ HY.out HEV.out _).mono ?_
        rintro e w3 ⟨rfl, hx3⟩
        obtain ⟨hc3, hf3⟩ := hx3.cells
        have hz3 := hx3.size
        try simp at hz3
        have hs3_0 := sz2 (a := w.heap.size) (b := w3.heap.size) (by omega)
        go_wp2
        have h2 : w3.heap[w.heap.size]? = some (.cells #[.int .i64 a, .int .i64 b, .int .i64 c, .int .i64 d] 105 (0, 0)) := (hx3.heap (by omega)).trans ((hx2.heap hl).trans HB.out)
        have h3 : w3.heap[w.heap.size + 1]? = some (.cells #[.int .i64 0, .int .i64 0, .int .i64 0, .int .i64 0, .int .i64 0] 107 (0, 0)) := (hx3.heap (by omega)).trans ((hx2.heap hs1).trans HR.out)
        go_roundw
        case rel => exact ⟨k - 1, R4.half ⟨a, b, c, d⟩, by omega, by go_num, HYh.out, HF.out.1.trans HL.out, HF.out.2.trans HE.out, (by repeat (first | (with_reducible refine Ext.setCell ?_ (by first | (simp; done) | (simp; omega)) _) | with_reducible refine Ext.alloc ?_ _ | with_reducible refine Ext.drew ?_ | with_reducible refine Ext.drewN ?_ _ | with_reducible assumption | with_reducible exact Ext.refl _ | with_reducible refine Ext.trans ?_ (by with_reducible assumption))), heap_set_at (heap_set_at (heap_set_at (heap_set_at h2 0 _) 1 _) 2 _) 3 _, (by repeat (first | (with_reducible exact h3) | (with_reducible refine heap_set_ne (by first | (simp; done) | (simp; omega)) ?_) | (with_reducible refine heap_alloc_lt ?_)))⟩
        case measure => simp [intOf]; omega
    · have h0' : ¬ (0 : Int) < k := by omega
      have HF := Lib.hid (low_end (k := k) (x := ⟨a, b, c, d⟩) (.inl (by omega)))
      go_wp2
      refine bodyPost_ret (v := .tuple #[.agg #[.int .i64 a, .int .i64 b, .int .i64 c, .int .i64 d, .int .i64 k], .bool true]) (by simp [results, Try.results112, go_sem, *]) rfl ?_
      exact ⟨by rw [← HL.out, ← HE.out, HF.out.1, HF.out.2], (by repeat (first | (with_reducible refine Ext.setCell ?_ (by first | (simp; done) | (simp; omega)) _) | with_reducible refine Ext.alloc ?_ _ | with_reducible refine Ext.drew ?_ | with_reducible refine Ext.drewN ?_ _ | with_reducible assumption | with_reducible exact Ext.refl _ | with_reducible refine Ext.trans ?_ (by with_reducible assumption)))⟩

theorem raise_fail {k : Nat} {x : R4} (h : x.root.rg = false) : raiseV (k + 1) x = R4.zero ∧ raiseB (k + 1) x = true := by
  unfold raiseV raiseB
  rw [clip_false h, h]
  exact ⟨(raise_zero k).1, rfl⟩
theorem raise_go {k : Nat} {x : R4} (h : x.root.rg = true) : raiseV (k + 1) x = raiseV k x.root ∧ raiseB (k + 1) x = raiseB k x.root := by
  have e1 : raiseV (k + 1) x = raiseV k x.root.clip := rfl
  have e2 : raiseB (k + 1) x = (!x.root.rg || raiseB k x.root.clip) := rfl
  rw [e1, e2, clip_true h, h]
  exact ⟨rfl, by simp⟩
theorem okMul_rg {a b c d : Int} (h : Rg a b c d = true) : okMulRootTwo a b c d = (R4.root ⟨a, b, c, d⟩).rg := by
  unfold okMulRootTwo
  rw [h]
  rfl

set_option maxHeartbeats 1000000 in
theorem raised_any (X : R4) (m n : Nat) (hX : X.rg = true) (hm : m ≤ 60) (hn : n ≤ 60) (w : World) :
    Calls Try.prog 121 #[.agg #[.int .i64 X.a, .int .i64 X.b, .int .i64 X.c, .int .i64 X.d, .int .i64 m], .int .i64 n] w fun e w' =>
      e = .returned (.tuple #[.agg #[.int .i64 (raiseV (n - m) X).a, .int .i64 (raiseV (n - m) X).b, .int .i64 (raiseV (n - m) X).c, .int .i64 (raiseV (n - m) X).d], .bool (!raiseB (n - m) X)]) ∧ Ext w w' := by
  have HX := Lib.hid hX
  clear hX
  have hnb : 0 ≤ (n : Int) ∧ (n : Int) ≤ 60 := by omega
  go_enter Try.func121, Try.ntmps121
  go_wp2
  go_loopw [7, 8] (fun ok kv wr => ∃ (k : Nat) (Z : R4) (o : Bool), ok = .bool o ∧ kv = .int .i64 k ∧ m ≤ k ∧ k ≤ 60 ∧ Z.rg = true ∧ (o = true → raiseV (n - k) Z = raiseV (n - m) X ∧ raiseB (n - k) Z = raiseB (n - m) X) ∧ (o = false → Z = R4.zero ∧ raiseV (n - m) X = R4.zero ∧ raiseB (n - m) X = true) ∧ Ext w wr ∧
    wr.heap[w.heap.size + 1]? = some (.cells #[.int .i64 0, .int .i64 0, .int .i64 0, .int .i64 0] 105 (0, 0)) ∧ wr.heap[w.heap.size + 2]? = some (.cells #[.int .i64 Z.a, .int .i64 Z.b, .int .i64 Z.c, .int .i64 Z.d] 105 (0, 0))) (fun _ kv _ => 60 - (intOf kv).toNat)
  case atStart =>
    refine ⟨m, X, true, rfl, rfl, Nat.le_refl _, hm, HX.out, fun _ => ⟨rfl, rfl⟩, (fun h => by cases h), (by repeat (first | (with_reducible refine Ext.setCell ?_ (by first | (simp; done) | (simp; omega)) _) | with_reducible refine Ext.alloc ?_ _ | with_reducible refine Ext.drew ?_ | with_reducible refine Ext.drewN ?_ _ | with_reducible assumption | with_reducible exact Ext.refl _ | with_reducible refine Ext.trans ?_ (by with_reducible assumption))), ?_, ?_⟩
    · exact heap_alloc_lt (heap_alloc_at _ _ _ (by simp))
    · exact heap_alloc_at _ _ _ (by simp)
  case round =>
    obtain ⟨k, ⟨a, b, c, d⟩, o, rfl, rfl, hk1, hk2, hZ, hT, hF, hE, hr, hb⟩ := hrel
    have HT := Lib.hid hT
    have HF := Lib.hid hF
    have hZ' : Rg a b c d = true := hZ
    have HZ := Lib.hid hZ'
    have HB := Lib.hid hb
    have HR := Lib.hid hr
    clear hT hF hZ hZ' hb hr
    have hc : ∀ k, wr.cell? ⟨w.heap.size + 2, k, none⟩ = (#[.int .i64 a, .int .i64 b, .int .i64 c, .int .i64 d] : Array Value)[k]? := fun k => cell_of_row _ _ _ _ _ _ HB.out
    have hf : ∀ k, wr.frozen? ⟨w.heap.size + 2, k, none⟩ = false := fun k => frozen_of_row _ _ _ _ _ HB.out
    have hcr : ∀ k, wr.cell? ⟨w.heap.size + 1, k, none⟩ = (#[.int .i64 0, .int .i64 0, .int .i64 0, .int .i64 0] : Array Value)[k]? := fun k => cell_of_row _ _ _ _ _ _ HR.out
    have hfr : ∀ k, wr.frozen? ⟨w.heap.size + 1, k, none⟩ = false := fun k => frozen_of_row _ _ _ _ _ HR.out
    have hs1 : w.heap.size + 2 < wr.heap.size := (Array.getElem?_eq_some_iff.1 HB.out).1
    have hl : w.heap.size + 1 < wr.heap.size := by omega
    have hkb : 0 ≤ (k : Int) ∧ (k : Int) ≤ 60 := by omega
    by_cases h0 : k < n
    · have h0' : (k : Int) < n := by omega
      cases o
      · have HF' := Lib.hid (HF.out rfl)
        go_wp2
        refine bodyPost_ret (v := .tuple #[.agg #[.int .i64 a, .int .i64 b, .int .i64 c, .int .i64 d], .bool false]) (by simp [results, Try.results121, go_sem, *]) rfl ?_
        obtain ⟨e1, e2, e3⟩ := HF'.out
        refine ⟨?_, (by repeat (first | (with_reducible refine Ext.setCell ?_ (by first | (simp; done) | (simp; omega)) _) | with_reducible refine Ext.alloc ?_ _ | with_reducible refine Ext.drew ?_ | with_reducible refine Ext.drewN ?_ _ | with_reducible assumption | with_reducible exact Ext.refl _ | with_reducible refine Ext.trans ?_ (by with_reducible assumption)))⟩
        rw [e2, e3, ← e1]
        rfl
      · have HT' := Lib.hid (HT.out rfl)
        have HM := fun w' => Lib.hid (mulRootTwo_any a b c d w')
        have HO := Lib.hid (okMul_rg HZ.out)
        simp only [HO.out] at HM
        cases hg : (R4.root ⟨a, b, c, d⟩).rg
        · have HRF := Lib.hid (raise_fail (k := n - (k + 1)) hg)
          rw [hg] at HM
          simp only [ifZ_false] at HM
          clear hg
          go_wp2_with fail
          refine ((HM _).out).mono ?_
          rintro e w1 ⟨rfl, hx1⟩
          obtain ⟨hc1, hf1⟩ := hx1.cells
          have hz1 := hx1.size
          try simp at hz1
          have hs1_0 := sz3 (a := w.heap.size) (b := w1.heap.size) (by omega)
          go_wp2
          have h2 : w1.heap[w.heap.size + 2]? = some (.cells #[.int .i64 a, .int .i64 b, .int .i64 c, .int .i64 d] 105 (0, 0)) := (hx1.heap (by omega)).trans HB.out
          have h3 : w1.heap[w.heap.size + 1]? = some (.cells #[.int .i64 0, .int .i64 0, .int .i64 0, .int .i64 0] 105 (0, 0)) := (hx1.heap (by omega)).trans HR.out
          go_roundw
          case rel =>
            have e := HT'.out
            rw [show n - k = n - (k + 1) + 1 by omega] at e
            exact ⟨k + 1, R4.zero, false, rfl, by go_num, by omega, by omega, rg_zero, (fun h => by cases h), (fun _ => ⟨rfl, e.1.symm.trans HRF.out.1, e.2.symm.trans HRF.out.2⟩), (by repeat (first | (with_reducible refine Ext.setCell ?_ (by first | (simp; done) | (simp; omega)) _) | with_reducible refine Ext.alloc ?_ _ | with_reducible refine Ext.drew ?_ | with_reducible refine Ext.drewN ?_ _ | with_reducible assumption | with_reducible exact Ext.refl _ | with_reducible refine Ext.trans ?_ (by with_reducible assumption))), (by repeat (first | (with_reducible exact h3) | (with_reducible refine heap_set_ne (by first | (simp; done) | (simp; omega)) ?_) | (with_reducible refine heap_alloc_lt ?_))), heap_set_at (heap_set_at (heap_set_at (heap_set_at h2 0 _) 1 _) 2 _) 3 _⟩
          case measure => simp [intOf]; omega
        · have HRG := Lib.hid (raise_go (k := n - (k + 1)) hg)
          have HG := Lib.hid hg
          rw [hg] at HM
          simp only [ifZ_true] at HM
          clear hg
          go_wp2_with fail
          refine ((HM _).out).mono ?_
          rintro e w1 ⟨rfl, hx1⟩
          obtain ⟨hc1, hf1⟩ := hx1.cells
          have hz1 := hx1.size
          try simp at hz1
          have hs1_0 := sz3 (a := w.heap.size) (b := w1.heap.size) (by omega)
          go_wp2
          have h2 : w1.heap[w.heap.size + 2]? = some (.cells #[.int .i64 a, .int .i64 b, .int .i64 c, .int .i64 d] 105 (0, 0)) := (hx1.heap (by omega)).trans HB.out
          have h3 : w1.heap[w.heap.size + 1]? = some (.cells #[.int .i64 0, .int .i64 0, .int .i64 0, .int .i64 0] 105 (0, 0)) := (hx1.heap (by omega)).trans HR.out
          go_roundw
          case rel =>
            have e := HT'.out
            rw [show n - k = n - (k + 1) + 1 by omega, HRG.out.1, HRG.out.2] at e
            exact ⟨k + 1, R4.root ⟨a, b, c, d⟩, true, rfl, by go_num, by omega, by omega, HG.out, (fun _ => e), (fun h => by cases h), (by repeat (first | (with_reducible refine Ext.setCell ?_ (by first | (simp; done) | (simp; omega)) _) | with_reducible refine Ext.alloc ?_ _ | with_reducible refine Ext.drew ?_ | with_reducible refine Ext.drewN ?_ _ | with_reducible assumption | with_reducible exact Ext.refl _ | with_reducible refine Ext.trans ?_ (by with_reducible assumption))), (by repeat (first | (with_reducible exact h3) | (with_reducible refine heap_set_ne (by first | (simp; done) | (simp; omega)) ?_) | (with_reducible refine heap_alloc_lt ?_))), heap_set_at (heap_set_at (heap_set_at (heap_set_at h2 0 _) 1 _) 2 _) 3 _⟩
          case measure => simp [intOf]; omega
    · have h0' : ¬ (k : Int) < n := by omega
      have e0 : n - k = 0 := by omega
      have HN : Hid (raiseV (n - m) X = ⟨a, b, c, d⟩ ∧ (!raiseB (n - m) X) = o) := by
        unfold Hid
        cases o
        · obtain ⟨e1, e2, e3⟩ := HF.out rfl
          exact ⟨e2.trans e1.symm, by rw [e3]; rfl⟩
        · obtain ⟨e1, e2⟩ := HT.out rfl
          rw [e0] at e1 e2
          exact ⟨e1.symm, by rw [← e2]; rfl⟩
      go_wp2
      refine bodyPost_ret (v := .tuple #[.agg #[.int .i64 a, .int .i64 b, .int .i64 c, .int .i64 d], .bool o]) (by simp [results, Try.results121, go_sem, *]) rfl ?_
      exact ⟨by rw [HN.out.1, HN.out.2], (by repeat (first | (with_reducible refine Ext.setCell ?_ (by first | (simp; done) | (simp; omega)) _) | with_reducible refine Ext.alloc ?_ _ | with_reducible refine Ext.drew ?_ | with_reducible refine Ext.drewN ?_ _ | with_reducible assumption | with_reducible exact Ext.refl _ | with_reducible refine Ext.trans ?_ (by with_reducible assumption)))⟩

end Go.Proofs.Ytbddgeoaaklgpaa
