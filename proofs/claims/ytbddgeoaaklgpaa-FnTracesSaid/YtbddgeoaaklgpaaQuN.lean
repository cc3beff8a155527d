/- Numbers over a root: what a cell of an operator stands for (plain). -/
import Derived.Test.YtbddgeoaaklgpaaDyJ
import Derived.Test.YtbddgeoaaklgpaaCpL
import Derived.Test.YtbddgeoaaklgpaaQuT
import Derived.Test.YtbddgeoaaklgpaaMu
namespace Go.Proofs.Ytbddgeoaaklgpaa
open Go.RowKit
set_option linter.unusedVariables false
set_option linter.unusedSimpArgs false

/-- x at exponent e stands for X over the h-th power of the root of two, in lowest form -/
def Rp (h : Nat) (X : R4) (x : R4) (e : Int) : Prop := ∃ s : Nat, e = s ∧ s ≤ h ∧ rt (h - s) x = X ∧ (s = 0 ∨ x.ev = false)
theorem Rp.uniq {h : Nat} {X x y : R4} {e f : Int} (h1 : Rp h X x e) (h2 : Rp h X y f) : x = y ∧ e = f := by
  obtain ⟨s, rfl, a1, a2, a3⟩ := h1
  obtain ⟨t, rfl, b1, b2, b3⟩ := h2
  obtain ⟨c1, c2⟩ := Go.Proofs.Ytbddgeoaaklgpaa.uniq a1 b1 a3 b3 (a2.trans b2.symm)
  exact ⟨c1, by rw [c2]⟩
/-- all parts at most B -/
def bd (B : Int) (x : R4) : Prop := (-B ≤ x.a ∧ x.a ≤ B) ∧ (-B ≤ x.b ∧ x.b ≤ B) ∧ (-B ≤ x.c ∧ x.c ≤ B) ∧ (-B ≤ x.d ∧ x.d ≤ B)
theorem bd_root {B : Int} {x : R4} (h : bd B x.root) : bd B x := by
  unfold bd R4.root at *
  simp only at h
  omega
theorem bd_rt {B : Int} : ∀ n {x : R4}, bd B (rt n x) → bd B x
  | 0, _, h => h
  | n + 1, x, h => bd_rt n (bd_root (x := rt n x) h)
theorem bd_rg {B : Int} {x : R4} (hB : B ≤ 1000000000) (h : bd B x) : x.rg = true := Rg_mk (by unfold bd at h; omega)
theorem rt_succ (n : Nat) (x : R4) : rt (n + 1) x = rt n x.root := (rt_rt n 1 x).symm
theorem raise_ok {B : Int} (hB : B ≤ 1000000000) : ∀ n k (x : R4), n ≤ k → bd B (rt k x) → raiseB n x = false
  | 0, _, _, _, _ => rfl
  | n + 1, k, x, hn, h => by
    obtain ⟨m, rfl⟩ : ∃ m, k = m + 1 := ⟨k - 1, by omega⟩
    rw [rt_succ] at h
    have h1 : bd B x.root := bd_rt m h
    have hr := bd_rg hB h1
    unfold raiseB
    rw [hr, clip_true hr, raise_ok hB n m x.root (by omega) h]
    rfl
theorem Rp.gd {h : Nat} {X x : R4} {e : Int} {B : Int} (hr : Rp h X x e) (hh : h ≤ 60) (hB : B ≤ 1000000000) (hX : bd B X) : GD x e = true := by
  obtain ⟨s, rfl, a1, a2, a3⟩ := hr
  have h1 : bd B x := bd_rt (h - s) (by rw [a2]; exact hX)
  have hrg := bd_rg hB h1
  unfold GD
  rw [hrg]
  rcases a3 with a3 | a3
  · subst a3; simp
  · rw [a3]; simp; omega
theorem bd_add {A B : Int} {x y : R4} (h1 : bd A x) (h2 : bd B y) : bd (A + B) (x.add y) := by
  unfold bd R4.add at *
  simp only
  omega
theorem Rp.add {h : Nat} {X x Y y : R4} {e f : Int} {B : Int} (h1 : Rp h X x e) (h2 : Rp h Y y f) (hh : h ≤ 60) (hB : B ≤ 500000000) (hX : bd B X) (hY : bd B Y) : adOk x e y f = true ∧ Rp h (X.add Y) (adX x e y f) (adE x e y f) := by
  have g1 := h1.gd hh (by omega) hX
  have g2 := h2.gd hh (by omega) hY
  have h1' := h1
  have h2' := h2
  obtain ⟨s, rfl, a1, a2, a3⟩ := h1
  obtain ⟨t, rfl, b1, b2, b3⟩ := h2
  have ok : adOk x s y t = true := by
    unfold adOk
    rw [g1, g2]
    have r1 : raiseB (t - s) x = false := raise_ok (B := B) (by omega) (t - s) (h - s) x (by omega) (by rw [a2]; exact hX)
    have r2 : raiseB (s - t) y = false := raise_ok (B := B) (by omega) (s - t) (h - t) y (by omega) (by rw [b2]; exact hY)
    have e1 : bd B (rt (t - s) x) := bd_rt (h - s - (t - s)) (by rw [rt_rt, show h - s - (t - s) + (t - s) = h - s by omega, a2]; exact hX)
    have e2 : bd B (rt (s - t) y) := bd_rt (h - t - (s - t)) (by rw [rt_rt, show h - t - (s - t) + (s - t) = h - t by omega, b2]; exact hY)
    have e3 := bd_rg (by omega) (bd_add e1 e2)
    unfold dyBad dyS
    simp only [Int.toNat_natCast]
    rw [r1, r2, raise_rt _ _ r1, raise_rt _ _ r2, e3]
    rfl
  refine ⟨ok, ?_⟩
  obtain ⟨q, m, n, e1, e2, e3, e4, e5, -, -, e6⟩ := ad_spec ok
  obtain rfl : s = m := by omega
  obtain rfl : t = n := by omega
  refine ⟨q, e3, by omega, ?_, e5⟩
  have := congrArg (rt (h - max s t)) e6
  rw [rt_add, rt_rt, rt_rt, rt_rt, show h - max s t + (max s t - q) = h - q by omega, show h - max s t + (max s t - s) = h - s by omega, show h - max s t + (max s t - t) = h - t by omega, a2, b2] at this
  exact this
theorem Rp.mul {p q : Nat} {X x Y y : R4} {e f : Int} {A B : Int} (h1 : Rp p X x e) (h2 : Rp q Y y f) (hh : p + q ≤ 60) (hA : A ≤ 1000000000) (hB : B ≤ 1000000000) (hX : bd A X) (hY : bd B Y) (hxy : ∀ u v, bd A u → bd B v → (u.mul v).rg = true) : muOk x e y f = true ∧ Rp (p + q) (X.mul Y) (muX x e y f) (muE x e y f) := by
  have g1 := h1.gd (by omega) hA hX
  have g2 := h2.gd (by omega) hB hY
  obtain ⟨s, rfl, a1, a2, a3⟩ := h1
  obtain ⟨t, rfl, b1, b2, b3⟩ := h2
  have ok : muOk x s y t = true := by
    unfold muOk
    rw [g1, g2]
    have e1 : bd A x := bd_rt (p - s) (by rw [a2]; exact hX)
    have e2 : bd B y := bd_rt (q - t) (by rw [b2]; exact hY)
    unfold mvBad
    rw [hxy x y e1 e2]
    simp
    omega
  refine ⟨ok, ?_⟩
  obtain ⟨r, m, n, e1, e2, e3, e4, e5, e6⟩ := mu_spec ok
  obtain rfl : s = m := by omega
  obtain rfl : t = n := by omega
  refine ⟨r, e3, by omega, ?_, e5⟩
  have hm : rt (p - s + (q - t)) (x.mul y) = X.mul Y := by
    rw [← rt_rt, show rt (q - t) (x.mul y) = x.mul (rt (q - t) y) by rw [mul_comm4, rt_mul, mul_comm4], rt_mul, a2, b2]
  rw [← e6, rt_rt, show p - s + (q - t) + (s + t - r) = p + q - r by omega] at hm
  exact hm
theorem Rp.zero (h : Nat) : Rp h R4.zero R4.zero 0 := ⟨0, rfl, Nat.zero_le _, by
  generalize h - 0 = n
  induction n with
  | zero => rfl
  | succ n ih => show (rt n R4.zero).root = _; rw [ih]; rfl, .inl rfl⟩
theorem Rp.whole (x : R4) : Rp 0 x x 0 := ⟨0, rfl, Nat.le_refl _, rfl, .inl rfl⟩
/-- a number over one root that is not even -/
theorem Rp.half {x : R4} (h : x.ev = false) : Rp 1 x x 1 := ⟨1, rfl, Nat.le_refl _, rfl, .inr h⟩


open Go.RowKit
set_option linter.unusedVariables false
set_option linter.unusedSimpArgs false

/-- the basis state that a gate on two qubits comes from -/
def cfr (n k a b s : Nat) : Nat := if k = 9 ∧ bq n s a = 1 then fl n s b else if k = 11 ∧ bq n s a ≠ bq n s b then fl n (fl n s a) b else s
/-- a cell of a gate on one qubit -/
def entV (k i j : Nat) : R4 × Nat :=
  if k = 1 then (if i = 1 ∧ j = 1 then ⟨-1, 0, 0, 0⟩ else R4.one, 1)
  else if k = 2 ∧ i ≠ j then (R4.one, 0)
  else if k = 3 ∧ i ≠ j then (wp (2 + 4 * j), 0)
  else if k = 2 ∨ k = 3 ∨ i ≠ j then (R4.zero, 0)
  else if i = 0 then (R4.one, 0)
  else (wp (cfN k), 0)
/-- a cell of a gate's matrix -/
def gcV (n k a b i j : Nat) : R4 × Nat :=
  if k = 12 then (if i = j then (wp 1, 0) else (R4.zero, 0))
  else if 9 ≤ k ∧ k ≤ 11 then (if cfr n k a b i = j then (wp (4 * (if k = 10 ∧ bq n i a = 1 ∧ bq n i b = 1 then 1 else 0)), 0) else (R4.zero, 0))
  else if i = j ∨ fl n i a = j then entV k (bq n i a) (bq n j a)
  else (R4.zero, 0)
def eqR (x y : R4) : Bool := x.a == y.a && (x.b == y.b && (x.c == y.c && x.d == y.d))
theorem eqR_iff {x y : R4} (h : eqR x y = true) : x = y := by
  unfold eqR at h
  simp only [Bool.and_eq_true, beq_iff_eq] at h
  exact R4.eq h.1 h.2.1 h.2.2.1 h.2.2.2
/-- a gate's cell is what the paths say -/
def chk (n k a b i t : Nat) : Bool :=
  eqR (gcV n k a b i t).1 (gat n (k, a, b) i t) && (if k = 1 then ((gcV n k a b i t).2 == 1 && !(gcV n k a b i t).1.ev) || ((gcV n k a b i t).2 == 0 && eqR (gcV n k a b i t).1 R4.zero) else (gcV n k a b i t).2 == 0)
def chkA (n : Nat) : Bool := (List.range 13).all fun k => (List.range n).all fun a => (List.range n).all fun b => (List.range (2 ^ n)).all fun i => (List.range (2 ^ n)).all fun t => k == 0 || ((decide (9 ≤ k) && (decide (k ≤ 11) && a == b)) || chk n k a b i t)
theorem chk1 : chkA 1 = true := by kernel_rfl
theorem chk2 : chkA 2 = true := by kernel_rfl
theorem chk3 : chkA 3 = true := by kernel_rfl
theorem chkQ {q : Nat} (h1 : 1 ≤ q) (h2 : q ≤ 3) : chkA q = true := by
  have : q = 1 ∨ q = 2 ∨ q = 3 := by omega
  rcases this with rfl | rfl | rfl
  · exact chk1
  · exact chk2
  · exact chk3
/-- the cell of a gate's matrix stands for what the paths say -/
theorem gat_rp {q : Nat} (h1 : 1 ≤ q) (h2 : q ≤ 3) {k a b : Nat} (hk : 1 ≤ k ∧ k ≤ 12) (ha : a < q) (hb : b < q) (hab : 9 ≤ k → k ≤ 11 → a ≠ b) {i t : Nat} (hi : i < 2 ^ q) (ht : t < 2 ^ q) :
    Rp (nH [(k, a, b)]) (gat q (k, a, b) i t) (gcV q k a b i t).1 (gcV q k a b i t).2 := by
  have h := chkQ h1 h2
  unfold chkA at h
  simp only [List.all_eq_true, List.mem_range] at h
  have h3 := h k (by omega) a ha b hb i hi t ht
  have h4 : (k == 0) = false := by simp; omega
  have h5 : (decide (9 ≤ k) && (decide (k ≤ 11) && a == b)) = false := by
    by_cases c1 : 9 ≤ k
    · by_cases c2 : k ≤ 11
      · simp [c1, c2, hab c1 c2]
      · simp [c2]
    · simp [c1]
  rw [h4, h5, Bool.false_or, Bool.false_or] at h3
  unfold chk at h3
  rw [Bool.and_eq_true] at h3
  obtain ⟨e1, e2⟩ := h3
  have e1 := eqR_iff e1
  rw [← e1]
  by_cases hk1 : k = 1
  · rw [if_pos hk1] at e2
    have hn : nH [(k, a, b)] = 1 := by simp [nH, hk1]
    rw [hn]
    simp only [Bool.or_eq_true, Bool.and_eq_true, beq_iff_eq, Bool.not_eq_true'] at e2
    rcases e2 with ⟨f1, f2⟩ | ⟨f1, f2⟩
    · rw [f1]; exact Rp.half f2
    · rw [f1, eqR_iff f2]; exact Rp.zero 1
  · rw [if_neg hk1] at e2
    have hn : nH [(k, a, b)] = 0 := by simp [nH, hk1]
    rw [hn, beq_iff_eq.1 e2]
    exact Rp.whole _
/-- sums over paths are bounded by their number -/
theorem bd_mono {A B : Int} {x : R4} (h : bd A x) (hAB : A ≤ B) : bd B x := by
  unfold bd at *
  omega
theorem bd_TS (n : Nat) {f : Nat → (Nat → Bool) → Nat → R4} (hf : ∀ t α e, bd 1 (f t α e)) : ∀ (l : List G3) (t u : Nat) (α : Nat → Bool) (e : Nat), bd ((2 ^ nH l : Nat) : Int) (TS n l f t u α e)
  | [], t, u, α, e => hf t α e
  | (k, a, b) :: l, t, u, α, e => by
    show bd _ (if k = 1 then _ else _)
    by_cases hk : k = 1
    · rw [if_pos hk]
      have hn : nH ((k, a, b) :: l) = nH l + 1 := by simp [nH, hk]; omega
      rw [hn, Nat.pow_succ]
      exact bd_mono (bd_add (bd_TS n hf l _ _ _ _) (bd_TS n hf l _ _ _ _)) (by push_cast; omega)
    · rw [if_neg hk]
      have hn : nH ((k, a, b) :: l) = nH l := by simp [nH, hk]
      rw [hn]
      exact bd_TS n hf l _ _ _ _
theorem bd_wp (e : Nat) : bd 1 (wp e) := by
  rw [← wp_mod]
  have h : e % 8 < 8 := Nat.mod_lt _ (by decide)
  generalize e % 8 = m at *
  have : m = 0 ∨ m = 1 ∨ m = 2 ∨ m = 3 ∨ m = 4 ∨ m = 5 ∨ m = 6 ∨ m = 7 := by omega
  unfold bd
  rcases this with rfl | rfl | rfl | rfl | rfl | rfl | rfl | rfl <;> decide
theorem bd_ind (i : Nat) (t e : Nat) : bd 1 (if t = i then wp e else R4.zero) := by
  split
  · exact bd_wp e
  · unfold bd; decide
theorem bd_amp (n : Nat) (l : List G3) (i j : Nat) : bd ((2 ^ nH l : Nat) : Int) (amp n l i j) := bd_TS n (fun t _ e => bd_ind i t e) l _ _ _ _
theorem bd_gat (n : Nat) (g : G3) (i t : Nat) : bd 2 (gat n g i t) := by
  refine bd_mono (bd_TS n (fun t _ e => bd_ind i t e) [g] _ _ _ _) ?_
  obtain ⟨k, a, b⟩ := g
  show ((2 ^ ((if k = 1 then 1 else 0) + 0) : Nat) : Int) ≤ 2
  split <;> decide
theorem bd_mul {A B : Int} {x y : R4} (hx : bd A x) (hy : bd B y) : bd (4 * (A * B)) (x.mul y) := by
  obtain ⟨a1, a2, a3, a4⟩ := hx
  obtain ⟨b1, b2, b3, b4⟩ := hy
  have m := fun (u v : Int) (hu : -A ≤ u ∧ u ≤ A) (hv : -B ≤ v ∧ v ≤ B) => mul_bd (a := u) (b := v) (A := A) (B := B) hu.1 hu.2 hv.1 hv.2
  have p1 := m _ _ a1 b1
  have p2 := m _ _ a1 b2
  have p3 := m _ _ a1 b3
  have p4 := m _ _ a1 b4
  have p5 := m _ _ a2 b1
  have p6 := m _ _ a2 b2
  have p7 := m _ _ a2 b3
  have p8 := m _ _ a2 b4
  have p9 := m _ _ a3 b1
  have p10 := m _ _ a3 b2
  have p11 := m _ _ a3 b3
  have p12 := m _ _ a3 b4
  have p13 := m _ _ a4 b1
  have p14 := m _ _ a4 b2
  have p15 := m _ _ a4 b3
  have p16 := m _ _ a4 b4
  unfold bd R4.mul mrA mrB mrC mrD
  simp only
  generalize A * B = C at *
  refine ⟨⟨?_, ?_⟩, ⟨?_, ?_⟩, ⟨?_, ?_⟩, ⟨?_, ?_⟩⟩ <;> omega
theorem bd_sm4 {B : Int} {f : Nat → R4} (hf : ∀ t, bd B (f t)) (hB : 0 ≤ B) : ∀ m : Nat, bd ((m : Int) * B) (sm4 f m)
  | 0 => by unfold bd sm4 R4.zero; simp
  | m + 1 => by
    show bd _ ((sm4 f m).add (f m))
    exact bd_mono (bd_add (bd_sm4 hf hB m) (hf m)) (by push_cast; rw [Int.add_mul]; omega)


open Go.RowKit
set_option linter.unusedVariables false
set_option linter.unusedSimpArgs false

theorem moL_cellQ (X : Nat → R4) (E : Nat → Int) : ∀ {N p : Nat}, p < N → (IL (moL X E N))[p * 5]? = some (.int .i64 (X p).a) ∧ (IL (moL X E N))[p * 5 + 1]? = some (.int .i64 (X p).b) ∧ (IL (moL X E N))[p * 5 + 2]? = some (.int .i64 (X p).c) ∧ (IL (moL X E N))[p * 5 + 3]? = some (.int .i64 (X p).d) ∧ (IL (moL X E N))[p * 5 + 4]? = some (.int .i64 (E p))
  | N + 1, p, h => by
    rw [moL_succ]
    have hl : (IL (moL X E N)).length = N * 5 := by rw [il_length, moL_len]
    by_cases h1 : p = N
    · subst h1
      refine ⟨?_, ?_, ?_, ?_, ?_⟩ <;> rw [List.getElem?_append_right (by omega), hl]
      · rw [Nat.sub_self]; rfl
      · rw [Nat.add_sub_cancel_left]; rfl
      · rw [Nat.add_sub_cancel_left]; rfl
      · rw [Nat.add_sub_cancel_left]; rfl
      · rw [Nat.add_sub_cancel_left]; rfl
    · obtain ⟨e1, e2, e3, e4, e5⟩ := moL_cellQ X E (N := N) (p := p) (by omega)
      refine ⟨?_, ?_, ?_, ?_, ?_⟩ <;> rw [List.getElem?_append_left (by omega)] <;> assumption
theorem at3_ofQ {xs : List Int} {j : Nat} {z : Int} (h : (IL xs)[j]? = some (.int .i64 z)) : at3 xs j = z := by
  by_cases hj : j < xs.length
  · rw [at3_get hj] at h
    simpa using h
  · rw [List.getElem?_eq_none (by rw [il_length]; omega)] at h
    cases h
theorem dy_moL (X : Nat → R4) (E : Nat → Int) {N p : Nat} (h : p < N) : dyAt (moL X E N) p = X p ∧ exAt (moL X E N) p = E p := by
  obtain ⟨h1, h2, h3, h4, h5⟩ := moL_cellQ X E h
  unfold dyAt exAt
  rw [at3_ofQ h1, at3_ofQ h2, at3_ofQ h3, at3_ofQ h4, at3_ofQ h5]
  exact ⟨rfl, rfl⟩
theorem allTo_mkQ {f : Nat → Bool} : ∀ {n : Nat}, (∀ j, j < n → f j = true) → allTo f n = true
  | 0, _ => rfl
  | n + 1, h => by
    unfold allTo
    rw [allTo_mkQ (n := n) fun j hj => h j (by omega), h n (by omega)]
    rfl
/-- a gate's matrix; the operator of the first k gates; whether it is there -/
def gmL (q : Nat) (g : G3) : List Int := moL (fun p => (gcV q g.1 g.2.1 g.2.2 (p / 2 ^ q) (p % 2 ^ q)).1) (fun p => ((gcV q g.1 g.2.1 g.2.2 (p / 2 ^ q) (p % 2 ^ q)).2 : Int)) (2 ^ q * 2 ^ q)
def unL (q : Nat) : List Int := moL (fun p => if p / 2 ^ q = p % 2 ^ q then R4.one else R4.zero) (fun _ => 0) (2 ^ q * 2 ^ q)
def opL (q : Nat) (xs : List Int) : Nat → List Int
  | 0 => unL q
  | k + 1 => mmLM (gmL q (gN xs k)) (opL q xs k) (2 ^ q) (2 ^ q) (2 ^ q * 2 ^ q)
def opB (q : Nat) (xs : List Int) : Nat → Bool
  | 0 => true
  | k + 1 => opB q xs k && mmOkM ((2 ^ q : Nat) : Int) ((2 ^ q : Nat) : Int) (2 ^ q * 2 ^ q) (gmL q (gN xs k)) ((2 ^ q : Nat) : Int) ((2 ^ q : Nat) : Int) (2 ^ q * 2 ^ q) (opL q xs k)
theorem opL_len (q : Nat) (xs : List Int) : ∀ k, (opL q xs k).length = 2 ^ q * 2 ^ q * 5
  | 0 => moL_len _ _ _
  | k + 1 => moL_len _ _ _
theorem gmL_len (q : Nat) (g : G3) : (gmL q g).length = 2 ^ q * 2 ^ q * 5 := moL_len _ _ _
theorem pair_lt {N i j : Nat} (hi : i < N) (hj : j < N) : i * N + j < N * N := by
  have : (i + 1) * N ≤ N * N := Nat.mul_le_mul_right N hi
  rw [Nat.add_mul] at this
  omega
/-- a product of two matrices that stand for others -/
theorem mul_rep {N : Nat} (hN : N ≤ 8) {xs ys : List Int} {p h : Nat} (hp : p ≤ 1) (hh : h ≤ 20) {G A : Nat → Nat → R4} (hG : ∀ i t, i < N → t < N → Rp p (G i t) (dyAt xs (i * N + t)) (exAt xs (i * N + t))) (hA : ∀ t j, t < N → j < N → Rp h (A t j) (dyAt ys (t * N + j)) (exAt ys (t * N + j)))
    (bG : ∀ i t, bd 2 (G i t)) (bA : ∀ t j, bd 1048576 (A t j)) {i j : Nat} (hi : i < N) (hj : j < N) : ∀ m, m ≤ N → mlO xs ys N N i j m = true ∧ Rp (p + h) (sm4 (fun t => (G i t).mul (A t j)) m) (mlV xs ys N N i j m).1 (mlV xs ys N N i j m).2
  | 0, _ => ⟨rfl, Rp.zero _⟩
  | m + 1, hm => by
    obtain ⟨h1, h2⟩ := mul_rep hN hp hh hG hA bG bA hi hj m (by omega)
    have hmu := Rp.mul (hG i m hi (by omega)) (hA m j (by omega) hj) (by omega) (A := 2) (B := 1048576) (by omega) (by omega) (bG i m) (bA m j) (fun u v hu hv => bd_rg (B := 4 * (2 * 1048576)) (by omega) (bd_mul hu hv))
    have bP : ∀ t, bd (4 * (2 * 1048576)) ((G i t).mul (A t j)) := fun t => bd_mul (bG i t) (bA t j)
    have bS : bd 67108864 (sm4 (fun t => (G i t).mul (A t j)) m) := bd_mono (bd_sm4 bP (by omega) m) (by
      have : (m : Int) ≤ 8 := by omega
      have h0 := mul_bd (a := (m : Int)) (b := 4 * (2 * 1048576)) (A := 8) (B := 4 * (2 * 1048576)) (by omega) (by omega) (by omega) (by omega)
      omega)
    have had := Rp.add h2 hmu.2 (by omega) (B := 67108864) (by omega) bS (bd_mono (bP m) (by omega))
    refine ⟨?_, had.2⟩
    rw [mlO_succ, h1, Bool.true_and]
    unfold mlB
    rw [hmu.1, had.1]
    rfl
theorem dim_q {q : Nat} (h1 : 1 ≤ q) (h3 : q ≤ 3) : dimB ((2 ^ q : Nat) : Int) = true ∧ 2 ^ q ≤ 8 := by
  have : q = 1 ∨ q = 2 ∨ q = 3 := by omega
  rcases this with rfl | rfl | rfl <;> decide
theorem good_rep {N : Nat} (hd : dimB (N : Int) = true) {ys : List Int} {h : Nat} (hh : h ≤ 60) {A : Nat → Nat → R4} {B : Int} (hB : B ≤ 1000000000) (hA : ∀ t j, t < N → j < N → Rp h (A t j) (dyAt ys (t * N + j)) (exAt ys (t * N + j))) (bA : ∀ t j, bd B (A t j)) : mGood (N : Int) (N : Int) (N * N) ys = true := by
  have hm : mOk ys (N * N) = true := allTo_mkQ fun p hp => by
    have hN : 0 < N := by
      rcases Nat.eq_zero_or_pos N with h | h
      · subst h; simp at hp
      · exact h
    have e : p / N * N + p % N = p := by rw [Nat.mul_comm]; exact Nat.div_add_mod p N
    have hi : p / N < N := Nat.div_lt_of_lt_mul hp
    have h1 := hA (p / N) (p % N) hi (Nat.mod_lt _ hN)
    rw [e] at h1
    exact h1.gd hh hB (bA _ _)
  unfold mGood
  rw [hd, hm]
  simp
theorem clG_q {q : Nat} {xs : List Int} {n : Nat} (hc : cOk q xs n = true) : ∀ k, k ≤ n → ∀ g ∈ clG xs k, g.2.1 < q ∧ g.2.2 < q
  | 0, _, g, hg => by cases hg
  | k + 1, hk, g, hg => by
    have hg' : g ∈ clG xs k ++ [gN xs k] := hg
    rcases List.mem_append.1 hg' with h | h
    · exact clG_q hc k (by omega) g h
    · simp only [List.mem_singleton] at h
      have f := gOk_facts (cOk_gate hc (show k < n by omega)) (cOk_q1 hc).1
      rw [h]
      unfold gN
      constructor
      · show (at3 xs (k * 3 + 1)).toNat < q
        omega
      · show (at3 xs (k * 3 + 2)).toNat < q
        omega
theorem gOk_neq {q : Nat} {k a b : Int} (hg : gOk q k a b = true) (h9 : 9 ≤ k) (h11 : k ≤ 11) : a ≠ b := by
  unfold gOk at hg
  rw [if_neg (by rw [Wn_iff]; omega), if_pos (Wn_iff.2 ⟨h9, h11⟩)] at hg
  simp only [Bool.and_eq_true, bne_iff_ne] at hg
  exact hg.2.2
theorem pow20 {h : Nat} (hh : h ≤ 20) : ((2 ^ h : Nat) : Int) ≤ 1048576 := by
  have : 2 ^ h ≤ 2 ^ 20 := Nat.pow_le_pow_right (by decide) hh
  have e : (2 : Nat) ^ 20 = 1048576 := by decide
  omega
theorem op_rep {q : Nat} {xs : List Int} {n : Nat} (hq : q ≤ 3) (hc : cOk q xs n = true) : ∀ k, k ≤ n → nH (clG xs k) ≤ 20 → opB q xs k = true ∧ ∀ i j, i < 2 ^ q → j < 2 ^ q → Rp (nH (clG xs k)) (amp q (clG xs k) i j) (dyAt (opL q xs k) (i * 2 ^ q + j)) (exAt (opL q xs k) (i * 2 ^ q + j)) := by
  have q1 := (cOk_q1 hc).1
  have hB := bitsQ q1 hq
  obtain ⟨hd, h8⟩ := dim_q q1 hq
  intro k
  induction k with
  | zero =>
    intro _ _
    refine ⟨rfl, fun i j hi hj => ?_⟩
    obtain ⟨d1, d2⟩ := dy_moL (fun p => if p / 2 ^ q = p % 2 ^ q then R4.one else R4.zero) (fun _ => 0) (pair_lt hi hj)
    show Rp 0 (if j = i then wp 0 else R4.zero) (dyAt (unL q) _) (exAt (unL q) _)
    unfold unL
    rw [d1, d2, (pair_div hj).1, (pair_div hj).2]
    by_cases e : i = j
    · rw [if_pos e, if_pos e.symm]; exact Rp.whole _
    · rw [if_neg e, if_neg (fun h => e h.symm)]; exact Rp.whole _
  | succ k ih =>
    intro hk hh
    have e1 : clG xs (k + 1) = clG xs k ++ [gN xs k] := rfl
    rw [e1, nH_app] at hh
    obtain ⟨b1, r1⟩ := ih (by omega) (by omega)
    have hg := cOk_gate hc (show k < n by omega)
    have f := gOk_facts hg q1
    have hp : nH [gN xs k] ≤ 1 := by
      show (if (gN xs k).1 = 1 then 1 else 0) + 0 ≤ 1
      split <;> omega
    have hG : ∀ i t, i < 2 ^ q → t < 2 ^ q → Rp (nH [gN xs k]) (gat q (gN xs k) i t) (dyAt (gmL q (gN xs k)) (i * 2 ^ q + t)) (exAt (gmL q (gN xs k)) (i * 2 ^ q + t)) := fun i t hi ht => by
      obtain ⟨d1, d2⟩ := dy_moL (fun p => (gcV q (gN xs k).1 (gN xs k).2.1 (gN xs k).2.2 (p / 2 ^ q) (p % 2 ^ q)).1) (fun p => ((gcV q (gN xs k).1 (gN xs k).2.1 (gN xs k).2.2 (p / 2 ^ q) (p % 2 ^ q)).2 : Int)) (pair_lt hi ht)
      unfold gmL
      rw [d1, d2, (pair_div ht).1, (pair_div ht).2]
      refine gat_rp q1 hq ?_ ?_ ?_ ?_ hi ht
      · show 1 ≤ (at3 xs (k * 3)).toNat ∧ (at3 xs (k * 3)).toNat ≤ 12
        omega
      · show (at3 xs (k * 3 + 1)).toNat < q
        omega
      · show (at3 xs (k * 3 + 2)).toNat < q
        omega
      · intro h9 h11
        have h9' : 9 ≤ (at3 xs (k * 3)).toNat := h9
        have h11' : (at3 xs (k * 3)).toNat ≤ 11 := h11
        have := gOk_neq hg (by omega) (by omega)
        show (at3 xs (k * 3 + 1)).toNat ≠ (at3 xs (k * 3 + 2)).toNat
        omega
    have bA : ∀ t j, bd 1048576 (amp q (clG xs k) t j) := fun t j => bd_mono (bd_amp q _ t j) (pow20 (by omega))
    have key : ∀ i j, i < 2 ^ q → j < 2 ^ q → mlO (gmL q (gN xs k)) (opL q xs k) (2 ^ q) (2 ^ q) i j (2 ^ q) = true ∧ Rp (nH [gN xs k] + nH (clG xs k)) (sm4 (fun t => (gat q (gN xs k) i t).mul (amp q (clG xs k) t j)) (2 ^ q)) (mlV (gmL q (gN xs k)) (opL q xs k) (2 ^ q) (2 ^ q) i j (2 ^ q)).1 (mlV (gmL q (gN xs k)) (opL q xs k) (2 ^ q) (2 ^ q) i j (2 ^ q)).2 :=
      fun i j hi hj => mul_rep h8 hp (by omega) hG r1 (bd_gat q (gN xs k)) bA hi hj (2 ^ q) (Nat.le_refl _)
    refine ⟨?_, fun i j hi hj => ?_⟩
    · show (opB q xs k && _) = true
      rw [b1, Bool.true_and]
      unfold mmOkM
      rw [good_rep hd (by omega) (B := 2) (by omega) hG (bd_gat q (gN xs k)), good_rep hd (by omega) (B := 1048576) (by omega) r1 bA]
      simp only [Int.toNat_natCast, beq_self_eq_true, Bool.true_and]
      refine allTo_mkQ fun p hp => ?_
      have hN : 0 < 2 ^ q := Nat.pow_pos (by decide)
      exact (key _ _ (Nat.div_lt_of_lt_mul hp) (Nat.mod_lt _ hN)).1
    · obtain ⟨k1, k2⟩ := key i j hi hj
      rw [e1, nH_app, Nat.add_comm, amp_snoc q (fun k a b t y ha hb ht => fwd_lt hB k a b t y ha hb ht) (clG xs k) (clG_q hc k (by omega)) (gN xs k) i j hj]
      obtain ⟨d1, d2⟩ := dy_moL (fun p => (mcV (gmL q (gN xs k)) (opL q xs k) (2 ^ q) (2 ^ q) (p / 2 ^ q) (p % 2 ^ q)).1) (fun p => (mcV (gmL q (gN xs k)) (opL q xs k) (2 ^ q) (2 ^ q) (p / 2 ^ q) (p % 2 ^ q)).2) (pair_lt hi hj)
      show Rp _ _ (dyAt (mmLM _ _ _ _ _) _) (exAt (mmLM _ _ _ _ _) _)
      unfold mmLM
      rw [d1, d2, (pair_div hj).1, (pair_div hj).2, mcV_yes k1]
      exact k2
/-- lists of cells that stand for the same are the same -/
theorem cells_eq {N h : Nat} {A : Nat → Nat → R4} : ∀ {xs ys : List Int} {m : Nat}, xs.length = m * 5 → ys.length = m * 5 → (∀ p, p < m → dyAt xs p = dyAt ys p ∧ exAt xs p = exAt ys p) → xs = ys := by
  intro xs ys m hx hy hp
  refine List.ext_getElem (hx.trans hy.symm) fun i h1 h2 => ?_
  have e1 : ∀ (zs : List Int) (h : i < zs.length), zs[i] = at3 zs i := fun zs h => by simp [at3, List.getD_eq_getElem?_getD, h]
  rw [e1, e1]
  have hm : i / 5 < m := by omega
  obtain ⟨d1, d2⟩ := hp (i / 5) hm
  unfold dyAt exAt at *
  simp only [R4.mk.injEq] at d1
  have hr : i = i / 5 * 5 ∨ i = i / 5 * 5 + 1 ∨ i = i / 5 * 5 + 2 ∨ i = i / 5 * 5 + 3 ∨ i = i / 5 * 5 + 4 := by omega
  rcases hr with e | e | e | e | e <;> rw [e]
  · exact d1.1
  · exact d1.2.1
  · exact d1.2.2.1
  · exact d1.2.2.2
  · exact d2
/-- the operators of two circuits with the same path sums are the same -/
theorem op_same {q : Nat} {xs ys : List Int} {n m : Nat} (hq : q ≤ 3) (hx : cOk q xs n = true) (hy : cOk q ys m = true) (hh : nH (clG xs n) ≤ 20) (hn : nH (clG xs n) = nH (clG ys m)) (ha : ∀ i j, i < 2 ^ q → j < 2 ^ q → amp q (clG xs n) i j = amp q (clG ys m) i j) : opB q xs n = true ∧ opB q ys m = true ∧ opL q xs n = opL q ys m := by
  obtain ⟨b1, r1⟩ := op_rep hq hx n (Nat.le_refl _) hh
  obtain ⟨b2, r2⟩ := op_rep hq hy m (Nat.le_refl _) (by omega)
  refine ⟨b1, b2, cells_eq (N := 0) (h := 0) (A := fun _ _ => R4.zero) (opL_len q xs n) (opL_len q ys m) fun p hp => ?_⟩
  have hN : 0 < 2 ^ q := Nat.pow_pos (by decide)
  have e : p / 2 ^ q * 2 ^ q + p % 2 ^ q = p := by rw [Nat.mul_comm]; exact Nat.div_add_mod p _
  have h1 := r1 (p / 2 ^ q) (p % 2 ^ q) (Nat.div_lt_of_lt_mul hp) (Nat.mod_lt _ hN)
  have h2 := r2 (p / 2 ^ q) (p % 2 ^ q) (Nat.div_lt_of_lt_mul hp) (Nat.mod_lt _ hN)
  rw [e] at h1 h2
  rw [← hn, ← ha _ _ (Nat.div_lt_of_lt_mul hp) (Nat.mod_lt _ hN)] at h2
  exact h1.uniq h2

end Go.Proofs.Ytbddgeoaaklgpaa
