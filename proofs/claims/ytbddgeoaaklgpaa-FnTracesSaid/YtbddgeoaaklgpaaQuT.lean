/- Path sums: the operator of a circuit as a sum over paths (plain). -/
import Derived.Test.YtbddgeoaaklgpaaCpL
import Derived.Test.YtbddgeoaaklgpaaRoL
namespace Go.Proofs.Ytbddgeoaaklgpaa
open Go.RowKit
set_option linter.unusedVariables false
set_option linter.unusedSimpArgs false

/-- a gate: kind, first qubit, second qubit -/
abbrev G3 := Nat × Nat × Nat
/-- the bit of a qubit in a basis state; the state with it flipped -/
def bq (n s q : Nat) : Nat := s / 2 ^ (n - 1 - q) % 2
def fl (n s q : Nat) : Nat := s ^^^ 2 ^ (n - 1 - q)
/-- a phase gate's coefficient -/
def cfN (k : Nat) : Nat := if k = 4 then 4 else if k = 5 then 2 else if k = 6 then 6 else if k = 7 then 1 else if k = 8 then 7 else 0
/-- where a path goes on; its phase -/
def fwd (n k a b t y : Nat) : Nat :=
  if k = 1 then (if bq n t a = y then t else fl n t a)
  else if k = 2 ∨ k = 3 then fl n t a
  else if k = 9 then (if bq n t a = 1 then fl n t b else t)
  else if k = 11 then (if bq n t a = bq n t b then t else fl n (fl n t a) b)
  else t
def pha (n k a b t y : Nat) : Nat :=
  if k = 1 then 4 * (bq n t a * y)
  else if k = 3 then 2 + 4 * bq n t a
  else if k = 10 then 4 * (bq n t a * bq n t b)
  else if k = 12 then 1
  else cfN k * bq n t a
/-- a power of the eighth root of one -/
def wp (e : Nat) : R4 := turns e R4.one
theorem wp_mod (e : Nat) : wp (e % 8) = wp e := by
  have h8 : ∀ x : R4, turns 8 x = x := fun x => by
    obtain ⟨a, b, c, d⟩ := x
    simp [turns, R4.turn]
  have hadd : ∀ (x : R4) a b, turns (a + b) x = turns a (turns b x) := fun x a b => by
    induction a with
    | zero => rw [Nat.zero_add]; rfl
    | succ a ih =>
      rw [show a + 1 + b = (a + b) + 1 by omega]
      show (turns (a + b) x).turn = (turns a (turns b x)).turn
      rw [ih]
  have hper : ∀ (x : R4) a m, turns (a + 8 * m) x = turns a x := fun x a m => by
    induction m with
    | zero => rfl
    | succ m ih => rw [show a + 8 * (m + 1) = (a + 8 * m) + 8 by omega, hadd, h8, ih]
  unfold wp
  conv => rhs; rw [show e = e % 8 + 8 * (e / 8) by omega]
  rw [hper]
def setA (α : Nat → Bool) (u : Nat) (y : Bool) : Nat → Bool := fun i => if i = u then y else α i
/-- the sum over the paths of a list of gates: f of where they end, of the choices, of the phase -/
def TS (n : Nat) : List G3 → (Nat → (Nat → Bool) → Nat → R4) → Nat → Nat → (Nat → Bool) → Nat → R4
  | [], f, t, _, α, e => f t α e
  | (k, a, b) :: l, f, t, u, α, e =>
    if k = 1 then (TS n l f (fwd n 1 a b t 0) (u + 1) (setA α u false) ((e + pha n 1 a b t 0) % 8)).add (TS n l f (fwd n 1 a b t 1) (u + 1) (setA α u true) ((e + pha n 1 a b t 1) % 8))
    else TS n l f (fwd n k a b t 0) u α ((e + pha n k a b t 0) % 8)
/-- how many choices -/
def nH : List G3 → Nat
  | [] => 0
  | g :: l => (if g.1 = 1 then 1 else 0) + nH l
theorem nH_app : ∀ l m : List G3, nH (l ++ m) = nH l + nH m
  | [], m => by simp [nH]
  | g :: l, m => by simp only [List.cons_append, nH, nH_app l m]; omega
theorem TS_app (n : Nat) (m : List G3) (f : Nat → (Nat → Bool) → Nat → R4) : ∀ (l : List G3) (t u : Nat) (α : Nat → Bool) (e : Nat), TS n (l ++ m) f t u α e = TS n l (fun t' α' e' => TS n m f t' (u + nH l) α' e') t u α e
  | [], t, u, α, e => rfl
  | (k, a, b) :: l, t, u, α, e => by
    show (if k = 1 then _ else _) = (if k = 1 then _ else _)
    by_cases hk : k = 1
    · rw [if_pos hk, if_pos hk, show l.append m = l ++ m from rfl, TS_app n m f l, TS_app n m f l]
      have : nH ((k, a, b) :: l) = 1 + nH l := by simp [nH, hk]
      rw [this, show u + (1 + nH l) = u + 1 + nH l by omega]
    · rw [if_neg hk, if_neg hk, show l.append m = l ++ m from rfl, TS_app n m f l]
      have : nH ((k, a, b) :: l) = nH l := by simp [nH, hk]
      rw [this]
theorem TS_congr (n : Nat) {f f' : Nat → (Nat → Bool) → Nat → R4} : ∀ (l : List G3) (t u : Nat) (α : Nat → Bool) (e : Nat), (∀ t α e, f t α e = f' t α e) → TS n l f t u α e = TS n l f' t u α e
  | [], t, u, α, e, h => h t α e
  | (k, a, b) :: l, t, u, α, e, h => by
    show (if k = 1 then _ else _) = (if k = 1 then _ else _)
    by_cases hk : k = 1
    · rw [if_pos hk, if_pos hk, TS_congr n l _ _ _ _ h, TS_congr n l _ _ _ _ h]
    · rw [if_neg hk, if_neg hk, TS_congr n l _ _ _ _ h]
/-- all states on the way lie below the dimension -/
theorem TS_lt (n : Nat) (hf : ∀ k a b t y, a < n → b < n → t < 2 ^ n → fwd n k a b t y < 2 ^ n) {f f' : Nat → (Nat → Bool) → Nat → R4} : ∀ (l : List G3) (t u : Nat) (α : Nat → Bool) (e : Nat), (∀ g ∈ l, g.2.1 < n ∧ g.2.2 < n) → t < 2 ^ n → (∀ t α e, t < 2 ^ n → f t α e = f' t α e) → TS n l f t u α e = TS n l f' t u α e
  | [], t, u, α, e, _, ht, h => h t α e ht
  | (k, a, b) :: l, t, u, α, e, hl, ht, h => by
    have hg := hl _ List.mem_cons_self
    have hl' : ∀ g ∈ l, g.2.1 < n ∧ g.2.2 < n := fun g hg => hl g (List.mem_cons_of_mem _ hg)
    show (if k = 1 then _ else _) = (if k = 1 then _ else _)
    by_cases hk : k = 1
    · rw [if_pos hk, if_pos hk, TS_lt n hf l _ _ _ _ hl' (hf _ _ _ _ _ hg.1 hg.2 ht) h, TS_lt n hf l _ _ _ _ hl' (hf _ _ _ _ _ hg.1 hg.2 ht) h]
    · rw [if_neg hk, if_neg hk, TS_lt n hf l _ _ _ _ hl' (hf _ _ _ _ _ hg.1 hg.2 ht) h]
theorem add4_swap (x y z u : R4) : (x.add y).add (z.add u) = (x.add z).add (y.add u) := by
  unfold R4.add
  simp only [R4.mk.injEq]
  omega
theorem mul_add4 (x y z : R4) : x.mul (y.add z) = (x.mul y).add (x.mul z) := by
  obtain ⟨a, b, c, d⟩ := x
  obtain ⟨e, f, g, h⟩ := y
  obtain ⟨i, j, k, l⟩ := z
  unfold R4.mul R4.add mrA mrB mrC mrD
  simp only [R4.mk.injEq, Int.mul_add]
  refine ⟨?_, ?_, ?_, ?_⟩ <;> omega
theorem mul_comm4q (x y : R4) : x.mul y = y.mul x := by
  obtain ⟨a, b, c, d⟩ := x
  obtain ⟨e, f, g, h⟩ := y
  unfold R4.mul mrA mrB mrC mrD
  simp only [R4.mk.injEq]
  grind
theorem mul_zero4 (x : R4) : x.mul R4.zero = R4.zero := by
  obtain ⟨a, b, c, d⟩ := x
  unfold R4.mul R4.zero mrA mrB mrC mrD
  simp
theorem add_zero4 (x : R4) : x.add R4.zero = x := by
  obtain ⟨a, b, c, d⟩ := x
  unfold R4.add R4.zero
  simp
theorem zero_add4 (x : R4) : R4.zero.add x = x := by
  obtain ⟨a, b, c, d⟩ := x
  unfold R4.add R4.zero
  simp
theorem TS_add (n : Nat) (f f' : Nat → (Nat → Bool) → Nat → R4) : ∀ (l : List G3) (t u : Nat) (α : Nat → Bool) (e : Nat), TS n l (fun t α e => (f t α e).add (f' t α e)) t u α e = (TS n l f t u α e).add (TS n l f' t u α e)
  | [], t, u, α, e => rfl
  | (k, a, b) :: l, t, u, α, e => by
    show (if k = 1 then _ else _) = R4.add (if k = 1 then _ else _) (if k = 1 then _ else _)
    by_cases hk : k = 1
    · rw [if_pos hk, if_pos hk, if_pos hk, TS_add n f f' l, TS_add n f f' l, add4_swap]
    · rw [if_neg hk, if_neg hk, if_neg hk, TS_add n f f' l]
theorem TS_mul (n : Nat) (c : R4) (f : Nat → (Nat → Bool) → Nat → R4) : ∀ (l : List G3) (t u : Nat) (α : Nat → Bool) (e : Nat), TS n l (fun t α e => c.mul (f t α e)) t u α e = c.mul (TS n l f t u α e)
  | [], t, u, α, e => rfl
  | (k, a, b) :: l, t, u, α, e => by
    show (if k = 1 then _ else _) = R4.mul c (if k = 1 then _ else _)
    by_cases hk : k = 1
    · rw [if_pos hk, if_pos hk, TS_mul n c f l, TS_mul n c f l, mul_add4]
    · rw [if_neg hk, if_neg hk, TS_mul n c f l]
theorem TS_zero (n : Nat) : ∀ (l : List G3) (t u : Nat) (α : Nat → Bool) (e : Nat), TS n l (fun _ _ _ => R4.zero) t u α e = R4.zero
  | [], t, u, α, e => rfl
  | (k, a, b) :: l, t, u, α, e => by
    show (if k = 1 then _ else _) = _
    by_cases hk : k = 1
    · rw [if_pos hk, TS_zero n l, TS_zero n l]; rfl
    · rw [if_neg hk, TS_zero n l]
/-- finite sums -/
def sm4 (f : Nat → R4) : Nat → R4
  | 0 => R4.zero
  | k + 1 => (sm4 f k).add (f k)
theorem sm4_congr {f g : Nat → R4} : ∀ {N : Nat}, (∀ t, t < N → f t = g t) → sm4 f N = sm4 g N
  | 0, _ => rfl
  | N + 1, h => by
    show (sm4 f N).add (f N) = (sm4 g N).add (g N)
    rw [sm4_congr fun t ht => h t (by omega), h N (by omega)]
theorem sm4_none {f : Nat → R4} : ∀ {N : Nat}, (∀ t, t < N → f t = R4.zero) → sm4 f N = R4.zero
  | 0, _ => rfl
  | N + 1, h => by
    show (sm4 f N).add (f N) = _
    rw [sm4_none fun t ht => h t (by omega), h N (by omega)]
    rfl
theorem sm4_one {f : Nat → R4} {τ : Nat} : ∀ {N : Nat}, τ < N → (∀ t, t < N → t ≠ τ → f t = R4.zero) → sm4 f N = f τ
  | N + 1, hτ, h => by
    show (sm4 f N).add (f N) = _
    by_cases e : τ = N
    · subst e
      rw [sm4_none fun t ht => h t (by omega) (by omega), zero_add4]
    · rw [sm4_one (N := N) (by omega) fun t ht => h t (by omega), h N (by omega) (fun e' => e e'.symm), add_zero4]
theorem sm4_TS (n : Nat) (l : List G3) (t u : Nat) (α : Nat → Bool) (e : Nat) (F : Nat → Nat → (Nat → Bool) → Nat → R4) : ∀ N, sm4 (fun τ => TS n l (F τ) t u α e) N = TS n l (fun t α e => sm4 (fun τ => F τ t α e) N) t u α e
  | 0 => (TS_zero n l t u α e).symm
  | N + 1 => by
    show (sm4 _ N).add _ = TS n l (fun t α e => (sm4 (fun τ => F τ t α e) N).add (F N t α e)) t u α e
    rw [sm4_TS n l t u α e F N, TS_add]
/-- the operator's cell (times a power of the root of two) -/
def amp (n : Nat) (l : List G3) (i j : Nat) : R4 := TS n l (fun t _ e => if t = i then wp e else R4.zero) j 0 (fun _ => false) 0
/-- a gate's cell, the same way -/
def gat (n : Nat) (g : G3) (i t : Nat) : R4 := TS n [g] (fun t' _ e => if t' = i then wp e else R4.zero) t 0 (fun _ => false) 0
/-- where the choices and their names do not matter -/
theorem TS_noα (n : Nat) {F : Nat → Nat → R4} : ∀ (l : List G3) (t u u' : Nat) (α α' : Nat → Bool) (e : Nat), TS n l (fun t _ e => F t e) t u α e = TS n l (fun t _ e => F t e) t u' α' e
  | [], t, u, u', α, α', e => rfl
  | (k, a, b) :: l, t, u, u', α, α', e => by
    show (if k = 1 then _ else _) = (if k = 1 then _ else _)
    by_cases hk : k = 1
    · rw [if_pos hk, if_pos hk, TS_noα n l _ (u + 1) (u' + 1) _ (setA α' u' false), TS_noα n l _ (u + 1) (u' + 1) _ (setA α' u' true)]
    · rw [if_neg hk, if_neg hk, TS_noα n l _ u u' α α']
theorem turn_mul (x y : R4) : x.turn.mul y = (x.mul y).turn := by
  obtain ⟨a, b, c, d⟩ := x
  obtain ⟨e, f, g, h⟩ := y
  unfold R4.mul R4.turn mrA mrB mrC mrD
  simp only [R4.mk.injEq, Int.neg_mul]
  refine ⟨?_, ?_, ?_, ?_⟩ <;> omega
theorem wp_add (e f : Nat) : (wp e).mul (wp f) = wp (e + f) := by
  unfold wp
  rw [mul_turns]
  induction f with
  | zero => rfl
  | succ f ih =>
    show (turns f (turns e R4.one)).turn = (turns (e + f) R4.one).turn
    rw [ih]
theorem wp_shift (e p : Nat) : wp ((e + p) % 8) = (wp p).mul (wp e) := by rw [wp_mod, wp_add, Nat.add_comm]
/-- a phase ahead of a gate is a factor -/
theorem gat_mul (n : Nat) (g : G3) (i t u : Nat) (α : Nat → Bool) (e : Nat) : TS n [g] (fun t' _ e => if t' = i then wp e else R4.zero) t u α e = (gat n g i t).mul (wp e) := by
  obtain ⟨k, a, b⟩ := g
  have key : ∀ t' p : Nat, (if t' = i then wp ((e + p) % 8) else R4.zero) = (if t' = i then wp ((0 + p) % 8) else R4.zero).mul (wp e) := fun t' p => by
    by_cases h : t' = i
    · rw [if_pos h, if_pos h, wp_shift, Nat.zero_add, wp_mod]
    · rw [if_neg h, if_neg h, mul_comm4q, mul_zero4]
  unfold gat
  show (if k = 1 then _ else _) = (if k = 1 then _ else _ : R4).mul _
  by_cases hk : k = 1
  · rw [if_pos hk, if_pos hk]
    show R4.add (if _ = i then _ else _) (if _ = i then _ else _) = (R4.add (if _ = i then _ else _) (if _ = i then _ else _)).mul _
    rw [key, key, mul_comm4q (R4.add _ _), mul_add4, mul_comm4q (wp e), mul_comm4q (wp e)]
  · rw [if_neg hk, if_neg hk]
    exact key _ _
/-- one more gate: a product of matrices -/
theorem amp_snoc (n : Nat) (hf : ∀ k a b t y, a < n → b < n → t < 2 ^ n → fwd n k a b t y < 2 ^ n) (l : List G3) (hl : ∀ g ∈ l, g.2.1 < n ∧ g.2.2 < n) (g : G3) (i j : Nat) (hj : j < 2 ^ n) :
    amp n (l ++ [g]) i j = sm4 (fun t => (gat n g i t).mul (amp n l t j)) (2 ^ n) := by
  unfold amp
  rw [TS_app]
  have h1 : ∀ t, (gat n g i t).mul (TS n l (fun t' _ e => if t' = t then wp e else R4.zero) j 0 (fun _ => false) 0) = TS n l (fun t' α e => (gat n g i t).mul (if t' = t then wp e else R4.zero)) j 0 (fun _ => false) 0 := fun t => (TS_mul n (gat n g i t) _ l j 0 _ 0).symm
  rw [sm4_congr fun t _ => h1 t, sm4_TS n l j 0 _ 0 (fun τ t' _ e => (gat n g i τ).mul (if t' = τ then wp e else R4.zero))]
  refine TS_lt n hf l _ _ _ _ hl hj fun t α e ht => ?_
  rw [sm4_one (τ := t) ht fun τ _ hne => by rw [if_neg (fun e => hne e.symm), mul_zero4], if_pos rfl, gat_mul]


open Go.RowKit
set_option linter.unusedVariables false
set_option linter.unusedSimpArgs false

/-- the exclusive or of the chosen bits of v among the first m -/
def prt (v : Nat) (α : Nat → Bool) : Nat → Bool
  | 0 => false
  | m + 1 => (prt v α m) != (v.testBit m && α m)
theorem prt_xor (v v' : Nat) (α : Nat → Bool) : ∀ m, prt (v ^^^ v') α m = ((prt v α m) != (prt v' α m))
  | 0 => rfl
  | m + 1 => by
    unfold prt
    rw [prt_xor v v' α m, Nat.testBit_xor]
    cases prt v α m <;> cases prt v' α m <;> cases v.testBit m <;> cases v'.testBit m <;> cases α m <;> rfl
theorem prt_set {v u : Nat} (hv : v < 2 ^ u) (α : Nat → Bool) (y : Bool) : ∀ m, prt v (setA α u y) m = prt v α m
  | 0 => rfl
  | m + 1 => by
    unfold prt
    rw [prt_set hv α y m]
    unfold setA
    by_cases h : m = u
    · rw [if_pos h, h, Nat.testBit_lt_two_pow hv]
      simp
    · rw [if_neg h]
theorem prt_two (u : Nat) (α : Nat → Bool) : ∀ m, prt (2 ^ u) α m = (decide (u < m) && α u)
  | 0 => by simp [prt]
  | m + 1 => by
    unfold prt
    rw [prt_two u α m, Nat.testBit_two_pow]
    by_cases h : u = m
    · subst h; simp
    · by_cases h2 : u < m
      · simp [h, h2, show u < m + 1 by omega]
      · simp [h, h2, show ¬ u < m + 1 by omega]
/-- the value of a qubit for the choices -/
def val (α : Nat → Bool) (x : Nat × Bool) : Bool := (prt x.1 α 60) != x.2
def bnat (b : Bool) : Nat := if b then 1 else 0
/-- the state agrees with the values -/
def Agr (n : Nat) (V : List (Nat × Bool)) (α : Nat → Bool) (t : Nat) : Prop := t < 2 ^ n ∧ ∀ q, q < n → bq n t q = bnat (val α (vAt V q))
/-- what one group adds, less what it adds in the end -/
def tmG (C : Nat → Nat) (α : Nat → Bool) (i : Nat) (g : Gp) : Nat := (g.c + (8 - C i)) * bnat (val α (g.v, g.p))
def smG (G : List Gp) (C : Nat → Nat) (α : Nat → Bool) : Nat → Nat
  | 0 => 0
  | i + 1 => smG G C α i + tmG C α i (gAt G i)
/-- how far the phase of the first j gates is ahead of the phase of what is written for them -/
def dfG (σ : Fs) (C : Nat → Nat) (α : Nat → Bool) : Nat := σ.s + smG σ.G C α σ.G.length
theorem smG_same {G G' : List Gp} {C : Nat → Nat} {α : Nat → Bool} : ∀ {m : Nat}, (∀ i, i < m → gAt G i = gAt G' i) → smG G C α m = smG G' C α m
  | 0, _ => rfl
  | m + 1, h => by
    unfold smG
    rw [smG_same fun i hi => h i (by omega), h m (by omega)]
theorem smG_set {G : List Gp} {C : Nat → Nat} {α : Nat → Bool} {k : Nat} {x : Gp} (hk : k < G.length) : ∀ {m : Nat}, k < m → smG (G.set k x) C α m + tmG C α k (gAt G k) = smG G C α m + tmG C α k x
  | m + 1, h => by
    unfold smG
    by_cases e : k = m
    · subst e
      rw [smG_same (G := G.set k x) (G' := G) fun i hi => by rw [gAt_set hk, if_neg (by omega)], gAt_set hk, if_pos rfl]
      omega
    · rw [gAt_set hk, if_neg (fun e' => e e'.symm)]
      have := smG_set (C := C) (α := α) (x := x) hk (m := m) (by omega)
      omega
theorem smG_later {G : List Gp} {C : Nat → Nat} {α : Nat → Bool} {u : Nat} {y : Bool} (hv : ∀ i, i < G.length → (gAt G i).v < 2 ^ u) : ∀ {m : Nat}, m ≤ G.length → smG G C (setA α u y) m = smG G C α m
  | 0, _ => rfl
  | m + 1, h => by
    unfold smG
    rw [smG_later hv (by omega)]
    unfold tmG val
    rw [prt_set (hv m (by omega))]
theorem dfG_later {σ : Fs} {C : Nat → Nat} {α : Nat → Bool} {u : Nat} {y : Bool} (hv : ∀ i, i < σ.G.length → (gAt σ.G i).v < 2 ^ u) : dfG σ C (setA α u y) = dfG σ C α := by
  unfold dfG
  rw [smG_later hv (Nat.le_refl _)]

/-! ### The bits of a state -/
/-- what is asked of the steps (decided for up to three qubits) -/
structure Bits (n : Nat) : Prop where
  lt : ∀ t a, t < 2 ^ n → a < n → fl n t a < 2 ^ n
  fl : ∀ t a q, t < 2 ^ n → a < n → q < n → bq n (fl n t a) q = if q = a then 1 - bq n t q else bq n t q
theorem bq_le (n t q : Nat) : bq n t q ≤ 1 := by unfold bq; omega
theorem bnat_le (b : Bool) : bnat b ≤ 1 := by cases b <;> decide
theorem bnat_inj {x y : Bool} (h : bnat x = bnat y) : x = y := by cases x <;> cases y <;> first | rfl | cases h

theorem agr_H {n : Nat} (hB : Bits n) {V : List (Nat × Bool)} {α : Nat → Bool} {t u a : Nat} (h : Agr n V α t) (hV : V.length = n) (hu : u < 60) (hb : ∀ q, q < n → (vAt V q).1 < 2 ^ u) (ha : a < n) (y : Bool) :
    Agr n (V.set a (2 ^ u, false)) (setA α u y) (fwd n 1 a 0 t (bnat y)) := by
  obtain ⟨h1, h2⟩ := h
  have hy := bnat_le y
  have hba := bq_le n t a
  have hf : fwd n 1 a 0 t (bnat y) = if bq n t a = bnat y then t else fl n t a := rfl
  have hq : ∀ q, q < n → bq n (fwd n 1 a 0 t (bnat y)) q = if q = a then bnat y else bq n t q := fun q hq => by
    rw [hf]
    by_cases e : bq n t a = bnat y
    · rw [if_pos e]
      split
      · rename_i e2; rw [e2]; exact e
      · rfl
    · rw [if_neg e, hB.fl t a q h1 ha hq]
      split
      · rename_i e2; rw [e2]; omega
      · rfl
  refine ⟨?_, fun q hqn => ?_⟩
  · rw [hf]
    split
    · exact h1
    · exact hB.lt t a h1 ha
  · rw [hq q hqn, vAt_set (by omega)]
    by_cases e : q = a
    · rw [if_pos e, if_pos e]
      unfold val
      rw [prt_two]
      unfold setA
      simp [hu]
    · rw [if_neg e, if_neg e, h2 q hqn]
      unfold val
      rw [prt_set (hb q hqn)]
theorem agr_X {n : Nat} (hB : Bits n) {V : List (Nat × Bool)} {α : Nat → Bool} {t a : Nat} (h : Agr n V α t) (hV : V.length = n) (ha : a < n) : Agr n (V.set a ((vAt V a).1, !(vAt V a).2)) α (fl n t a) := by
  obtain ⟨h1, h2⟩ := h
  refine ⟨hB.lt t a h1 ha, fun q hq => ?_⟩
  rw [hB.fl t a q h1 ha hq, vAt_set (by omega)]
  by_cases e : q = a
  · rw [if_pos e, if_pos e, h2 q hq, e]
    unfold val
    cases prt (vAt V a).1 α 60 <;> cases (vAt V a).2 <;> rfl
  · rw [if_neg e, if_neg e, h2 q hq]
theorem agr_CX {n : Nat} (hB : Bits n) {V : List (Nat × Bool)} {α : Nat → Bool} {t a b : Nat} (h : Agr n V α t) (hV : V.length = n) (ha : a < n) (hb : b < n) :
    Agr n (V.set b ((vAt V b).1 ^^^ (vAt V a).1, (vAt V b).2 != (vAt V a).2)) α (if bq n t a = 1 then fl n t b else t) := by
  obtain ⟨h1, h2⟩ := h
  have hv : val α ((vAt V b).1 ^^^ (vAt V a).1, (vAt V b).2 != (vAt V a).2) = (val α (vAt V b) != val α (vAt V a)) := by
    unfold val
    simp only
    rw [prt_xor]
    cases prt (vAt V b).1 α 60 <;> cases prt (vAt V a).1 α 60 <;> cases (vAt V a).2 <;> cases (vAt V b).2 <;> rfl
  have hA := h2 a ha
  refine ⟨?_, fun q hq => ?_⟩
  · split
    · exact hB.lt t b h1 hb
    · exact h1
  · rw [vAt_set (by omega)]
    by_cases e : q = b
    · subst e
      rw [if_pos rfl, hv]
      have hQ := h2 q hq
      split
      · rename_i e1
        rw [hB.fl t q q h1 hb hq, if_pos rfl, hQ]
        rw [hA] at e1
        cases hx : val α (vAt V a)
        · rw [hx] at e1; cases e1
        · cases val α (vAt V q) <;> rfl
      · rename_i e1
        rw [hA] at e1
        rw [hQ]
        cases hx : val α (vAt V a)
        · cases val α (vAt V q) <;> rfl
        · rw [hx] at e1; exact absurd rfl e1
    · rw [if_neg e, ← h2 q hq]
      split
      · rw [hB.fl t b q h1 hb hq, if_neg e]
      · rfl
theorem agr_sw {n : Nat} (hB : Bits n) {V : List (Nat × Bool)} {α : Nat → Bool} {t a b : Nat} (h : Agr n V α t) (hV : V.length = n) (ha : a < n) (hb : b < n) :
    Agr n ((V.set a (vAt V b)).set b (vAt V a)) α (if bq n t a = bq n t b then t else fl n (fl n t a) b) := by
  obtain ⟨h1, h2⟩ := h
  have hA := h2 a ha
  have hBb := h2 b hb
  have la := bq_le n t a
  have lb := bq_le n t b
  refine ⟨?_, fun q hq => ?_⟩
  · split
    · exact h1
    · exact hB.lt _ b (hB.lt t a h1 ha) hb
  · rw [vAt_set (by simp only [List.length_set]; omega)]
    have hQ := h2 q hq
    by_cases e : q = b
    · subst e
      rw [if_pos rfl, ← hA]
      split
      · omega
      · rename_i e1
        rw [hB.fl _ q q (hB.lt t a h1 ha) hb hq, if_pos rfl, hB.fl t a q h1 ha hq]
        split
        · rename_i e2; subst e2; omega
        · omega
    · rw [if_neg e, vAt_set (by omega)]
      by_cases e2 : q = a
      · subst e2
        rw [if_pos rfl, ← hBb]
        split
        · omega
        · rename_i e1
          rw [hB.fl _ b q (hB.lt t q h1 ha) hb hq, if_neg e, hB.fl t q q h1 ha hq, if_pos rfl]
          omega
      · rw [if_neg e2, ← hQ]
        split
        · rfl
        · rw [hB.fl _ b q (hB.lt t a h1 ha) hb hq, if_neg e, hB.fl t a q h1 ha hq, if_neg e2]


open Go.RowKit
set_option linter.unusedVariables false
set_option linter.unusedSimpArgs false

def gN (xs : List Int) (j : Nat) : G3 := ((at3 xs (j * 3)).toNat, (at3 xs (j * 3 + 1)).toNat, (at3 xs (j * 3 + 2)).toNat)
/-- the first j gates -/
def clG (xs : List Int) : Nat → List G3
  | 0 => []
  | j + 1 => clG xs j ++ [gN xs j]
/-- gates out of a flat list -/
def tri : List Int → List G3
  | k :: a :: b :: l => (k.toNat, a.toNat, b.toNat) :: tri l
  | _ => []
/-- what is written for the first j gates -/
def xlG (G : List Gp) (xs : List Int) : Nat → List G3
  | 0 => []
  | j + 1 => xlG G xs j ++ tri (fpP G (at3 xs (j * 3)) (at3 xs (j * 3 + 1)) (at3 xs (j * 3 + 2)) j)
theorem cfN_eq (k : Int) (h : 0 ≤ k) : cfN k.toNat = cfK k := by
  unfold cfN cfK
  have h4 : ∀ m : Nat, (k.toNat = m ↔ k = (m : Int)) := fun m => by omega
  simp only [h4]
  rfl

/-- groups stay where they are -/
theorem grp_step {q j : Nat} {σ : Fs} (hI : FsI q j σ) (k a b : Int) : ∀ i, i < σ.G.length → i < (stepF σ j k a b).G.length ∧ (gAt (stepF σ j k a b).G i).t = (gAt σ.G i).t ∧ (gAt (stepF σ j k a b).G i).v = (gAt σ.G i).v ∧ (gAt (stepF σ j k a b).G i).p = (gAt σ.G i).p ∧ ∀ x, x ∈ (gAt σ.G i).L → x ∈ (gAt (stepF σ j k a b).G i).L := by
  intro i hi
  unfold stepF
  split
  · exact ⟨hi, rfl, rfl, rfl, fun _ h => h⟩
  split
  · exact ⟨hi, rfl, rfl, rfl, fun _ h => h⟩
  split
  · exact ⟨hi, rfl, rfl, rfl, fun _ h => h⟩
  split
  · exact ⟨hi, rfl, rfl, rfl, fun _ h => h⟩
  split
  · rw [rotG_eq]
    obtain ⟨l1, l2, l3⟩ := adG_len σ.G j (vAt σ.V a.toNat).1 (vAt σ.V a.toNat).2
    have hs : gAt (adG σ.G j (vAt σ.V a.toNat).1 (vAt σ.V a.toNat).2) i = gAt σ.G i := by
      unfold adG
      split
      · rfl
      · exact gAt_left hi
    refine ⟨by simp only [List.length_set]; omega, ?_⟩
    simp only [gAt_set l1]
    split
    · rename_i e
      rw [← e, hs]
      exact ⟨rfl, rfl, rfl, fun x hx => List.mem_append.2 (.inl hx)⟩
    · rw [hs]
      exact ⟨rfl, rfl, rfl, fun _ h => h⟩
  · exact ⟨hi, rfl, rfl, rfl, fun _ h => h⟩
theorem grp_mono {q : Nat} {xs : List Int} {n : Nat} (hc : cOk q xs n = true) (hk : fsK q xs n = true) {j : Nat} : ∀ m, j ≤ m → m ≤ n → ∀ i, i < (fsS q xs j).G.length → i < (fsS q xs m).G.length ∧ (gAt (fsS q xs m).G i).t = (gAt (fsS q xs j).G i).t ∧ (gAt (fsS q xs m).G i).v = (gAt (fsS q xs j).G i).v ∧ (gAt (fsS q xs m).G i).p = (gAt (fsS q xs j).G i).p ∧ ∀ x, x ∈ (gAt (fsS q xs j).G i).L → x ∈ (gAt (fsS q xs m).G i).L
  | 0, h1, _, i, hi => by
    obtain rfl : j = 0 := by omega
    exact ⟨hi, rfl, rfl, rfl, fun _ h => h⟩
  | m + 1, h1, h2, i, hi => by
    by_cases e : j = m + 1
    · subst e
      exact ⟨hi, rfl, rfl, rfl, fun _ h => h⟩
    · obtain ⟨a1, a2, a3, a4, a5⟩ := grp_mono hc hk m (by omega) (by omega) i hi
      obtain ⟨b1, bnat, b3, b4, b5⟩ := grp_step (fs_inv hc m (by omega) (fsK_le hk (by omega))) (at3 xs (m * 3)) (at3 xs (m * 3 + 1)) (at3 xs (m * 3 + 2)) i a1
      exact ⟨b1, bnat.trans a2, b3.trans a3, b4.trans a4, fun x hx => b5 x (a5 x hx)⟩
/-- a gate stands in one group alone -/
theorem fdL_eq {xs : List Int} {n : Nat} {σ : Fs} (h : FsJ xs n σ) {i j : Nat} (hi : i < σ.G.length) (hm : j ∈ (gAt σ.G i).L) : fdL σ.G j = i := by
  have hf : fdL σ.G j < σ.G.length := by
    rcases Nat.lt_or_ge (fdL σ.G j) σ.G.length with h1 | h1
    · exact h1
    · exact absurd hm (fdL_no (by omega))
  exact h.dj _ i j hf hi (fdL_at hf) hm
/-- a rotation's gates turn by its coefficient -/
theorem TS_rot (n : Nat) (f : Nat → (Nat → Bool) → Nat → R4) (a : Int) {c : Nat} (hc : c < 8) (t u : Nat) (α : Nat → Bool) {e : Nat} (he : e < 8) : TS n (tri (rotL a c)) f t u α e = f t α ((e + c * bq n t a.toNat) % 8) := by
  have hb := bq_le n t a.toNat
  have h3 : c = 0 ∨ c = 1 ∨ c = 2 ∨ c = 3 ∨ c = 4 ∨ c = 5 ∨ c = 6 ∨ c = 7 := by omega
  have hx : ∀ e', (e + c * bq n t a.toNat) % 8 = e' → f t α ((e + c * bq n t a.toNat) % 8) = f t α e' := fun e' h => by rw [h]
  generalize hbv : bq n t a.toNat = b at *
  rcases h3 with rfl | rfl | rfl | rfl | rfl | rfl | rfl | rfl
  · show f t α e = _
    rw [hx e (by omega)]
  · show f t α ((e + 1 * bq n t a.toNat) % 8) = _
    rw [hbv]
  · show f t α ((e + 2 * bq n t a.toNat) % 8) = _
    rw [hbv]
  · show f t α (((e + 2 * bq n t a.toNat) % 8 + 1 * bq n t a.toNat) % 8) = _
    rw [hbv]
    rw [hx _ (by omega : _ = ((e + 2 * b) % 8 + 1 * b) % 8)]
  · show f t α ((e + 4 * bq n t a.toNat) % 8) = _
    rw [hbv]
  · show f t α (((e + 4 * bq n t a.toNat) % 8 + 1 * bq n t a.toNat) % 8) = _
    rw [hbv]
    rw [hx _ (by omega : _ = ((e + 4 * b) % 8 + 1 * b) % 8)]
  · show f t α ((e + 6 * bq n t a.toNat) % 8) = _
    rw [hbv]
  · show f t α ((e + 7 * bq n t a.toNat) % 8) = _
    rw [hbv]
theorem nH_rot (a : Int) {c : Nat} (hc : c < 8) : nH (tri (rotL a c)) = 0 := by
  have h3 : c = 0 ∨ c = 1 ∨ c = 2 ∨ c = 3 ∨ c = 4 ∨ c = 5 ∨ c = 6 ∨ c = 7 := by omega
  rcases h3 with rfl | rfl | rfl | rfl | rfl | rfl | rfl | rfl <;> rfl
theorem TS_ph (n : Nat) (f : Nat → (Nat → Bool) → Nat → R4) (t u : Nat) (α : Nat → Bool) : ∀ (s : Nat) {e : Nat}, e < 8 → TS n (List.replicate s (12, 0, 0)) f t u α e = f t α ((e + s) % 8)
  | 0, e, he => by
    show f t α e = _
    rw [Nat.add_zero, Nat.mod_eq_of_lt he]
  | s + 1, e, he => by
    rw [List.replicate_succ]
    show TS n (List.replicate s (12, 0, 0)) f t u α ((e + 1) % 8) = _
    rw [TS_ph n f t u α s (Nat.mod_lt _ (by decide))]
    have : ((e + 1) % 8 + s) % 8 = (e + (s + 1)) % 8 := by omega
    rw [this]


open Go.RowKit
set_option linter.unusedVariables false
set_option linter.unusedSimpArgs false

theorem nH_clG {q : Nat} {xs : List Int} : ∀ j, q + nH (clG xs j) = (fsS q xs j).u ∨ ∃ i, i < j ∧ at3 xs (i * 3) < 0
  | 0 => .inl rfl
  | j + 1 => by
    rcases nH_clG (q := q) (xs := xs) j with h | ⟨i, h1, h2⟩
    · by_cases hn : at3 xs (j * 3) < 0
      · exact .inr ⟨j, by omega, hn⟩
      left
      show q + nH (clG xs j ++ [gN xs j]) = (stepF (fsS q xs j) j _ _ _).u
      rw [nH_app]
      have e1 : nH [gN xs j] = if at3 xs (j * 3) = 1 then 1 else 0 := by
        show (if (gN xs j).1 = 1 then 1 else 0) + 0 = _
        unfold gN
        by_cases h1 : at3 xs (j * 3) = 1
        · simp [h1]
        · have : ¬ (at3 xs (j * 3)).toNat = 1 := by omega
          simp [h1, this]
      rw [e1]
      unfold stepF
      by_cases h1 : at3 xs (j * 3) = 1
      · rw [if_pos h1, if_pos h1]
        show _ = (fsS q xs j).u + 1
        omega
      · rw [if_neg h1, if_neg h1]
        split
        · exact h
        split
        · exact h
        split
        · exact h
        split
        · rw [rotG_eq]; exact h
        · exact h
    · exact .inr ⟨i, by omega, h2⟩
theorem gOk_facts {q : Nat} {k a b : Int} (hg : gOk q k a b = true) (hq : 1 ≤ q) : 1 ≤ k ∧ k ≤ 12 ∧ 0 ≤ a ∧ a < q ∧ 0 ≤ b ∧ b < q := by
  unfold gOk at hg
  by_cases h1 : Wn k 1 8 = true
  · rw [if_pos h1] at hg
    simp only [Bool.and_eq_true, beq_iff_eq] at hg
    have h2 := Wn_iff.1 h1
    have := Wn_iff.1 hg.1
    omega
  · rw [if_neg h1] at hg
    by_cases h2 : Wn k 9 11 = true
    · rw [if_pos h2] at hg
      simp only [Bool.and_eq_true] at hg
      have h3 := Wn_iff.1 h2
      have := Wn_iff.1 hg.1
      have := Wn_iff.1 hg.2.1
      omega
    · rw [if_neg h2] at hg
      simp only [Bool.and_eq_true, beq_iff_eq] at hg
      omega
theorem cOk_gate {q : Nat} {xs : List Int} {n j : Nat} (hc : cOk q xs n = true) (hj : j < n) : gOk q (at3 xs (j * 3)) (at3 xs (j * 3 + 1)) (at3 xs (j * 3 + 2)) = true := by
  unfold cOk at hc
  simp only [Bool.and_eq_true, decide_eq_true_eq] at hc
  exact allTo_at (f := fun j => gOk q (at3 xs (j * 3)) (at3 xs (j * 3 + 1)) (at3 xs (j * 3 + 2))) hc.2.2 hj
theorem cOk_q1 {q : Nat} {xs : List Int} {n : Nat} (hc : cOk q xs n = true) : 1 ≤ q ∧ q ≤ 5 ∧ n ≤ 400 := by
  unfold cOk at hc
  simp only [Bool.and_eq_true, decide_eq_true_eq] at hc
  have := Wn_iff.1 hc.1
  omega
/-- one gate, not of the kind that chooses -/
theorem TS_one (n : Nat) {k a b : Nat} (hk : k ≠ 1) (f : Nat → (Nat → Bool) → Nat → R4) (t u : Nat) (α : Nat → Bool) (e : Nat) : TS n [(k, a, b)] f t u α e = f (fwd n k a b t 0) α ((e + pha n k a b t 0) % 8) := by
  show (if k = 1 then _ else _) = _
  rw [if_neg hk]
  rfl
theorem TS_ch (n : Nat) {a b : Nat} (f : Nat → (Nat → Bool) → Nat → R4) (t u : Nat) (α : Nat → Bool) (e : Nat) : TS n [(1, a, b)] f t u α e = (f (fwd n 1 a b t 0) (setA α u false) ((e + pha n 1 a b t 0) % 8)).add (f (fwd n 1 a b t 1) (setA α u true) ((e + pha n 1 a b t 1) % 8)) := rfl
theorem mod_ahead (e d p : Nat) : ((e + d) % 8 + p) % 8 = ((e + p) % 8 + d) % 8 := by omega

/-- one gate and what is written for it -/
theorem fold_step {q : Nat} {xs : List Int} {n : Nat} (hB : Bits q) (hc : cOk q xs n = true) (hk : fsK q xs n = true) {j : Nat} (hj : j < n) (C : Nat → Nat) (hC : ∀ i, C i = (gAt (fsS q xs n).G i).c)
    (f f' : Nat → (Nat → Bool) → Nat → R4) (hf : ∀ t α e, e < 8 → Agr q (fsS q xs (j + 1)).V α t → f t α ((e + dfG (fsS q xs (j + 1)) C α) % 8) = f' t α e)
    (t : Nat) (α : Nat → Bool) (e : Nat) (he : e < 8) (hA : Agr q (fsS q xs j).V α t) :
    TS q [gN xs j] f t (fsS q xs j).u α ((e + dfG (fsS q xs j) C α) % 8) = TS q (tri (fpP (fsS q xs n).G (at3 xs (j * 3)) (at3 xs (j * 3 + 1)) (at3 xs (j * 3 + 2)) j)) f' t (fsS q xs j).u α e := by
  obtain ⟨q1, q5, n400⟩ := cOk_q1 hc
  have hg := cOk_gate hc hj
  obtain ⟨k1, k12, a0, aq, b0, bq'⟩ := gOk_facts hg q1
  have hkj := fsK_le hk (show j ≤ n by omega)
  have hI := fs_inv hc j (by omega) hkj
  have hJn := fsJ_inv hc n (Nat.le_refl _) hk
  have hstep : fsS q xs (j + 1) = stepF (fsS q xs j) j (at3 xs (j * 3)) (at3 xs (j * 3 + 1)) (at3 xs (j * 3 + 2)) := rfl
  have hu60 : at3 xs (j * 3) = 1 → (fsS q xs j).u < 60 := fun h1 => by
    have h2 : (fsK q xs j && !(at3 xs (j * 3) == 1 && (fsS q xs j).u == 60)) = true := fsK_le hk (show j + 1 ≤ n by omega)
    rw [h1] at h2
    have h3 := hI.ub
    simp at h2
    omega
  have hCle : ∀ i, C i ≤ 8 := fun i => by
    rw [hC]
    rcases Nat.lt_or_ge i (fsS q xs n).G.length with h | h
    · have := ((fs_inv hc n (Nat.le_refl _) hk).gt i h).2.1
      omega
    · have : gAt (fsS q xs n).G i = default := by simp [gAt, List.getD_eq_getElem?_getD, h]
      rw [this]
      show (0 : Nat) ≤ 8
      omega
  rw [hstep] at hf
  have hgrp := fun (σ' : Fs) (h : fsS q xs (j + 1) = σ') => grp_mono hc hk (j := j + 1) n (by omega) (Nat.le_refl _)
  -- a gate that is no rotation stands in no group
  have hno : cfK (at3 xs (j * 3)) = 0 → fpP (fsS q xs n).G (at3 xs (j * 3)) (at3 xs (j * 3 + 1)) (at3 xs (j * 3 + 2)) j = [at3 xs (j * 3), at3 xs (j * 3 + 1), at3 xs (j * 3 + 2)] := fun h0 => by
    unfold fpP
    rw [if_neg]
    intro h1
    have := hJn.nc _ j h1 (fdL_at h1)
    omega
  have hmn := grp_mono hc hk (j := j + 1) n (by omega) (Nat.le_refl _)
  rw [hstep] at hmn
  clear hgrp
  generalize hσ : fsS q xs j = σ at *
  generalize hKK : at3 xs (j * 3) = K at *
  generalize hAA : at3 xs (j * 3 + 1) = A at *
  generalize hBB : at3 xs (j * 3 + 2) = Bb at *
  obtain ⟨kk, rfl⟩ : ∃ kk : Nat, K = kk := ⟨K.toNat, by omega⟩
  obtain ⟨aa, rfl⟩ : ∃ aa : Nat, A = aa := ⟨A.toNat, by omega⟩
  obtain ⟨bb, rfl⟩ : ∃ bb : Nat, Bb = bb := ⟨Bb.toNat, by omega⟩
  have hgN : gN xs j = (kk, aa, bb) := by
    unfold gN
    rw [hKK, hAA, hBB]
    rfl
  rw [hgN]
  have haq : aa < q := by omega
  have hbq : bb < q := by omega
  have hvl := hI.vl
  have hvb := hI.vb
  have hgv := hI.gv
  unfold stepF at hf
  by_cases h1 : kk = 1
  · subst h1
    rw [if_pos (by rfl)] at hf
    rw [hno rfl]
    have e1 : tri [((1 : Nat) : Int), (aa : Int), (bb : Int)] = [(1, aa, bb)] := rfl
    rw [e1, TS_ch, TS_ch]
    have hd : ∀ y, dfG ⟨σ.V.set aa (2 ^ σ.u, false), σ.u + 1, σ.G, σ.s⟩ C (setA α σ.u y) = dfG σ C α := fun y => dfG_later (σ := σ) hgv
    have hag : ∀ y : Bool, Agr q (σ.V.set aa (2 ^ σ.u, false)) (setA α σ.u y) (fwd q 1 aa bb t (bnat y)) := fun y => agr_H hB hA hvl (hu60 rfl) hvb haq y
    have key : ∀ y : Bool, f (fwd q 1 aa bb t (bnat y)) (setA α σ.u y) (((e + dfG σ C α) % 8 + pha q 1 aa bb t (bnat y)) % 8) = f' (fwd q 1 aa bb t (bnat y)) (setA α σ.u y) ((e + pha q 1 aa bb t (bnat y)) % 8) := fun y => by
      rw [mod_ahead, ← hd y]
      exact hf _ _ _ (Nat.mod_lt _ (by decide)) (hag y)
    exact congr (congrArg R4.add (key false)) (key true)
  rw [if_neg (by omega)] at hf
  by_cases h2 : kk = 2 ∨ kk = 3
  · rw [if_pos (by omega)] at hf
    rw [hno (by rcases h2 with rfl | rfl <;> rfl)]
    have e1 : tri [(kk : Int), (aa : Int), (bb : Int)] = [(kk, aa, bb)] := rfl
    have e2 : fwd q kk aa bb t 0 = fl q t aa := by unfold fwd; rw [if_neg h1, if_pos h2]
    rw [e1, TS_one q h1, TS_one q h1, e2, mod_ahead]
    exact hf _ _ _ (Nat.mod_lt _ (by decide)) (agr_X hB hA hvl haq)
  rw [if_neg (by omega)] at hf
  by_cases h9 : kk = 9
  · subst h9
    rw [if_pos (by rfl)] at hf
    rw [hno rfl]
    have e1 : tri [((9 : Nat) : Int), (aa : Int), (bb : Int)] = [(9, aa, bb)] := rfl
    have e2 : fwd q 9 aa bb t 0 = if bq q t aa = 1 then fl q t bb else t := rfl
    rw [e1, TS_one q h1, TS_one q h1, e2, mod_ahead]
    exact hf _ _ _ (Nat.mod_lt _ (by decide)) (agr_CX hB hA hvl haq hbq)
  rw [if_neg (by omega)] at hf
  by_cases h11 : kk = 11
  · subst h11
    rw [if_pos (by rfl)] at hf
    rw [hno rfl]
    have e1 : tri [((11 : Nat) : Int), (aa : Int), (bb : Int)] = [(11, aa, bb)] := rfl
    have e2 : fwd q 11 aa bb t 0 = if bq q t aa = bq q t bb then t else fl q (fl q t aa) bb := rfl
    rw [e1, TS_one q h1, TS_one q h1, e2, mod_ahead]
    exact hf _ _ _ (Nat.mod_lt _ (by decide)) (agr_sw hB hA hvl haq hbq)
  rw [if_neg (by omega)] at hf
  have e2 : fwd q kk aa bb t 0 = t := by unfold fwd; rw [if_neg h1, if_neg h2, if_neg h9, if_neg h11]
  by_cases h0 : 0 < cfK (kk : Int)
  · rw [if_pos h0] at hf
    have hk48 : 4 ≤ kk ∧ kk ≤ 8 := by
      have h3 := h0
      unfold cfK at h3
      by_cases a4 : (kk : Int) = 4
      · omega
      by_cases a5 : (kk : Int) = 5
      · omega
      by_cases a6 : (kk : Int) = 6
      · omega
      by_cases a7 : (kk : Int) = 7
      · omega
      by_cases a8 : (kk : Int) = 8
      · omega
      rw [if_neg a4, if_neg a5, if_neg a6, if_neg a7, if_neg a8] at h3
      omega
    have hst : stepF σ j (kk : Int) (aa : Int) (bb : Int) = rotG σ j aa (cfK (kk : Int)) := by
      unfold stepF
      rw [if_neg (by omega), if_neg (by omega), if_neg (by omega), if_neg (by omega), if_pos h0]
      rfl
    rw [hst] at hmn
    have e3 : pha q kk aa bb t 0 = cfK (kk : Int) * bq q t aa := by
      unfold pha
      rw [if_neg h1, if_neg (by omega), if_neg (by omega), if_neg (by omega), ← cfN_eq (kk : Int) (by omega)]
      rfl
    rw [TS_one q h1, e2, e3, hA.2 aa haq]
    have hc8 := cfK_lt (kk : Int)
    have htoN : ((aa : Int)).toNat = aa := rfl
    rw [htoN] at hf
    generalize hcc : cfK (kk : Int) = c at *
    rw [rotG_eq] at hf hmn
    obtain ⟨l1, l2, l3⟩ := adG_len σ.G j (vAt σ.V aa).1 (vAt σ.V aa).2
    have hat := fun i hi => adG_at (G := σ.G) (at' := j) (v := (vAt σ.V aa).1) (p := (vAt σ.V aa).2) (i := i) hi
    obtain ⟨⟨x1, x2⟩, hx⟩ : ∃ x, vAt σ.V aa = x := ⟨_, rfl⟩
    rw [hx] at hf hmn l1 l2 l3 hat
    simp only at hf hmn l1 l2 l3 hat
    have hle := fdG_le σ.G x1
    have hfat : fdG σ.G x1 < σ.G.length → (gAt σ.G (fdG σ.G x1)).v = x1 := fdG_at
    generalize hi : fdG σ.G x1 = i at *
    -- where gate j stands in the end
    have hjn := hmn i (by simp only [List.length_set]; exact l1)
    simp only [gAt_set l1, if_pos] at hjn
    obtain ⟨m1, m2, m3, m4, m5⟩ := hjn
    have hjL : j ∈ (gAt (fsS q xs n).G i).L := m5 j (List.mem_append.2 (.inr (by simp)))
    have hfd := fdL_eq hJn m1 hjL
    have hfp : fpP (fsS q xs n).G (kk : Int) (aa : Int) (bb : Int) j = if (gAt (fsS q xs n).G i).t = j then rotL (aa : Int) (C i) else [] := by
      unfold fpP
      rw [hfd, if_pos m1, ← hC]
    rw [hfp, m2]
    have hCi := hCle i
    by_cases hin : i < σ.G.length
    · have hG : adG σ.G j x1 x2 = σ.G := by unfold adG; rw [hi, if_pos hin]
      rw [hG] at hf m2
      have ht := (hI.gt i hin).1
      rw [hG, if_neg (by show ¬ (gAt σ.G i).t = j; omega)]
      show f t α _ = f' t α e
      rw [← hf t α e he hA]
      refine congrArg (f t α) ?_
      rw [hx]
      have hgv := hfat hin
      have hsm := smG_set (G := σ.G) (C := C) (α := α) (k := i) (x := moG (gAt σ.G i) (x2 != (gAt σ.G i).p) j c) hin (m := σ.G.length) hin
      unfold dfG
      simp only [List.length_set]
      generalize smG (σ.G.set i (moG (gAt σ.G i) (x2 != (gAt σ.G i).p) j c)) C α σ.G.length = S' at *
      generalize smG σ.G C α σ.G.length = S at *
      unfold tmG moG at hsm
      simp only at hsm
      rw [hgv] at hsm
      have hgc := (hI.gt i hin).2.1
      generalize (gAt σ.G i).c = gc at *
      generalize (gAt σ.G i).p = gp at *
      generalize C i = Ci at *
      generalize σ.s = ss at *
      unfold val at *
      simp only at *
      generalize prt x1 α 60 = pr at *
      cases pr <;> cases x2 <;> cases gp <;> simp [bnat] at hsm ⊢ <;> omega
    · have hieq : i = σ.G.length := by omega
      have hG : adG σ.G j x1 x2 = σ.G ++ [⟨j, 0, x1, x2, []⟩] := by unfold adG; rw [hi, if_neg hin]
      rw [hG] at hf
      have hnew : gAt (σ.G ++ [(⟨j, 0, x1, x2, []⟩ : Gp)]) i = ⟨j, 0, x1, x2, []⟩ := by rw [hieq]; exact gAt_new
      rw [hG, hnew, if_pos (by rfl)]
      rw [hnew] at hf
      have hC8 : C i < 8 := by
        rw [hC]
        exact ((fs_inv hc n (Nat.le_refl _) hk).gt i m1).2.1
      rw [TS_rot q f' (aa : Int) hC8 t σ.u α he, htoN, hA.2 aa haq, hx]
      rw [← hf t α _ (Nat.mod_lt _ (by decide)) hA]
      refine congrArg (f t α) ?_
      have hl : (σ.G ++ [(⟨j, 0, x1, x2, []⟩ : Gp)]).length = σ.G.length + 1 := by simp
      have hsm := smG_set (G := σ.G ++ [(⟨j, 0, x1, x2, []⟩ : Gp)]) (C := C) (α := α) (k := i) (x := moG ⟨j, 0, x1, x2, []⟩ (x2 != x2) j c) (by rw [hl]; omega) (m := σ.G.length + 1) (by omega)
      have hs1 : smG (σ.G ++ [(⟨j, 0, x1, x2, []⟩ : Gp)]) C α (σ.G.length + 1) = smG σ.G C α σ.G.length + tmG C α i ⟨j, 0, x1, x2, []⟩ := by
        show smG (σ.G ++ [(⟨j, 0, x1, x2, []⟩ : Gp)]) C α σ.G.length + tmG C α σ.G.length (gAt (σ.G ++ [(⟨j, 0, x1, x2, []⟩ : Gp)]) σ.G.length) = _
        rw [smG_same (G' := σ.G) fun i hi => gAt_left hi, ← hieq, hnew]
      rw [hs1, hnew] at hsm
      unfold dfG
      simp only [List.length_set, hl]
      generalize smG ((σ.G ++ [(⟨j, 0, x1, x2, []⟩ : Gp)]).set i (moG ⟨j, 0, x1, x2, []⟩ (x2 != x2) j c)) C α (σ.G.length + 1) = S' at *
      generalize smG σ.G C α σ.G.length = S at *
      unfold tmG moG at hsm
      simp only at hsm
      generalize C i = Ci at *
      generalize σ.s = ss at *
      unfold val at *
      simp only at *
      generalize prt x1 α 60 = pr at *
      cases pr <;> cases x2 <;> simp [bnat] at hsm ⊢ <;> omega
  · rw [if_neg h0] at hf
    rw [hno (by omega)]
    have e1 : tri [(kk : Int), (aa : Int), (bb : Int)] = [(kk, aa, bb)] := rfl
    rw [e1, TS_one q h1, TS_one q h1, e2, mod_ahead]
    exact hf _ _ _ (Nat.mod_lt _ (by decide)) hA


open Go.RowKit
set_option linter.unusedVariables false
set_option linter.unusedSimpArgs false

theorem TS_congr8 (n : Nat) {f f' : Nat → (Nat → Bool) → Nat → R4} : ∀ (l : List G3) (t u : Nat) (α : Nat → Bool) (e : Nat), (∀ t α e, e < 8 → f t α e = f' t α e) → e < 8 → TS n l f t u α e = TS n l f' t u α e
  | [], t, u, α, e, h, he => h t α e he
  | (k, a, b) :: l, t, u, α, e, h, he => by
    show (if k = 1 then _ else _) = (if k = 1 then _ else _)
    by_cases hk : k = 1
    · rw [if_pos hk, if_pos hk, TS_congr8 n l _ _ _ _ h (Nat.mod_lt _ (by decide)), TS_congr8 n l _ _ _ _ h (Nat.mod_lt _ (by decide))]
    · rw [if_neg hk, if_neg hk, TS_congr8 n l _ _ _ _ h (Nat.mod_lt _ (by decide))]
theorem fwd_lt {n : Nat} (hB : Bits n) (k a b t y : Nat) (ha : a < n) (hb : b < n) (ht : t < 2 ^ n) : fwd n k a b t y < 2 ^ n := by
  unfold fwd
  split
  · split
    · exact ht
    · exact hB.lt t a ht ha
  split
  · exact hB.lt t a ht ha
  split
  · split
    · exact hB.lt t b ht hb
    · exact ht
  split
  · split
    · exact ht
    · exact hB.lt _ b (hB.lt t a ht ha) hb
  · exact ht
theorem bits1 : Bits 1 := ⟨fun t a ht ha => (by decide : ∀ t : Fin 2, ∀ a : Fin 1, fl 1 t a < 2) ⟨t, ht⟩ ⟨a, ha⟩,
  fun t a q ht ha hq => (by decide : ∀ t : Fin 2, ∀ a : Fin 1, ∀ q : Fin 1, bq 1 (fl 1 t a) q = if q.val = a.val then 1 - bq 1 t q else bq 1 t q) ⟨t, ht⟩ ⟨a, ha⟩ ⟨q, hq⟩⟩
theorem bits2 : Bits 2 := ⟨fun t a ht ha => (by decide : ∀ t : Fin 4, ∀ a : Fin 2, fl 2 t a < 4) ⟨t, ht⟩ ⟨a, ha⟩,
  fun t a q ht ha hq => (by decide : ∀ t : Fin 4, ∀ a : Fin 2, ∀ q : Fin 2, bq 2 (fl 2 t a) q = if q.val = a.val then 1 - bq 2 t q else bq 2 t q) ⟨t, ht⟩ ⟨a, ha⟩ ⟨q, hq⟩⟩
set_option maxRecDepth 4000 in
theorem bits3 : Bits 3 := ⟨fun t a ht ha => (by decide : ∀ t : Fin 8, ∀ a : Fin 3, fl 3 t a < 8) ⟨t, ht⟩ ⟨a, ha⟩,
  fun t a q ht ha hq => (by decide : ∀ t : Fin 8, ∀ a : Fin 3, ∀ q : Fin 3, bq 3 (fl 3 t a) q = if q.val = a.val then 1 - bq 3 t q else bq 3 t q) ⟨t, ht⟩ ⟨a, ha⟩ ⟨q, hq⟩⟩
theorem bitsQ {q : Nat} (h1 : 1 ≤ q) (h2 : q ≤ 3) : Bits q := by
  have : q = 1 ∨ q = 2 ∨ q = 3 := by omega
  rcases this with rfl | rfl | rfl
  · exact bits1
  · exact bits2
  · exact bits3
theorem nH_fpP {q : Nat} {xs : List Int} {n : Nat} (hc : cOk q xs n = true) (hk : fsK q xs n = true) (j : Nat) : nH (tri (fpP (fsS q xs n).G (at3 xs (j * 3)) (at3 xs (j * 3 + 1)) (at3 xs (j * 3 + 2)) j)) = nH [gN xs j] := by
  have hJ := fsJ_inv hc n (Nat.le_refl _) hk
  unfold fpP
  by_cases h : fdL (fsS q xs n).G j < (fsS q xs n).G.length
  · rw [if_pos h]
    have h0 := hJ.nc _ j h (fdL_at h)
    have hc8 := ((fs_inv hc n (Nat.le_refl _) hk).gt _ h).2.1
    have hk1 : nH [gN xs j] = 0 := by
      show (if (gN xs j).1 = 1 then 1 else 0) + 0 = 0
      rw [if_neg]
      intro e
      unfold gN at e
      simp only at e
      have e1 : at3 xs (j * 3) = 1 := by omega
      rw [e1] at h0
      exact absurd h0 (by decide)
    rw [hk1]
    split
    · exact nH_rot _ hc8
    · rfl
  · rw [if_neg h]
    rfl
theorem nH_xlG {q : Nat} {xs : List Int} {n : Nat} (hc : cOk q xs n = true) (hk : fsK q xs n = true) : ∀ j, nH (xlG (fsS q xs n).G xs j) = nH (clG xs j)
  | 0 => rfl
  | j + 1 => by
    show nH (xlG (fsS q xs n).G xs j ++ _) = nH (clG xs j ++ _)
    rw [nH_app, nH_app, nH_xlG hc hk j, nH_fpP hc hk j]
theorem uOf {q : Nat} {xs : List Int} {n : Nat} (hc : cOk q xs n = true) {j : Nat} (hj : j ≤ n) : q + nH (clG xs j) = (fsS q xs j).u := by
  rcases nH_clG (q := q) (xs := xs) j with h | ⟨i, h1, h2⟩
  · exact h
  · have := gOk_facts (cOk_gate hc (show i < n by omega)) (cOk_q1 hc).1
    omega
theorem fold_all {q : Nat} {xs : List Int} {n : Nat} (hB : Bits q) (hc : cOk q xs n = true) (hk : fsK q xs n = true) (C : Nat → Nat) (hC : ∀ i, C i = (gAt (fsS q xs n).G i).c) (t0 : Nat) (α0 : Nat → Bool) : ∀ j, j ≤ n → ∀ f f' : Nat → (Nat → Bool) → Nat → R4,
    (∀ t α e, e < 8 → Agr q (fsS q xs j).V α t → f t α ((e + dfG (fsS q xs j) C α) % 8) = f' t α e) → Agr q (iniF q).V α0 t0 → TS q (clG xs j) f t0 q α0 0 = TS q (xlG (fsS q xs n).G xs j) f' t0 q α0 0 := by
  intro j
  induction j with
  | zero =>
    intro _ f f' h hA
    have h1 := h t0 α0 0 (by decide) hA
    have e0 : dfG (fsS q xs 0) C α0 = 0 := rfl
    rw [e0] at h1
    exact h1
  | succ j ih =>
    intro hj f f' h hA
    have e1 : clG xs (j + 1) = clG xs j ++ [gN xs j] := rfl
    have e2 : xlG (fsS q xs n).G xs (j + 1) = xlG (fsS q xs n).G xs j ++ tri (fpP (fsS q xs n).G (at3 xs (j * 3)) (at3 xs (j * 3 + 1)) (at3 xs (j * 3 + 2)) j) := rfl
    rw [e1, e2, TS_app, TS_app, nH_xlG hc hk, uOf hc (show j ≤ n by omega)]
    exact ih (by omega) _ _ (fun t α e he hAg => fold_step hB hc hk (by omega) C hC f f' h t α e he hAg) hA
theorem sm8 (G : List Gp) (C : Nat → Nat) (α : Nat → Bool) (hC : ∀ i, C i = (gAt G i).c) (h8 : ∀ i, C i ≤ 8) : ∀ m, ∃ z, smG G C α m = 8 * z
  | 0 => ⟨0, rfl⟩
  | m + 1 => by
    obtain ⟨z, hz⟩ := sm8 G C α hC h8 m
    refine ⟨z + bnat (val α ((gAt G m).v, (gAt G m).p)), ?_⟩
    show smG G C α m + ((gAt G m).c + (8 - C m)) * _ = _
    have h1 : (gAt G m).c + (8 - C m) = 8 := by rw [← hC]; have := h8 m; omega
    rw [hz, h1, Nat.mul_add]
/-- the cells of the operators of a circuit and of the folded one are the same -/
theorem fold_amp {q : Nat} {xs : List Int} {n : Nat} (hB : Bits q) (hc : cOk q xs n = true) (hk : fsK q xs n = true) (i j : Nat) (hj : j < 2 ^ q) :
    amp q (clG xs n) i j = amp q (xlG (fsS q xs n).G xs n ++ List.replicate (fsS q xs n).s (12, 0, 0)) i j := by
  have hI := fs_inv hc n (Nat.le_refl _) hk
  have hC8 : ∀ i, (gAt (fsS q xs n).G i).c ≤ 8 := fun i => by
    rcases Nat.lt_or_ge i (fsS q xs n).G.length with h | h
    · have := (hI.gt i h).2.1
      omega
    · have : gAt (fsS q xs n).G i = default := by simp [gAt, List.getD_eq_getElem?_getD, h]
      rw [this]
      show (0 : Nat) ≤ 8
      omega
  let α0 : Nat → Bool := fun p => bq q j p == 1
  have hq60 := cOk_q1 hc
  have hA : Agr q (iniF q).V α0 j := by
    refine ⟨hj, fun p hp => ?_⟩
    have hv : vAt (iniF q).V p = (2 ^ p, false) := by simp [vAt, iniF, List.getD_eq_getElem?_getD, hp]
    rw [hv]
    unfold val
    rw [prt_two]
    have := bq_le q j p
    have h2 : bq q j p = 0 ∨ bq q j p = 1 := by omega
    have hp60 : p < 60 := by omega
    show _ = bnat ((decide (p < 60) && (bq q j p == 1)) != false)
    rcases h2 with h2 | h2 <;> rw [h2] <;> simp [hp60] <;> rfl
  unfold amp
  rw [TS_noα q (F := fun t e => if t = i then wp e else R4.zero) (clG xs n) j 0 q (fun _ => false) α0, TS_noα q (F := fun t e => if t = i then wp e else R4.zero) _ j 0 q (fun _ => false) α0]
  rw [fold_all hB hc hk _ (fun _ => rfl) j α0 n (Nat.le_refl _) (fun t _ e => if t = i then wp e else R4.zero) (fun t α e => (fun t (_ : Nat → Bool) e => if t = i then wp e else R4.zero) t α ((e + (fsS q xs n).s) % 8)) (fun t α e he hAg => ?_) hA]
  · rw [TS_app]
    refine TS_congr8 q _ _ _ _ _ (fun t α e he => ?_) (by decide)
    rw [TS_ph q _ t _ α _ he]
  · obtain ⟨z, hz⟩ := sm8 (fsS q xs n).G (fun i => (gAt (fsS q xs n).G i).c) α (fun _ => rfl) hC8 (fsS q xs n).G.length
    have : (e + dfG (fsS q xs n) (fun i => (gAt (fsS q xs n).G i).c) α) % 8 = (e + (fsS q xs n).s) % 8 := by
      unfold dfG
      rw [hz]
      omega
    rw [this]

end Go.Proofs.Ytbddgeoaaklgpaa
