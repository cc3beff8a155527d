/- A stable sort in place: plain laws of swaps, rotations, insertion and the symmetric merge, on functions of the index. -/
import Derived.Test.YtbffcpnpdpgfeaaRows
namespace Go.Proofs.Ytbffcpnpdpgfeaa
namespace So
set_option linter.unusedVariables false
set_option linter.unusedSimpArgs false
variable {α : Type}

def swapF (i j : Nat) (X : Nat → α) : Nat → α := fun p => if p = i then X j else if p = j then X i else X p
/-- two neighbouring pieces change places -/
def rotF (a m b : Nat) (X : Nat → α) : Nat → α := fun p => if a ≤ p ∧ p < b then (if p < a + (b - m) then X (p + (m - a)) else X (p - (b - m))) else X p
/-- two pieces of n change places -/
def swrF (a b n : Nat) (X : Nat → α) : Nat → α := fun p => if a ≤ p ∧ p < a + n then X (p - a + b) else if b ≤ p ∧ p < b + n then X (p - b + a) else X p

theorem swap_comm (i j : Nat) (X : Nat → α) : swapF i j X = swapF j i X := by
  funext p
  simp only [swapF]
  repeat' split
  all_goals first | rfl | (congr 1; omega)
theorem rot_left (m b : Nat) (X : Nat → α) : rotF m m b X = X := by
  funext p
  simp only [rotF]
  repeat' split
  all_goals first | rfl | (exfalso; omega) | (congr 1; omega)
theorem rot_right (a b : Nat) (X : Nat → α) : rotF a b b X = X := by
  funext p
  simp only [rotF]
  repeat' split
  all_goals first | rfl | (exfalso; omega) | (congr 1; omega)
theorem swap_rot_left {k m : Nat} (X : Nat → α) (h1 : 1 ≤ k) (h2 : k ≤ m) : swapF k (k - 1) (rotF k m (m + 1) X) = rotF (k - 1) m (m + 1) X := by
  funext p
  simp only [swapF, rotF]
  repeat' split
  all_goals first | rfl | (exfalso; omega) | (congr 1; omega)
theorem swap_rot_right {a k : Nat} (X : Nat → α) (h : a ≤ k) : swapF k (k + 1) (rotF a (a + 1) (k + 1) X) = rotF a (a + 1) (k + 2) X := by
  funext p
  simp only [swapF, rotF]
  repeat' split
  all_goals first | rfl | (exfalso; omega) | (congr 1; omega)
theorem swr_zero (a b : Nat) (X : Nat → α) : swrF a b 0 X = X := by
  funext p
  simp only [swrF]
  repeat' split
  all_goals first | rfl | (exfalso; omega)
theorem swr_succ {a b i n : Nat} (X : Nat → α) (h : a + n ≤ b) (hi : i < n) : swapF (a + i) (b + i) (swrF a b i X) = swrF a b (i + 1) X := by
  funext p
  simp only [swapF, swrF]
  repeat' split
  all_goals first | rfl | (exfalso; omega) | (congr 1; omega)
theorem rot_step1 {m i j : Nat} (X : Nat → α) (h : j < i) (hm : i ≤ m) : rotF (m - (i - j)) m (m + j) (swrF (m - i) m j X) = rotF (m - i) m (m + j) X := by
  funext p
  simp only [rotF, swrF]
  repeat' split
  all_goals first | rfl | (exfalso; omega) | (congr 1; omega)
theorem rot_step2 {m i j : Nat} (X : Nat → α) (h : i < j) (hm : i ≤ m) : rotF (m - i) m (m + (j - i)) (swrF (m - i) (m + j - i) i X) = rotF (m - i) m (m + j) X := by
  funext p
  simp only [rotF, swrF]
  repeat' split
  all_goals first | rfl | (exfalso; omega) | (congr 1; omega)
theorem rot_end {m i : Nat} (X : Nat → α) (hm : i ≤ m) : swrF (m - i) m i X = rotF (m - i) m (m + i) X := by
  funext p
  simp only [rotF, swrF]
  repeat' split
  all_goals first | rfl | (exfalso; omega) | (congr 1; omega)

/-- the same values stand in a piece, all else is as it was -/
structure Same (a b : Nat) (X Y : Nat → α) : Prop where
  to : ∀ i, a ≤ i → i < b → ∃ j, a ≤ j ∧ j < b ∧ Y i = X j
  from_ : ∀ i, a ≤ i → i < b → ∃ j, a ≤ j ∧ j < b ∧ X i = Y j
  off : ∀ i, i < a ∨ b ≤ i → Y i = X i
theorem Same.refl (a b : Nat) (X : Nat → α) : Same a b X X := ⟨fun i h1 h2 => ⟨i, h1, h2, rfl⟩, fun i h1 h2 => ⟨i, h1, h2, rfl⟩, fun _ _ => rfl⟩
theorem Same.trans {a b : Nat} {X Y Z : Nat → α} (h : Same a b X Y) (k : Same a b Y Z) : Same a b X Z := by
  refine ⟨fun i h1 h2 => ?_, fun i h1 h2 => ?_, fun i hi => (k.off i hi).trans (h.off i hi)⟩
  · obtain ⟨j, j1, j2, e⟩ := k.to i h1 h2
    obtain ⟨q, q1, q2, e'⟩ := h.to j j1 j2
    exact ⟨q, q1, q2, e.trans e'⟩
  · obtain ⟨j, j1, j2, e⟩ := h.from_ i h1 h2
    obtain ⟨q, q1, q2, e'⟩ := k.from_ j j1 j2
    exact ⟨q, q1, q2, e.trans e'⟩
theorem Same.widen {a b a' b' : Nat} {X Y : Nat → α} (h : Same a b X Y) (ha : a' ≤ a) (hb : b ≤ b') : Same a' b' X Y := by
  refine ⟨fun i h1 h2 => ?_, fun i h1 h2 => ?_, fun i hi => h.off i (by omega)⟩
  · by_cases hi : a ≤ i ∧ i < b
    · obtain ⟨j, j1, j2, e⟩ := h.to i hi.1 hi.2
      exact ⟨j, by omega, by omega, e⟩
    · exact ⟨i, h1, h2, h.off i (by omega)⟩
  · by_cases hi : a ≤ i ∧ i < b
    · obtain ⟨j, j1, j2, e⟩ := h.from_ i hi.1 hi.2
      exact ⟨j, by omega, by omega, e⟩
    · exact ⟨i, h1, h2, (h.off i (by omega)).symm⟩
theorem same_rot {a m b : Nat} (X : Nat → α) (h1 : a ≤ m) (h2 : m ≤ b) : Same a b X (rotF a m b X) := by
  refine ⟨fun i i1 i2 => ?_, fun i i1 i2 => ?_, fun i hi => ?_⟩
  · simp only [rotF]
    rw [if_pos ⟨i1, i2⟩]
    split
    · exact ⟨_, by omega, by omega, rfl⟩
    · exact ⟨_, by omega, by omega, rfl⟩
  · by_cases hi : i < m
    · refine ⟨i + (b - m), by omega, by omega, ?_⟩
      simp only [rotF]
      rw [if_pos (by omega), if_neg (by omega)]
      congr 1
      omega
    · refine ⟨i - (m - a), by omega, by omega, ?_⟩
      simp only [rotF]
      rw [if_pos (by omega), if_pos (by omega)]
      congr 1
      omega
  · simp only [rotF]
    rw [if_neg (by omega)]

section
variable (K : α → Int) (lx : α → α → Prop)
/-- by the key, then by the second order -/
def Lt (x y : α) : Prop := K x < K y ∨ (K x = K y ∧ lx x y)
structure Ord2 : Prop where
  irr : ∀ x, ¬ lx x x
  tr : ∀ x y z, lx x y → lx y z → lx x z
def Sorted (a b : Nat) (X : Nat → α) : Prop := ∀ i j, a ≤ i → i < j → j < b → Lt K lx (X i) (X j)
def Asc (a b : Nat) (X : Nat → α) : Prop := ∀ i j, a ≤ i → i < j → j < b → lx (X i) (X j)
def Cross (a m b : Nat) (X : Nat → α) : Prop := ∀ i j, a ≤ i → i < m → m ≤ j → j < b → lx (X i) (X j)
end
section
variable {K : α → Int} {lx : α → α → Prop}
theorem lt_trans (O : Ord2 lx) {x y z : α} (h : Lt K lx x y) (k : Lt K lx y z) : Lt K lx x z := by
  rcases h with h | ⟨h, h'⟩ <;> rcases k with k | ⟨k, k'⟩
  · exact .inl (by omega)
  · exact .inl (by omega)
  · exact .inl (by omega)
  · exact .inr ⟨by omega, O.tr _ _ _ h' k'⟩
theorem lt_irr (O : Ord2 lx) (x : α) : ¬ Lt K lx x x := by
  rintro (h | ⟨_, h⟩)
  · omega
  · exact O.irr _ h
theorem lt_yes {x y : α} (h : K x < K y) : Lt K lx x y := .inl h
theorem lt_no {x y : α} (hl : lx y x) (h : ¬ K x < K y) : Lt K lx y x := by
  by_cases he : K y = K x
  · exact .inr ⟨he, hl⟩
  · exact .inl (by omega)

theorem sorted_glue {a c b : Nat} {Z : Nat → α} (h1 : Sorted K lx a c Z) (h2 : Sorted K lx c b Z) (h3 : ∀ i j, a ≤ i → i < c → c ≤ j → j < b → Lt K lx (Z i) (Z j)) : Sorted K lx a b Z := by
  intro i j i1 i2 i3
  by_cases hj : j < c
  · exact h1 i j i1 i2 hj
  · by_cases hi : i < c
    · exact h3 i j i1 hi (by omega) i3
    · exact h2 i j (by omega) i2 i3
theorem sorted_sub {a b a' b' : Nat} {Z : Nat → α} (h : Sorted K lx a b Z) (ha : a ≤ a') (hb : b' ≤ b) : Sorted K lx a' b' Z := fun i j i1 i2 i3 => h i j (by omega) i2 (by omega)
theorem sorted_one {a : Nat} {Z : Nat → α} : Sorted K lx a (a + 1) Z := fun i j i1 i2 i3 => by omega

/-- the pieces of a rotated row -/
theorem rot_at1 {a m b : Nat} (X : Nat → α) {i : Nat} (h1 : a ≤ i) (h2 : i < a + (b - m)) (h3 : a ≤ m) (h4 : m ≤ b) : rotF a m b X i = X (i + (m - a)) := by
  simp only [rotF]
  rw [if_pos (by omega), if_pos h2]
theorem rot_at2 {a m b : Nat} (X : Nat → α) {i : Nat} (h1 : a + (b - m) ≤ i) (h2 : i < b) (h3 : a ≤ m) (h4 : m ≤ b) : rotF a m b X i = X (i - (b - m)) := by
  simp only [rotF]
  rw [if_pos (by omega), if_neg (by omega)]
theorem rot_at3 {a m b : Nat} (X : Nat → α) {i : Nat} (h : i < a ∨ b ≤ i) : rotF a m b X i = X i := by
  simp only [rotF]
  rw [if_neg (by omega)]

/-- after the symmetric exchange all of the left half lies before all of the right half -/
theorem halves (O : Ord2 lx) {a m b s e : Nat} {X : Nat → α} (h1 : Sorted K lx a m X) (h2 : Sorted K lx m b X) (as' : a ≤ s) (sm : s ≤ m) (me : m ≤ e) (eb : e ≤ b)
    (d1 : a < s → e < b → Lt K lx (X (s - 1)) (X e)) (d2 : s < m → m < e → Lt K lx (X (e - 1)) (X s)) :
    ∀ i j, a ≤ i → i < s + (e - m) → s + (e - m) ≤ j → j < b → Lt K lx (rotF s m e X i) (rotF s m e X j) := by
  intro i j i1 i2 j1 j2
  have hs : ∀ p q, a ≤ p → p ≤ q → q < m → Lt K lx (X p) (X q) ∨ p = q := fun p q p1 p2 p3 => by
    by_cases e : p = q
    · exact .inr e
    · exact .inl (h1 p q p1 (by omega) p3)
  have ht : ∀ p q, m ≤ p → p ≤ q → q < b → Lt K lx (X p) (X q) ∨ p = q := fun p q p1 p2 p3 => by
    by_cases e : p = q
    · exact .inr e
    · exact .inl (h2 p q p1 (by omega) p3)
  by_cases hi : i < s
  · rw [rot_at3 X (.inl hi)]
    by_cases hj : j < e
    · rw [rot_at2 X (by omega) hj sm me]
      exact h1 _ _ i1 (by omega) (by omega)
    · rw [rot_at3 X (.inr (by omega))]
      have hd := d1 (by omega) (by omega)
      have hd2 : Lt K lx (X (s - 1)) (X j) := by
        rcases ht e j (by omega) (by omega) j2 with h | h
        · exact lt_trans O hd h
        · rw [← h]; exact hd
      rcases hs i (s - 1) i1 (by omega) (by omega) with h | h
      · exact lt_trans O h hd2
      · rw [h]; exact hd2
  · rw [rot_at1 X (by omega) i2 sm me]
    by_cases hj : j < e
    · rw [rot_at2 X (by omega) hj sm me]
      have hd := d2 (by omega) (by omega)
      have hd2 : Lt K lx (X (i + (m - s))) (X s) := by
        rcases ht (i + (m - s)) (e - 1) (by omega) (by omega) (by omega) with h | h
        · exact lt_trans O h hd
        · rw [h]; exact hd
      rcases hs s (j - (e - m)) (by omega) (by omega) (by omega) with h | h
      · exact lt_trans O hd2 h
      · rw [← h]; exact hd2
    · rw [rot_at3 X (.inr (by omega))]
      exact h2 _ _ (by omega) (by omega) j2
theorem rot_sorted1 {a m b s e : Nat} {X : Nat → α} (h1 : Sorted K lx a m X) (sm : s ≤ m) (me : m ≤ e) : Sorted K lx a s (rotF s m e X) := by
  intro i j i1 i2 i3
  rw [rot_at3 X (.inl (by omega)), rot_at3 X (.inl (by omega))]
  exact h1 i j i1 i2 (by omega)
theorem rot_sorted2 {m b s e : Nat} {X : Nat → α} (h2 : Sorted K lx m b X) (sm : s ≤ m) (me : m ≤ e) (eb : e ≤ b) : Sorted K lx s (s + (e - m)) (rotF s m e X) := by
  intro i j i1 i2 i3
  rw [rot_at1 X i1 (by omega) sm me, rot_at1 X (by omega) (by omega) sm me]
  exact h2 _ _ (by omega) (by omega) (by omega)
theorem rot_sorted3 {a m s e : Nat} {X : Nat → α} (h1 : Sorted K lx a m X) (as' : a ≤ s) (sm : s ≤ m) (me : m ≤ e) : Sorted K lx (s + (e - m)) e (rotF s m e X) := by
  intro i j i1 i2 i3
  rw [rot_at2 X i1 (by omega) sm me, rot_at2 X (by omega) (by omega) sm me]
  exact h1 _ _ (by omega) (by omega) (by omega)
theorem rot_sorted4 {m b s e : Nat} {X : Nat → α} (h2 : Sorted K lx m b X) (me : m ≤ e) : Sorted K lx e b (rotF s m e X) := by
  intro i j i1 i2 i3
  rw [rot_at3 X (.inr (by omega)), rot_at3 X (.inr (by omega))]
  exact h2 _ _ (by omega) (by omega) (by omega)
theorem rot_cross1 {a m b s e : Nat} {X : Nat → α} (h : Cross lx a m b X) (as' : a ≤ s) (sm : s ≤ m) (me : m ≤ e) (eb : e ≤ b) : Cross lx a s (s + (e - m)) (rotF s m e X) := by
  intro i j i1 i2 i3 i4
  rw [rot_at3 X (.inl (by omega)), rot_at1 X (by omega) (by omega) sm me]
  exact h _ _ i1 (by omega) (by omega) (by omega)
theorem rot_cross2 {a m b s e : Nat} {X : Nat → α} (h : Cross lx a m b X) (as' : a ≤ s) (sm : s ≤ m) (me : m ≤ e) (eb : e ≤ b) : Cross lx (s + (e - m)) e b (rotF s m e X) := by
  intro i j i1 i2 i3 i4
  rw [rot_at2 X (by omega) (by omega) sm me, rot_at3 X (.inr (by omega))]
  exact h _ _ (by omega) (by omega) (by omega) (by omega)

/-- what a step leaves alone -/
theorem sorted_off {a b c d : Nat} {X Y : Nat → α} (h : Same a b X Y) (hs : Sorted K lx c d X) (hd : d ≤ a ∨ b ≤ c) : Sorted K lx c d Y := by
  intro i j i1 i2 i3
  rw [h.off i (by omega), h.off j (by omega)]
  exact hs i j i1 i2 i3
theorem cross_off {a b c m d : Nat} {X Y : Nat → α} (h : Same a b X Y) (hs : Cross lx c m d X) (hd : d ≤ a ∨ b ≤ c) : Cross lx c m d Y := by
  intro i j i1 i2 i3 i4
  rw [h.off i (by omega), h.off j (by omega)]
  exact hs i j i1 i2 i3 i4
theorem halves_same {a c b : Nat} {X Y : Nat → α} (h : ∀ i j, a ≤ i → i < c → c ≤ j → j < b → Lt K lx (X i) (X j)) (k : Same a c X Y ∨ Same c b X Y) : ∀ i j, a ≤ i → i < c → c ≤ j → j < b → Lt K lx (Y i) (Y j) := by
  intro i j i1 i2 j1 j2
  rcases k with k | k
  · obtain ⟨q, q1, q2, e⟩ := k.to i i1 i2
    rw [e, k.off j (.inr j1)]
    exact h q j q1 q2 j1 j2
  · obtain ⟨q, q1, q2, e⟩ := k.to j j1 j2
    rw [e, k.off i (.inl i2)]
    exact h i q i1 i2 q1 q2

/-- one element put in its place among those to its right -/
theorem put_right (O : Ord2 lx) {a b i : Nat} {X : Nat → α} (h : Sorted K lx (a + 1) b X) (hi : a + 1 ≤ i) (hb : i ≤ b) (d1 : a + 1 < i → Lt K lx (X (i - 1)) (X a)) (d2 : i < b → Lt K lx (X a) (X i)) : Sorted K lx a b (rotF a (a + 1) i X) := by
  have hh := halves O (a := a) (m := a + 1) (b := b) (s := a) (e := i) sorted_one h (Nat.le_refl _) (by omega) hi hb (fun h => absurd h (by omega)) (fun _ h => d1 h)
  have e : a + (i - (a + 1)) = i - 1 := by omega
  rw [e] at hh
  refine sorted_glue (c := i - 1) ?_ (sorted_glue (c := i) ?_ (rot_sorted4 h hi) ?_) hh
  · have := rot_sorted2 (s := a) (e := i) h (by omega) hi hb
    rwa [e] at this
  · intro p q p1 p2 p3; omega
  · intro p q p1 p2 q1 q2
    obtain rfl : p = i - 1 := by omega
    rw [rot_at2 X (by omega) (by omega) (by omega) hi, rot_at3 X (.inr (by omega)), show i - 1 - (i - (a + 1)) = a by omega]
    have hd := d2 (by omega)
    by_cases hq : q = i
    · subst hq; exact hd
    · exact lt_trans O hd (h i q (by omega) (by omega) q2)
/-- one element put in its place among those to its left -/
theorem put_left (O : Ord2 lx) {a m i : Nat} {X : Nat → α} (h : Sorted K lx a m X) (hi : a ≤ i) (hb : i ≤ m) (d1 : a < i → Lt K lx (X (i - 1)) (X m)) (d2 : i < m → Lt K lx (X m) (X i)) : Sorted K lx a (m + 1) (rotF i m (m + 1) X) := by
  have hh := halves O (a := a) (m := m) (b := m + 1) (s := i) (e := m + 1) h sorted_one hi hb (by omega) (Nat.le_refl _) (fun _ h => absurd h (by omega)) (fun h _ => by rw [Nat.add_sub_cancel]; exact d2 h)
  have e : i + (m + 1 - m) = i + 1 := by omega
  rw [e] at hh
  refine sorted_glue (c := i + 1) (sorted_glue (c := i) (rot_sorted1 (b := m + 1) h hb (by omega)) ?_ ?_) ?_ hh
  · intro p q p1 p2 p3; omega
  · intro p q p1 p2 q1 q2
    obtain rfl : q = i := by omega
    rw [rot_at3 X (.inl p2), rot_at1 X (by omega) (by omega) hb (by omega), show q + (m - q) = m by omega]
    have hd := d1 (by omega)
    by_cases hp : p = q - 1
    · subst hp; exact hd
    · exact lt_trans O (h p (q - 1) p1 (by omega) (by omega)) hd
  · have := rot_sorted3 (s := i) (e := m + 1) h hi hb (by omega)
    rwa [e] at this
end

/-- a piece is sorted and holds what it held at first -/
structure Seg (K : α → Int) (lx : α → α → Prop) (X0 : Nat → α) (a b : Nat) (Y : Nat → α) : Prop where
  to : ∀ i, a ≤ i → i < b → ∃ j, a ≤ j ∧ j < b ∧ Y i = X0 j
  from_ : ∀ i, a ≤ i → i < b → ∃ j, a ≤ j ∧ j < b ∧ X0 i = Y j
  sorted : Sorted K lx a b Y
section
variable {K : α → Int} {lx : α → α → Prop} {X0 : Nat → α}
theorem Seg.congr {a b : Nat} {Y Y' : Nat → α} (h : Seg K lx X0 a b Y) (e : ∀ i, a ≤ i → i < b → Y' i = Y i) : Seg K lx X0 a b Y' := by
  refine ⟨fun i h1 h2 => by rw [e i h1 h2]; exact h.to i h1 h2, fun i h1 h2 => ?_, fun i j i1 i2 i3 => by rw [e i i1 (by omega), e j (by omega) i3]; exact h.sorted i j i1 i2 i3⟩
  obtain ⟨j, j1, j2, q⟩ := h.from_ i h1 h2
  exact ⟨j, j1, j2, by rw [e j j1 j2]; exact q⟩
theorem Seg.cross {a m b n : Nat} {Y : Nat → α} (A : Asc lx 0 n X0) (h : Seg K lx X0 a m Y) (k : Seg K lx X0 m b Y) (hb : b ≤ n) : Cross lx a m b Y := by
  intro i j i1 i2 j1 j2
  obtain ⟨p, p1, p2, e⟩ := h.to i i1 i2
  obtain ⟨q, q1, q2, e'⟩ := k.to j j1 j2
  rw [e, e']
  exact A p q (by omega) (by omega) (by omega)
theorem Seg.merge {a m b : Nat} {Y Z : Nat → α} (am : a ≤ m) (mb : m ≤ b) (h : Seg K lx X0 a m Y) (k : Seg K lx X0 m b Y) (hs : Same a b Y Z) (hz : Sorted K lx a b Z) : Seg K lx X0 a b Z := by
  refine ⟨fun i h1 h2 => ?_, fun i h1 h2 => ?_, hz⟩
  · obtain ⟨j, j1, j2, e⟩ := hs.to i h1 h2
    by_cases hj : j < m
    · obtain ⟨q, q1, q2, e'⟩ := h.to j j1 hj
      exact ⟨q, q1, by omega, e.trans e'⟩
    · obtain ⟨q, q1, q2, e'⟩ := k.to j (by omega) j2
      exact ⟨q, by omega, q2, e.trans e'⟩
  · have : ∃ j, a ≤ j ∧ j < b ∧ X0 i = Y j := by
      by_cases hi : i < m
      · obtain ⟨q, q1, q2, e'⟩ := h.from_ i h1 hi
        exact ⟨q, q1, by omega, e'⟩
      · obtain ⟨q, q1, q2, e'⟩ := k.from_ i (by omega) h2
        exact ⟨q, by omega, q2, e'⟩
    obtain ⟨j, j1, j2, e⟩ := this
    obtain ⟨q, q1, q2, e'⟩ := hs.from_ j j1 j2
    exact ⟨q, q1, q2, e.trans e'⟩
theorem Seg.ofSame {a b : Nat} {Z : Nat → α} (hs : Same a b X0 Z) (hz : Sorted K lx a b Z) : Seg K lx X0 a b Z := ⟨hs.to, hs.from_, hz⟩

/-- from a on, pieces of bs -/
inductive Ch (K : α → Int) (lx : α → α → Prop) (X0 : Nat → α) (bs n : Nat) (Y : Nat → α) : Nat → Prop
  | done {a : Nat} (h : n ≤ a) : Ch K lx X0 bs n Y a
  | step {a : Nat} (hl : a < n) (h : Seg K lx X0 a (min (a + bs) n) Y) (k : Ch K lx X0 bs n Y (a + bs)) : Ch K lx X0 bs n Y a
theorem Ch.congr {bs n : Nat} {Y Y' : Nat → α} {a : Nat} (h : Ch K lx X0 bs n Y a) : (∀ i, a ≤ i → Y' i = Y i) → Ch K lx X0 bs n Y' a := by
  induction h with
  | done h => exact fun _ => .done h
  | step hl h k ih => exact fun e => .step hl (h.congr fun i h1 h2 => e i h1) (ih fun i hi => e i (by omega))
theorem Ch.two {bs n a : Nat} {Y : Nat → α} (h : Ch K lx X0 bs n Y a) (h2 : a + bs < n) : Seg K lx X0 a (a + bs) Y ∧ Seg K lx X0 (a + bs) (min (a + bs + bs) n) Y ∧ Ch K lx X0 bs n Y (a + bs + bs) := by
  cases h with
  | done h => omega
  | step hl h k =>
    rw [Nat.min_eq_left (by omega)] at h
    cases k with
    | done h => omega
    | step hl' h' k' => exact ⟨h, h', k'⟩
theorem Ch.one {bs n a : Nat} {Y : Nat → α} (h : Ch K lx X0 bs n Y a) (hl : a < n) (h2 : n ≤ a + bs) : Seg K lx X0 a n Y := by
  cases h with
  | done h => omega
  | step hl h k => rwa [Nat.min_eq_right h2] at h
/-- what is below a is done -/
def Pre (K : α → Int) (lx : α → α → Prop) (X0 : Nat → α) (bs n a : Nat) (Y : Nat → α) : Prop := ∀ Y', (∀ i, i < a → Y' i = Y i) → Ch K lx X0 bs n Y' a → Ch K lx X0 bs n Y' 0
theorem Pre.zero (bs n : Nat) (Y : Nat → α) : Pre K lx X0 bs n 0 Y := fun _ _ h => h
theorem Pre.step {bs n a : Nat} {Y Z : Nat → α} (h : Pre K lx X0 bs n a Y) (hb : a + bs ≤ n) (h0 : 0 < bs) (e : ∀ i, i < a → Z i = Y i) (hs : Seg K lx X0 a (a + bs) Z) : Pre K lx X0 bs n (a + bs) Z := by
  intro Y' e' hc
  refine h Y' (fun i hi => (e' i (by omega)).trans (e i hi)) (.step (by omega) ?_ hc)
  rw [Nat.min_eq_left hb]
  exact hs.congr fun i h1 h2 => e' i h2
theorem Pre.last {bs n a : Nat} {Y Z : Nat → α} (h : Pre K lx X0 bs n a Y) (hl : a < n → n ≤ a + bs ∧ Seg K lx X0 a n Z) (e : ∀ i, i < a → Z i = Y i) : Ch K lx X0 bs n Z 0 := by
  refine h Z e ?_
  by_cases ha : a < n
  · obtain ⟨h1, h2⟩ := hl ha
    exact .step ha (by rw [Nat.min_eq_right h1]; exact h2) (.done (by omega))
  · exact .done (by omega)

/-- sorted rows with the same values are the same -/
theorem sorted_uniq (O : Ord2 lx) {n : Nat} {Y Z : Nat → α} (hy : Sorted K lx 0 n Y) (hz : Sorted K lx 0 n Z) (h1 : ∀ i, i < n → ∃ j, j < n ∧ Y i = Z j) (h2 : ∀ i, i < n → ∃ j, j < n ∧ Z i = Y j) : ∀ i, i < n → Y i = Z i := by
  intro i
  induction i using Nat.strongRecOn with
  | _ i ih =>
    intro hi
    obtain ⟨j, j1, e1⟩ := h1 i hi
    obtain ⟨q, q1, e2⟩ := h2 i hi
    have hj : i ≤ j := by
      rcases Nat.lt_or_ge j i with h | h
      · exfalso
        have e3 := ih j h j1
        have := hy j i (Nat.zero_le _) h hi
        rw [e3, e1] at this
        exact lt_irr O _ this
      · exact h
    have hq : i ≤ q := by
      rcases Nat.lt_or_ge q i with h | h
      · exfalso
        have e3 := ih q h q1
        have := hz q i (Nat.zero_le _) h hi
        rw [← e3, e2] at this
        exact lt_irr O _ this
      · exact h
    rcases Nat.lt_or_ge i j with hij | hij
    · rcases Nat.lt_or_ge i q with hiq | hiq
      · exfalso
        have a1 := hz i j (Nat.zero_le _) hij j1
        have a2 := hy i q (Nat.zero_le _) hiq q1
        rw [← e1] at a1
        rw [← e2] at a2
        exact lt_irr O _ (lt_trans O a1 a2)
      · obtain rfl : q = i := by omega
        exact e2.symm
    · obtain rfl : j = i := by omega
      exact e1
end
end So
end Go.Proofs.Ytbffcpnpdpgfeaa
