/- Used qubits: the plain law: sorted and compacted is what the reference puts together. -/
import Derived.Test.YtjeahopiejcopaaUse
import Derived.Lib.SlicesCompact
namespace Go.Proofs.Ytjeahopiejcopaa
open Go.RowKit Go.Lib
set_option linter.unusedVariables false
set_option linter.unusedSimpArgs false

theorem pw_unique {α : Type} {r : α → α → Prop} (irr : ∀ x, ¬ r x x) (tr : ∀ x y z, r x y → r y z → r x z) :
    ∀ {l m : List α}, l.Pairwise r → m.Pairwise r → (∀ x, x ∈ l ↔ x ∈ m) → l = m
  | [], [], _, _, _ => rfl
  | [], y :: m, _, _, h => absurd ((h y).2 (List.mem_cons_self ..)) (List.not_mem_nil)
  | x :: l, [], _, _, h => absurd ((h x).1 (List.mem_cons_self ..)) (List.not_mem_nil)
  | x :: l, y :: m, hl, hm, h => by
    rw [List.pairwise_cons] at hl hm
    have hxy : x = y := by
      rcases List.mem_cons.1 ((h x).1 (List.mem_cons_self ..)) with h1 | h1
      · exact h1
      · rcases List.mem_cons.1 ((h y).2 (List.mem_cons_self ..)) with h2 | h2
        · exact h2.symm
        · exact absurd (tr _ _ _ (hm.1 x h1) (hl.1 y h2)) (irr y)
    subst hxy
    congr 1
    refine pw_unique irr tr hl.2 hm.2 fun z => ?_
    have hz := h z
    simp only [List.mem_cons] at hz
    constructor
    · intro h1
      rcases hz.1 (.inr h1) with h2 | h2
      · subst h2; exact absurd (hl.1 z h1) (irr z)
      · exact h2
    · intro h1
      rcases hz.2 (.inr h1) with h2 | h2
      · subst h2; exact absurd (hm.1 z h1) (irr z)
      · exact h2
theorem upTo_mem (d : Array Int) (x : Int) : ∀ m, x ∈ compactUpTo d m ↔ ∃ j, j < m ∧ d[j]! = x
  | 0 => by simp [compactUpTo]
  | m + 1 => by
    rw [compactUpTo_succ, List.mem_append, upTo_mem d x m]
    cases hk : keeps d m
    · have hk2 : ¬ (m = 0 ∨ d[m]! ≠ d[m - 1]!) := by
        intro h
        unfold keeps at hk
        rw [decide_eq_false_iff_not] at hk
        exact hk h
      have h0 : 0 < m := Nat.pos_of_ne_zero fun e => hk2 (.inl e)
      have h1 : d[m]! = d[m - 1]! := Classical.byContradiction fun e => hk2 (.inr e)
      constructor
      · rintro (⟨j, hj, e⟩ | h)
        · exact ⟨j, by omega, e⟩
        · simp at h
      · rintro ⟨j, hj, e⟩
        by_cases hjm : j = m
        · subst hjm
          exact .inl ⟨j - 1, by omega, by rw [← h1]; exact e⟩
        · exact .inl ⟨j, by omega, e⟩
    · constructor
      · rintro (⟨j, hj, e⟩ | h)
        · exact ⟨j, by omega, e⟩
        · simp at h
          exact ⟨m, by omega, h.symm⟩
      · rintro ⟨j, hj, e⟩
        by_cases hjm : j = m
        · subst hjm
          right
          simp [e]
        · exact .inl ⟨j, by omega, e⟩
theorem upTo_up (d : Array Int) (n : Nat) (hs : ∀ i j, i < j → j < n → d[i]! ≤ d[j]!) : ∀ m, m ≤ n → (compactUpTo d m).Pairwise (· < ·)
  | 0, _ => by simp [compactUpTo]
  | m + 1, hm => by
    rw [compactUpTo_succ, List.pairwise_append]
    refine ⟨upTo_up d n hs m (by omega), ?_, ?_⟩
    · split
      · simp
      · simp
    · intro a ha b hb
      cases hk : keeps d m
      · rw [hk] at hb
        simp at hb
      · rw [hk] at hb
        simp at hb
        subst hb
        obtain ⟨j, hj, e⟩ := (upTo_mem d a m).1 ha
        subst e
        unfold keeps at hk
        rw [decide_eq_true_eq] at hk
        rcases hk with h | h
        · omega
        · have h1 := hs (m - 1) m (by omega) (by omega)
          by_cases hjm : j = m - 1
          · subst hjm
            omega
          · have h2 := hs j (m - 1) (by omega) (by omega)
            omega
theorem putI_mem (y : Int) : ∀ (L : List Int) (x : Int), y ∈ putI L x ↔ y = x ∨ y ∈ L
  | [], x => by simp [putI]
  | z :: l, x => by
    have ih := putI_mem y l x
    unfold putI
    split
    · rw [List.mem_cons, List.mem_cons, ih]
      constructor
      · rintro (h | h | h)
        · exact .inr (.inl h)
        · exact .inl h
        · exact .inr (.inr h)
      · rintro (h | h | h)
        · exact .inr (.inl h)
        · exact .inl h
        · exact .inr (.inr h)
    · split
      · rename_i h1 h2
        subst h2
        simp
      · simp
theorem putI_up : ∀ (L : List Int) (x : Int), L.Pairwise (· < ·) → (putI L x).Pairwise (· < ·)
  | [], x, _ => by simp [putI]
  | z :: l, x, h => by
    have h2 := List.pairwise_cons.1 h
    unfold putI
    split
    · rename_i hz
      refine List.pairwise_cons.2 ⟨fun a ha => ?_, putI_up l x h2.2⟩
      rcases (putI_mem a l x).1 ha with rfl | ha
      · exact hz
      · exact h2.1 a ha
    · split
      · exact h
      · refine List.pairwise_cons.2 ⟨fun a ha => ?_, h⟩
        rcases List.mem_cons.1 ha with rfl | ha
        · omega
        · have := h2.1 a ha
          omega
theorem useJ_up (xs : List Int) : ∀ j, (useJ xs j).Pairwise (· < ·)
  | 0 => List.Pairwise.nil
  | j + 1 => by
    have ih := useJ_up xs j
    show (useS (useJ xs j) _ _ _).Pairwise (· < ·)
    unfold useS
    split
    · exact ih
    · split
      · exact putI_up _ _ (putI_up _ _ ih)
      · exact putI_up _ _ ih
theorem useJ_mem (xs : List Int) (y : Int) : ∀ j, y ∈ useJ xs j ↔ y ∈ cqJ xs j
  | 0 => Iff.rfl
  | j + 1 => by
    have ih := useJ_mem xs y j
    show y ∈ useS (useJ xs j) _ _ _ ↔ y ∈ cqJ xs j ++ qL _ _ _
    unfold useS qL
    rw [List.mem_append, ← ih]
    split
    · simp
    · split
      · rw [putI_mem, putI_mem]
        simp only [List.mem_cons, List.not_mem_nil, or_false]
        constructor
        · rintro (h | h | h)
          · exact .inr (.inr h)
          · exact .inr (.inl h)
          · exact .inl h
        · rintro (h | h | h)
          · exact .inr (.inr h)
          · exact .inr (.inl h)
          · exact .inl h
      · rw [putI_mem]
        simp only [List.mem_cons, List.not_mem_nil, or_false]
        exact Or.comm
/-- what the program gives: sorted, compacted -/
def unF (ys : List Int) : List Int := Lib.compact (ys.mergeSort fun x y => decide (x ≤ y))
theorem unF_use (xs : List Int) (m : Nat) : unF (cqJ xs m) = useJ xs m := by
  have hp := List.mergeSort_perm (cqJ xs m) (fun x y : Int => decide (x ≤ y))
  have hs := List.pairwise_mergeSort (le := fun x y : Int => decide (x ≤ y)) (by intro a b c h1 h2; simp only [decide_eq_true_eq] at *; omega) (by intro a b; simp only [Bool.or_eq_true, decide_eq_true_eq]; omega) (cqJ xs m)
  unfold unF
  generalize (cqJ xs m).mergeSort (fun x y : Int => decide (x ≤ y)) = zs at *
  have hg : ∀ i (hi : i < zs.length), zs.toArray[i]! = zs[i] := fun i hi => by
    rw [getElem!_pos zs.toArray i (by simpa using hi)]
    rfl
  refine pw_unique (r := (· < ·)) (fun x => Int.lt_irrefl x) (fun x y z => Int.lt_trans) ?_ (useJ_up xs m) fun y => ?_
  · refine upTo_up zs.toArray zs.length (fun i j hij hj => ?_) zs.length (Nat.le_refl _)
    rw [hg i (by omega), hg j hj]
    have := List.pairwise_iff_getElem.1 hs i j (by omega) hj hij
    simpa using this
  · rw [useJ_mem, ← hp.mem_iff]
    unfold compact
    rw [upTo_mem]
    constructor
    · rintro ⟨j, hj, e⟩
      rw [hg j hj] at e
      rw [← e]
      exact List.getElem_mem hj
    · intro h
      obtain ⟨j, hj, e⟩ := List.mem_iff_getElem.1 h
      exact ⟨j, hj, by rw [hg j hj]; exact e⟩

end Go.Proofs.Ytjeahopiejcopaa
