/- Folding: which gates are written. -/
import Derived.Test.YtchaanppoklapaaRoL
namespace Go.Proofs.Ytchaanppoklapaa
open Go.RowKit
set_option linter.unusedVariables false
set_option linter.unusedSimpArgs false

/-- a rotation's gates -/
def rotK (c : Nat) : List Int := if c = 1 then [7] else if c = 2 then [5] else if c = 3 then [5, 7] else if c = 4 then [4] else if c = 5 then [4, 7] else if c = 6 then [6] else if c = 7 then [8] else []
def rotL (a : Int) (c : Nat) : List Int := (rotK c).flatMap fun k => [k, a, 0]
theorem rotK_len (c : Nat) : (rotK c).length ≤ 2 := by
  unfold rotK
  repeat' split
  all_goals simp
theorem rotL_len (a : Int) (c : Nat) : (rotL a c).length = (rotK c).length * 3 := by
  unfold rotL
  induction rotK c with
  | nil => rfl
  | cons x l ih => rw [List.flatMap_cons, List.length_append, ih, List.length_cons]; simp; omega

/-- what holds of the groups' gates -/
structure FsJ (xs : List Int) (j : Nat) (σ : Fs) : Prop where
  tl : ∀ i, i < σ.G.length → (gAt σ.G i).t ∈ (gAt σ.G i).L
  dj : ∀ i i' x, i < σ.G.length → i' < σ.G.length → x ∈ (gAt σ.G i).L → x ∈ (gAt σ.G i').L → i = i'
  cv : ∀ x, x < j → 0 < cfK (at3 xs (x * 3)) → ∃ i, i < σ.G.length ∧ x ∈ (gAt σ.G i).L
  nc : ∀ i x, i < σ.G.length → x ∈ (gAt σ.G i).L → 0 < cfK (at3 xs (x * 3))
theorem FsJ.same {xs : List Int} {j : Nat} {σ σ' : Fs} (h : FsJ xs j σ) (hG : σ'.G = σ.G) (hc : cfK (at3 xs (j * 3)) = 0) : FsJ xs (j + 1) σ' := by
  refine ⟨?_, ?_, ?_, ?_⟩
  · rw [hG]; exact h.tl
  · rw [hG]; exact h.dj
  · rw [hG]
    intro x hx h0
    by_cases e : x = j
    · subst e; omega
    · exact h.cv x (by omega) h0
  · rw [hG]; exact h.nc
theorem FsJ.rot {q : Nat} {xs : List Int} {j : Nat} {σ : Fs} (h : FsJ xs j σ) (hI : FsI q j σ) {a cf : Nat} (hc : 0 < cfK (at3 xs (j * 3))) : FsJ xs (j + 1) (rotG σ j a cf) := by
  obtain ⟨l1, l2, l3⟩ := adG_len σ.G j (vAt σ.V a).1 (vAt σ.V a).2
  have hat := fun i hi => adG_at (G := σ.G) (at' := j) (v := (vAt σ.V a).1) (p := (vAt σ.V a).2) (i := i) hi
  have hsub : ∀ k, k < σ.G.length → gAt (adG σ.G j (vAt σ.V a).1 (vAt σ.V a).2) k = gAt σ.G k := by
    intro k hk
    unfold adG
    split
    · rfl
    · exact gAt_left hk
  have hgt := hI.gt
  rw [rotG_eq]
  generalize hG : adG σ.G j (vAt σ.V a).1 (vAt σ.V a).2 = G at *
  generalize hi : fdG σ.G (vAt σ.V a).1 = i at *
  generalize ((vAt σ.V a).2 != (gAt G i).p) = d
  have hset : ∀ (y : Gp) k, gAt (G.set i y) k = if k = i then y else gAt G k := fun y k => gAt_set l1 k
  have hmem : ∀ k x, k < G.length → (x ∈ (gAt (G.set i (moG (gAt G i) d j cf)) k).L ↔ ((k < σ.G.length ∧ x ∈ (gAt σ.G k).L) ∨ (k = i ∧ x = j))) := by
    intro k x hk
    have h1 : x ∈ (gAt G k).L ↔ (k < σ.G.length ∧ x ∈ (gAt σ.G k).L) := by
      rcases hat k hk with ⟨g1, g2⟩ | ⟨g1, g2, g3⟩
      · rw [g2]; exact ⟨fun h => ⟨g1, h⟩, fun h => h.2⟩
      · rw [g3]
        constructor
        · intro h; cases h
        · intro h; omega
    rw [hset]
    by_cases e : k = i
    · subst e
      rw [if_pos rfl]
      show x ∈ (gAt G k).L ++ [j] ↔ _
      rw [List.mem_append, h1]
      simp
    · rw [if_neg e, h1]
      constructor
      · intro h; exact .inl h
      · rintro (h | h)
        · exact h
        · exact absurd h.1 e
  refine ⟨?_, ?_, ?_, ?_⟩
  · intro k hk
    simp only [List.length_set] at hk
    rw [hmem k _ hk]
    simp only [hset]
    rcases hat k hk with ⟨g1, g2⟩ | ⟨g1, g2, g3⟩
    · left
      refine ⟨g1, ?_⟩
      by_cases e : k = i
      · subst e; rw [if_pos rfl]; show (gAt G k).t ∈ _; rw [g2]; exact h.tl k g1
      · rw [if_neg e, g2]; exact h.tl k g1
    · right
      have e : k = i := by omega
      refine ⟨e, ?_⟩
      subst e
      rw [if_pos rfl]
      show (gAt G k).t = j
      rw [g3]
  · intro k k' x hk hk' hx hx'
    simp only [List.length_set] at hk hk'
    rcases (hmem k x hk).1 hx with ⟨g1, g2⟩ | ⟨g1, g2⟩
    · rcases (hmem k' x hk').1 hx' with ⟨f1, f2⟩ | ⟨f1, f2⟩
      · exact h.dj k k' x g1 f1 g2 f2
      · have := (hgt k g1).2.2.2 x g2; omega
    · rcases (hmem k' x hk').1 hx' with ⟨f1, f2⟩ | ⟨f1, f2⟩
      · have := (hgt k' f1).2.2.2 x f2; omega
      · omega
  · intro x hx h0
    by_cases e : x = j
    · exact ⟨i, by simp only [List.length_set]; exact l1, (hmem i x l1).2 (.inr ⟨rfl, e⟩)⟩
    · obtain ⟨k, hk, hm⟩ := h.cv x (by omega) h0
      exact ⟨k, by simp only [List.length_set]; omega, (hmem k x (by omega)).2 (.inl ⟨hk, hm⟩)⟩
  · intro k x hk hx
    simp only [List.length_set] at hk
    rcases (hmem k x hk).1 hx with ⟨g1, g2⟩ | ⟨g1, g2⟩
    · exact h.nc k x g1 g2
    · rw [g2]; exact hc
theorem FsJ.step {q : Nat} {xs : List Int} {j : Nat} {σ : Fs} (h : FsJ xs j σ) (hI : FsI q j σ) (a b : Int) : FsJ xs (j + 1) (stepF σ j (at3 xs (j * 3)) a b) := by
  unfold stepF
  by_cases h1 : at3 xs (j * 3) = 1
  · rw [if_pos h1]; exact h.same rfl (by rw [h1]; rfl)
  rw [if_neg h1]
  by_cases h2 : at3 xs (j * 3) = 2 ∨ at3 xs (j * 3) = 3
  · rw [if_pos h2]; exact h.same rfl (by rcases h2 with e | e <;> (rw [e]; rfl))
  rw [if_neg h2]
  by_cases h9 : at3 xs (j * 3) = 9
  · rw [if_pos h9]; exact h.same rfl (by rw [h9]; rfl)
  rw [if_neg h9]
  by_cases h11 : at3 xs (j * 3) = 11
  · rw [if_pos h11]; exact h.same rfl (by rw [h11]; rfl)
  rw [if_neg h11]
  by_cases h0 : 0 < cfK (at3 xs (j * 3))
  · rw [if_pos h0]; exact h.rot hI h0
  · rw [if_neg h0]; exact h.same rfl (by omega)
theorem fsJ_inv {q : Nat} {xs : List Int} {n : Nat} (hc : cOk q xs n = true) : ∀ j, j ≤ n → fsK q xs j = true → FsJ xs j (fsS q xs j) := by
  intro j
  induction j with
  | zero => intro _ _; exact ⟨fun i hi => absurd hi (by simp [fsS, iniF]), fun i i' x hi => absurd hi (by simp [fsS, iniF]), fun x hx => absurd hx (by omega), fun i x hi => absurd hi (by simp [fsS, iniF])⟩
  | succ j ih =>
    intro hj hk
    have hk' := fsK_le hk (show j ≤ j + 1 by omega)
    exact (ih (by omega) hk').step (fs_inv hc j (by omega) hk') _ _

/-- the first group with a gate -/
def fdL (G : List Gp) (j : Nat) : Nat := G.findIdx (fun g => g.L.contains j)
theorem fdL_le (G : List Gp) (v : Nat) : fdL G v ≤ G.length := List.findIdx_le_length
theorem fdL_at {G : List Gp} {j : Nat} (h : fdL G j < G.length) : j ∈ (gAt G (fdL G j)).L := by
  have h2 : (G[fdL G j].L.contains j) = true := List.findIdx_getElem (w := h)
  have h3 : gAt G (fdL G j) = G[fdL G j] := by simp [gAt, List.getD_eq_getElem?_getD, h]
  rw [h3]
  simpa using h2
theorem fdL_no {G : List Gp} {j k : Nat} (hj : k < fdL G j) : j ∉ (gAt G k).L := by
  have hl : k < G.length := Nat.lt_of_lt_of_le hj (fdL_le G j)
  have h2 := List.not_of_lt_findIdx hj
  have h3 : gAt G k = G[k] := by simp [gAt, List.getD_eq_getElem?_getD, hl]
  rw [h3]
  simpa using h2
/-- what is written for gate j: the program's way -/
def fpP (G : List Gp) (k a b : Int) (j : Nat) : List Int := if fdL G j < G.length then (if (gAt G (fdL G j)).t = j then rotL a (gAt G (fdL G j)).c else []) else [k, a, b]
/-- what the groups give for gate j -/
def fpG (G : List Gp) (a : Int) (j : Nat) : List Int := G.flatMap fun g => if g.t = j then rotL a g.c else []
theorem fpG_none {G : List Gp} {a : Int} {j : Nat} (h : ∀ i, i < G.length → (gAt G i).t ≠ j) : fpG G a j = [] := by
  unfold fpG
  rw [List.flatMap_eq_nil_iff]
  intro g hg
  obtain ⟨i, hi, rfl⟩ := List.getElem_of_mem hg
  have h3 : gAt G i = G[i] := by simp [gAt, List.getD_eq_getElem?_getD, hi]
  rw [if_neg (by rw [← h3]; exact h i hi)]
theorem fpG_one : ∀ {G : List Gp} {a : Int} {j i : Nat} (hi : i < G.length) (h1 : (gAt G i).t = j) (h : ∀ k, k < G.length → k ≠ i → (gAt G k).t ≠ j), fpG G a j = rotL a (gAt G i).c
  | g :: G, a, j, 0, hi, h1, h => by
    have e : fpG (g :: G) a j = (if g.t = j then rotL a g.c else []) ++ fpG G a j := by unfold fpG; rw [List.flatMap_cons]
    rw [e, fpG_none (fun i hi' => h (i + 1) (by simpa using hi') (by omega))]
    have h1' : g.t = j := h1
    rw [if_pos h1']
    simp
    rfl
  | g :: G, a, j, i + 1, hi, h1, h => by
    have e : fpG (g :: G) a j = (if g.t = j then rotL a g.c else []) ++ fpG G a j := by unfold fpG; rw [List.flatMap_cons]
    have h0 : g.t ≠ j := h 0 (by simp) (by omega)
    rw [e, if_neg h0, fpG_one (G := G) (i := i) (by simpa using hi) h1 (fun k hk hne => h (k + 1) (by simpa using hk) (by omega))]
    rfl
/-- both ways write the same -/
theorem fp_same {xs : List Int} {n : Nat} {σ : Fs} (h : FsJ xs n σ) {j : Nat} (hj : j < n) (a b : Int) : (if 0 < cfK (at3 xs (j * 3)) then [] else [at3 xs (j * 3), a, b]) ++ fpG σ.G a j = fpP σ.G (at3 xs (j * 3)) a b j := by
  unfold fpP
  by_cases h0 : 0 < cfK (at3 xs (j * 3))
  · rw [if_pos h0, List.nil_append]
    obtain ⟨i, hi, hm⟩ := h.cv j hj h0
    have hf : fdL σ.G j < σ.G.length := by
      rcases Nat.lt_or_ge (fdL σ.G j) σ.G.length with h1 | h1
      · exact h1
      · exact absurd hm (fdL_no (by omega))
    rw [if_pos hf]
    have hm2 := fdL_at hf
    split
    · rename_i ht
      exact fpG_one hf ht (fun k hk hne e => hne (h.dj k _ j hk hf (by rw [← e]; exact h.tl k hk) hm2))
    · rename_i ht
      refine fpG_none (fun k hk e => ht ?_)
      have := h.dj k _ j hk hf (by rw [← e]; exact h.tl k hk) hm2
      rw [← this]; exact e
  · rw [if_neg h0]
    have hno : ∀ i, i < σ.G.length → j ∉ (gAt σ.G i).L := fun i hi hm => h0 (h.nc i j hi hm)
    have hf : ¬ fdL σ.G j < σ.G.length := fun h1 => hno _ h1 (fdL_at h1)
    rw [if_neg hf, fpG_none (fun i hi e => hno i hi (by rw [← e]; exact h.tl i hi)), List.append_nil]
/-- all that is written for the first j gates -/
def fpL (G : List Gp) (xs : List Int) : Nat → List Int
  | 0 => []
  | j + 1 => fpL G xs j ++ fpP G (at3 xs (j * 3)) (at3 xs (j * 3 + 1)) (at3 xs (j * 3 + 2)) j
/-- phases -/
def phL : Nat → List Int
  | 0 => []
  | s + 1 => phL s ++ [12, 0, 0]
theorem phL_len : ∀ s, (phL s).length = s * 3
  | 0 => rfl
  | s + 1 => by
    show (phL s ++ [12, 0, 0]).length = _
    rw [List.length_append, phL_len s]
    simp
    omega
theorem fpP_len (G : List Gp) (k a b : Int) (j : Nat) : ∃ m, m ≤ 2 ∧ (fpP G k a b j).length = m * 3 := by
  unfold fpP
  split
  · split
    · exact ⟨_, rotK_len _, rotL_len _ _⟩
    · exact ⟨0, by omega, rfl⟩
  · exact ⟨1, by omega, rfl⟩
theorem fpL_len (G : List Gp) (xs : List Int) : ∀ j, ∃ m, m ≤ j * 2 ∧ (fpL G xs j).length = m * 3
  | 0 => ⟨0, by omega, rfl⟩
  | j + 1 => by
    obtain ⟨m, h1, h2⟩ := fpL_len G xs j
    obtain ⟨m', h3, h4⟩ := fpP_len G (at3 xs (j * 3)) (at3 xs (j * 3 + 1)) (at3 xs (j * 3 + 2)) j
    refine ⟨m + m', by omega, ?_⟩
    show (fpL G xs j ++ _).length = _
    rw [List.length_append, h2, h4]
    omega

end Go.Proofs.Ytchaanppoklapaa
