/- Folding: the folded circuit's operator, its T gates (plain). -/
import Derived.Test.YtbddgeoaaklgpaaQuN
import Derived.Test.YtbddgeoaaklgpaaFpV
import Derived.Test.YtbddgeoaaklgpaaRoR
namespace Go.Proofs.Ytbddgeoaaklgpaa
open Go.RowKit
set_option linter.unusedVariables false
set_option linter.unusedSimpArgs false

theorem tri_app : ∀ (zs w : List Int), zs.length % 3 = 0 → tri (zs ++ w) = tri zs ++ tri w
  | [], w, _ => rfl
  | [_], w, h => by simp at h
  | [_, _], w, h => by simp at h
  | k :: a :: b :: l, w, h => by
    have h' : l.length % 3 = 0 := by simp only [List.length_cons] at h; omega
    show (k.toNat, a.toNat, b.toNat) :: tri (l ++ w) = (k.toNat, a.toNat, b.toNat) :: (tri l ++ tri w)
    rw [tri_app l w h']
theorem at3_app {zs w : List Int} {j : Nat} (h : j < zs.length) : at3 (zs ++ w) j = at3 zs j := by
  unfold at3
  rw [List.getD_eq_getElem?_getD, List.getD_eq_getElem?_getD, List.getElem?_append_left h]
theorem clG_pre {zs w : List Int} : ∀ {m : Nat}, m * 3 ≤ zs.length → clG (zs ++ w) m = clG zs m
  | 0, _ => rfl
  | m + 1, h => by
    show clG (zs ++ w) m ++ [gN (zs ++ w) m] = clG zs m ++ [gN zs m]
    rw [clG_pre (m := m) (by omega)]
    unfold gN
    rw [at3_app (by omega), at3_app (by omega), at3_app (by omega)]
theorem clG_tri : ∀ {m : Nat} {ys : List Int}, ys.length = m * 3 → clG ys m = tri ys
  | 0, ys, h => by
    have : ys = [] := List.eq_nil_of_length_eq_zero (by omega)
    subst this
    rfl
  | m + 1, ys, h => by
    obtain ⟨zs, k, a, b, rfl, hz⟩ : ∃ zs k a b, ys = zs ++ [k, a, b] ∧ zs.length = m * 3 := by
      refine ⟨ys.take (m * 3), ys[m * 3]'(by omega), ys[m * 3 + 1]'(by omega), ys[m * 3 + 2]'(by omega), ?_, by simp; omega⟩
      have h1 : ys.drop (m * 3) = [ys[m * 3]'(by omega), ys[m * 3 + 1]'(by omega), ys[m * 3 + 2]'(by omega)] := by
        rw [List.drop_eq_getElem_cons (by omega), List.drop_eq_getElem_cons (by omega), List.drop_eq_getElem_cons (by omega), List.drop_eq_nil_of_le (by omega)]
      rw [← h1, List.take_append_drop]
    rw [tri_app zs _ (by omega), ← clG_tri (m := m) hz]
    show clG (zs ++ [k, a, b]) m ++ [gN (zs ++ [k, a, b]) m] = _
    rw [clG_pre (by omega)]
    have e : ∀ i, at3 (zs ++ [k, a, b]) (m * 3 + i) = at3 [k, a, b] i := fun i => by
      unfold at3
      rw [List.getD_eq_getElem?_getD, List.getD_eq_getElem?_getD, List.getElem?_append_right (by omega), hz, Nat.add_sub_cancel_left]
    have e0 := e 0
    rw [Nat.add_zero] at e0
    unfold gN
    rw [e0, e 1, e 2]
    rfl
theorem tri_fpL (G : List Gp) (xs : List Int) : ∀ j, tri (fpL G xs j) = xlG G xs j
  | 0 => rfl
  | j + 1 => by
    obtain ⟨m, _, h⟩ := fpL_len G xs j
    show tri (fpL G xs j ++ _) = xlG G xs j ++ _
    rw [tri_app _ _ (by omega), tri_fpL G xs j]
theorem tri_phL : ∀ s, tri (phL s) = List.replicate s (12, 0, 0)
  | 0 => rfl
  | s + 1 => by
    show tri (phL s ++ [12, 0, 0]) = _
    rw [tri_app _ _ (by rw [phL_len]; omega), tri_phL s, List.replicate_succ']
    rfl
theorem tri_fpT (q : Nat) (xs : List Int) (n : Nat) : clG (fpT q xs n) (fpM q xs n) = xlG (fsS q xs n).G xs n ++ List.replicate (fsS q xs n).s (12, 0, 0) := by
  rw [clG_tri (fpT_len q xs n)]
  unfold fpT
  obtain ⟨m, _, h⟩ := fpL_len (fsS (q : Int).toNat xs n).G xs n
  rw [tri_app _ _ (by omega), tri_fpL, tri_phL]
  rfl
theorem nH_rep (s : Nat) : nH (List.replicate s (12, 0, 0)) = 0 := by
  induction s with
  | zero => rfl
  | succ s ih => rw [List.replicate_succ]; simpa [nH] using ih
theorem nH_le (xs : List Int) : ∀ n, nH (clG xs n) ≤ n
  | 0 => Nat.le_refl _
  | n + 1 => by
    have e : clG xs (n + 1) = clG xs n ++ [gN xs n] := rfl
    rw [e, nH_app]
    have := nH_le xs n
    have : nH [gN xs n] ≤ 1 := by
      show (if (gN xs n).1 = 1 then 1 else 0) + 0 ≤ 1
      split <;> omega
    omega
/-- the folded circuit's operator is the circuit's -/
theorem fold_op {q : Nat} {xs : List Int} {n : Nat} (hq : q ≤ 3) (hf : fOk q xs n = true) (hn : n ≤ 20) : opB q xs n = true ∧ opB q (fL q xs n) (fN q xs n) = true ∧ opL q xs n = opL q (fL q xs n) (fN q xs n) := by
  have hm : mgK q xs n = true := by
    unfold fOk at hf
    simp only [Bool.and_eq_true] at hf
    exact hf.1
  obtain ⟨Q, hQ, q1, q5, _, _, _, hc, hk, _⟩ := mgK_facts hm
  obtain rfl : q = Q := by omega
  have hy := fpT_ok hm
  rw [hf] at hy
  have e1 : fL q xs n = fpT q xs n := by unfold fL; rw [if_pos hf]
  have e2 : fN q xs n = fpM q xs n := by unfold fN; rw [if_pos hf]
  rw [e1, e2]
  have hh := nH_le xs n
  refine op_same hq hc hy (by omega) ?_ fun i j hi hj => ?_
  · rw [tri_fpT, nH_app, nH_rep, nH_xlG hc hk]
    rfl
  · rw [tri_fpT]
    exact fold_amp (bitsQ q1 hq) hc hk i j hj

/-! ### T gates -/
def isTk (k : Nat) : Nat := if k = 7 ∨ k = 8 then 1 else 0
def cT : List G3 → Nat
  | [] => 0
  | g :: l => isTk g.1 + cT l
theorem cT_app : ∀ l m : List G3, cT (l ++ m) = cT l + cT m
  | [], m => by simp [cT]
  | g :: l, m => by simp only [List.cons_append, cT, cT_app l m]; omega
/-- how many groups have an odd coefficient -/
def oddG : List Gp → Nat
  | [] => 0
  | g :: G => g.c % 2 + oddG G
def oddB (P : Gp → Bool) : List Gp → Nat
  | [] => 0
  | g :: G => (if P g then g.c % 2 else 0) + oddB P G
theorem cT_rot (a : Int) {c : Nat} (hc : c < 8) : cT (tri (rotL a c)) = c % 2 := by
  have h3 : c = 0 ∨ c = 1 ∨ c = 2 ∨ c = 3 ∨ c = 4 ∨ c = 5 ∨ c = 6 ∨ c = 7 := by omega
  rcases h3 with rfl | rfl | rfl | rfl | rfl | rfl | rfl | rfl <;> simp [rotL, rotK, tri, cT, isTk]
theorem cT_fpG (a : Int) (j : Nat) : ∀ (G : List Gp), (∀ g ∈ G, g.c < 8) → cT (tri (fpG G a j)) = oddB (fun g => g.t == j) G
  | [], _ => rfl
  | g :: G, h => by
    have e : fpG (g :: G) a j = (if g.t = j then rotL a g.c else []) ++ fpG G a j := by unfold fpG; rw [List.flatMap_cons]
    have hl : (if g.t = j then rotL a g.c else []).length % 3 = 0 := by
      split
      · rw [rotL_len]; omega
      · rfl
    rw [e, tri_app _ _ hl, cT_app, cT_fpG a j G fun g' hg' => h g' (List.mem_cons_of_mem _ hg')]
    show _ = (if (g.t == j) = true then g.c % 2 else 0) + _
    by_cases ht : g.t = j
    · rw [if_pos ht, if_pos (by simpa using ht), cT_rot a (h g List.mem_cons_self)]
    · rw [if_neg ht, if_neg (by simpa using ht)]
      rfl
theorem oddB_add (j : Nat) : ∀ G : List Gp, oddB (fun g => decide (g.t < j)) G + oddB (fun g => g.t == j) G = oddB (fun g => decide (g.t < j + 1)) G
  | [] => rfl
  | g :: G => by
    have ih := oddB_add j G
    show ((if decide (g.t < j) = true then _ else _) + oddB (fun g => decide (g.t < j)) G) + ((if (g.t == j) = true then _ else _) + oddB (fun g => g.t == j) G) = (if decide (g.t < j + 1) = true then _ else _) + oddB (fun g => decide (g.t < j + 1)) G
    by_cases h1 : g.t < j
    · rw [if_pos (by simpa using h1), if_neg (by simp; omega), if_pos (by simp; omega)]; omega
    · by_cases h2 : g.t = j
      · rw [if_neg (by simpa using h1), if_pos (by simpa using h2), if_pos (by simp; omega)]; omega
      · rw [if_neg (by simpa using h1), if_neg (by simpa using h2), if_neg (by simp; omega)]; omega
theorem oddB_none : ∀ G : List Gp, oddB (fun g => decide (g.t < 0)) G = 0
  | [] => rfl
  | g :: G => by
    show (if decide (g.t < 0) = true then _ else 0) + oddB _ G = 0
    rw [oddB_none G]
    simp
theorem oddB_all {n : Nat} : ∀ G : List Gp, (∀ g ∈ G, g.t < n) → oddB (fun g => decide (g.t < n)) G = oddG G
  | [], _ => rfl
  | g :: G, h => by
    show (if decide (g.t < n) = true then _ else 0) + oddB _ G = g.c % 2 + oddG G
    rw [oddB_all G fun g' hg' => h g' (List.mem_cons_of_mem _ hg'), if_pos (by simpa using h g List.mem_cons_self)]
theorem mem_gAt {G : List Gp} {g : Gp} (h : g ∈ G) : ∃ i, i < G.length ∧ gAt G i = g := by
  obtain ⟨i, hi, rfl⟩ := List.getElem_of_mem h
  exact ⟨i, hi, by simp [gAt, List.getD_eq_getElem?_getD, hi]⟩
theorem cT_xl {q : Nat} {xs : List Int} {n : Nat} (hc : cOk q xs n = true) (hk : fsK q xs n = true) : ∀ j, j ≤ n → cT (xlG (fsS q xs n).G xs j) = oddB (fun g => decide (g.t < j)) (fsS q xs n).G
  | 0, _ => (oddB_none _).symm
  | j + 1, hj => by
    have hI := fs_inv hc n (Nat.le_refl _) hk
    have hJ := fsJ_inv hc n (Nat.le_refl _) hk
    have e : xlG (fsS q xs n).G xs (j + 1) = xlG (fsS q xs n).G xs j ++ tri (fpP (fsS q xs n).G (at3 xs (j * 3)) (at3 xs (j * 3 + 1)) (at3 xs (j * 3 + 2)) j) := rfl
    rw [e, cT_app, cT_xl hc hk j (by omega), ← fp_same hJ (by omega : j < n), ← oddB_add]
    congr 1
    have hl : (if 0 < cfK (at3 xs (j * 3)) then [] else [at3 xs (j * 3), at3 xs (j * 3 + 1), at3 xs (j * 3 + 2)]).length % 3 = 0 := by split <;> simp
    rw [tri_app _ _ hl, cT_app, cT_fpG _ _ _ fun g hg => by obtain ⟨i, hi, rfl⟩ := mem_gAt hg; exact (hI.gt i hi).2.1]
    have h0 : cT (tri (if 0 < cfK (at3 xs (j * 3)) then [] else [at3 xs (j * 3), at3 xs (j * 3 + 1), at3 xs (j * 3 + 2)])) = 0 := by
      split
      · rfl
      · rename_i h0
        show isTk (at3 xs (j * 3)).toNat + 0 = 0
        unfold isTk
        rw [if_neg]
        rintro (h7 | h8)
        · have : at3 xs (j * 3) = 7 := by omega
          rw [this] at h0
          exact h0 (by decide)
        · have : at3 xs (j * 3) = 8 := by omega
          rw [this] at h0
          exact h0 (by decide)
    omega
theorem cT_rep (s : Nat) : cT (List.replicate s (12, 0, 0)) = 0 := by
  induction s with
  | zero => rfl
  | succ s ih => rw [List.replicate_succ]; simpa [cT, isTk] using ih
/-- the T gates of the folded circuit -/
theorem cT_fold {q : Nat} {xs : List Int} {n : Nat} (hf : fOk q xs n = true) : cT (clG (fL q xs n) (fN q xs n)) = oddG (fsS q xs n).G := by
  have hm : mgK q xs n = true := by
    unfold fOk at hf
    simp only [Bool.and_eq_true] at hf
    exact hf.1
  obtain ⟨Q, hQ, _, _, _, hI, hJ, hc, hk, _⟩ := mgK_facts hm
  obtain rfl : q = Q := by omega
  have e1 : fL q xs n = fpT q xs n := by unfold fL; rw [if_pos hf]
  have e2 : fN q xs n = fpM q xs n := by unfold fN; rw [if_pos hf]
  rw [e1, e2, tri_fpT, cT_app, cT_rep, cT_xl hc hk n (Nat.le_refl _), oddB_all _ fun g hg => by obtain ⟨i, hi, rfl⟩ := mem_gAt hg; exact (hI.gt i hi).1]
  rfl
theorem oddG_set : ∀ {G : List Gp} {i : Nat} (x : Gp), i < G.length → oddG (G.set i x) + (gAt G i).c % 2 = oddG G + x.c % 2
  | g :: G, 0, x, _ => by
    show (x.c % 2 + oddG G) + g.c % 2 = (g.c % 2 + oddG G) + x.c % 2
    omega
  | g :: G, i + 1, x, h => by
    have := oddG_set (G := G) (i := i) x (by simpa using h)
    show (g.c % 2 + oddG (G.set i x)) + (gAt G i).c % 2 = (g.c % 2 + oddG G) + x.c % 2
    omega
theorem oddG_app : ∀ G H : List Gp, oddG (G ++ H) = oddG G + oddG H
  | [], H => by simp [oddG]
  | g :: G, H => by simp only [List.cons_append, oddG, oddG_app G H]; omega
theorem odd_le {q : Nat} {xs : List Int} : ∀ j, oddG (fsS q xs j).G ≤ cT (clG xs j)
  | 0 => Nat.le_refl _
  | j + 1 => by
    have ih := odd_le (q := q) (xs := xs) j
    have e : clG xs (j + 1) = clG xs j ++ [gN xs j] := rfl
    rw [e, cT_app]
    have hst : (fsS q xs (j + 1)).G = (stepF (fsS q xs j) j (at3 xs (j * 3)) (at3 xs (j * 3 + 1)) (at3 xs (j * 3 + 2))).G := rfl
    rw [hst]
    unfold stepF
    split
    · show oddG (fsS q xs j).G ≤ _; omega
    split
    · show oddG (fsS q xs j).G ≤ _; omega
    split
    · show oddG (fsS q xs j).G ≤ _; omega
    split
    · show oddG (fsS q xs j).G ≤ _; omega
    split
    · rename_i h0
      generalize hσ : fsS q xs j = σ at *
      rw [rotG_eq]
      obtain ⟨l1, l2, l3⟩ := adG_len σ.G j (vAt σ.V (at3 xs (j * 3 + 1)).toNat).1 (vAt σ.V (at3 xs (j * 3 + 1)).toNat).2
      have ha : oddG (adG σ.G j (vAt σ.V (at3 xs (j * 3 + 1)).toNat).1 (vAt σ.V (at3 xs (j * 3 + 1)).toNat).2) = oddG σ.G := by
        unfold adG
        split
        · rfl
        · rw [oddG_app]; rfl
      show oddG (List.set _ _ _) ≤ _
      generalize adG σ.G j (vAt σ.V (at3 xs (j * 3 + 1)).toNat).1 (vAt σ.V (at3 xs (j * 3 + 1)).toNat).2 = G' at *
      generalize fdG σ.G (vAt σ.V (at3 xs (j * 3 + 1)).toNat).1 = i at *
      generalize ((vAt σ.V (at3 xs (j * 3 + 1)).toNat).2 != (gAt G' i).p) = d
      have hs := oddG_set (moG (gAt G' i) d j (cfK (at3 xs (j * 3)))) l1
      have hT : cT [gN xs j] = cfK (at3 xs (j * 3)) % 2 := by
        show isTk (at3 xs (j * 3)).toNat + 0 = _
        unfold isTk cfK at *
        by_cases c4 : at3 xs (j * 3) = 4
        · simp [c4]
        by_cases c5 : at3 xs (j * 3) = 5
        · simp [c5]
        by_cases c6 : at3 xs (j * 3) = 6
        · simp [c6]
        by_cases c7 : at3 xs (j * 3) = 7
        · simp [c7]
        by_cases c8 : at3 xs (j * 3) = 8
        · simp [c8]
        simp [c4, c5, c6, c7, c8] at h0
      have hc8 := cfK_lt (at3 xs (j * 3))
      rw [hT]
      have hmo : (moG (gAt G' i) d j (cfK (at3 xs (j * 3)))).c = ((gAt G' i).c + (if d then 8 - cfK (at3 xs (j * 3)) else cfK (at3 xs (j * 3)))) % 8 := rfl
      rw [hmo] at hs
      cases d
      · simp only [Bool.false_eq_true, if_false] at hs; omega
      · simp only [if_true] at hs; omega
    · show oddG (fsS q xs j).G ≤ _; omega


open Go.RowKit
set_option linter.unusedVariables false
set_option linter.unusedSimpArgs false

/-- the gates of the long circuit -/
def hL (N : Nat) : Nat → List Int
  | 0 => []
  | j + 1 => hL N j ++ [1, (((N - j) % 2 : Nat) : Int), 0]
theorem hL_len (N : Nat) : ∀ j, (hL N j).length = j * 3
  | 0 => rfl
  | j + 1 => by
    show (hL N j ++ _).length = _
    rw [List.length_append, hL_len N j]
    simp
    omega
theorem hL_at (N : Nat) : ∀ n k, k < n → at3 (hL N n) (k * 3) = 1 ∧ at3 (hL N n) (k * 3 + 1) = (((N - k) % 2 : Nat) : Int) ∧ at3 (hL N n) (k * 3 + 2) = 0
  | n + 1, k, h => by
    have e : hL N (n + 1) = hL N n ++ [1, (((N - n) % 2 : Nat) : Int), 0] := rfl
    have hl := hL_len N n
    rw [e]
    by_cases hk : k = n
    · subst hk
      have e : ∀ i, at3 (hL N k ++ [1, (((N - k) % 2 : Nat) : Int), 0]) (k * 3 + i) = at3 [1, (((N - k) % 2 : Nat) : Int), 0] i := fun i => by
        unfold at3
        rw [List.getD_eq_getElem?_getD, List.getD_eq_getElem?_getD, List.getElem?_append_right (by omega), hl, Nat.add_sub_cancel_left]
      exact ⟨e 0, e 1, e 2⟩
    · rw [at3_app (by omega), at3_app (by omega), at3_app (by omega)]
      exact hL_at N n k (by omega)
theorem hL_gN {N n k : Nat} (h : k < n) : gN (hL N n) k = (1, (N - k) % 2, 0) := by
  obtain ⟨h1, h2, h3⟩ := hL_at N n k h
  unfold gN
  rw [h1, h2, h3]
  rfl
/-- the states of the operator: none, the first H, the second, both -/
def hA (p : Nat) : List Int := if p = 0 then [1, 0, 0, 0, 1, 0, 0, 0, 0, 0, 1, 0, 0, 0, 1, 0, 0, 0, 0, 0, 0, 0, 0, 0, 0, 1, 0, 0, 0, 1, 0, 0, 0, 0, 0, 1, 0, 0, 0, 1, 1, 0, 0, 0, 1, 0, 0, 0, 0, 0, -1, 0, 0, 0, 1, 0, 0, 0, 0, 0, 0, 0, 0, 0, 0, 1, 0, 0, 0, 1, 0, 0, 0, 0, 0, -1, 0, 0, 0, 1] else [1, 0, 0, 0, 1, 1, 0, 0, 0, 1, 0, 0, 0, 0, 0, 0, 0, 0, 0, 0, 1, 0, 0, 0, 1, -1, 0, 0, 0, 1, 0, 0, 0, 0, 0, 0, 0, 0, 0, 0, 0, 0, 0, 0, 0, 0, 0, 0, 0, 0, 1, 0, 0, 0, 1, 1, 0, 0, 0, 1, 0, 0, 0, 0, 0, 0, 0, 0, 0, 0, 1, 0, 0, 0, 1, -1, 0, 0, 0, 1]
def hB : List Int := [1, 0, 0, 0, 2, 1, 0, 0, 0, 2, 1, 0, 0, 0, 2, 1, 0, 0, 0, 2, 1, 0, 0, 0, 2, -1, 0, 0, 0, 2, 1, 0, 0, 0, 2, -1, 0, 0, 0, 2, 1, 0, 0, 0, 2, 1, 0, 0, 0, 2, -1, 0, 0, 0, 2, -1, 0, 0, 0, 2, 1, 0, 0, 0, 2, -1, 0, 0, 0, 2, -1, 0, 0, 0, 2, 1, 0, 0, 0, 2]
def hU : List Int := [1, 0, 0, 0, 0, 0, 0, 0, 0, 0, 0, 0, 0, 0, 0, 0, 0, 0, 0, 0, 0, 0, 0, 0, 0, 1, 0, 0, 0, 0, 0, 0, 0, 0, 0, 0, 0, 0, 0, 0, 0, 0, 0, 0, 0, 0, 0, 0, 0, 0, 1, 0, 0, 0, 0, 0, 0, 0, 0, 0, 0, 0, 0, 0, 0, 0, 0, 0, 0, 0, 0, 0, 0, 0, 0, 1, 0, 0, 0, 0]
def hOk (p : Nat) (L : List Int) : Bool := mmOkM ((2 ^ 2 : Nat) : Int) ((2 ^ 2 : Nat) : Int) (2 ^ 2 * 2 ^ 2) (gmL 2 (1, p, 0)) ((2 ^ 2 : Nat) : Int) ((2 ^ 2 : Nat) : Int) (2 ^ 2 * 2 ^ 2) L
def hM (p : Nat) (L : List Int) : List Int := mmLM (gmL 2 (1, p, 0)) L (2 ^ 2) (2 ^ 2) (2 ^ 2 * 2 ^ 2)
theorem hU_eq : unL 2 = hU := by kernel_rfl
theorem h0U : hM 0 hU = hA 0 := by kernel_rfl
theorem h1U : hM 1 hU = hA 1 := by kernel_rfl
theorem h0A : hM 0 (hA 1) = hB := by kernel_rfl
theorem h1A : hM 1 (hA 0) = hB := by kernel_rfl
theorem h0B : hM 0 hB = hA 1 := by kernel_rfl
theorem h1B : hM 1 hB = hA 0 := by kernel_rfl
theorem h0R : hM 0 (hA 0) = hU := by kernel_rfl
theorem h1R : hM 1 (hA 1) = hU := by kernel_rfl
theorem k0U : hOk 0 hU = true := by kernel_rfl
theorem k1U : hOk 1 hU = true := by kernel_rfl
theorem k0A : hOk 0 (hA 1) = true := by kernel_rfl
theorem k1A : hOk 1 (hA 0) = true := by kernel_rfl
theorem k0B : hOk 0 hB = true := by kernel_rfl
theorem k1B : hOk 1 hB = true := by kernel_rfl
theorem k0R : hOk 0 (hA 0) = true := by kernel_rfl
theorem k1R : hOk 1 (hA 1) = true := by kernel_rfl
/-- the state after k gates, p the next one's qubit -/
def hS (k p : Nat) : List Int := if k % 4 = 0 then hU else if k % 4 = 1 then hA (1 - p) else if k % 4 = 2 then hB else hA p
theorem hS_step (k p : Nat) (hp : p < 2) : hOk p (hS k p) = true ∧ hM p (hS k p) = hS (k + 1) (1 - p) := by
  have h4 : k % 4 = 0 ∨ k % 4 = 1 ∨ k % 4 = 2 ∨ k % 4 = 3 := by omega
  have h2 : p = 0 ∨ p = 1 := by omega
  unfold hS
  rcases h4 with h4 | h4 | h4 | h4
  · rw [if_pos h4, if_neg (by omega), if_pos (by omega)]
    rcases h2 with rfl | rfl
    · exact ⟨k0U, h0U⟩
    · exact ⟨k1U, h1U⟩
  · rw [if_neg (by omega), if_pos h4, if_neg (by omega), if_neg (by omega), if_pos (by omega)]
    rcases h2 with rfl | rfl
    · exact ⟨k0A, h0A⟩
    · exact ⟨k1A, h1A⟩
  · rw [if_neg (by omega), if_neg (by omega), if_pos h4, if_neg (by omega), if_neg (by omega), if_neg (by omega)]
    rcases h2 with rfl | rfl
    · exact ⟨k0B, h0B⟩
    · exact ⟨k1B, h1B⟩
  · rw [if_neg (by omega), if_neg (by omega), if_neg (by omega), if_pos (by omega)]
    rcases h2 with rfl | rfl
    · exact ⟨k0R, h0R⟩
    · exact ⟨k1R, h1R⟩
theorem hL_op {N n : Nat} (hn : n ≤ N) : ∀ k, k ≤ n → opB 2 (hL N n) k = true ∧ opL 2 (hL N n) k = hS k ((N - k) % 2)
  | 0, _ => ⟨rfl, hU_eq⟩
  | k + 1, hk => by
    obtain ⟨h1, h2⟩ := hL_op hn k (by omega)
    have hg := hL_gN (N := N) (n := n) (k := k) (by omega)
    obtain ⟨s1, s2⟩ := hS_step k ((N - k) % 2) (Nat.mod_lt _ (by decide))
    have hp : 1 - (N - k) % 2 = (N - (k + 1)) % 2 := by omega
    rw [hp] at s2
    refine ⟨?_, ?_⟩
    · show (opB 2 (hL N n) k && mmOkM _ _ _ (gmL 2 (gN (hL N n) k)) _ _ _ (opL 2 (hL N n) k)) = true
      rw [h1, h2, hg, Bool.true_and]
      exact s1
    · show mmLM (gmL 2 (gN (hL N n) k)) (opL 2 (hL N n) k) _ _ _ = _
      rw [h2, hg]
      exact s2
theorem hL_st (N n : Nat) : ∀ j, j ≤ n → (fsS 2 (hL N n) j).G = [] ∧ (fsS 2 (hL N n) j).s = 0
  | 0, _ => ⟨rfl, rfl⟩
  | j + 1, hj => by
    obtain ⟨h1, h2⟩ := hL_st N n j (by omega)
    obtain ⟨h3, _, _⟩ := hL_at N n j (by omega)
    show (stepF (fsS 2 (hL N n) j) j (at3 (hL N n) (j * 3)) _ _).G = [] ∧ (stepF (fsS 2 (hL N n) j) j (at3 (hL N n) (j * 3)) _ _).s = 0
    unfold stepF
    rw [if_pos h3]
    exact ⟨h1, h2⟩
theorem hL_fp (N n : Nat) : ∀ j, j ≤ n → fpL [] (hL N n) j = hL N j
  | 0, _ => rfl
  | j + 1, hj => by
    obtain ⟨h3, h4, h5⟩ := hL_at N n j (by omega)
    show fpL [] (hL N n) j ++ fpP [] (at3 (hL N n) (j * 3)) (at3 (hL N n) (j * 3 + 1)) (at3 (hL N n) (j * 3 + 2)) j = hL N j ++ _
    rw [hL_fp N n j (by omega), h3, h4, h5]
    rfl
theorem hL_fold {n : Nat} (hf : fOk 2 (hL n n) n = true) : fL 2 (hL n n) n = hL n n ∧ fN 2 (hL n n) n = n := by
  have e0 : fpT 2 (hL n n) n = hL n n := by
    obtain ⟨h1, h2⟩ := hL_st n n n (Nat.le_refl _)
    unfold fpT
    show fpL (fsS 2 (hL n n) n).G (hL n n) n ++ phL (fsS 2 (hL n n) n).s = _
    rw [h1, h2, hL_fp n n n (Nat.le_refl _)]
    exact List.append_nil _
  have e1 : fL 2 (hL n n) n = fpT 2 (hL n n) n := by unfold fL; rw [if_pos hf]
  have e2 : fN 2 (hL n n) n = fpM 2 (hL n n) n := by unfold fN; rw [if_pos hf]
  rw [e1, e2]
  refine ⟨e0, ?_⟩
  unfold fpM
  rw [e0, hL_len]
  omega
/-- the folded circuit's operator is the circuit's, for all circuits that are drawn -/
theorem fold_op2 {q : Nat} {xs : List Int} {n : Nat} (hq : q ≤ 3) (hf : fOk q xs n = true) (hn : n ≤ 20 ∨ (q = 2 ∧ xs = hL n n)) : opB q xs n = true ∧ opB q (fL q xs n) (fN q xs n) = true ∧ opL q xs n = opL q (fL q xs n) (fN q xs n) := by
  rcases hn with hn | ⟨rfl, rfl⟩
  · exact fold_op hq hf hn
  · obtain ⟨e1, e2⟩ := hL_fold hf
    have e1' : fL ((2 : Nat) : Int) (hL n n) n = hL n n := e1
    have e2' : fN ((2 : Nat) : Int) (hL n n) n = n := e2
    rw [e1', e2']
    have := (hL_op (Nat.le_refl n) n (Nat.le_refl n)).1
    exact ⟨this, this, rfl⟩

end Go.Proofs.Ytbddgeoaaklgpaa
