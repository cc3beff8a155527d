/- Exchanged gates: the operator stays; cells of sorted circuits (plain). -/
import Derived.Test.YtbddgeoaaklgpaaTrL
namespace Go.Proofs.Ytbddgeoaaklgpaa
open Go.RowKit
set_option linter.unusedVariables false
set_option linter.unusedSimpArgs false

/-- a gate on n qubits -/
def TV (n : Nat) (g : G3) : Prop := (1 ≤ g.1 ∧ g.1 ≤ 12) ∧ g.2.1 < n ∧ g.2.2 < n ∧ (9 ≤ g.1 → g.1 ≤ 11 → g.2.1 ≠ g.2.2)
/-- the bits that a gate flips -/
def tmk (n k a b x y z : Nat) : Nat :=
  if k = 1 then (if x = z then 0 else 2 ^ (n - 1 - a)) else if k = 2 ∨ k = 3 then 2 ^ (n - 1 - a) else if k = 9 then (if x = 1 then 2 ^ (n - 1 - b) else 0) else if k = 11 then (if x = y then 0 else 2 ^ (n - 1 - a) ^^^ 2 ^ (n - 1 - b)) else 0
theorem fwd_tmk (n k a b t z : Nat) : fwd n k a b t z = t ^^^ tmk n k a b (bq n t a) (bq n t b) z := by
  unfold fwd tmk fl
  by_cases h1 : k = 1
  · rw [if_pos h1, if_pos h1]; split
    · rw [Nat.xor_zero]
    · rfl
  rw [if_neg h1, if_neg h1]
  by_cases h2 : k = 2 ∨ k = 3
  · rw [if_pos h2, if_pos h2]
  rw [if_neg h2, if_neg h2]
  by_cases h9 : k = 9
  · rw [if_pos h9, if_pos h9]; split
    · rfl
    · rw [Nat.xor_zero]
  rw [if_neg h9, if_neg h9]
  by_cases h11 : k = 11
  · rw [if_pos h11, if_pos h11]; split
    · rw [Nat.xor_zero]
    · rw [Nat.xor_assoc]
  rw [if_neg h11, if_neg h11, Nat.xor_zero]
theorem tq_one {k a b : Nat} (h12 : k ≠ 12) (h9 : ¬ (9 ≤ k ∧ k ≤ 11)) : tq (k, a, b) = [a] := by
  show (if k = 12 then [] else if 9 ≤ k ∧ k ≤ 11 then [a, b] else [a]) = _
  rw [if_neg h12, if_neg h9]
theorem tq_two {k a b : Nat} (h9 : 9 ≤ k ∧ k ≤ 11) : tq (k, a, b) = [a, b] := by
  show (if k = 12 then [] else if 9 ≤ k ∧ k ≤ 11 then [a, b] else [a]) = _
  rw [if_neg (by omega), if_pos h9]
theorem tq_a {k a b : Nat} (h12 : k ≠ 12) : a ∈ tq (k, a, b) := by
  by_cases h9 : 9 ≤ k ∧ k ≤ 11
  · rw [tq_two h9]; simp
  · rw [tq_one h12 h9]; simp
theorem tq_b {k a b : Nat} (h9 : 9 ≤ k ∧ k ≤ 11) : b ∈ tq (k, a, b) := by rw [tq_two h9]; simp
theorem fwd_far {n : Nat} (hB : Bits n) {k a b : Nat} (hv : TV n (k, a, b)) {t : Nat} (ht : t < 2 ^ n) (z : Nat) {q : Nat} (hq : q < n) (hn : q ∉ tq (k, a, b)) : bq n (fwd n k a b t z) q = bq n t q := by
  obtain ⟨hk, ha, hb, hab⟩ := hv
  simp only at hk ha hb hab
  have fa : k ≠ 12 → ∀ s, s < 2 ^ n → bq n (fl n s a) q = bq n s q := fun h12 s hs => by
    rw [hB.fl s a q hs ha hq, if_neg (fun e => hn (by rw [e]; exact tq_a h12))]
  have fb : (9 ≤ k ∧ k ≤ 11) → ∀ s, s < 2 ^ n → bq n (fl n s b) q = bq n s q := fun h9 s hs => by
    rw [hB.fl s b q hs hb hq, if_neg (fun e => hn (by rw [e]; exact tq_b h9))]
  unfold fwd
  by_cases h1 : k = 1
  · rw [if_pos h1]; split
    · rfl
    · exact fa (by omega) t ht
  rw [if_neg h1]
  by_cases h2 : k = 2 ∨ k = 3
  · rw [if_pos h2]; exact fa (by omega) t ht
  rw [if_neg h2]
  by_cases h9 : k = 9
  · rw [if_pos h9]; split
    · exact fb (by omega) t ht
    · rfl
  rw [if_neg h9]
  by_cases h11 : k = 11
  · rw [if_pos h11]; split
    · rfl
    · rw [fb (by omega) _ (hB.lt t a ht ha), fa (by omega) t ht]
  rw [if_neg h11]
theorem tmk_congr {n k a b t t' z : Nat} (h : ∀ q, q ∈ tq (k, a, b) → bq n t q = bq n t' q) : tmk n k a b (bq n t a) (bq n t b) z = tmk n k a b (bq n t' a) (bq n t' b) z := by
  unfold tmk
  by_cases h1 : k = 1
  · rw [if_pos h1, if_pos h1, h a (tq_a (by omega))]
  rw [if_neg h1, if_neg h1]
  by_cases h2 : k = 2 ∨ k = 3
  · rw [if_pos h2, if_pos h2]
  rw [if_neg h2, if_neg h2]
  by_cases h9 : k = 9
  · rw [if_pos h9, if_pos h9, h a (tq_a (by omega))]
  rw [if_neg h9, if_neg h9]
  by_cases h11 : k = 11
  · rw [if_pos h11, if_pos h11, h a (tq_a (by omega)), h b (tq_b (by omega))]
  rw [if_neg h11, if_neg h11]
theorem pha_congr {n k a b t t' z : Nat} (h : ∀ q, q ∈ tq (k, a, b) → bq n t q = bq n t' q) : pha n k a b t z = pha n k a b t' z := by
  unfold pha
  by_cases h12 : k = 12
  · subst h12; rfl
  have ha := h a (tq_a h12)
  by_cases h10 : k = 10
  · subst h10
    rw [ha, h b (tq_b (by omega))]
  rw [ha]
  simp only [if_neg h10]
theorem gates_comm {n : Nat} (hB : Bits n) {k a b k' a' b' : Nat} (vg : TV n (k, a, b)) (vh : TV n (k', a', b')) (d : Dj (k, a, b) (k', a', b')) {t : Nat} (ht : t < 2 ^ n) (y z : Nat) :
    fwd n k' a' b' (fwd n k a b t y) z = fwd n k a b (fwd n k' a' b' t z) y ∧ pha n k' a' b' (fwd n k a b t y) z = pha n k' a' b' t z ∧ pha n k a b (fwd n k' a' b' t z) y = pha n k a b t y := by
  have qn : ∀ {k a b q : Nat}, TV n (k, a, b) → q ∈ tq (k, a, b) → q < n := fun {k a b q} v hq => by
    have h0 : k ≠ 12 := fun e => by subst e; cases hq
    have ha := v.2.1
    have hb := v.2.2.1
    simp only at ha hb
    by_cases h9 : 9 ≤ k ∧ k ≤ 11
    · rw [tq_two h9] at hq
      simp only [List.mem_cons, List.not_mem_nil, or_false] at hq
      omega
    · rw [tq_one h0 h9] at hq
      simp only [List.mem_cons, List.not_mem_nil, or_false] at hq
      omega
  have e1 : ∀ q, q ∈ tq (k', a', b') → bq n (fwd n k a b t y) q = bq n t q := fun q hq => fwd_far hB vg ht y (qn vh hq) (fun hg => d q hg hq)
  have e2 : ∀ q, q ∈ tq (k, a, b) → bq n (fwd n k' a' b' t z) q = bq n t q := fun q hq => fwd_far hB vh ht z (qn vg hq) (fun hg => d q hq hg)
  refine ⟨?_, pha_congr e1, pha_congr e2⟩
  rw [fwd_tmk n k' a' b' (fwd n k a b t y) z, tmk_congr e1, fwd_tmk n k a b (fwd n k' a' b' t z) y, tmk_congr e2, fwd_tmk n k a b t y, fwd_tmk n k' a' b' t z, Nat.xor_assoc, Nat.xor_assoc]
  congr 1
  exact Nat.xor_comm _ _
theorem mod_two (e p q : Nat) : ((e + p) % 8 + q) % 8 = ((e + q) % 8 + p) % 8 := by omega
/-- two neighbours without common qubits can be exchanged -/
theorem TS_two {n : Nat} (hB : Bits n) {g h : G3} (vg : TV n g) (vh : TV n h) (d : Dj g h) (F : Nat → Nat → R4) (l : List G3) {t : Nat} (ht : t < 2 ^ n) (u : Nat) (α : Nat → Bool) (e : Nat) :
    TS n (g :: h :: l) (fun t _ e => F t e) t u α e = TS n (h :: g :: l) (fun t _ e => F t e) t u α e := by
  obtain ⟨k, a, b⟩ := g
  obtain ⟨k', a', b'⟩ := h
  obtain ⟨X, hX⟩ : ∃ X : Nat → Nat → R4, ∀ t u α e, TS n l (fun t _ e => F t e) t u α e = X t e := ⟨fun t e => TS n l (fun t _ e => F t e) t 0 (fun _ => false) e, fun t u α e => TS_noα n l t u 0 α _ e⟩
  have C := fun y z => gates_comm hB vg vh d ht y z
  have one : ∀ (k a b : Nat) (m : List G3) (f : Nat → (Nat → Bool) → Nat → R4) (t u : Nat) (α : Nat → Bool) (e : Nat), TS n ((k, a, b) :: m) f t u α e = if k = 1 then (TS n m f (fwd n 1 a b t 0) (u + 1) (setA α u false) ((e + pha n 1 a b t 0) % 8)).add (TS n m f (fwd n 1 a b t 1) (u + 1) (setA α u true) ((e + pha n 1 a b t 1) % 8))
      else TS n m f (fwd n k a b t 0) u α ((e + pha n k a b t 0) % 8) := fun k a b m f t u α e => rfl
  by_cases h1 : k = 1
  · subst h1
    by_cases h2 : k' = 1
    · subst h2
      simp only [one, if_true, hX]
      obtain ⟨c00, p00, q00⟩ := C 0 0
      obtain ⟨c01, p01, q01⟩ := C 0 1
      obtain ⟨c10, p10, q10⟩ := C 1 0
      obtain ⟨c11, p11, q11⟩ := C 1 1
      rw [c00, c01, c10, c11, p00, p01, p10, p11, q00, q01, q10, q11, mod_two e (pha n 1 a b t 0) (pha n 1 a' b' t 0), mod_two e (pha n 1 a b t 0) (pha n 1 a' b' t 1), mod_two e (pha n 1 a b t 1) (pha n 1 a' b' t 0), mod_two e (pha n 1 a b t 1) (pha n 1 a' b' t 1)]
      exact add4_swap _ _ _ _
    · simp only [one, if_true, if_neg h2, hX]
      obtain ⟨c00, p00, q00⟩ := C 0 0
      obtain ⟨c10, p10, q10⟩ := C 1 0
      rw [c00, c10, p00, p10, q00, q10, mod_two e (pha n 1 a b t 0), mod_two e (pha n 1 a b t 1)]
  · by_cases h2 : k' = 1
    · subst h2
      simp only [one, if_true, if_neg h1, hX]
      obtain ⟨c00, p00, q00⟩ := C 0 0
      obtain ⟨c01, p01, q01⟩ := C 0 1
      rw [c00, c01, p00, p01, q00, q01, mod_two e (pha n k a b t 0) (pha n 1 a' b' t 0), mod_two e (pha n k a b t 0) (pha n 1 a' b' t 1)]
    · simp only [one, if_neg h1, if_neg h2, hX]
      obtain ⟨c00, p00, q00⟩ := C 0 0
      rw [c00, p00, q00, mod_two e (pha n k a b t 0)]
theorem amp_Tr {n : Nat} (hB : Bits n) {x y : List G3} (h : Tr x y) : (∀ g, g ∈ x → TV n g) → ∀ i j, j < 2 ^ n → amp n x i j = amp n y i j := by
  induction h with
  | refl l => exact fun _ _ _ _ => rfl
  | swap l g h m d =>
    intro hv i j hj
    unfold amp
    rw [TS_app, TS_app]
    refine TS_lt n (fun k a b t y ha hb ht => fwd_lt hB k a b t y ha hb ht) l _ _ _ _ (fun g hg => ?_) hj fun t α e ht => ?_
    · have := hv g (List.mem_append_left _ hg)
      exact ⟨this.2.1, this.2.2.1⟩
    · exact TS_two hB (hv g (by simp)) (hv h (by simp)) d (fun t e => if t = i then wp e else R4.zero) m ht _ α e
  | trans x y i j =>
    intro hv a b hb
    rw [i hv a b hb]
    exact j (fun g hg => hv g ((x.mem g).2 hg)) a b hb

/-! ### cells -/
def tfl : List G3 → List Int
  | [] => []
  | g :: l => (g.1 : Int) :: (g.2.1 : Int) :: (g.2.2 : Int) :: tfl l
theorem tfl_len : ∀ l, (tfl l).length = l.length * 3
  | [] => rfl
  | g :: l => by simp [tfl, tfl_len l]; omega
theorem tfl_app : ∀ l m, tfl (l ++ m) = tfl l ++ tfl m
  | [], m => rfl
  | g :: l, m => by simp [tfl, tfl_app l m]
theorem at3_tfl : ∀ {l : List G3} {j : Nat} (h : j < l.length), at3 (tfl l) (j * 3) = ((l[j]).1 : Int) ∧ at3 (tfl l) (j * 3 + 1) = ((l[j]).2.1 : Int) ∧ at3 (tfl l) (j * 3 + 2) = ((l[j]).2.2 : Int)
  | g :: l, 0, _ => ⟨rfl, rfl, rfl⟩
  | g :: l, j + 1, h => by
    have ih := at3_tfl (l := l) (j := j) (by simpa using h)
    have e : ∀ i, at3 (tfl (g :: l)) (i + 3) = at3 (tfl l) i := fun i => rfl
    rw [show (j + 1) * 3 = j * 3 + 3 by omega, show j * 3 + 3 + 1 = j * 3 + 1 + 3 by omega, show j * 3 + 3 + 2 = j * 3 + 2 + 3 by omega, e, e, e]
    exact ih
theorem gN_tfl {l : List G3} {j : Nat} (h : j < l.length) : gN (tfl l) j = l[j] := by
  obtain ⟨h1, h2, h3⟩ := at3_tfl h
  unfold gN
  rw [h1, h2, h3]
  rfl
theorem clG_len (xs : List Int) : ∀ n, (clG xs n).length = n
  | 0 => rfl
  | n + 1 => by
    show (clG xs n ++ [gN xs n]).length = _
    rw [List.length_append, clG_len xs n]
    rfl
theorem clG_get (xs : List Int) : ∀ {n j : Nat} (h : j < n), (clG xs n)[j]'(by rw [clG_len]; exact h) = gN xs j
  | n + 1, j, h => by
    have e : clG xs (n + 1) = clG xs n ++ [gN xs n] := rfl
    by_cases hj : j < n
    · have := clG_get xs hj
      simp only [e]
      rw [List.getElem_append_left (by rw [clG_len]; exact hj)]
      exact this
    · obtain rfl : j = n := by omega
      simp only [e]
      rw [List.getElem_append_right (by rw [clG_len]; omega)]
      simp [clG_len]
theorem clG_tfl (l : List G3) : clG (tfl l) l.length = l := by
  refine List.ext_getElem (clG_len _ _) fun j h1 h2 => ?_
  rw [clG_get _ h2, gN_tfl h2]
theorem clG_tv {q : Nat} {xs : List Int} {n : Nat} (hc : cOk q xs n = true) : ∀ g, g ∈ clG xs n → TV q g ∧ gOk q g.1 g.2.1 g.2.2 = true := by
  intro g hg
  obtain ⟨j, hj, rfl⟩ := List.getElem_of_mem hg
  have hjn : j < n := by rw [clG_len] at hj; exact hj
  rw [clG_get xs hjn]
  have h1 := cOk_gate hc hjn
  have h2 := gOk_facts h1 (cOk_q1 hc).1
  have e1 : ((gN xs j).1 : Int) = at3 xs (j * 3) := by show ((at3 xs (j * 3)).toNat : Int) = _; omega
  have e2 : ((gN xs j).2.1 : Int) = at3 xs (j * 3 + 1) := by show ((at3 xs (j * 3 + 1)).toNat : Int) = _; omega
  have e3 : ((gN xs j).2.2 : Int) = at3 xs (j * 3 + 2) := by show ((at3 xs (j * 3 + 2)).toNat : Int) = _; omega
  refine ⟨⟨by omega, by omega, by omega, fun h9 h11 => ?_⟩, by rw [e1, e2, e3]; exact h1⟩
  have := gOk_neq h1 (by omega) (by omega)
  omega
/-- a valid circuit's cells are its gates' -/
theorem xs_tfl {q : Nat} {xs : List Int} {n : Nat} (hc : cOk q xs n = true) (hl : xs.length = n * 3) : xs = tfl (clG xs n) := by
  have hll : (tfl (clG xs n)).length = n * 3 := by rw [tfl_len, clG_len]
  refine List.ext_getElem (hl.trans hll.symm) fun i h1 h2 => ?_
  have e0 : ∀ (zs : List Int) (h : i < zs.length), zs[i] = at3 zs i := fun zs h => by simp [at3, List.getD_eq_getElem?_getD, h]
  rw [e0, e0]
  have hj : i / 3 < n := by omega
  obtain ⟨a1, a2, a3⟩ := at3_tfl (l := clG xs n) (j := i / 3) (by rw [clG_len]; exact hj)
  rw [clG_get xs hj] at a1 a2 a3
  have f := gOk_facts (cOk_gate hc hj) (cOk_q1 hc).1
  have e1 : ((gN xs (i / 3)).1 : Int) = at3 xs (i / 3 * 3) := by show ((at3 xs (i / 3 * 3)).toNat : Int) = _; omega
  have e2 : ((gN xs (i / 3)).2.1 : Int) = at3 xs (i / 3 * 3 + 1) := by show ((at3 xs (i / 3 * 3 + 1)).toNat : Int) = _; omega
  have e3 : ((gN xs (i / 3)).2.2 : Int) = at3 xs (i / 3 * 3 + 2) := by show ((at3 xs (i / 3 * 3 + 2)).toNat : Int) = _; omega
  have hr : i = i / 3 * 3 ∨ i = i / 3 * 3 + 1 ∨ i = i / 3 * 3 + 2 := by omega
  rcases hr with e | e | e <;> rw [e]
  · rw [a1, e1]
  · rw [a2, e2]
  · rw [a3, e3]
theorem cOk_mk {q : Nat} {l : List G3} (h1 : 1 ≤ q) (h5 : q ≤ 5) (hn : l.length ≤ 400) (hg : ∀ g, g ∈ l → gOk q g.1 g.2.1 g.2.2 = true) : cOk q (tfl l) l.length = true := by
  unfold cOk gAll
  rw [allTo_mkQ fun j hj => ?_]
  · have : Wn (q : Int) 1 5 = true := Wn_iff.2 (by omega)
    rw [this]
    simp [hn]
  · obtain ⟨a1, a2, a3⟩ := at3_tfl hj
    rw [a1, a2, a3]
    exact hg _ (List.getElem_mem hj)
theorem clG_A5 {q : Nat} {xs : List Int} {n : Nat} (hc : cOk q xs n = true) : ∀ g, g ∈ clG xs n → g.2.1 < 5 := fun g hg => by
  have := (clG_tv hc g hg).1.2.1
  have := cOk_q1 hc
  omega
theorem nH_cl (xs : List Int) : ∀ n, nH (clG xs n) ≤ n
  | 0 => Nat.le_refl _
  | n + 1 => by
    have e : clG xs (n + 1) = clG xs n ++ [gN xs n] := rfl
    rw [e, nH_app]
    have := nH_cl xs n
    have : nH [gN xs n] ≤ 1 := by
      show (if (gN xs n).1 = 1 then 1 else 0) + 0 ≤ 1
      split <;> omega
    omega
/-- the sorted circuit: its gates' number, its cells -/
def foN (q : Int) (xs : List Int) (n : Nat) : Nat := if cOk q xs n then n else 0
def foQ (q : Int) (xs : List Int) (n : Nat) : Int := if cOk q xs n then q else 0
def foL (q : Int) (xs : List Int) (n : Nat) : List Int := if cOk q xs n then tfl (tF (clG xs n)) else []
theorem foL_len (q : Int) (xs : List Int) (n : Nat) : (foL q xs n).length = foN q xs n * 3 := by
  unfold foL foN
  split
  · rw [tfl_len, tF_len, clG_len]
  · rfl
theorem foL_yes {q : Int} {xs : List Int} {n : Nat} (h : cOk q xs n = true) : foL q xs n = tfl (tF (clG xs n)) := by unfold foL; rw [if_pos h]
theorem foN_le (q : Int) (xs : List Int) (n : Nat) : foN q xs n ≤ n := by unfold foN; split <;> omega
/-- all that the law asks of the sorted circuit -/
theorem fo_facts {q : Nat} {xs : List Int} {n : Nat} (hc : cOk q xs n = true) : foQ q xs n = q ∧ foN q xs n = n ∧ clG (foL q xs n) n = tF (clG xs n) ∧ cOk q (foL q xs n) n = true ∧ foL q (foL q xs n) n = foL q xs n ∧ (q ≤ 3 → n ≤ 20 → opB q xs n = true ∧ opB q (foL q xs n) n = true ∧ opL q xs n = opL q (foL q xs n) n) := by
  have h5 := clG_A5 hc
  obtain ⟨-, hT⟩ := tF_facts h5
  have q1 := cOk_q1 hc
  have eL : foL q xs n = tfl (tF (clG xs n)) := by unfold foL; rw [if_pos hc]
  have ln : (tF (clG xs n)).length = n := by rw [tF_len, clG_len]
  have eC : clG (foL q xs n) n = tF (clG xs n) := by
    have := clG_tfl (tF (clG xs n))
    rw [ln] at this
    rw [eL]
    exact this
  have hc2 : cOk q (foL q xs n) n = true := by
    have := cOk_mk (q := q) (l := tF (clG xs n)) q1.1 q1.2.1 (by omega) (fun g hg => (clG_tv hc g ((hT.mem g).2 hg)).2)
    rw [ln] at this
    rw [eL]
    exact this
  refine ⟨by unfold foQ; rw [if_pos hc], by unfold foN; rw [if_pos hc], eC, hc2, ?_, fun h3 hn => ?_⟩
  · have e2 : foL q (foL q xs n) n = tfl (tF (clG (foL q xs n) n)) := foL_yes hc2
    rw [e2, eC, tF_idem h5, ← eL]
  · refine op_same h3 hc hc2 (by have := nH_cl xs n; omega) ?_ fun i j hi hj => ?_
    · rw [eC]; exact hT.nH
    · rw [eC]
      exact amp_Tr (bitsQ q1.1 h3) hT (fun g hg => (clG_tv hc g hg).1) i j hj
/-- circuits with the same sorted circuit have the same depth and operator -/
theorem fo_same {q : Nat} {xs ys : List Int} {n m : Nat} (hx : cOk q xs n = true) (hy : cOk q ys m = true) (hnm : n = m) (he : foL q xs n = foL q ys m) : tD (clG xs n) = tD (clG ys m) ∧ (q ≤ 3 → n ≤ 20 → opB q xs n = true ∧ opB q ys m = true ∧ opL q xs n = opL q ys m) := by
  subst hnm
  obtain ⟨_, _, c1, _, _, o1⟩ := fo_facts hx
  obtain ⟨_, _, c2, _, _, o2⟩ := fo_facts hy
  have e : tF (clG xs n) = tF (clG ys n) := by rw [← c1, ← c2, he]
  refine ⟨by rw [← tD_F (clG_A5 hx), ← tD_F (clG_A5 hy), e], fun h3 hn => ?_⟩
  obtain ⟨x1, x2, x3⟩ := o1 h3 hn
  obtain ⟨y1, y2, y3⟩ := o2 h3 hn
  exact ⟨x1, y1, by rw [x3, y3, he]⟩

end Go.Proofs.Ytbddgeoaaklgpaa
