/- The plain law of FnGrid. -/
import Derived.Test.YtojoljffaedpfaaGrdN
import Derived.Test.YtojoljffaedpfaaSgn
import Derived.Test.YtojoljffaedpfaaRange
namespace Go.Proofs.Ytojoljffaedpfaa
open Go.RowKit Go.Lib
set_option linter.unusedVariables false
set_option linter.unusedSimpArgs false

theorem nodup_of {α : Type} (S : α → Prop) : ∀ M : List α, ∃ l : List α, l.Nodup ∧ ∀ x, x ∈ l ↔ (x ∈ M ∧ S x)
  | [] => ⟨[], List.nodup_nil, fun x => by simp⟩
  | a :: M => by
    obtain ⟨l, h1, h2⟩ := nodup_of S M
    by_cases h : S a ∧ a ∉ l
    · refine ⟨a :: l, List.nodup_cons.2 ⟨h.2, h1⟩, fun x => ?_⟩
      rw [List.mem_cons, List.mem_cons, h2 x]
      constructor
      · rintro (rfl | h3)
        · exact ⟨.inl rfl, h.1⟩
        · exact ⟨.inr h3.1, h3.2⟩
      · rintro ⟨rfl | h3, h4⟩
        · exact .inl rfl
        · exact .inr ⟨h3, h4⟩
    · refine ⟨l, h1, fun x => ?_⟩
      rw [List.mem_cons]
      constructor
      · intro h3
        exact ⟨.inr ((h2 x).1 h3).1, ((h2 x).1 h3).2⟩
      · rintro ⟨rfl | h3, h4⟩
        · exact Classical.byContradiction fun k => h ⟨h4, k⟩
        · exact (h2 x).2 ⟨h3, h4⟩
theorem box_all {S : Int × Int → Prop} (hb : ∀ x, S x → Bnd x) : ∃ l : List (Int × Int), l.Nodup ∧ ∀ x, x ∈ l ↔ S x := by
  obtain ⟨l, h1, h2⟩ := nodup_of S ((List.range 8000001).flatMap fun i : Nat => (List.range 2000001).map fun k : Nat => ((i : Int) - 4000000, (k : Int) - 1000000))
  refine ⟨l, h1, fun x => ?_⟩
  rw [h2 x]
  constructor
  · exact fun h => h.2
  · intro h
    refine And.intro ?_ h
    have hx := hb x h
    unfold Bnd at hx
    rw [List.mem_flatMap]
    refine ⟨(x.1 + 4000000).toNat, List.mem_range.2 (by omega), ?_⟩
    rw [List.mem_map]
    refine ⟨(x.2 + 1000000).toNat, List.mem_range.2 (by omega), ?_⟩
    refine Prod.ext ?_ ?_
    · show (((x.1 + 4000000).toNat : Nat) : Int) - 4000000 = x.1
      omega
    · show (((x.2 + 1000000).toNat : Nat) : Int) - 1000000 = x.2
      omega
theorem gpL_mem {lo hi den lo' hi' den' : Int} (x : Int × Int) : x ∈ gpL lo hi den lo' hi' den' ↔ Sol 1 lo hi den lo' hi' den' x := by
  obtain ⟨l, h1, h2⟩ := box_all (S := Sol 1 lo hi den lo' hi' den') sol1_bnd
  exact (pts_perm sol1_bnd h1 h2).mem_iff.trans (h2 x)
theorem R2_iff {p q : Int} : R2 p q = true ↔ (-1000000 ≤ p ∧ p ≤ 1000000) ∧ (-1000000 ≤ q ∧ q ≤ 1000000) := by
  simp [R2, Lim, Wn]
/-- is a number among the first j -/
def lsJ (P Q : Int) (xs : List Int) : Nat → Bool
  | 0 => false
  | j + 1 => lsJ P Q xs j || (at3 xs (j * 2) == P && at3 xs (j * 2 + 1) == Q)
theorem lsJ_iff {P Q : Int} {xs : List Int} : ∀ {n : Nat}, lsJ P Q xs n = true ↔ ∃ j, j < n ∧ at3 xs (j * 2) = P ∧ at3 xs (j * 2 + 1) = Q
  | 0 => ⟨fun h => absurd h (by unfold lsJ; simp), fun ⟨j, hj, _⟩ => absurd hj (Nat.not_lt_zero _)⟩
  | n + 1 => by
    have e : lsJ P Q xs (n + 1) = (lsJ P Q xs n || (at3 xs (n * 2) == P && at3 xs (n * 2 + 1) == Q)) := rfl
    rw [e, Bool.or_eq_true, Bool.and_eq_true, beq_iff_eq, beq_iff_eq, lsJ_iff]
    constructor
    · rintro (⟨j, hj, h⟩ | h)
      · exact ⟨j, by omega, h⟩
      · exact ⟨n, by omega, h⟩
    · rintro ⟨j, hj, h⟩
      by_cases hn : j = n
      · subst hn; exact .inr h
      · exact .inl ⟨j, by omega, h⟩
structure GF (lo hi den lo' hi' den' : Int) (xs : List Int) (n : Nat) : Prop where
  a : ∀ j, j < n → inV (at3 xs (j * 2)) (at3 xs (j * 2 + 1)) lo hi den = true ∧ (R2 (at3 xs (j * 2)) (at3 xs (j * 2 + 1)) && Rng lo hi den) = true
  b : ∀ j, j < n → inV (at3 xs (j * 2)) (-at3 xs (j * 2 + 1)) lo' hi' den' = true ∧ (R2 (at3 xs (j * 2)) (-at3 xs (j * 2 + 1)) && Rng lo' hi' den') = true
  c : ∀ i j, i + 1 = j → j < n → cmpV (at3 xs (i * 2)) (at3 xs (i * 2 + 1)) (at3 xs (j * 2)) (at3 xs (j * 2 + 1)) = -1 ∧ (R2 (at3 xs (i * 2)) (at3 xs (i * 2 + 1)) && R2 (at3 xs (j * 2)) (at3 xs (j * 2 + 1))) = true
  d : ∀ P Q, (R2 P Q && Rng lo hi den) = true → (R2 P (-Q) && Rng lo' hi' den') = true → lsJ P Q xs n = (inV P Q lo hi den && inV P (-Q) lo' hi' den')
theorem gp_GF {lo hi den lo' hi' den' : Int} (h : gpOk lo hi den lo' hi' den' = true) : GF lo hi den lo' hi' den' (fl2 (gpV lo hi den lo' hi' den')) (gpV lo hi den lo' hi' den').length := by
  have hPL := gp_PL h
  rw [gpV_yes h] at hPL ⊢
  have h1 := h
  unfold gpOk at h1
  simp only [Bool.and_eq_true, decide_eq_true_eq, List.all_eq_true] at h1
  obtain ⟨g1, g2, g3, g4⟩ := h1
  have hS : ∀ j (hj : j < (gpL lo hi den lo' hi' den').length), Sol 1 lo hi den lo' hi' den' (at3 (fl2 (gpL lo hi den lo' hi' den')) (j * 2), at3 (fl2 (gpL lo hi den lo' hi' den')) (j * 2 + 1)) := by
    intro j hj
    rw [(at3_fl2 _ j hj).1, (at3_fl2 _ j hj).2]
    exact (gpL_mem _).1 (List.getElem_mem hj)
  refine ⟨fun j hj => ?_, fun j hj => ?_, fun i j hij hj => ?_, fun P Q e1 e2 => ?_⟩
  · have hb := hPL.b j hj
    have hs := (hS j hj).2.2.1
    have hr := R2_iff.2 hb
    simp only [Int.one_mul] at hs
    unfold inV
    rw [hr, g1, hs]
    exact ⟨rfl, rfl⟩
  · have hb := hPL.b j hj
    have hs := (hS j hj).2.2.2
    have hr : R2 (at3 (fl2 (gpL lo hi den lo' hi' den')) (j * 2)) (-at3 (fl2 (gpL lo hi den lo' hi' den')) (j * 2 + 1)) = true := R2_iff.2 ⟨hb.1, by omega, by omega⟩
    simp only [Int.one_mul] at hs
    unfold inV
    rw [hr, g2, hs]
    exact ⟨rfl, rfl⟩
  · have hb := hPL.b j hj
    have hb' := hPL.b i (by omega)
    have hr := R2_iff.2 hb
    have hr' := R2_iff.2 hb'
    have hk := hPL.r i j (by omega) hj
    unfold cmpV
    rw [hr, hr']
    refine ⟨?_, rfl⟩
    rw [if_pos (by rfl), S2_ky (Cf_mk (by omega)) (Cf_mk (by omega)), ky_sub]
    unfold sg
    split
    · omega
    · split <;> omega
  · rw [Bool.and_eq_true] at e1 e2
    have b1 := R2_bd e1.1
    rw [Bool.eq_iff_iff, lsJ_iff]
    unfold inV
    rw [e1.1, e1.2, e2.1, e2.2]
    simp only [Bool.true_and, Bool.and_eq_true]
    have hm := gpL_mem (lo := lo) (hi := hi) (den := den) (lo' := lo') (hi' := hi') (den' := den') (P, Q)
    have hSol : Sol 1 lo hi den lo' hi' den' (P, Q) ↔ (Lies P Q 1 lo hi den = true ∧ Lies P (-Q) 1 lo' hi' den' = true) := by
      unfold Sol
      simp only [Int.one_mul]
      exact ⟨fun h => h.2.2, fun h => ⟨by omega, by omega, h⟩⟩
    rw [← hSol, ← hm]
    constructor
    · rintro ⟨j, hj, k1, k2⟩
      rw [(at3_fl2 _ j hj).1] at k1
      rw [(at3_fl2 _ j hj).2] at k2
      rw [show (P, Q) = (gpL lo hi den lo' hi' den')[j] from Prod.ext k1.symm k2.symm]
      exact List.getElem_mem hj
    · intro h
      obtain ⟨j, hj, e⟩ := List.mem_iff_getElem.1 h
      refine ⟨j, hj, ?_, ?_⟩
      · rw [(at3_fl2 _ j hj).1, e]
      · rw [(at3_fl2 _ j hj).2, e]

end Go.Proofs.Ytojoljffaedpfaa
