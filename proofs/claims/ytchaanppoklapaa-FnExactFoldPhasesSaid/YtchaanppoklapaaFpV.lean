/- Folding: what is returned; its gates are valid. -/
import Derived.Test.YtchaanppoklapaaFpX
import Derived.Test.YtchaanppoklapaaRoU
namespace Go.Proofs.Ytchaanppoklapaa
open Go.RowKit
set_option linter.unusedVariables false
set_option linter.unusedSimpArgs false

def trC (g : Int × Int × Int) : List Int := [g.1, g.2.1, g.2.2]
/-- a list of valid gates -/
def GLs (q : Int) (L : List Int) : Prop := ∃ gs : List (Int × Int × Int), L = gs.flatMap trC ∧ ∀ g ∈ gs, gOk q g.1 g.2.1 g.2.2 = true
theorem GLs.nil (q : Int) : GLs q [] := ⟨[], rfl, fun _ h => by cases h⟩
theorem GLs.app {q : Int} {L M : List Int} (h : GLs q L) (k : GLs q M) : GLs q (L ++ M) := by
  obtain ⟨gs, rfl, h1⟩ := h
  obtain ⟨gs', rfl, h2⟩ := k
  exact ⟨gs ++ gs', by rw [List.flatMap_append], fun g hg => (List.mem_append.1 hg).elim (h1 g) (h2 g)⟩
theorem GLs.one {q k a b : Int} (h : gOk q k a b = true) : GLs q [k, a, b] := ⟨[(k, a, b)], rfl, fun g hg => by simp at hg; subst hg; exact h⟩
theorem GLs.all {q : Int} {L : List Int} (h : GLs q L) : gAll q L (L.length / 3) = true := by
  obtain ⟨gs, rfl, h1⟩ := h
  have hl : (gs.flatMap trC).length = gs.length * 3 := fm_len (f := trC) (k := 3) (fun _ => rfl) gs
  unfold gAll
  rw [hl, Nat.mul_div_cancel _ (by decide)]
  have hall : ∀ j, j < gs.length → gOk q (at3 (gs.flatMap trC) (j * 3)) (at3 (gs.flatMap trC) (j * 3 + 1)) (at3 (gs.flatMap trC) (j * 3 + 2)) = true := by
    intro j hj
    have g0 := fm_get (f := trC) (k := 3) (fun _ => rfl) gs j 0 hj (by decide)
    have g1 := fm_get (f := trC) (k := 3) (fun _ => rfl) gs j 1 hj (by decide)
    have g2 := fm_get (f := trC) (k := 3) (fun _ => rfl) gs j 2 hj (by decide)
    have e0 : at3 (gs.flatMap trC) (j * 3) = gs[j].1 := by unfold at3; rw [List.getD_eq_getElem?_getD, ← Nat.add_zero (j * 3), g0]; rfl
    have e1 : at3 (gs.flatMap trC) (j * 3 + 1) = gs[j].2.1 := by unfold at3; rw [List.getD_eq_getElem?_getD, g1]; rfl
    have e2 : at3 (gs.flatMap trC) (j * 3 + 2) = gs[j].2.2 := by unfold at3; rw [List.getD_eq_getElem?_getD, g2]; rfl
    rw [e0, e1, e2]
    exact h1 _ (List.getElem_mem hj)
  generalize gs.length = n at hall
  clear hl h1
  induction n with
  | zero => rfl
  | succ n ih => rw [allTo_succ, ih (fun j hj => hall j (by omega)), hall n (by omega)]; rfl
theorem gOk_rot {q k a b k' : Int} (h : gOk q k a b = true) (hk : 1 ≤ k ∧ k ≤ 8) (hk' : 1 ≤ k' ∧ k' ≤ 8) : gOk q k' a 0 = true := by
  unfold gOk at h ⊢
  rw [if_pos (Wn_iff.2 hk)] at h
  rw [if_pos (Wn_iff.2 hk')]
  simp only [Bool.and_eq_true] at h ⊢
  exact ⟨h.1, by simp⟩
theorem gOk_W (q : Int) : gOk q 12 0 0 = true := by
  unfold gOk
  rw [if_neg (by rw [Wn_iff]; omega), if_neg (by rw [Wn_iff]; omega)]
  rfl
theorem cfK_k {k : Int} (h : 0 < cfK k) : 4 ≤ k ∧ k ≤ 8 := by
  unfold cfK at h
  split at h
  · omega
  split at h
  · omega
  split at h
  · omega
  split at h
  · omega
  split at h
  · omega
  · omega
theorem rotK_k {c : Nat} {k : Int} (h : k ∈ rotK c) : 1 ≤ k ∧ k ≤ 8 := by
  unfold rotK at h
  repeat' split at h
  all_goals simp at h
  all_goals omega
theorem GLs.rot {q k a b : Int} (h : gOk q k a b = true) (hk : 0 < cfK k) (c : Nat) : GLs q (rotL a c) := by
  have h4 := cfK_k hk
  refine ⟨(rotK c).map (fun k' => (k', a, 0)), ?_, fun g hg => ?_⟩
  · unfold rotL
    rw [List.flatMap_map]
    rfl
  · simp only [List.mem_map] at hg
    obtain ⟨k', hk', rfl⟩ := hg
    exact gOk_rot h (by omega) (rotK_k hk')
theorem GLs.ph (q : Int) : ∀ s, GLs q (phL s)
  | 0 => GLs.nil q
  | s + 1 => (GLs.ph q s).app (GLs.one (gOk_W q))
theorem GLs.fpP {q : Int} {xs : List Int} {n : Nat} {σ : Fs} (h : FsJ xs n σ) {j : Nat} {a b : Int} (hg : gOk q (at3 xs (j * 3)) a b = true) : GLs q (fpP σ.G (at3 xs (j * 3)) a b j) := by
  unfold Go.Proofs.Ytchaanppoklapaa.fpP
  split
  · rename_i hf
    split
    · exact GLs.rot hg (h.nc _ j hf (fdL_at hf)) _
    · exact GLs.nil q
  · exact GLs.one hg
theorem GLs.fpL {q : Int} {xs : List Int} {n : Nat} {σ : Fs} (h : FsJ xs n σ) (hg : ∀ j, j < n → gOk q (at3 xs (j * 3)) (at3 xs (j * 3 + 1)) (at3 xs (j * 3 + 2)) = true) : ∀ j, j ≤ n → GLs q (fpL σ.G xs j)
  | 0, _ => GLs.nil q
  | j + 1, hj => (GLs.fpL h hg j (by omega)).app (GLs.fpP h (hg j (by omega)))

/-- all gates that are written -/
def fpT (q : Int) (xs : List Int) (n : Nat) : List Int := fpL (fsS q.toNat xs n).G xs n ++ phL (fsS q.toNat xs n).s
def fpM (q : Int) (xs : List Int) (n : Nat) : Nat := (fpT q xs n).length / 3
def fOk (q : Int) (xs : List Int) (n : Nat) : Bool := mOk q xs n && decide (fpM q xs n ≤ 400)
def fQ (q : Int) (xs : List Int) (n : Nat) : Int := if fOk q xs n then q else 0
def fN (q : Int) (xs : List Int) (n : Nat) : Nat := if fOk q xs n then fpM q xs n else 0
def fL (q : Int) (xs : List Int) (n : Nat) : List Int := if fOk q xs n then fpT q xs n else []
theorem fpT_len (q : Int) (xs : List Int) (n : Nat) : (fpT q xs n).length = fpM q xs n * 3 := by
  unfold fpM fpT
  obtain ⟨m, _, h⟩ := fpL_len (fsS q.toNat xs n).G xs n
  rw [List.length_append, h, phL_len]
  omega
theorem fL_len (q : Int) (xs : List Int) (n : Nat) : (fL q xs n).length = fN q xs n * 3 := by
  unfold fL fN
  split
  · exact fpT_len q xs n
  · rfl
theorem fN_le (q : Int) (xs : List Int) (n : Nat) : fN q xs n ≤ 400 := by
  unfold fN
  split
  · rename_i h
    unfold fOk at h
    simp only [Bool.and_eq_true, decide_eq_true_eq] at h
    exact h.2
  · omega
theorem mOk_facts {q : Int} {xs : List Int} {n : Nat} (h : mOk q xs n = true) : ∃ Q : Nat, q = Q ∧ 1 ≤ Q ∧ Q ≤ 5 ∧ n ≤ 400 ∧ FsI Q n (fsS Q xs n) ∧ FsJ xs n (fsS Q xs n) ∧ cOk Q xs n = true ∧ fsK Q xs n = true ∧ ∀ j, j < n → gOk Q (at3 xs (j * 3)) (at3 xs (j * 3 + 1)) (at3 xs (j * 3 + 2)) = true := by
  unfold mOk at h
  simp only [Bool.and_eq_true] at h
  have hq := cOk_qn h.1
  obtain ⟨Q, rfl⟩ : ∃ Q : Nat, q = Q := ⟨q.toNat, by omega⟩
  refine ⟨Q, rfl, by omega, by omega, hq.2.2, fs_inv h.1 n (Nat.le_refl _) h.2, fsJ_inv h.1 n (Nat.le_refl _) h.2, h.1, h.2, fun j hj => ?_⟩
  have hc := h.1
  unfold cOk at hc
  simp only [Bool.and_eq_true, decide_eq_true_eq] at hc
  exact allTo_at (f := fun j => gOk Q (at3 xs (j * 3)) (at3 xs (j * 3 + 1)) (at3 xs (j * 3 + 2))) hc.2.2 hj
theorem fpT_ok {q : Int} {xs : List Int} {n : Nat} (h : mOk q xs n = true) : cOk q (fpT q xs n) (fpM q xs n) = fOk q xs n := by
  unfold fOk
  rw [h]
  obtain ⟨Q, rfl, h1, h2, h3, hI, hJ, _, _, hg⟩ := mOk_facts h
  have hG : GLs Q (fpT Q xs n) := (GLs.fpL hJ hg n (Nat.le_refl _)).app (GLs.ph _ _)
  have ha : gAll (Q : Int) (fpT Q xs n) (fpM Q xs n) = true := hG.all
  unfold cOk
  rw [ha, Wn_iff.2 ⟨by omega, by omega⟩]
  simp

end Go.Proofs.Ytchaanppoklapaa
