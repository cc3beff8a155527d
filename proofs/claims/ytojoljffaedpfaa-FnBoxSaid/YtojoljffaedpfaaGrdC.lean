/- The grid: the one list (plain). -/
import Derived.Test.YtojoljffaedpfaaGrdS
import Derived.Test.YtojoljffaedpfaaGateL
namespace Go.Proofs.Ytojoljffaedpfaa
open Go.RowKit
set_option linter.unusedVariables false

def ltK (x y : Int × Int) : Prop := ky x.1 x.2 < ky y.1 y.2
theorem ltK_irr (x : Int × Int) : ¬ ltK x x := by unfold ltK; omega
theorem ltK_tr (x y z : Int × Int) (h1 : ltK x y) (h2 : ltK y z) : ltK x z := by unfold ltK at *; omega
/-- parts within bounds -/
def Bnd (x : Int × Int) : Prop := (-4000000 ≤ x.1 ∧ x.1 ≤ 4000000) ∧ (-1000000 ≤ x.2 ∧ x.2 ≤ 1000000)
theorem ky_inj {x y : Int × Int} (hx : Bnd x) (hy : Bnd y) (h : ky x.1 x.2 = ky y.1 y.2) : x = y := by
  unfold Bnd at hx hy
  have := ky_zero (u := x.1 - y.1) (v := x.2 - y.2) (by omega) (by rw [ky_sub]; omega)
  exact Prod.ext (by omega) (by omega)
theorem sorted_eq {S : Int × Int → Prop} {l : List (Int × Int)} (hb : ∀ x, S x → Bnd x) (hn : l.Nodup) (hm : ∀ x, x ∈ l ↔ S x) (hs : l.Pairwise fun x y => ¬ ky y.1 y.2 < ky x.1 x.2) : l = theL ltK S := by
  refine theL_eq ltK_irr ltK_tr ?_ hm
  have h2 := (List.pairwise_and_iff.2 ⟨hn, hs⟩)
  refine h2.imp_of_mem ?_
  rintro x y hx hy ⟨h3, h4⟩
  have h4' : ¬ ky y.1 y.2 < ky x.1 x.2 := h4
  have h5 : ¬ ky x.1 x.2 = ky y.1 y.2 := fun e => h3 (ky_inj (hb x ((hm x).1 hx)) (hb y ((hm y).1 hy)) e)
  show ky x.1 x.2 < ky y.1 y.2
  omega
theorem pts_perm {S : Int × Int → Prop} {l : List (Int × Int)} (hb : ∀ x, S x → Bnd x) (hn : l.Nodup) (hm : ∀ x, x ∈ l ↔ S x) : (theL ltK S).Perm l := by
  have hp := List.mergeSort_perm l (fun x y => decide (ky x.1 x.2 ≤ ky y.1 y.2))
  have hs := List.pairwise_mergeSort (le := fun x y : Int × Int => decide (ky x.1 x.2 ≤ ky y.1 y.2)) (by intro a b c h1 h2; simp only [decide_eq_true_eq] at *; omega) (by intro a b; simp only [Bool.or_eq_true, decide_eq_true_eq]; omega) l
  rw [← sorted_eq (l := l.mergeSort fun x y => decide (ky x.1 x.2 ≤ ky y.1 y.2)) hb (hp.nodup_iff.2 hn) (fun x => hp.mem_iff.trans (hm x)) (hs.imp (by intro x y h; simp only [decide_eq_true_eq] at h; omega))]
  exact hp
theorem sol1_bnd {lo hi den lo' hi' den' : Int} (x : Int × Int) (h : Sol 1 lo hi den lo' hi' den' x) : Bnd x := by
  obtain ⟨h1, h2, -⟩ := h
  exact ⟨by omega, h2⟩

/-- are all points valid -/
def okTo (xs : List Int) (n : Nat) : Bool := allTo (fun j => R2 (at3 xs (j * 2)) (at3 xs (j * 2 + 1))) n
theorem at3_fl2 (l : List (Int × Int)) (j : Nat) (h : j < l.length) : at3 (fl2 l) (j * 2) = l[j].1 ∧ at3 (fl2 l) (j * 2 + 1) = l[j].2 := by
  have := fl2_get l j h
  unfold at3
  rw [List.getD_eq_getElem?_getD, List.getD_eq_getElem?_getD, this.1, this.2]
  exact ⟨rfl, rfl⟩
theorem allTo_iff {f : Nat → Bool} : ∀ {n : Nat}, allTo f n = true ↔ ∀ j, j < n → f j = true
  | 0 => ⟨fun _ j hj => absurd hj (Nat.not_lt_zero _), fun _ => rfl⟩
  | n + 1 => by
    rw [allTo_succ, Bool.and_eq_true, allTo_iff]
    exact ⟨fun h j hj => if e : j = n then e ▸ h.2 else h.1 j (by omega), fun h => ⟨fun j hj => h j (by omega), h n (by omega)⟩⟩
theorem okTo_all (l : List (Int × Int)) : okTo (fl2 l) l.length = l.all (fun x => R2 x.1 x.2) := by
  rw [Bool.eq_iff_iff, List.all_eq_true]
  unfold okTo
  rw [allTo_iff]
  constructor
  · intro h x hx
    obtain ⟨j, hj, rfl⟩ := List.getElem_of_mem hx
    have := h j hj
    rw [(at3_fl2 l j hj).1, (at3_fl2 l j hj).2] at this
    exact this
  · intro h j hj
    rw [(at3_fl2 l j hj).1, (at3_fl2 l j hj).2]
    exact h _ (List.getElem_mem hj)

/-- the points of the grid, rising; are they returned; what is returned -/
noncomputable def gpL (lo hi den lo' hi' den' : Int) : List (Int × Int) := theL ltK (Sol 1 lo hi den lo' hi' den')
noncomputable def gpOk (lo hi den lo' hi' den' : Int) : Bool := Rng lo hi den && (Rng lo' hi' den' && (decide ((gpL lo hi den lo' hi' den').length ≤ 1000) && (gpL lo hi den lo' hi' den').all (fun x => R2 x.1 x.2)))
noncomputable def gpV (lo hi den lo' hi' den' : Int) : List (Int × Int) := if gpOk lo hi den lo' hi' den' then gpL lo hi den lo' hi' den' else []
theorem gpV_no {lo hi den lo' hi' den' : Int} (h : gpOk lo hi den lo' hi' den' = false) : gpV lo hi den lo' hi' den' = [] := by unfold gpV; rw [h]; rfl
theorem gpV_yes {lo hi den lo' hi' den' : Int} (h : gpOk lo hi den lo' hi' den' = true) : gpV lo hi den lo' hi' den' = gpL lo hi den lo' hi' den' := by unfold gpV; rw [h]; rfl
theorem gp_len (lo hi den lo' hi' den' : Int) : (gpV lo hi den lo' hi' den').length ≤ 1000 := by
  cases h : gpOk lo hi den lo' hi' den'
  · rw [gpV_no h]; simp
  · rw [gpV_yes h]
    unfold gpOk at h
    simp only [Bool.and_eq_true, decide_eq_true_eq] at h
    exact h.2.2.1
/-- by any list that holds just the points -/
theorem gpOk_by {lo hi den lo' hi' den' : Int} {L : List (Int × Int)} (hn : L.Nodup) (hm : ∀ x, x ∈ L ↔ Sol 1 lo hi den lo' hi' den' x) (ra : Rng lo hi den = true) (rb : Rng lo' hi' den' = true) :
    gpOk lo hi den lo' hi' den' = (decide (L.length ≤ 1000) && L.all (fun x => R2 x.1 x.2)) := by
  have hp := pts_perm sol1_bnd hn hm
  unfold gpOk gpL
  rw [ra, rb, hp.length_eq, Bool.true_and, Bool.true_and]
  congr 1
  rw [Bool.eq_iff_iff, List.all_eq_true, List.all_eq_true]
  exact ⟨fun h x hx => h x (hp.mem_iff.2 hx), fun h x hx => h x (hp.mem_iff.1 hx)⟩
theorem gpL_by {lo hi den lo' hi' den' : Int} {L L' : List (Int × Int)} (hn : L.Nodup) (hm : ∀ x, x ∈ L ↔ Sol 1 lo hi den lo' hi' den' x) (hp : L'.Perm L) (hs : L'.Pairwise fun x y => ¬ ky y.1 y.2 < ky x.1 x.2) : L' = gpL lo hi den lo' hi' den' :=
  sorted_eq sol1_bnd (hp.nodup_iff.2 hn) (fun x => hp.mem_iff.trans (hm x)) hs

end Go.Proofs.Ytojoljffaedpfaa
