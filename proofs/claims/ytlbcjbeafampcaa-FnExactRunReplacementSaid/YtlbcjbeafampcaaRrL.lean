/- Replacements of runs: the plain side. -/
import Derived.Test.YtlbcjbeafampcaaRunL
namespace Go.Proofs.Ytlbcjbeafampcaa
open Go.RowKit
set_option linter.unusedVariables false

/-- may a gate take a run's place -/
def gIn (q : Int) (ys : List Int) (m : Nat) (k a b : Int) : Bool := gOk q k a b && (k == 12 || insQ ys m k a b)
def gIns (q : Int) (ys : List Int) (m : Nat) (zs : List Int) (l : Nat) : Bool := allTo (fun j => gIn q ys m (at3 zs (j * 3)) (at3 zs (j * 3 + 1)) (at3 zs (j * 3 + 2))) l
theorem runL_mem (xs qs : List Int) (m : Nat) : ∀ (f i c : Nat) (x : Int), x ∈ runL xs qs m f i c → (i : Int) ≤ x ∧ x < i + f := by
  intro f
  induction f with
  | zero => intro i c x h; simp [runL] at h
  | succ f ih =>
    intro i c x h
    unfold runL at h
    split at h
    · simp at h
    · split at h
      · rcases List.mem_cons.1 h with rfl | h
        · omega
        · have := ih (i + 1) (c + 1) x h
          omega
      · split at h
        · simp at h
        · have := ih (i + 1) c x h
          omega
/-- the run's last gate -/
def lastR (L : List Int) : Int := at3 L (L.length - 1)
structure RaF (q at' : Int) (n a b : Nat) (L : List Int) : Prop where
  fa : at' = a
  an : a < n
  n4 : n ≤ 400
  fq : 1 ≤ q ∧ q ≤ 5
  l0 : 0 < L.length
  l6 : L.length ≤ 6
  hd : at3 L 0 = a
  ls : at3 L (L.length - 1) = b
  ab : a ≤ b
  bn : b < n
theorem ra_facts {q at' : Int} {xs ys : List Int} {n m : Nat} (h : raOk q xs n at' ys m = true) : RaF q at' n at'.toNat (lastR (raL q xs n at' ys m)).toNat (raL q xs n at' ys m) := by
  have hL := raL_yes h
  have h6 := raL_len q xs n at' ys m
  unfold raOk at h
  simp only [Bool.and_eq_true] at h
  obtain ⟨h1, h2, h3, h4, h5⟩ := h
  obtain ⟨c1, c2, c3⟩ := cOk_bd h1
  have h4' := Wn_iff.1 h4
  obtain ⟨a, rfl⟩ : ∃ a : Nat, at' = a := ⟨at'.toNat, by omega⟩
  rw [Int.toNat_natCast] at *
  have han : a < n := by omega
  have hrun := runL_in (c := 0) (by omega) han h5
  rw [hL] at h6 ⊢
  have hmem := runL_mem xs ys m (n - a) a 0
  generalize runL xs ys m (n - a) a 0 = L at *
  have h0 : at3 L 0 = a := by rw [hrun]; rfl
  have hl0 : 0 < L.length := by rw [hrun]; simp
  have hlm : at3 L (L.length - 1) ∈ L := by
    unfold at3
    rw [List.getD_eq_getElem?_getD, List.getElem?_eq_getElem (by omega), Option.getD_some]
    exact List.getElem_mem _
  have := hmem _ hlm
  unfold lastR
  exact ⟨rfl, han, c3, ⟨c1, c2⟩, hl0, h6, h0, by omega, by omega, by omega⟩

/-- the gates between that are not in the run -/
def nwL (xs L : List Int) (c a : Nat) : Nat → List Int
  | 0 => []
  | j + 1 => nwL xs L c a j ++ if hasTo L ((a : Int) + (j : Int)) c then [] else [at3 xs ((a + j) * 3), at3 xs ((a + j) * 3 + 1), at3 xs ((a + j) * 3 + 2)]
def nwN (L : List Int) (c a : Nat) : Nat → Nat
  | 0 => 0
  | j + 1 => nwN L c a j + if hasTo L ((a : Int) + (j : Int)) c then 0 else 1
theorem nw_len (xs L : List Int) (c a : Nat) : ∀ j, (nwL xs L c a j).length = nwN L c a j * 3
  | 0 => rfl
  | j + 1 => by
    unfold nwL nwN
    rw [List.length_append, nw_len xs L c a j]
    split <;> simp <;> omega
theorem nw_le (L : List Int) (c a : Nat) : ∀ j, nwN L c a j ≤ j
  | 0 => Nat.le_refl _
  | j + 1 => by
    have := nw_le L c a j
    unfold nwN
    split <;> omega
theorem nwL_yes {xs L : List Int} {c a j : Nat} (h : hasTo L ((a : Int) + (j : Int)) c = true) : nwL xs L c a (j + 1) = nwL xs L c a j ∧ nwN L c a (j + 1) = nwN L c a j := by
  constructor
  · show nwL xs L c a j ++ _ = _
    rw [if_pos h, List.append_nil]
  · show nwN L c a j + _ = _
    rw [if_pos h]; rfl
theorem nwL_no {xs L : List Int} {c a j : Nat} (h : hasTo L ((a : Int) + (j : Int)) c = false) : nwL xs L c a (j + 1) = nwL xs L c a j ++ [at3 xs ((a + j) * 3), at3 xs ((a + j) * 3 + 1), at3 xs ((a + j) * 3 + 2)] ∧ nwN L c a (j + 1) = nwN L c a j + 1 := by
  constructor
  · show nwL xs L c a j ++ _ = _
    rw [if_neg (by rw [h]; simp)]
  · show nwN L c a j + _ = _
    rw [if_neg (by rw [h]; simp)]

section
variable (q : Int) (xs : List Int) (n : Nat) (at' : Int) (ys : List Int) (m : Nat) (zs : List Int) (l : Nat)
def rrB : Nat := (lastR (raL q xs n at' ys m)).toNat
def rrK : Nat := rrB q xs n at' ys m + 1 - at'.toNat
def rrX : List Int := nwL xs (raL q xs n at' ys m) (raL q xs n at' ys m).length at'.toNat (rrK q xs n at' ys m)
def rrM : Nat := nwN (raL q xs n at' ys m) (raL q xs n at' ys m).length at'.toNat (rrK q xs n at' ys m)
def rrOk : Bool := raOk q xs n at' ys m && (gIns q ys m zs l && (decide (rrK q xs n at' ys m ≤ 40) && decide (l + rrM q xs n at' ys m ≤ 40)))
def rrT : Int := if rrOk q xs n at' ys m zs l then at' else 0
def rrO : List Int := if rrOk q xs n at' ys m zs l then (xs.drop (at'.toNat * 3)).take (rrK q xs n at' ys m * 3) else []
def rrOn : Nat := if rrOk q xs n at' ys m zs l then rrK q xs n at' ys m else 0
def rrW : List Int := if rrOk q xs n at' ys m zs l then zs ++ rrX q xs n at' ys m else []
def rrWn : Nat := if rrOk q xs n at' ys m zs l then l + rrM q xs n at' ys m else 0
end
structure RrV (o : Bool) (t t' : Int) (O O' : List Int) (k k' : Nat) (W W' : List Int) (p p' : Nat) : Prop where
  ft : t = if o then t' else 0
  fO : O = if o then O' else []
  fk : k = if o then k' else 0
  fW : W = if o then W' else []
  fp : p = if o then p' else 0
theorem rr_vals (q : Int) (xs : List Int) (n : Nat) (at' : Int) (ys : List Int) (m : Nat) (zs : List Int) (l : Nat) :
    RrV (rrOk q xs n at' ys m zs l) (rrT q xs n at' ys m zs l) at' (rrO q xs n at' ys m zs l) ((xs.drop (at'.toNat * 3)).take (rrK q xs n at' ys m * 3)) (rrOn q xs n at' ys m zs l) (rrK q xs n at' ys m) (rrW q xs n at' ys m zs l) (zs ++ rrX q xs n at' ys m) (rrWn q xs n at' ys m zs l) (l + rrM q xs n at' ys m) :=
  ⟨rfl, rfl, rfl, rfl, rfl⟩
theorem RrV.no {o : Bool} {t t' : Int} {O O' : List Int} {k k' : Nat} {W W' : List Int} {p p' : Nat} (h : RrV o t t' O O' k k' W W' p p') (ho : o = false) : t = 0 ∧ O = [] ∧ k = 0 ∧ W = [] ∧ p = 0 := by
  subst ho
  exact ⟨h.ft, h.fO, h.fk, h.fW, h.fp⟩
theorem RrV.yes {o : Bool} {t t' : Int} {O O' : List Int} {k k' : Nat} {W W' : List Int} {p p' : Nat} (h : RrV o t t' O O' k k' W W' p p') (ho : o = true) : t = t' ∧ O = O' ∧ k = k' ∧ W = W' ∧ p = p' := by
  subst ho
  exact ⟨h.ft, h.fO, h.fk, h.fW, h.fp⟩
theorem rr_lenO {q : Int} {xs : List Int} {n : Nat} {at' : Int} {ys : List Int} {m : Nat} {zs : List Int} {l : Nat} (hx : xs.length = n * 3) : (rrO q xs n at' ys m zs l).length = rrOn q xs n at' ys m zs l * 3 ∧ rrOn q xs n at' ys m zs l ≤ 40 := by
  cases h : rrOk q xs n at' ys m zs l
  · obtain ⟨-, h2, h3, -⟩ := (rr_vals q xs n at' ys m zs l).no h
    rw [h2, h3]; simp
  · obtain ⟨-, h2, h3, -⟩ := (rr_vals q xs n at' ys m zs l).yes h
    rw [h2, h3]
    unfold rrOk at h
    simp only [Bool.and_eq_true, decide_eq_true_eq] at h
    have hf := ra_facts h.1
    have h4 := hf.an
    have h5 := hf.bn
    have h6 := hf.ab
    have h7 : rrK q xs n at' ys m = (lastR (raL q xs n at' ys m)).toNat + 1 - at'.toNat := rfl
    rw [List.length_take, List.length_drop]
    omega
theorem rr_lenW {q : Int} {xs : List Int} {n : Nat} {at' : Int} {ys : List Int} {m : Nat} {zs : List Int} {l : Nat} (hz : zs.length = l * 3) : (rrW q xs n at' ys m zs l).length = rrWn q xs n at' ys m zs l * 3 ∧ rrWn q xs n at' ys m zs l ≤ 40 := by
  cases h : rrOk q xs n at' ys m zs l
  · obtain ⟨-, -, -, h2, h3⟩ := (rr_vals q xs n at' ys m zs l).no h
    rw [h2, h3]; simp
  · obtain ⟨-, -, -, h2, h3⟩ := (rr_vals q xs n at' ys m zs l).yes h
    rw [h2, h3]
    unfold rrOk at h
    simp only [Bool.and_eq_true, decide_eq_true_eq] at h
    unfold rrX
    rw [List.length_append, nw_len, hz]
    have h7 : rrM q xs n at' ys m = nwN (raL q xs n at' ys m) (raL q xs n at' ys m).length at'.toNat (rrK q xs n at' ys m) := rfl
    omega

end Go.Proofs.Ytlbcjbeafampcaa
