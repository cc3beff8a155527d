/- The candidates: which numbers they are, in which order they stand (plain). -/
import Derived.Test.YtbffcpnpdpgfeaaSoC
import Derived.Test.YtbffcpnpdpgfeaaRange
import Derived.Test.YtbffcpnpdpgfeaaRoot
import Derived.Test.YtbffcpnpdpgfeaaRing
namespace Go.Proofs.Ytbffcpnpdpgfeaa
open Go.RowKit
set_option linter.unusedVariables false
set_option linter.unusedSimpArgs false

def smq (u : Q4) : Int := sqU u.a u.b u.c u.d
/-- 2 to the k -/
def Cx.pw (c : Cx) : Int := 2 ^ c.k.toNat
/-- the two tests of a candidate -/
def gdB (c : Cx) (num den : Int) (u : Q4) : Bool := clo (c.ep u) (c.eq u) (erM c.n c.k) num den && Dp (c.pw - smq u) (-(sqV u.a u.b u.c u.d))
def Good (c : Cx) (num den : Int) (u : Q4) : Prop := smq u ≤ c.pw ∧ gdB c num den u = true
theorem pw_bd {c : Cx} (h : 0 ≤ c.k ∧ c.k ≤ 8) : 1 ≤ c.pw ∧ c.pw ≤ 256 := by
  have : c.k = 0 ∨ c.k = 1 ∨ c.k = 2 ∨ c.k = 3 ∨ c.k = 4 ∨ c.k = 5 ∨ c.k = 6 ∨ c.k = 7 ∨ c.k = 8 := by omega
  unfold Cx.pw
  rcases this with e | e | e | e | e | e | e | e | e <;> rw [e] <;> decide
theorem sq_nn (x : Int) : 0 ≤ x * x := by
  rcases Int.le_total 0 x with h | h
  · exact Int.mul_nonneg h h
  · exact Int.mul_nonneg_of_nonpos_of_nonpos h h
/-- what the root of n says of x -/
theorem isq_iff {n x : Int} (h : 0 ≤ n ∧ n ≤ 400) : x * x ≤ n ↔ -isq n ≤ x ∧ x ≤ isq n := by
  obtain ⟨h1, h2, h3, h4⟩ := isq_of h
  generalize isq n = s at *
  constructor
  · intro hx
    constructor
    · rcases Int.lt_or_le x (-s) with hlt | hge
      · have := Int.mul_le_mul (a := s + 1) (b := s + 1) (c := -x) (d := -x) (by omega) (by omega) (by omega) (by omega)
        rw [Int.neg_mul_neg] at this
        omega
      · exact hge
    · rcases Int.lt_or_le s x with hlt | hge
      · have := Int.mul_le_mul (a := s + 1) (b := s + 1) (c := x) (d := x) (by omega) (by omega) (by omega) (by omega)
        omega
      · exact hge
  · rintro ⟨a1, a2⟩
    rcases Int.le_total 0 x with hx | hx
    · have := Int.mul_le_mul (a := x) (b := x) (c := s) (d := s) a2 a2 hx h1
      omega
    · have := Int.mul_le_mul (a := -x) (b := -x) (c := s) (d := s) (by omega) (by omega) (by omega) h1
      rw [Int.neg_mul_neg] at this
      omega
theorem smq_parts (u : Q4) : smq u = u.a * u.a + u.b * u.b + u.c * u.c + u.d * u.d := rfl
/-- the coefficients of a number with a small sum of squares -/
theorem small_of_smq {c : Cx} (h : 0 ≤ c.k ∧ c.k ≤ 8) {u : Q4} (hu : smq u ≤ c.pw) : (-isq c.pw ≤ u.a ∧ u.a ≤ isq c.pw) ∧ (-isq c.pw ≤ u.b ∧ u.b ≤ isq c.pw) ∧ (-isq c.pw ≤ u.c ∧ u.c ≤ isq c.pw) ∧ (-isq c.pw ≤ u.d ∧ u.d ≤ isq c.pw) := by
  have hp := pw_bd h
  have e := smq_parts u
  have a := sq_nn u.a
  have b := sq_nn u.b
  have c' := sq_nn u.c
  have d := sq_nn u.d
  exact ⟨(isq_iff ⟨by omega, by omega⟩).1 (by omega), (isq_iff ⟨by omega, by omega⟩).1 (by omega), (isq_iff ⟨by omega, by omega⟩).1 (by omega), (isq_iff ⟨by omega, by omega⟩).1 (by omega)⟩
theorem isq_pw {c : Cx} (h : 0 ≤ c.k ∧ c.k ≤ 8) : 0 ≤ isq c.pw ∧ isq c.pw ≤ 16 := by
  have hp := pw_bd h
  obtain ⟨h1, h2, h3, h4⟩ := isq_of (n := c.pw) ⟨by omega, by omega⟩
  refine ⟨h1, ?_⟩
  rcases Int.lt_or_le 16 (isq c.pw) with hlt | hge
  · have := Int.mul_le_mul (a := 17) (b := 17) (c := isq c.pw) (d := isq c.pw) (by omega) (by omega) (by omega) (by omega)
    omega
  · exact hge
/-- the target and k are valid -/
def Cx.tg (c : Cx) : Prop := Tg c.x c.y c.n = true ∧ 0 ≤ c.k ∧ c.k ≤ 8
theorem Cx.small {c : Cx} (h : c.tg) {u : Q4} (hu : smq u ≤ c.pw) (hb : (1 ≤ c.n ∧ c.n ≤ 1000) ∧ (-1000 ≤ c.x ∧ c.x ≤ 1000) ∧ -1000 ≤ c.y ∧ c.y ≤ 1000) : c.ok u := by
  obtain ⟨a, b, d, e⟩ := small_of_smq h.2 hu
  have hi := isq_pw h.2
  exact ⟨hb.1, hb.2.1, hb.2.2, by omega, by omega, by omega, by omega, h.2⟩

/-- which numbers the loops have passed -/
def VA (a : Int) (u : Q4) : Prop := u.a < a
def VB (a b : Int) (u : Q4) : Prop := u.a < a ∨ (u.a = a ∧ u.b < b)
def VC (a b c : Int) (u : Q4) : Prop := u.a < a ∨ (u.a = a ∧ (u.b < b ∨ (u.b = b ∧ u.c < c)))
def VD (a b c d : Int) (u : Q4) : Prop := u.a < a ∨ (u.a = a ∧ (u.b < b ∨ (u.b = b ∧ (u.c < c ∨ (u.c = c ∧ u.d < d)))))
theorem vd_lx {a b c d : Int} {u : Q4} (h : VD a b c d u) : lx u ⟨a, b, c, d⟩ := h
theorem vd_step {a b c d : Int} {u : Q4} : VD a b c (d + 1) u ↔ VD a b c d u ∨ u = ⟨a, b, c, d⟩ := by
  obtain ⟨x, y, z, t⟩ := u
  simp only [VD, Q4.mk.injEq]
  omega
section
variable {c : Cx} {num den : Int}
/-- all candidates of the loops' piece lie within the roots -/
theorem rootA (h : 0 ≤ c.k ∧ c.k ≤ 8) {u : Q4} (hu : Good c num den u) : -isq c.pw ≤ u.a ∧ u.a ≤ isq c.pw := (small_of_smq h hu.1).1
theorem rootB (h : 0 ≤ c.k ∧ c.k ≤ 8) {u : Q4} (hu : Good c num den u) : -isq (c.pw - u.a * u.a) ≤ u.b ∧ u.b ≤ isq (c.pw - u.a * u.a) := by
  have hp := pw_bd h
  have e := smq_parts u
  have a := sq_nn u.a
  have b := sq_nn u.b
  have c' := sq_nn u.c
  have d := sq_nn u.d
  have := hu.1
  exact (isq_iff ⟨by omega, by omega⟩).1 (by omega)
theorem rootC (h : 0 ≤ c.k ∧ c.k ≤ 8) {u : Q4} (hu : Good c num den u) : -isq (c.pw - u.a * u.a - u.b * u.b) ≤ u.c ∧ u.c ≤ isq (c.pw - u.a * u.a - u.b * u.b) := by
  have hp := pw_bd h
  have e := smq_parts u
  have a := sq_nn u.a
  have b := sq_nn u.b
  have c' := sq_nn u.c
  have d := sq_nn u.d
  have := hu.1
  exact (isq_iff ⟨by omega, by omega⟩).1 (by omega)
theorem rootD (h : 0 ≤ c.k ∧ c.k ≤ 8) {u : Q4} (hu : Good c num den u) : -isq (c.pw - u.a * u.a - u.b * u.b - u.c * u.c) ≤ u.d ∧ u.d ≤ isq (c.pw - u.a * u.a - u.b * u.b - u.c * u.c) := by
  have hp := pw_bd h
  have e := smq_parts u
  have a := sq_nn u.a
  have b := sq_nn u.b
  have c' := sq_nn u.c
  have d := sq_nn u.d
  have := hu.1
  exact (isq_iff ⟨by omega, by omega⟩).1 (by omega)
end

/-- sorted lists -/
noncomputable def cdL (c : Cx) (num den : Int) : List Q4 := theL (So.Lt c.key lx) (Good c num den)
theorem lt_total (c : Cx) (x y : Q4) : x = y ∨ So.Lt c.key lx x y ∨ So.Lt c.key lx y x := by
  rcases Int.lt_trichotomy (c.key x) (c.key y) with h | h | h
  · exact .inr (.inl (.inl h))
  · obtain ⟨a1, a2, a3, a4⟩ := x
    obtain ⟨b1, b2, b3, b4⟩ := y
    by_cases e : a1 = b1 ∧ a2 = b2 ∧ a3 = b3 ∧ a4 = b4
    · obtain ⟨rfl, rfl, rfl, rfl⟩ := e
      exact .inl rfl
    · have hl : lx ⟨a1, a2, a3, a4⟩ ⟨b1, b2, b3, b4⟩ ∨ lx ⟨b1, b2, b3, b4⟩ ⟨a1, a2, a3, a4⟩ := by
        simp only [lx]
        omega
      rcases hl with hl | hl
      · exact .inr (.inl (.inr ⟨h, hl⟩))
      · exact .inr (.inr (.inr ⟨h.symm, hl⟩))
  · exact .inr (.inr (.inl h))
/-- where a number stands in a sorted list -/
theorem pw_split (c : Cx) (x : Q4) : ∀ (l : List Q4), l.Pairwise (So.Lt c.key lx) → x ∉ l → ∃ l1 l2, l = l1 ++ l2 ∧ (∀ y ∈ l1, So.Lt c.key lx y x) ∧ ∀ y ∈ l2, So.Lt c.key lx x y
  | [], _, _ => ⟨[], [], rfl, by simp, by simp⟩
  | z :: l, h, hx => by
    rw [List.pairwise_cons] at h
    rcases lt_total c x z with e | e | e
    · exact absurd (by simp [e]) hx
    · refine ⟨[], z :: l, rfl, by simp, fun y hy => ?_⟩
      rcases List.mem_cons.1 hy with rfl | hy
      · exact e
      · exact So.lt_trans lx_ord e (h.1 y hy)
    · obtain ⟨l1, l2, e1, e2, e3⟩ := pw_split c x l h.2 (fun hm => hx (by simp [hm]))
      refine ⟨z :: l1, l2, by rw [e1]; rfl, fun y hy => ?_, e3⟩
      rcases List.mem_cons.1 hy with rfl | hy
      · exact e
      · exact e2 y hy
theorem pw_exists (c : Cx) (P : Q4 → Prop) : ∀ (bl : List Q4), ∃ l : List Q4, l.Pairwise (So.Lt c.key lx) ∧ ∀ x, x ∈ l ↔ x ∈ bl ∧ P x
  | [] => ⟨[], List.Pairwise.nil, by simp⟩
  | z :: bl => by
    obtain ⟨l, h1, h2⟩ := pw_exists c P bl
    by_cases hz : P z ∧ z ∉ l
    · obtain ⟨l1, l2, rfl, e2, e3⟩ := pw_split c z l h1 hz.2
      refine ⟨l1 ++ z :: l2, pw_insert h1 e2 e3, fun x => ?_⟩
      have := h2 x
      simp only [List.mem_append, List.mem_cons] at this ⊢
      constructor
      · rintro (h | rfl | h)
        · exact ⟨.inr (this.1 (.inl h)).1, (this.1 (.inl h)).2⟩
        · exact ⟨.inl rfl, hz.1⟩
        · exact ⟨.inr (this.1 (.inr h)).1, (this.1 (.inr h)).2⟩
      · rintro ⟨rfl | h, hp⟩
        · exact .inr (.inl rfl)
        · rcases this.2 ⟨h, hp⟩ with h | h
          · exact .inl h
          · exact .inr (.inr h)
    · refine ⟨l, h1, fun x => ?_⟩
      rw [h2 x]
      simp only [List.mem_cons]
      constructor
      · rintro ⟨h, hp⟩
        exact ⟨.inr h, hp⟩
      · rintro ⟨rfl | h, hp⟩
        · have : x ∈ l := Classical.byContradiction fun hn => hz ⟨hp, hn⟩
          exact (h2 x).1 this
        · exact ⟨h, hp⟩
/-- the numbers of the box -/
def rg16 : List Int := (List.range 33).map fun (i : Nat) => (i : Int) - 16
theorem rg16_mem {x : Int} (h : -16 ≤ x ∧ x ≤ 16) : x ∈ rg16 := List.mem_map.2 ⟨(x + 16).toNat, List.mem_range.2 (by omega), by omega⟩
def box16 : List Q4 := rg16.flatMap fun a => rg16.flatMap fun b => rg16.flatMap fun c => rg16.map fun d => ⟨a, b, c, d⟩
theorem box16_mem {u : Q4} (h : (-16 ≤ u.a ∧ u.a ≤ 16) ∧ (-16 ≤ u.b ∧ u.b ≤ 16) ∧ (-16 ≤ u.c ∧ u.c ≤ 16) ∧ -16 ≤ u.d ∧ u.d ≤ 16) : u ∈ box16 := by
  unfold box16
  simp only [List.mem_flatMap, List.mem_map]
  exact ⟨u.a, rg16_mem h.1, u.b, rg16_mem h.2.1, u.c, rg16_mem h.2.2.1, u.d, rg16_mem h.2.2.2, rfl⟩
theorem cdL_spec {c : Cx} (h : 0 ≤ c.k ∧ c.k ≤ 8) (num den : Int) : (cdL c num den).Pairwise (So.Lt c.key lx) ∧ ∀ x, x ∈ cdL c num den ↔ Good c num den x := by
  obtain ⟨l, h1, h2⟩ := pw_exists c (Good c num den) box16
  have h3 : ∀ x, x ∈ l ↔ Good c num den x := fun x => by
    rw [h2 x]
    refine ⟨fun h => h.2, fun hg => ⟨box16_mem ?_, hg⟩⟩
    have hs := small_of_smq h hg.1
    have hi := isq_pw h
    omega
  have e : l = cdL c num den := theL_eq (fun x => So.lt_irr lx_ord x) (fun x y z => So.lt_trans lx_ord) h1 h3
  rw [← e]
  exact ⟨h1, h3⟩
theorem len_sub : ∀ (l L : List Q4), l.Nodup → (∀ x ∈ l, x ∈ L) → l.length ≤ L.length
  | [], L, _, _ => Nat.zero_le _
  | x :: l, L, hn, hs => by
    obtain ⟨L1, L2, rfl⟩ := List.append_of_mem (hs x (by simp))
    rw [List.nodup_cons] at hn
    have := len_sub l (L1 ++ L2) hn.2 fun y hy => by
      have h := hs y (by simp [hy])
      have hne : y ≠ x := fun e => hn.1 (e ▸ hy)
      simp only [List.mem_append, List.mem_cons] at h ⊢
      rcases h with h | h | h
      · exact .inl h
      · exact absurd h hne
      · exact .inr h
    simp only [List.length_append, List.length_cons] at this ⊢
    omega
theorem pw_nodup {c : Cx} {l : List Q4} (h : l.Pairwise (So.Lt c.key lx)) : l.Nodup := h.imp fun {a b} hab e => by subst e; exact So.lt_irr lx_ord _ hab
/-- a sorted list of candidates is not longer than all of them -/
theorem cdL_long {c : Cx} (h : 0 ≤ c.k ∧ c.k ≤ 8) {num den : Int} {l : List Q4} (h1 : l.Pairwise (So.Lt c.key lx)) (h2 : ∀ x ∈ l, Good c num den x) : l.length ≤ (cdL c num den).length :=
  len_sub l _ (pw_nodup h1) fun x hx => ((cdL_spec h num den).2 x).2 (h2 x hx)
theorem cdL_eq {c : Cx} {num den : Int} {l : List Q4} (h1 : l.Pairwise (So.Lt c.key lx)) (h2 : ∀ x, x ∈ l ↔ Good c num den x) : l = cdL c num den :=
  theL_eq (fun x => So.lt_irr lx_ord x) (fun x y z => So.lt_trans lx_ord) h1 h2
/-- a sorted row as a list -/
def rowL (Y : Nat → Q4) (n : Nat) : List Q4 := (List.range n).map Y
theorem rowL_pw {c : Cx} {Y : Nat → Q4} {n : Nat} (h : So.Sorted c.key lx 0 n Y) : (rowL Y n).Pairwise (So.Lt c.key lx) := by
  unfold rowL
  rw [List.pairwise_map]
  refine List.Pairwise.imp_of_mem (fun {a b} ha hb hab => h a b (Nat.zero_le _) hab (List.mem_range.1 hb)) (List.pairwise_lt_range)
theorem rowL_mem {Y : Nat → Q4} {n : Nat} {x : Q4} : x ∈ rowL Y n ↔ ∃ p, p < n ∧ Y p = x := by
  unfold rowL
  simp only [List.mem_map, List.mem_range]
/-- the cells of a list -/
def fl4 (l : List Q4) : List Int := l.flatMap fun u => [u.a, u.b, u.c, u.d]
theorem fl4_len (l : List Q4) : (fl4 l).length = l.length * 4 := by
  induction l with
  | nil => rfl
  | cons x l ih =>
    simp only [fl4, List.flatMap_cons, List.length_append, List.length_cons, List.length_nil] at ih ⊢
    omega
theorem fl4_app (l m : List Q4) : fl4 (l ++ m) = fl4 l ++ fl4 m := by simp [fl4]
theorem mo4_row (Y : Nat → Q4) : ∀ n, mo4 Y n = fl4 (rowL Y n)
  | 0 => rfl
  | n + 1 => by
    rw [mo4, mo4_row Y n]
    unfold rowL
    rw [List.range_succ, List.map_append, fl4_app]
    rfl

end Go.Proofs.Ytbffcpnpdpgfeaa
