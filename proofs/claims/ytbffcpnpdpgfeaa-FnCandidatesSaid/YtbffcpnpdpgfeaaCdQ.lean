/- CandidatesFor: the program's enumeration (smallRings). -/
import Derived.Test.YtbffcpnpdpgfeaaCdP
namespace Go.Proofs.Ytbffcpnpdpgfeaa
open Go.RowKit
set_option linter.unusedVariables false
set_option linter.unusedSimpArgs false

/-- a number's place in the box -/
def plc (u : Q4) : Int := (u.a + 16) * 35937 + (u.b + 16) * 1089 + (u.c + 16) * 33 + (u.d + 16)
def In16 (u : Q4) : Prop := (-16 ≤ u.a ∧ u.a ≤ 16) ∧ (-16 ≤ u.b ∧ u.b ≤ 16) ∧ (-16 ≤ u.c ∧ u.c ≤ 16) ∧ -16 ≤ u.d ∧ u.d ≤ 16
theorem good16 {c : Cx} (h : 0 ≤ c.k ∧ c.k ≤ 8) {num den : Int} {u : Q4} (hg : Good c num den u) : In16 u := by
  have hs := small_of_smq h hg.1
  have hi := isq_pw h
  unfold In16
  omega
theorem asc_len {cnt : Nat} {X : Nat → Q4} (hA : So.Asc lx 0 cnt X) (hI : ∀ p, p < cnt → In16 (X p)) : cnt ≤ 1185921 := by
  have hp : ∀ p : Nat, p < cnt → (p : Int) ≤ plc (X p) := by
    intro p
    induction p with
    | zero =>
      intro h
      have := hI 0 h
      unfold In16 at this
      unfold plc
      omega
    | succ p ih =>
      intro h
      have h1 := ih (by omega)
      have h2 := hA p (p + 1) (Nat.zero_le _) (by omega) h
      have i1 := hI p (by omega)
      have i2 := hI (p + 1) h
      unfold In16 at i1 i2
      unfold plc at h1 ⊢
      unfold lx at h2
      omega
  rcases Nat.eq_zero_or_pos cnt with h | h
  · omega
  · have h1 := hp (cnt - 1) (by omega)
    have h2 := hI (cnt - 1) (by omega)
    unfold In16 at h2
    unfold plc at h1
    omega

/-- the list so far holds, in the order of the coefficients, the candidates in S -/
def RS (c : Cx) (num den : Int) (W0 : World) (ob : Nat) (S : Q4 → Prop) (w : World) : Prop :=
  ∃ v cnt X, ST W0 ob w v cnt X ∧ So.Asc lx 0 cnt X ∧ ∀ u, (∃ p, p < cnt ∧ X p = u) ↔ (Good c num den u ∧ S u)
theorem RS.congr {c : Cx} {num den : Int} {W0 : World} {ob : Nat} {S S' : Q4 → Prop} {w : World} (h : RS c num den W0 ob S w) (hs : ∀ u, Good c num den u → (S u ↔ S' u)) : RS c num den W0 ob S' w := by
  obtain ⟨v, cnt, X, h1, h2, h3⟩ := h
  refine ⟨v, cnt, X, h1, h2, fun u => ?_⟩
  rw [h3 u]
  exact ⟨fun ⟨g, s⟩ => ⟨g, (hs u g).1 s⟩, fun ⟨g, s⟩ => ⟨g, (hs u g).2 s⟩⟩
theorem RS.later {c : Cx} {num den : Int} {W0 : World} {ob : Nat} {S : Q4 → Prop} {w w' : World} (h : RS c num den W0 ob S w) (hx : Ext w w') : RS c num den W0 ob S w' := by
  obtain ⟨v, cnt, X, h1, h2, h3⟩ := h
  exact ⟨v, cnt, X, h1.later hx, h2, h3⟩

/-- one more number -/
theorem visit_rs (c : Cx) (nb db ob : Nat) (num den : Int) (hk : 0 ≤ c.k ∧ c.k ≤ 8) (hb : Bnd num den = true) (a b c' d : Int) (hu : smq ⟨a, b, c', d⟩ ≤ c.pw) (hok : c.ok ⟨a, b, c', d⟩) (W0 : World) (hB : Bx4 c nb db num den W0) (w : World) (h : RS c num den W0 ob (VD a b c' d) w) :
    Calls Try.prog 28 #[.agg #[.int .i64 a, .int .i64 b, .int .i64 c', .int .i64 d], .pointer (some ⟨c.tb, 0, none⟩), .pointer (some ⟨c.kb, 0, none⟩), .pointer (some ⟨nb, 0, none⟩), .pointer (some ⟨db, 0, none⟩), .pointer (some ⟨ob, 0, none⟩)] w fun e w' =>
      e = .returned (.tuple #[]) ∧ RS c num den W0 ob (VD a b c' (d + 1)) w' := by
  obtain ⟨v, cnt, X, h1, h2, h3⟩ := h
  have hI : ∀ p, p < cnt → In16 (X p) := fun p hp => good16 hk ((h3 _).1 ⟨p, hp, rfl⟩).1
  have hcnt := asc_len h2 hI
  refine (visit_any c nb db ob num den hk hb ⟨a, b, c', d⟩ hu hok W0 hB w v cnt X (by omega) h1).mono ?_
  rintro e w' ⟨rfl, v', cnt', X', hst, hw⟩
  refine ⟨rfl, ?_⟩
  rcases hw with ⟨hg, rfl, rfl⟩ | ⟨hg, rfl, rfl⟩
  · refine ⟨v', cnt + 1, up4 X cnt ⟨a, b, c', d⟩, hst, fun i j i1 i2 i3 => ?_, fun u => ?_⟩
    · by_cases hj : j = cnt
      · subst hj
        have e1 : up4 X j ⟨a, b, c', d⟩ i = X i := by simp only [up4]; rw [if_neg (by omega)]
        have e2 : up4 X j ⟨a, b, c', d⟩ j = ⟨a, b, c', d⟩ := by simp [up4]
        rw [e1, e2]
        exact vd_lx ((h3 (X i)).1 ⟨i, by omega, rfl⟩).2
      · simp only [up4]
        rw [if_neg (by omega), if_neg hj]
        exact h2 i j i1 i2 (by omega)
    · constructor
      · rintro ⟨p, hp, rfl⟩
        by_cases hpc : p = cnt
        · subst hpc
          simp only [up4, if_pos]
          exact ⟨⟨hu, hg⟩, vd_step.2 (.inr rfl)⟩
        · simp only [up4]
          rw [if_neg hpc]
          have := (h3 (X p)).1 ⟨p, by omega, rfl⟩
          exact ⟨this.1, vd_step.2 (.inl this.2)⟩
      · rintro ⟨g, s⟩
        rcases vd_step.1 s with s | rfl
        · obtain ⟨p, hp, e⟩ := (h3 u).2 ⟨g, s⟩
          exact ⟨p, by omega, by simp only [up4]; rw [if_neg (by omega)]; exact e⟩
        · exact ⟨cnt, by omega, by simp [up4]⟩
  · refine ⟨v', _, _, hst, h2, fun u => ?_⟩
    rw [h3 u]
    constructor
    · rintro ⟨g, s⟩
      exact ⟨g, vd_step.2 (.inl s)⟩
    · rintro ⟨g, s⟩
      rcases vd_step.1 s with s | rfl
      · exact ⟨g, s⟩
      · rw [g.2] at hg
        cases hg

section
variable {c : Cx} {num den : Int} (h : 0 ≤ c.k ∧ c.k ≤ 8)
include h
theorem toB {a : Int} {u : Q4} (g : Good c num den u) : VA a u ↔ VB a (-isq (c.pw - a * a)) u := by
  have r := rootB h g
  unfold VA VB
  constructor
  · exact .inl
  · rintro (hh | ⟨rfl, hh⟩)
    · exact hh
    · omega
theorem ofB {a : Int} {u : Q4} (g : Good c num den u) : VB a (isq (c.pw - a * a) + 1) u ↔ VA (a + 1) u := by
  have r := rootB h g
  unfold VA VB
  constructor
  · rintro (hh | ⟨rfl, hh⟩) <;> omega
  · intro hh
    by_cases e : u.a = a
    · subst e
      exact .inr ⟨rfl, by omega⟩
    · exact .inl (by omega)
theorem toC {a b : Int} {u : Q4} (g : Good c num den u) : VB a b u ↔ VC a b (-isq (c.pw - a * a - b * b)) u := by
  have r := rootC h g
  unfold VB VC
  constructor
  · rintro (hh | ⟨e, hh⟩)
    · exact .inl hh
    · exact .inr ⟨e, .inl hh⟩
  · rintro (hh | ⟨rfl, hh | ⟨rfl, hh⟩⟩)
    · exact .inl hh
    · exact .inr ⟨rfl, hh⟩
    · omega
theorem ofC {a b : Int} {u : Q4} (g : Good c num den u) : VC a b (isq (c.pw - a * a - b * b) + 1) u ↔ VB a (b + 1) u := by
  have r := rootC h g
  unfold VB VC
  constructor
  · rintro (hh | ⟨rfl, hh | ⟨rfl, hh⟩⟩)
    · exact .inl hh
    · exact .inr ⟨rfl, by omega⟩
    · exact .inr ⟨rfl, by omega⟩
  · rintro (hh | ⟨rfl, hh⟩)
    · exact .inl hh
    · by_cases e : u.b = b
      · subst e
        exact .inr ⟨rfl, .inr ⟨rfl, by omega⟩⟩
      · exact .inr ⟨rfl, .inl (by omega)⟩
theorem toD {a b k : Int} {u : Q4} (g : Good c num den u) : VC a b k u ↔ VD a b k (-isq (c.pw - a * a - b * b - k * k)) u := by
  have r := rootD h g
  unfold VC VD
  constructor
  · rintro (hh | ⟨e, hh | ⟨e', hh⟩⟩)
    · exact .inl hh
    · exact .inr ⟨e, .inl hh⟩
    · exact .inr ⟨e, .inr ⟨e', .inl hh⟩⟩
  · rintro (hh | ⟨rfl, hh | ⟨rfl, hh | ⟨rfl, hh⟩⟩⟩)
    · exact .inl hh
    · exact .inr ⟨rfl, .inl hh⟩
    · exact .inr ⟨rfl, .inr ⟨rfl, hh⟩⟩
    · omega
theorem ofD {a b k : Int} {u : Q4} (g : Good c num den u) : VD a b k (isq (c.pw - a * a - b * b - k * k) + 1) u ↔ VC a b (k + 1) u := by
  have r := rootD h g
  unfold VC VD
  constructor
  · rintro (hh | ⟨rfl, hh | ⟨rfl, hh | ⟨rfl, hh⟩⟩⟩)
    · exact .inl hh
    · exact .inr ⟨rfl, .inl hh⟩
    · exact .inr ⟨rfl, .inr ⟨rfl, by omega⟩⟩
    · exact .inr ⟨rfl, .inr ⟨rfl, by omega⟩⟩
  · rintro (hh | ⟨rfl, hh | ⟨rfl, hh⟩⟩)
    · exact .inl hh
    · exact .inr ⟨rfl, .inl hh⟩
    · by_cases e : u.c = k
      · subst e
        exact .inr ⟨rfl, .inr ⟨rfl, .inr ⟨rfl, by omega⟩⟩⟩
      · exact .inr ⟨rfl, .inr ⟨rfl, .inl (by omega)⟩⟩
end

theorem edge_any (n : Int) (h : 0 ≤ n ∧ n ≤ 400) (w : World) : Calls Try.prog 50 #[.int .i64 n] w fun e w' => e = .returned (.int .i64 (isq n)) ∧ w = w' := by
  have HR := fun w' => Lib.hid (rootOf_any n h w')
  generalize isq n = s at *
  generalize (s * s == n) = t at *
  go_enter Try.func50, Try.ntmps50
  go_wp2_with (go_at_call 51; ((with_reducible refine ((HR _).out).mono ?_); rintro e w' ⟨rfl, rfl⟩))
  go_ret
  exact ⟨rfl, rfl⟩

end Go.Proofs.Ytbffcpnpdpgfeaa
