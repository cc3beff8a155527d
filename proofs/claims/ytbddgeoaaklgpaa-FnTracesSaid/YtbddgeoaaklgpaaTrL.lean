/- Gates without common qubits can be exchanged: layers, the sorted circuit, its operator (plain). -/
import Derived.Test.YtbddgeoaaklgpaaQuN
namespace Go.Proofs.Ytbddgeoaaklgpaa
open Go.RowKit
set_option linter.unusedVariables false
set_option linter.unusedSimpArgs false

/-- a gate's qubits -/
def tq (g : G3) : List Nat := if g.1 = 12 then [] else if 9 ≤ g.1 ∧ g.1 ≤ 11 then [g.2.1, g.2.2] else [g.2.1]
/-- no common qubit -/
def Dj (g h : G3) : Prop := ∀ q, q ∈ tq g → q ∉ tq h
theorem Dj.symm {g h : G3} (d : Dj g h) : Dj h g := fun q hq hg => d q hg hq
/-- a gate's layer where S says how many layers each qubit has; what it says behind the gate -/
def tly (S : Nat → Nat) (g : G3) : Nat := if g.1 = 12 then 0 else if 9 ≤ g.1 ∧ g.1 ≤ 11 then max (S g.2.1 + 1) (S g.2.2 + 1) else S g.2.1 + 1
def tup (S : Nat → Nat) (g : G3) : Nat → Nat := fun q => if q ∈ tq g then tly S g else S q
/-- the gates with their layers; the state behind them -/
def tpl (S : Nat → Nat) : List G3 → List (Nat × G3)
  | [] => []
  | g :: l => (tly S g, g) :: tpl (tup S g) l
def tst (S : Nat → Nat) : List G3 → (Nat → Nat)
  | [] => S
  | g :: l => tst (tup S g) l
theorem tly_congr {S T : Nat → Nat} {g : G3} (h : ∀ q, q ∈ tq g → S q = T q) : tly S g = tly T g := by
  unfold tly tq at *
  by_cases h1 : g.1 = 12
  · rw [if_pos h1, if_pos h1]
  rw [if_neg h1] at h
  rw [if_neg h1, if_neg h1]
  by_cases h2 : 9 ≤ g.1 ∧ g.1 ≤ 11
  · rw [if_pos h2] at h
    rw [if_pos h2, if_pos h2, h _ (by simp), h _ (by simp)]
  · rw [if_neg h2] at h
    rw [if_neg h2, if_neg h2, h _ (by simp)]
theorem tly_gt {S : Nat → Nat} {g : G3} {q : Nat} (hq : q ∈ tq g) : S q < tly S g := by
  unfold tq at hq
  unfold tly
  by_cases h1 : g.1 = 12
  · rw [if_pos h1] at hq; cases hq
  rw [if_neg h1] at hq ⊢
  by_cases h2 : 9 ≤ g.1 ∧ g.1 ≤ 11
  · rw [if_pos h2] at hq ⊢
    simp only [List.mem_cons, List.not_mem_nil, or_false] at hq
    rcases hq with rfl | rfl <;> omega
  · rw [if_neg h2] at hq ⊢
    simp only [List.mem_cons, List.not_mem_nil, or_false] at hq
    subst hq
    omega
theorem tup_ge (S : Nat → Nat) (g : G3) (q : Nat) : S q ≤ tup S g q := by
  unfold tup
  split
  · rename_i h; have := tly_gt (S := S) h; omega
  · omega
theorem tst_ge (q : Nat) : ∀ (l : List G3) (S : Nat → Nat), S q ≤ tst S l q
  | [], S => Nat.le_refl _
  | g :: l, S => Nat.le_trans (tup_ge S g q) (tst_ge q l (tup S g))
theorem tst_app : ∀ (l m : List G3) (S : Nat → Nat), tst S (l ++ m) = tst (tst S l) m
  | [], m, S => rfl
  | g :: l, m, S => tst_app l m (tup S g)
theorem tpl_app : ∀ (l m : List G3) (S : Nat → Nat), tpl S (l ++ m) = tpl S l ++ tpl (tst S l) m
  | [], m, S => rfl
  | g :: l, m, S => by
    show (tly S g, g) :: tpl (tup S g) (l ++ m) = (tly S g, g) :: (tpl (tup S g) l ++ tpl (tst (tup S g) l) m)
    rw [tpl_app l m]
theorem tpl_len : ∀ (l : List G3) (S : Nat → Nat), (tpl S l).length = l.length
  | [], S => rfl
  | g :: l, S => by simp [tpl, tpl_len l]
theorem tpl_snd : ∀ (l : List G3) (S : Nat → Nat), (tpl S l).map Prod.snd = l
  | [], S => rfl
  | g :: l, S => by simp [tpl, tpl_snd l]
/-- a gate's qubits have that many layers behind it -/
theorem tpl_le {q k : Nat} {h : G3} (hq : q ∈ tq h) : ∀ (l : List G3) (S : Nat → Nat), (k, h) ∈ tpl S l → k ≤ tst S l q
  | g :: l, S, hm => by
    have hm' : (k, h) ∈ (tly S g, g) :: tpl (tup S g) l := hm
    rcases List.mem_cons.1 hm' with e | hm2
    · obtain ⟨rfl, rfl⟩ := Prod.mk.inj e
      have : tup S h q = tly S h := by unfold tup; rw [if_pos hq]
      have h2 := tst_ge q l (tup S h)
      show tly S h ≤ tst (tup S h) l q
      omega
    · exact tpl_le hq l (tup S g) hm2
theorem tly_dj {S : Nat → Nat} {g h : G3} (d : Dj g h) : tly (tup S g) h = tly S h := tly_congr fun q hq => by
  unfold tup
  rw [if_neg (fun hg => d q hg hq)]
theorem tup_dj {S : Nat → Nat} {g h : G3} (d : Dj g h) : tup (tup S g) h = tup (tup S h) g := by
  funext q
  show (if q ∈ tq h then tly (tup S g) h else tup S g q) = (if q ∈ tq g then tly (tup S h) g else tup S h q)
  rw [tly_dj d, tly_dj d.symm]
  unfold tup
  by_cases h1 : q ∈ tq h
  · rw [if_pos h1, if_neg (fun hg => d q hg h1), if_pos h1]
  · rw [if_neg h1, if_neg h1]

/-- circuits that differ by exchanges of neighbours without common qubits -/
inductive Tr : List G3 → List G3 → Prop
  | refl (l : List G3) : Tr l l
  | swap (l : List G3) (g h : G3) (m : List G3) (d : Dj g h) : Tr (l ++ g :: h :: m) (l ++ h :: g :: m)
  | trans {a b c : List G3} (x : Tr a b) (y : Tr b c) : Tr a c
theorem Tr.app {a b : List G3} (p s : List G3) (h : Tr a b) : Tr (p ++ a ++ s) (p ++ b ++ s) := by
  induction h with
  | refl l => exact .refl _
  | swap l g h m d =>
    have e : ∀ x y : G3, p ++ (l ++ x :: y :: m) ++ s = (p ++ l) ++ x :: y :: (m ++ s) := fun x y => by simp
    rw [e, e]
    exact .swap _ _ _ _ d
  | trans x y i j => exact .trans i j
theorem Tr.mem {a b : List G3} (h : Tr a b) : ∀ g, g ∈ a ↔ g ∈ b := by
  induction h with
  | refl l => exact fun _ => Iff.rfl
  | swap l g h m d => intro x; simp only [List.mem_append, List.mem_cons]; constructor <;> (intro hx; rcases hx with hx | hx | hx | hx <;> simp [hx])
  | trans x y i j => exact fun g => (i g).trans (j g)
theorem Tr.len {a b : List G3} (h : Tr a b) : a.length = b.length := by
  induction h with
  | refl l => rfl
  | swap l g h m d => simp
  | trans x y i j => exact i.trans j
theorem Tr.nH {a b : List G3} (h : Tr a b) : Go.Proofs.Ytbddgeoaaklgpaa.nH a = Go.Proofs.Ytbddgeoaaklgpaa.nH b := by
  induction h with
  | refl l => rfl
  | swap l g h m d => rw [nH_app, nH_app]; simp only [Go.Proofs.Ytbddgeoaaklgpaa.nH]; omega
  | trans x y i j => exact i.trans j

/-- a gate moves ahead of gates that have no qubit of it -/
theorem tmove {g : G3} : ∀ (m : List G3) (S : Nat → Nat), (∀ h, h ∈ m → Dj g h) → tpl S (g :: m) = (tly S g, g) :: tpl S m ∧ tly (tst S m) g = tly S g ∧ tst S (g :: m) = tup (tst S m) g ∧ Tr (m ++ [g]) (g :: m)
  | [], S, _ => ⟨rfl, rfl, rfl, .refl _⟩
  | h :: m, S, hd => by
    have d := hd h List.mem_cons_self
    obtain ⟨h1, h2, h3, h4⟩ := tmove m (tup S h) fun x hx => hd x (List.mem_cons_of_mem _ hx)
    have e : tup (tup S g) h = tup (tup S h) g := tup_dj d
    refine ⟨?_, ?_, ?_, ?_⟩
    · show (tly S g, g) :: (tly (tup S g) h, h) :: tpl (tup (tup S g) h) m = (tly S g, g) :: (tly S h, h) :: tpl (tup S h) m
      have h1' : (tly (tup S h) g, g) :: tpl (tup (tup S h) g) m = (tly (tup S h) g, g) :: tpl (tup S h) m := h1
      rw [tly_dj d, e, (List.cons.inj h1').2]
    · show tly (tst (tup S h) m) g = _
      rw [h2, tly_dj d.symm]
    · show tst (tup (tup S g) h) m = tup (tst (tup S h) m) g
      rw [e]
      exact h3
    · have h5 := Tr.app [h] [] h4
      simp only [List.append_nil, List.singleton_append] at h5
      exact .trans h5 (.swap [] h g m d.symm)

/-! ### sorting -/
def tkey (x : Nat × G3) : Nat := x.1 * 5 + x.2.2.1
/-- an element goes behind those whose keys are not greater -/
def tins (x : Nat × G3) : List (Nat × G3) → List (Nat × G3)
  | [] => [x]
  | y :: l => if tkey y ≤ tkey x then y :: tins x l else x :: y :: l
def tsrt : List (Nat × G3) → List (Nat × G3) → List (Nat × G3)
  | P, [] => P
  | P, x :: l => tsrt (tins x P) l
def Asc (l : List (Nat × G3)) : Prop := l.Pairwise fun x y => tkey x ≤ tkey y
theorem tins_mem {x y : Nat × G3} : ∀ {l : List (Nat × G3)}, y ∈ tins x l ↔ y = x ∨ y ∈ l
  | [] => by simp [tins]
  | z :: l => by
    unfold tins
    split
    · rw [List.mem_cons, tins_mem (l := l), List.mem_cons]
      constructor
      · rintro (h | h | h) <;> simp [h]
      · rintro (h | h | h) <;> simp [h]
    · simp
theorem tins_asc {x : Nat × G3} : ∀ {l : List (Nat × G3)}, Asc l → Asc (tins x l)
  | [], _ => List.pairwise_singleton _ _
  | y :: l, h => by
    have h' := List.pairwise_cons.1 h
    unfold tins
    split
    · rename_i hk
      refine List.pairwise_cons.2 ⟨fun z hz => ?_, tins_asc h'.2⟩
      rcases tins_mem.1 hz with rfl | hz
      · exact hk
      · exact h'.1 z hz
    · rename_i hk
      refine List.pairwise_cons.2 ⟨fun z hz => ?_, h⟩
      rcases List.mem_cons.1 hz with rfl | hz
      · omega
      · have := h'.1 z hz; omega
/-- the place: all ahead are not greater, all behind are greater -/
theorem tins_at {x : Nat × G3} : ∀ {A B : List (Nat × G3)}, (∀ y, y ∈ A → tkey y ≤ tkey x) → (∀ y, y ∈ B → tkey x < tkey y) → tins x (A ++ B) = A ++ x :: B
  | [], [], _, _ => rfl
  | [], y :: B, _, h => by
    show (if tkey y ≤ tkey x then y :: tins x B else x :: y :: B) = _
    have := h y List.mem_cons_self
    rw [if_neg (by omega)]
    rfl
  | y :: A, B, h1, h2 => by
    show (if tkey y ≤ tkey x then y :: tins x (A ++ B) else x :: y :: (A ++ B)) = y :: (A ++ x :: B)
    rw [if_pos (h1 y List.mem_cons_self), tins_at (fun z hz => h1 z (List.mem_cons_of_mem _ hz)) h2]
theorem tins_cut {x : Nat × G3} : ∀ {l : List (Nat × G3)}, Asc l → ∃ A B, l = A ++ B ∧ (∀ y, y ∈ A → tkey y ≤ tkey x) ∧ (∀ y, y ∈ B → tkey x < tkey y)
  | [], _ => ⟨[], [], rfl, by simp, by simp⟩
  | y :: l, h => by
    have h' := List.pairwise_cons.1 h
    by_cases hk : tkey y ≤ tkey x
    · obtain ⟨A, B, rfl, h1, h2⟩ := tins_cut (x := x) h'.2
      refine ⟨y :: A, B, rfl, fun z hz => ?_, h2⟩
      rcases List.mem_cons.1 hz with rfl | hz
      · exact hk
      · exact h1 z hz
    · refine ⟨[], y :: l, rfl, by simp, fun z hz => ?_⟩
      rcases List.mem_cons.1 hz with rfl | hz
      · omega
      · have := h'.1 z hz; omega
theorem tsrt_snoc (x : Nat × G3) : ∀ (l P : List (Nat × G3)), tsrt P (l ++ [x]) = tins x (tsrt P l)
  | [], P => rfl
  | y :: l, P => tsrt_snoc x l (tins y P)
theorem tsrt_asc : ∀ (l P : List (Nat × G3)), Asc P → Asc (tsrt P l)
  | [], P, h => h
  | y :: l, P, h => tsrt_asc l _ (tins_asc h)
theorem tsrt_mem {y : Nat × G3} : ∀ {l P : List (Nat × G3)}, y ∈ tsrt P l ↔ y ∈ P ∨ y ∈ l
  | [], P => by simp [tsrt]
  | x :: l, P => by
    show y ∈ tsrt (tins x P) l ↔ _
    rw [tsrt_mem (l := l), tins_mem, List.mem_cons]
    constructor
    · rintro ((h | h) | h) <;> simp [h]
    · rintro (h | h | h) <;> simp [h]
theorem tins_len (x : Nat × G3) : ∀ l : List (Nat × G3), (tins x l).length = l.length + 1
  | [] => rfl
  | y :: l => by
    unfold tins
    split
    · simp [tins_len x l]
    · rfl
theorem tsrt_len : ∀ l P : List (Nat × G3), (tsrt P l).length = P.length + l.length
  | [], P => rfl
  | x :: l, P => by
    show (tsrt (tins x P) l).length = _
    rw [tsrt_len l, tins_len]
    simp
    omega
/-- what is sorted stays -/
theorem tsrt_id : ∀ (l P : List (Nat × G3)), Asc (P ++ l) → tsrt P l = P ++ l
  | [], P, _ => by simp [tsrt]
  | x :: l, P, h => by
    have e : tins x P = P ++ [x] := by
      have := tins_at (x := x) (A := P) (B := []) (fun y hy => by
        have := (List.pairwise_append.1 h).2.2 y hy x List.mem_cons_self
        exact this) (by simp)
      simpa using this
    show tsrt (tins x P) l = _
    rw [e, tsrt_id l (P ++ [x]) (by simpa using h)]
    simp
/-- the greatest layer -/
def tmx : List (Nat × G3) → Nat
  | [] => 0
  | x :: l => max x.1 (tmx l)
theorem tmx_ins (x : Nat × G3) : ∀ l : List (Nat × G3), tmx (tins x l) = max x.1 (tmx l)
  | [] => rfl
  | y :: l => by
    unfold tins
    split
    · show max y.1 (tmx (tins x l)) = max x.1 (max y.1 (tmx l))
      rw [tmx_ins x l]
      omega
    · rfl
theorem tmx_srt : ∀ l P : List (Nat × G3), tmx (tsrt P l) = max (tmx P) (tmx l)
  | [], P => by simp [tsrt, tmx]
  | x :: l, P => by
    show tmx (tsrt (tins x P) l) = max (tmx P) (max x.1 (tmx l))
    rw [tmx_srt l, tmx_ins]
    omega

/-- the sorted pairs, the sorted circuit, its depth -/
def S0 : Nat → Nat := fun _ => 0
def tP (l : List G3) : List (Nat × G3) := tsrt [] (tpl S0 l)
def tF (l : List G3) : List G3 := (tP l).map Prod.snd
def tD (l : List G3) : Nat := tmx (tpl S0 l)
theorem tP_asc (l : List G3) : Asc (tP l) := tsrt_asc _ _ List.Pairwise.nil
theorem tP_main : ∀ (l : List G3), (∀ g, g ∈ l → g.2.1 < 5) → ∀ r m, r ++ m = l → tpl S0 (tF r) = tP r ∧ Tr r (tF r) ∧ tst S0 (tF r) = tst S0 r := by
  intro l hl r
  have key : ∀ n (r : List G3), r.length = n → (∀ g, g ∈ r → g.2.1 < 5) → tpl S0 (tF r) = tP r ∧ Tr r (tF r) ∧ tst S0 (tF r) = tst S0 r := by
    intro n
    induction n with
    | zero =>
      intro r hr _
      obtain rfl := List.eq_nil_of_length_eq_zero hr
      exact ⟨rfl, .refl _, rfl⟩
    | succ n ih =>
      intro r hr hA
      obtain ⟨r', g, rfl⟩ : ∃ r' g, r = r' ++ [g] := ⟨r.dropLast, r.getLast (by intro e; subst e; simp at hr), (List.dropLast_concat_getLast _).symm⟩
      have hg5 : g.2.1 < 5 := hA g (by simp)
      have hA' : ∀ g, g ∈ r' → g.2.1 < 5 := fun x hx => hA x (by simp [hx])
      obtain ⟨h1, h2, h3⟩ := ih r' (by simpa using hr) hA'
      have hP : tP (r' ++ [g]) = tins (tly (tst S0 r') g, g) (tP r') := by
        unfold tP
        rw [tpl_app]
        exact tsrt_snoc _ _ _
      have hasc := tP_asc r'
      obtain ⟨A, B, hAB, a1, b1⟩ := tins_cut (x := (tly (tst S0 r') g, g)) hasc
      have hF : tF r' = A.map Prod.snd ++ B.map Prod.snd := by unfold tF; rw [hAB, List.map_append]
      have hF' : tF (r' ++ [g]) = A.map Prod.snd ++ g :: B.map Prod.snd := by
        unfold tF
        rw [hP, hAB, tins_at a1 b1]
        simp
      have hsp : tpl S0 (A.map Prod.snd) = A ∧ tpl (tst S0 (A.map Prod.snd)) (B.map Prod.snd) = B := by
        have e := h1
        rw [hF, hAB, tpl_app] at e
        exact List.append_inj e (by rw [tpl_len, List.length_map])
      have hd : ∀ h, h ∈ B.map Prod.snd → Dj g h := by
        intro h hh q hq hq2
        obtain ⟨⟨j, h'⟩, hm, rfl⟩ := List.mem_map.1 hh
        have hk := b1 _ hm
        have hmem : (j, h') ∈ tpl S0 (tF r') := by rw [h1, hAB]; exact List.mem_append_right _ hm
        have hle := tpl_le hq2 _ _ hmem
        rw [h3] at hle
        have hlt := tly_gt (S := tst S0 r') hq
        have hA5 : h'.2.1 < 5 := hA' h' ((h2.mem h').2 (by rw [hF]; exact List.mem_append_right _ hh))
        unfold tkey at hk
        simp only at hk
        omega
      obtain ⟨m1, m2, m3, m4⟩ := tmove (B.map Prod.snd) (tst S0 (A.map Prod.snd)) hd
      have hst : tst S0 r' = tst (tst S0 (A.map Prod.snd)) (B.map Prod.snd) := by rw [← h3, hF, tst_app]
      have hk2 : tly (tst S0 r') g = tly (tst S0 (A.map Prod.snd)) g := by rw [hst, m2]
      refine ⟨?_, ?_, ?_⟩
      · rw [hF', tpl_app, hsp.1, m1, hsp.2, hP, hAB, tins_at a1 b1, hk2]
      · rw [hF']
        have t1 := Tr.app [] [g] h2
        simp only [List.nil_append] at t1
        rw [hF] at t1
        have t2 := Tr.app (A.map Prod.snd) [] m4
        simp only [List.append_nil] at t2
        refine .trans t1 ?_
        rw [List.append_assoc]
        exact t2
      · rw [hF', tst_app, m3, tst_app, hst]
        rfl
  intro m hm
  exact key r.length r rfl fun g hg => hl g (by rw [← hm]; exact List.mem_append_left _ hg)
theorem tF_facts {l : List G3} (h : ∀ g, g ∈ l → g.2.1 < 5) : tpl S0 (tF l) = tP l ∧ Tr l (tF l) := by
  obtain ⟨a, b, _⟩ := tP_main l h l [] (by simp)
  exact ⟨a, b⟩
theorem tF_idem {l : List G3} (h : ∀ g, g ∈ l → g.2.1 < 5) : tF (tF l) = tF l := by
  have e := (tF_facts h).1
  show (tsrt [] (tpl S0 (tF l))).map Prod.snd = _
  rw [e, tsrt_id _ [] (by simpa using tP_asc l)]
  rfl
theorem tD_F {l : List G3} (h : ∀ g, g ∈ l → g.2.1 < 5) : tD (tF l) = tD l := by
  unfold tD
  rw [(tF_facts h).1]
  unfold tP
  rw [tmx_srt]
  simp [tmx]
theorem tF_len {l : List G3} : (tF l).length = l.length := by
  unfold tF tP
  rw [List.length_map, tsrt_len, tpl_len]
  simp

end Go.Proofs.Ytbddgeoaaklgpaa
