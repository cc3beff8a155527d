/- Rotations that are folded: plain states. -/
import Derived.Test.YtbddgeoaaklgpaaRow
namespace Go.Proofs.Ytbddgeoaaklgpaa
open Go.RowKit
set_option linter.unusedVariables false
set_option linter.unusedSimpArgs false

/-- a phase gate's coefficient -/
def cfK (k : Int) : Nat := if k = 4 then 4 else if k = 5 then 2 else if k = 6 then 6 else if k = 7 then 1 else if k = 8 then 7 else 0
theorem cfK_lt (k : Int) : cfK k < 8 := by
  unfold cfK
  split
  · decide
  split
  · decide
  split
  · decide
  split
  · decide
  split
  · decide
  · decide
/-- a group of rotations: its first gate, its coefficient, its value, its gates -/
structure Gp where
  t : Nat
  c : Nat
  v : Nat
  p : Bool
  L : List Nat
instance : Inhabited Gp := ⟨⟨0, 0, 0, false, []⟩⟩
/-- a state: the qubits' values, how many variables are used, the groups, what is subtracted -/
structure Fs where
  V : List (Nat × Bool)
  u : Nat
  G : List Gp
  s : Nat
def vAt (V : List (Nat × Bool)) (q : Nat) : Nat × Bool := V.getD q (0, false)
def gAt (G : List Gp) (i : Nat) : Gp := G.getD i default
/-- the first group with a value -/
def fdG (G : List Gp) (v : Nat) : Nat := G.findIdx (fun g => g.v == v)
theorem fdG_le (G : List Gp) (v : Nat) : fdG G v ≤ G.length := List.findIdx_le_length
theorem fdG_at {G : List Gp} {v : Nat} (h : fdG G v < G.length) : (gAt G (fdG G v)).v = v := by
  have h2 : (G[fdG G v].v == v) = true := List.findIdx_getElem (w := h)
  have h3 : gAt G (fdG G v) = G[fdG G v] := by simp [gAt, List.getD_eq_getElem?_getD, h]
  rw [h3]
  simpa using h2
theorem fdG_no {G : List Gp} {v j : Nat} (hj : j < fdG G v) : (gAt G j).v ≠ v := by
  have hl : j < G.length := Nat.lt_of_lt_of_le hj (fdG_le G v)
  have h2 := List.not_of_lt_findIdx hj
  have h3 : gAt G j = G[j] := by simp [gAt, List.getD_eq_getElem?_getD, hl]
  rw [h3]
  simpa using h2
/-- the groups with room for a value -/
def adG (G : List Gp) (at' v : Nat) (p : Bool) : List Gp := if fdG G v < G.length then G else G ++ [⟨at', 0, v, p, []⟩]
def rotG (σ : Fs) (at' q cf : Nat) : Fs :=
  let x := vAt σ.V q
  let i := fdG σ.G x.1
  let G := adG σ.G at' x.1 x.2
  let g := gAt G i
  let d := x.2 != g.p
  { σ with G := G.set i { g with L := g.L ++ [at'], c := (g.c + (if d then 8 - cf else cf)) % 8 }, s := if d then (σ.s + cf) % 8 else σ.s }
/-- a group with one more gate -/
def moG (g : Gp) (d : Bool) (at' cf : Nat) : Gp := ⟨g.t, (g.c + (if d then 8 - cf else cf)) % 8, g.v, g.p, g.L ++ [at']⟩
theorem rotG_eq (σ : Fs) (at' q cf : Nat) : rotG σ at' q cf = ⟨σ.V, σ.u, (adG σ.G at' (vAt σ.V q).1 (vAt σ.V q).2).set (fdG σ.G (vAt σ.V q).1) (moG (gAt (adG σ.G at' (vAt σ.V q).1 (vAt σ.V q).2) (fdG σ.G (vAt σ.V q).1)) ((vAt σ.V q).2 != (gAt (adG σ.G at' (vAt σ.V q).1 (vAt σ.V q).2) (fdG σ.G (vAt σ.V q).1)).p) at' cf),
    if (vAt σ.V q).2 != (gAt (adG σ.G at' (vAt σ.V q).1 (vAt σ.V q).2) (fdG σ.G (vAt σ.V q).1)).p then (σ.s + cf) % 8 else σ.s⟩ := rfl
def stepF (σ : Fs) (at' : Nat) (k a b : Int) : Fs :=
  if k = 1 then { σ with V := σ.V.set a.toNat (2 ^ σ.u, false), u := σ.u + 1 }
  else if k = 2 ∨ k = 3 then { σ with V := σ.V.set a.toNat ((vAt σ.V a.toNat).1, !(vAt σ.V a.toNat).2) }
  else if k = 9 then { σ with V := σ.V.set b.toNat ((vAt σ.V b.toNat).1 ^^^ (vAt σ.V a.toNat).1, (vAt σ.V b.toNat).2 != (vAt σ.V a.toNat).2) }
  else if k = 11 then { σ with V := (σ.V.set a.toNat (vAt σ.V b.toNat)).set b.toNat (vAt σ.V a.toNat) }
  else if 0 < cfK k then rotG σ at' a.toNat (cfK k)
  else σ
def iniF (q : Nat) : Fs := ⟨(List.range q).map (fun i => (2 ^ i, false)), q, [], 0⟩
/-- the state ahead of gate j -/
def fsS (q : Nat) (xs : List Int) : Nat → Fs
  | 0 => iniF q
  | j + 1 => stepF (fsS q xs j) j (at3 xs (j * 3)) (at3 xs (j * 3 + 1)) (at3 xs (j * 3 + 2))
/-- there are variables enough up to gate j -/
def fsK (q : Nat) (xs : List Int) : Nat → Bool
  | 0 => true
  | j + 1 => fsK q xs j && !(at3 xs (j * 3) == 1 && (fsS q xs j).u == 60)

/-- what always holds -/
structure FsI (q j : Nat) (σ : Fs) : Prop where
  vl : σ.V.length = q
  ub : σ.u ≤ 60
  vb : ∀ i, i < q → (vAt σ.V i).1 < 2 ^ σ.u
  gl : σ.G.length ≤ j
  gv : ∀ i, i < σ.G.length → (gAt σ.G i).v < 2 ^ σ.u
  gd : ∀ i i', i < σ.G.length → i' < σ.G.length → (gAt σ.G i).v = (gAt σ.G i').v → i = i'
  gt : ∀ i, i < σ.G.length → (gAt σ.G i).t < j ∧ (gAt σ.G i).c < 8 ∧ (gAt σ.G i).L.length ≤ j ∧ ∀ x ∈ (gAt σ.G i).L, x < j
  sb : σ.s < 8

theorem vAt_set {V : List (Nat × Bool)} {a : Nat} {x : Nat × Bool} (ha : a < V.length) (i : Nat) : vAt (V.set a x) i = if i = a then x else vAt V i := by
  unfold vAt
  rw [List.getD_eq_getElem?_getD, List.getElem?_set]
  by_cases h : a = i
  · subst h; simp [ha]
  · rw [if_neg h, if_neg (fun e => h e.symm), ← List.getD_eq_getElem?_getD]
theorem gAt_set {G : List Gp} {a : Nat} {x : Gp} (ha : a < G.length) (i : Nat) : gAt (G.set a x) i = if i = a then x else gAt G i := by
  unfold gAt
  rw [List.getD_eq_getElem?_getD, List.getElem?_set]
  by_cases h : a = i
  · subst h; simp [ha]
  · rw [if_neg h, if_neg (fun e => h e.symm), ← List.getD_eq_getElem?_getD]
theorem gAt_left {G H : List Gp} {i : Nat} (h : i < G.length) : gAt (G ++ H) i = gAt G i := by
  unfold gAt
  rw [List.getD_eq_getElem?_getD, List.getElem?_append_left h, ← List.getD_eq_getElem?_getD]
theorem gAt_new {G : List Gp} {x : Gp} : gAt (G ++ [x]) G.length = x := by
  unfold gAt
  rw [List.getD_eq_getElem?_getD]
  simp
theorem adG_len (G : List Gp) (at' v : Nat) (p : Bool) : fdG G v < (adG G at' v p).length ∧ G.length ≤ (adG G at' v p).length ∧ (adG G at' v p).length ≤ G.length + 1 := by
  unfold adG
  have := fdG_le G v
  split
  · exact ⟨by omega, by omega, by omega⟩
  · simp only [List.length_append, List.length_cons, List.length_nil]
    exact ⟨by omega, by omega, by omega⟩
theorem adG_at {G : List Gp} {at' v : Nat} {p : Bool} {i : Nat} (h : i < (adG G at' v p).length) : (i < G.length ∧ gAt (adG G at' v p) i = gAt G i) ∨ (i = G.length ∧ fdG G v = G.length ∧ gAt (adG G at' v p) i = ⟨at', 0, v, p, []⟩) := by
  have hle := fdG_le G v
  unfold adG at h ⊢
  by_cases h1 : fdG G v < G.length
  · rw [if_pos h1] at h ⊢; exact .inl ⟨h, rfl⟩
  · rw [if_neg h1] at h ⊢
    simp only [List.length_append, List.length_cons, List.length_nil] at h
    by_cases h2 : i < G.length
    · exact .inl ⟨h2, gAt_left h2⟩
    · obtain rfl : i = G.length := by omega
      exact .inr ⟨rfl, by omega, gAt_new⟩

theorem FsI.rot {q j : Nat} {σ : Fs} (h : FsI q j σ) {a cf : Nat} (ha : a < q) : FsI q (j + 1) (rotG σ j a cf) := by
  obtain ⟨l1, l2, l3⟩ := adG_len σ.G j (vAt σ.V a).1 (vAt σ.V a).2
  have hat := fun i hi => adG_at (G := σ.G) (at' := j) (v := (vAt σ.V a).1) (p := (vAt σ.V a).2) (i := i) hi
  have hva := h.vb a ha
  have hgl := h.gl
  rw [rotG_eq]
  generalize hG : adG σ.G j (vAt σ.V a).1 (vAt σ.V a).2 = G at *
  generalize hi : fdG σ.G (vAt σ.V a).1 = i at *
  generalize ((vAt σ.V a).2 != (gAt G i).p) = d
  have hset : ∀ (y : Gp) k, gAt (G.set i y) k = if k = i then y else gAt G k := fun y k => gAt_set l1 k
  have hvv : ∀ k, k < G.length → (gAt G k).v < 2 ^ σ.u ∧ (gAt G k).t < j + 1 ∧ (gAt G k).c < 8 ∧ (gAt G k).L.length ≤ j ∧ ∀ x ∈ (gAt G k).L, x < j := by
    intro k hk
    rcases hat k hk with ⟨h1, h2⟩ | ⟨h1, h2, h3⟩
    · rw [h2]; have := h.gt k h1; exact ⟨h.gv k h1, by omega, this.2.1, this.2.2.1, this.2.2.2⟩
    · rw [h3]; exact ⟨hva, by simp, by simp, by simp, by simp⟩
  have hdd : ∀ k k', k < G.length → k' < G.length → (gAt G k).v = (gAt G k').v → k = k' := by
    intro k k' hk hk' e
    rcases hat k hk with ⟨h1, h2⟩ | ⟨h1, h2, h3⟩
    · rcases hat k' hk' with ⟨g1, g2⟩ | ⟨g1, g2, g3⟩
      · rw [h2, g2] at e; exact h.gd k k' h1 g1 e
      · rw [h2, g3] at e
        have := fdG_no (G := σ.G) (v := (vAt σ.V a).1) (j := k) (by rw [hi, g2]; exact h1)
        exact absurd e this
    · rcases hat k' hk' with ⟨g1, g2⟩ | ⟨g1, g2, g3⟩
      · rw [h3, g2] at e
        have := fdG_no (G := σ.G) (v := (vAt σ.V a).1) (j := k') (by rw [hi, h2]; exact g1)
        exact absurd e.symm this
      · omega
  refine ⟨h.vl, h.ub, h.vb, ?_, ?_, ?_, ?_, ?_⟩
  · simp only [List.length_set]; omega
  · intro k hk
    simp only [List.length_set] at hk
    simp only [hset]
    split
    · rename_i e; subst e; exact (hvv k hk).1
    · exact (hvv k hk).1
  · intro k k' hk hk' e
    simp only [List.length_set] at hk hk'
    simp only [hset] at e
    refine hdd k k' hk hk' ?_
    by_cases e1 : k = i
    · by_cases e2 : k' = i
      · rw [e1, e2]
      · rw [if_pos e1, if_neg e2] at e; rw [e1]; exact e
    · by_cases e2 : k' = i
      · rw [if_neg e1, if_pos e2] at e; rw [e2]; exact e
      · rw [if_neg e1, if_neg e2] at e; exact e
  · intro k hk
    simp only [List.length_set] at hk
    simp only [hset]
    have h4 := hvv k hk
    by_cases e : k = i
    · subst e
      rw [if_pos rfl]
      refine ⟨h4.2.1, Nat.mod_lt _ (by decide), by show ((gAt G k).L ++ [j]).length ≤ j + 1; rw [List.length_append]; simp; omega, fun x hx => ?_⟩
      have hx' : x ∈ (gAt G k).L ++ [j] := hx
      rcases List.mem_append.1 hx' with hx | hx
      · have := h4.2.2.2.2 x hx; omega
      · simp at hx; omega
    · rw [if_neg e]
      exact ⟨h4.2.1, h4.2.2.1, by omega, fun x hx => by have := h4.2.2.2.2 x hx; omega⟩
  · have := h.sb
    show (if _ then (σ.s + cf) % 8 else σ.s) < 8
    split
    · exact Nat.mod_lt _ (by decide)
    · exact this
theorem FsI.setV {q j : Nat} {σ : Fs} (h : FsI q j σ) {a : Nat} {x : Nat × Bool} (ha : a < q) (hx : x.1 < 2 ^ σ.u) : FsI q (j + 1) { σ with V := σ.V.set a x } := by
  refine ⟨by simp only [List.length_set]; exact h.vl, h.ub, fun i hi => ?_, by have := h.gl; show σ.G.length ≤ j + 1; omega, h.gv, h.gd, fun i hi => ?_, h.sb⟩
  · simp only [vAt_set (by rw [h.vl]; exact ha)]
    split
    · exact hx
    · exact h.vb i hi
  · have h9 := h.gt i hi
    show (gAt σ.G i).t < j + 1 ∧ (gAt σ.G i).c < 8 ∧ (gAt σ.G i).L.length ≤ j + 1 ∧ ∀ x ∈ (gAt σ.G i).L, x < j + 1
    exact ⟨by omega, h9.2.1, by omega, fun x hx => by have := h9.2.2.2 x hx; omega⟩
theorem FsI.weak {q j : Nat} {σ : Fs} (h : FsI q j σ) : FsI q (j + 1) σ :=
  ⟨h.vl, h.ub, h.vb, by have := h.gl; omega, h.gv, h.gd, fun i hi => by have h9 := h.gt i hi; exact ⟨by omega, h9.2.1, by omega, fun x hx => by have := h9.2.2.2 x hx; omega⟩, h.sb⟩
theorem FsI.up {q j : Nat} {σ : Fs} (h : FsI q j σ) {a : Nat} (ha : a < q) (hu : σ.u < 60) : FsI q (j + 1) ⟨σ.V.set a (2 ^ σ.u, false), σ.u + 1, σ.G, σ.s⟩ := by
  have hp : 2 ^ σ.u < 2 ^ (σ.u + 1) := Nat.pow_lt_pow_right (by decide) (by omega)
  refine ⟨by simp only [List.length_set]; exact h.vl, by show σ.u + 1 ≤ 60; omega, fun i hi => ?_, by have := h.gl; show σ.G.length ≤ j + 1; omega, fun i hi => Nat.lt_trans (h.gv i hi) hp, h.gd, fun i hi => ?_, h.sb⟩
  · show (vAt (σ.V.set a (2 ^ σ.u, false)) i).1 < 2 ^ (σ.u + 1)
    rw [vAt_set (by rw [h.vl]; exact ha)]
    split
    · exact hp
    · exact Nat.lt_trans (h.vb i hi) hp
  · have h9 := h.gt i hi
    show (gAt σ.G i).t < j + 1 ∧ (gAt σ.G i).c < 8 ∧ (gAt σ.G i).L.length ≤ j + 1 ∧ ∀ x ∈ (gAt σ.G i).L, x < j + 1
    exact ⟨by omega, h9.2.1, by omega, fun x hx => by have := h9.2.2.2 x hx; omega⟩
/-- one step keeps it -/
theorem FsI.step {q j : Nat} {σ : Fs} (h : FsI q j σ) {k a b : Int} (hg : gOk q k a b = true) (hq : 1 ≤ q) (hu : k = 1 → σ.u ≠ 60) : FsI q (j + 1) (stepF σ j k a b) := by
  have hub := h.ub
  have hab : a.toNat < q ∧ b.toNat < q := by
    unfold gOk at hg
    by_cases h1 : Wn k 1 8 = true
    · rw [if_pos h1] at hg
      simp only [Bool.and_eq_true, beq_iff_eq] at hg
      have := Wn_iff.1 hg.1
      omega
    · rw [if_neg h1] at hg
      by_cases h2 : Wn k 9 11 = true
      · rw [if_pos h2] at hg
        simp only [Bool.and_eq_true] at hg
        have := Wn_iff.1 hg.1
        have := Wn_iff.1 hg.2.1
        omega
      · rw [if_neg h2] at hg
        simp only [Bool.and_eq_true, beq_iff_eq] at hg
        omega
  obtain ⟨ha, hb⟩ := hab
  unfold stepF
  by_cases h1 : k = 1
  · rw [if_pos h1]; exact h.up ha (by have := hu h1; omega)
  rw [if_neg h1]
  by_cases h2 : k = 2 ∨ k = 3
  · rw [if_pos h2]; exact h.setV ha (h.vb _ ha)
  rw [if_neg h2]
  by_cases h9 : k = 9
  · rw [if_pos h9]; exact h.setV hb (Nat.xor_lt_two_pow (h.vb _ hb) (h.vb _ ha))
  rw [if_neg h9]
  by_cases h11 : k = 11
  · rw [if_pos h11]
    have h3 := h.setV (x := vAt σ.V b.toNat) ha (h.vb _ hb)
    refine ⟨?_, h3.ub, fun i hi => ?_, h3.gl, h3.gv, h3.gd, h3.gt, h3.sb⟩
    · simp only [List.length_set]; exact h.vl
    · show (vAt ((σ.V.set a.toNat (vAt σ.V b.toNat)).set b.toNat (vAt σ.V a.toNat)) i).1 < 2 ^ σ.u
      rw [vAt_set (by simp only [List.length_set]; rw [h.vl]; exact hb)]
      split
      · exact h.vb _ ha
      · exact h3.vb i hi
  rw [if_neg h11]
  split
  · exact h.rot ha
  · exact h.weak
theorem FsI.ini {q : Nat} (hq : q ≤ 60) : FsI q 0 (iniF q) := by
  refine ⟨by simp [iniF], hq, fun i hi => ?_, by simp [iniF], fun i hi => absurd hi (by simp [iniF]), fun i i' hi => absurd hi (by simp [iniF]), fun i hi => absurd hi (by simp [iniF]), (show (0 : Nat) < 8 by decide)⟩
  show (vAt ((List.range q).map (fun i => (2 ^ i, false))) i).1 < 2 ^ q
  have : vAt ((List.range q).map (fun i => (2 ^ i, false))) i = (2 ^ i, false) := by simp [vAt, List.getD_eq_getElem?_getD, hi]
  rw [this]
  exact Nat.pow_lt_pow_right (by decide) hi
theorem fsK_le {q : Nat} {xs : List Int} {j : Nat} : ∀ {n : Nat}, fsK q xs n = true → j ≤ n → fsK q xs j = true
  | 0, h, hj => by
    have e : j = 0 := by omega
    rw [e]; exact h
  | n + 1, h, hj => by
    by_cases e : j = n + 1
    · rw [e]; exact h
    · have h2 : (fsK q xs n && !(at3 xs (n * 3) == 1 && (fsS q xs n).u == 60)) = true := h
      simp only [Bool.and_eq_true] at h2
      exact fsK_le h2.1 (by omega)
theorem fs_inv {q : Nat} {xs : List Int} {n : Nat} (hc : cOk q xs n = true) : ∀ j, j ≤ n → fsK q xs j = true → FsI q j (fsS q xs j) := by
  have hc0 := hc
  unfold cOk at hc0
  simp only [Bool.and_eq_true, decide_eq_true_eq] at hc0
  have hq := Wn_iff.1 hc0.1
  intro j
  induction j with
  | zero => intro _ _; exact FsI.ini (by omega)
  | succ j ih =>
    intro hj hk
    have h2 : (fsK q xs j && !(at3 xs (j * 3) == 1 && (fsS q xs j).u == 60)) = true := hk
    simp only [Bool.and_eq_true] at h2
    have h3 : gOk q (at3 xs (j * 3)) (at3 xs (j * 3 + 1)) (at3 xs (j * 3 + 2)) = true := allTo_at (f := fun j => gOk q (at3 xs (j * 3)) (at3 xs (j * 3 + 1)) (at3 xs (j * 3 + 2))) hc0.2.2 (by omega)
    exact (ih (by omega) h2.1).step h3 (by omega) (fun e e2 => by
      have h4 := h2.2
      rw [e, e2] at h4
      simp at h4)


open Go.RowKit
set_option linter.unusedVariables false
set_option linter.unusedSimpArgs false

/-- a rotation's gates -/
def rotK (c : Nat) : List Int := if c = 1 then [7] else if c = 2 then [5] else if c = 3 then [5, 7] else if c = 4 then [4] else if c = 5 then [4, 7] else if c = 6 then [6] else if c = 7 then [8] else []
def rotL (a : Int) (c : Nat) : List Int := (rotK c).flatMap fun k => [k, a, 0]
theorem rotK_len (c : Nat) : (rotK c).length ≤ 2 := by
  unfold rotK
  repeat' split
  all_goals simp
theorem rotL_len (a : Int) (c : Nat) : (rotL a c).length = (rotK c).length * 3 := by
  unfold rotL
  induction rotK c with
  | nil => rfl
  | cons x l ih => rw [List.flatMap_cons, List.length_append, ih, List.length_cons]; simp; omega

/-- what holds of the groups' gates -/
structure FsJ (xs : List Int) (j : Nat) (σ : Fs) : Prop where
  tl : ∀ i, i < σ.G.length → (gAt σ.G i).t ∈ (gAt σ.G i).L
  dj : ∀ i i' x, i < σ.G.length → i' < σ.G.length → x ∈ (gAt σ.G i).L → x ∈ (gAt σ.G i').L → i = i'
  cv : ∀ x, x < j → 0 < cfK (at3 xs (x * 3)) → ∃ i, i < σ.G.length ∧ x ∈ (gAt σ.G i).L
  nc : ∀ i x, i < σ.G.length → x ∈ (gAt σ.G i).L → 0 < cfK (at3 xs (x * 3))
theorem FsJ.same {xs : List Int} {j : Nat} {σ σ' : Fs} (h : FsJ xs j σ) (hG : σ'.G = σ.G) (hc : cfK (at3 xs (j * 3)) = 0) : FsJ xs (j + 1) σ' := by
  refine ⟨?_, ?_, ?_, ?_⟩
  · rw [hG]; exact h.tl
  · rw [hG]; exact h.dj
  · rw [hG]
    intro x hx h0
    by_cases e : x = j
    · subst e; omega
    · exact h.cv x (by omega) h0
  · rw [hG]; exact h.nc
theorem FsJ.rot {q : Nat} {xs : List Int} {j : Nat} {σ : Fs} (h : FsJ xs j σ) (hI : FsI q j σ) {a cf : Nat} (hc : 0 < cfK (at3 xs (j * 3))) : FsJ xs (j + 1) (rotG σ j a cf) := by
  obtain ⟨l1, l2, l3⟩ := adG_len σ.G j (vAt σ.V a).1 (vAt σ.V a).2
  have hat := fun i hi => adG_at (G := σ.G) (at' := j) (v := (vAt σ.V a).1) (p := (vAt σ.V a).2) (i := i) hi
  have hsub : ∀ k, k < σ.G.length → gAt (adG σ.G j (vAt σ.V a).1 (vAt σ.V a).2) k = gAt σ.G k := by
    intro k hk
    unfold adG
    split
    · rfl
    · exact gAt_left hk
  have hgt := hI.gt
  rw [rotG_eq]
  generalize hG : adG σ.G j (vAt σ.V a).1 (vAt σ.V a).2 = G at *
  generalize hi : fdG σ.G (vAt σ.V a).1 = i at *
  generalize ((vAt σ.V a).2 != (gAt G i).p) = d
  have hset : ∀ (y : Gp) k, gAt (G.set i y) k = if k = i then y else gAt G k := fun y k => gAt_set l1 k
  have hmem : ∀ k x, k < G.length → (x ∈ (gAt (G.set i (moG (gAt G i) d j cf)) k).L ↔ ((k < σ.G.length ∧ x ∈ (gAt σ.G k).L) ∨ (k = i ∧ x = j))) := by
    intro k x hk
    have h1 : x ∈ (gAt G k).L ↔ (k < σ.G.length ∧ x ∈ (gAt σ.G k).L) := by
      rcases hat k hk with ⟨g1, g2⟩ | ⟨g1, g2, g3⟩
      · rw [g2]; exact ⟨fun h => ⟨g1, h⟩, fun h => h.2⟩
      · rw [g3]
        constructor
        · intro h; cases h
        · intro h; omega
    rw [hset]
    by_cases e : k = i
    · subst e
      rw [if_pos rfl]
      show x ∈ (gAt G k).L ++ [j] ↔ _
      rw [List.mem_append, h1]
      simp
    · rw [if_neg e, h1]
      constructor
      · intro h; exact .inl h
      · rintro (h | h)
        · exact h
        · exact absurd h.1 e
  refine ⟨?_, ?_, ?_, ?_⟩
  · intro k hk
    simp only [List.length_set] at hk
    rw [hmem k _ hk]
    simp only [hset]
    rcases hat k hk with ⟨g1, g2⟩ | ⟨g1, g2, g3⟩
    · left
      refine ⟨g1, ?_⟩
      by_cases e : k = i
      · subst e; rw [if_pos rfl]; show (gAt G k).t ∈ _; rw [g2]; exact h.tl k g1
      · rw [if_neg e, g2]; exact h.tl k g1
    · right
      have e : k = i := by omega
      refine ⟨e, ?_⟩
      subst e
      rw [if_pos rfl]
      show (gAt G k).t = j
      rw [g3]
  · intro k k' x hk hk' hx hx'
    simp only [List.length_set] at hk hk'
    rcases (hmem k x hk).1 hx with ⟨g1, g2⟩ | ⟨g1, g2⟩
    · rcases (hmem k' x hk').1 hx' with ⟨f1, f2⟩ | ⟨f1, f2⟩
      · exact h.dj k k' x g1 f1 g2 f2
      · have := (hgt k g1).2.2.2 x g2; omega
    · rcases (hmem k' x hk').1 hx' with ⟨f1, f2⟩ | ⟨f1, f2⟩
      · have := (hgt k' f1).2.2.2 x f2; omega
      · omega
  · intro x hx h0
    by_cases e : x = j
    · exact ⟨i, by simp only [List.length_set]; exact l1, (hmem i x l1).2 (.inr ⟨rfl, e⟩)⟩
    · obtain ⟨k, hk, hm⟩ := h.cv x (by omega) h0
      exact ⟨k, by simp only [List.length_set]; omega, (hmem k x (by omega)).2 (.inl ⟨hk, hm⟩)⟩
  · intro k x hk hx
    simp only [List.length_set] at hk
    rcases (hmem k x hk).1 hx with ⟨g1, g2⟩ | ⟨g1, g2⟩
    · exact h.nc k x g1 g2
    · rw [g2]; exact hc
theorem FsJ.step {q : Nat} {xs : List Int} {j : Nat} {σ : Fs} (h : FsJ xs j σ) (hI : FsI q j σ) (a b : Int) : FsJ xs (j + 1) (stepF σ j (at3 xs (j * 3)) a b) := by
  unfold stepF
  by_cases h1 : at3 xs (j * 3) = 1
  · rw [if_pos h1]; exact h.same rfl (by rw [h1]; rfl)
  rw [if_neg h1]
  by_cases h2 : at3 xs (j * 3) = 2 ∨ at3 xs (j * 3) = 3
  · rw [if_pos h2]; exact h.same rfl (by rcases h2 with e | e <;> (rw [e]; rfl))
  rw [if_neg h2]
  by_cases h9 : at3 xs (j * 3) = 9
  · rw [if_pos h9]; exact h.same rfl (by rw [h9]; rfl)
  rw [if_neg h9]
  by_cases h11 : at3 xs (j * 3) = 11
  · rw [if_pos h11]; exact h.same rfl (by rw [h11]; rfl)
  rw [if_neg h11]
  by_cases h0 : 0 < cfK (at3 xs (j * 3))
  · rw [if_pos h0]; exact h.rot hI h0
  · rw [if_neg h0]; exact h.same rfl (by omega)
theorem fsJ_inv {q : Nat} {xs : List Int} {n : Nat} (hc : cOk q xs n = true) : ∀ j, j ≤ n → fsK q xs j = true → FsJ xs j (fsS q xs j) := by
  intro j
  induction j with
  | zero => intro _ _; exact ⟨fun i hi => absurd hi (by simp [fsS, iniF]), fun i i' x hi => absurd hi (by simp [fsS, iniF]), fun x hx => absurd hx (by omega), fun i x hi => absurd hi (by simp [fsS, iniF])⟩
  | succ j ih =>
    intro hj hk
    have hk' := fsK_le hk (show j ≤ j + 1 by omega)
    exact (ih (by omega) hk').step (fs_inv hc j (by omega) hk') _ _

/-- the first group with a gate -/
def fdL (G : List Gp) (j : Nat) : Nat := G.findIdx (fun g => g.L.contains j)
theorem fdL_le (G : List Gp) (v : Nat) : fdL G v ≤ G.length := List.findIdx_le_length
theorem fdL_at {G : List Gp} {j : Nat} (h : fdL G j < G.length) : j ∈ (gAt G (fdL G j)).L := by
  have h2 : (G[fdL G j].L.contains j) = true := List.findIdx_getElem (w := h)
  have h3 : gAt G (fdL G j) = G[fdL G j] := by simp [gAt, List.getD_eq_getElem?_getD, h]
  rw [h3]
  simpa using h2
theorem fdL_no {G : List Gp} {j k : Nat} (hj : k < fdL G j) : j ∉ (gAt G k).L := by
  have hl : k < G.length := Nat.lt_of_lt_of_le hj (fdL_le G j)
  have h2 := List.not_of_lt_findIdx hj
  have h3 : gAt G k = G[k] := by simp [gAt, List.getD_eq_getElem?_getD, hl]
  rw [h3]
  simpa using h2
/-- what is written for gate j: the program's way -/
def fpP (G : List Gp) (k a b : Int) (j : Nat) : List Int := if fdL G j < G.length then (if (gAt G (fdL G j)).t = j then rotL a (gAt G (fdL G j)).c else []) else [k, a, b]
/-- what the groups give for gate j -/
def fpG (G : List Gp) (a : Int) (j : Nat) : List Int := G.flatMap fun g => if g.t = j then rotL a g.c else []
theorem fpG_none {G : List Gp} {a : Int} {j : Nat} (h : ∀ i, i < G.length → (gAt G i).t ≠ j) : fpG G a j = [] := by
  unfold fpG
  rw [List.flatMap_eq_nil_iff]
  intro g hg
  obtain ⟨i, hi, rfl⟩ := List.getElem_of_mem hg
  have h3 : gAt G i = G[i] := by simp [gAt, List.getD_eq_getElem?_getD, hi]
  rw [if_neg (by rw [← h3]; exact h i hi)]
theorem fpG_one : ∀ {G : List Gp} {a : Int} {j i : Nat} (hi : i < G.length) (h1 : (gAt G i).t = j) (h : ∀ k, k < G.length → k ≠ i → (gAt G k).t ≠ j), fpG G a j = rotL a (gAt G i).c
  | g :: G, a, j, 0, hi, h1, h => by
    have e : fpG (g :: G) a j = (if g.t = j then rotL a g.c else []) ++ fpG G a j := by unfold fpG; rw [List.flatMap_cons]
    rw [e, fpG_none (fun i hi' => h (i + 1) (by simpa using hi') (by omega))]
    have h1' : g.t = j := h1
    rw [if_pos h1']
    simp
    rfl
  | g :: G, a, j, i + 1, hi, h1, h => by
    have e : fpG (g :: G) a j = (if g.t = j then rotL a g.c else []) ++ fpG G a j := by unfold fpG; rw [List.flatMap_cons]
    have h0 : g.t ≠ j := h 0 (by simp) (by omega)
    rw [e, if_neg h0, fpG_one (G := G) (i := i) (by simpa using hi) h1 (fun k hk hne => h (k + 1) (by simpa using hk) (by omega))]
    rfl
/-- both ways write the same -/
theorem fp_same {xs : List Int} {n : Nat} {σ : Fs} (h : FsJ xs n σ) {j : Nat} (hj : j < n) (a b : Int) : (if 0 < cfK (at3 xs (j * 3)) then [] else [at3 xs (j * 3), a, b]) ++ fpG σ.G a j = fpP σ.G (at3 xs (j * 3)) a b j := by
  unfold fpP
  by_cases h0 : 0 < cfK (at3 xs (j * 3))
  · rw [if_pos h0, List.nil_append]
    obtain ⟨i, hi, hm⟩ := h.cv j hj h0
    have hf : fdL σ.G j < σ.G.length := by
      rcases Nat.lt_or_ge (fdL σ.G j) σ.G.length with h1 | h1
      · exact h1
      · exact absurd hm (fdL_no (by omega))
    rw [if_pos hf]
    have hm2 := fdL_at hf
    split
    · rename_i ht
      exact fpG_one hf ht (fun k hk hne e => hne (h.dj k _ j hk hf (by rw [← e]; exact h.tl k hk) hm2))
    · rename_i ht
      refine fpG_none (fun k hk e => ht ?_)
      have := h.dj k _ j hk hf (by rw [← e]; exact h.tl k hk) hm2
      rw [← this]; exact e
  · rw [if_neg h0]
    have hno : ∀ i, i < σ.G.length → j ∉ (gAt σ.G i).L := fun i hi hm => h0 (h.nc i j hi hm)
    have hf : ¬ fdL σ.G j < σ.G.length := fun h1 => hno _ h1 (fdL_at h1)
    rw [if_neg hf, fpG_none (fun i hi e => hno i hi (by rw [← e]; exact h.tl i hi)), List.append_nil]
/-- all that is written for the first j gates -/
def fpL (G : List Gp) (xs : List Int) : Nat → List Int
  | 0 => []
  | j + 1 => fpL G xs j ++ fpP G (at3 xs (j * 3)) (at3 xs (j * 3 + 1)) (at3 xs (j * 3 + 2)) j
/-- phases -/
def phL : Nat → List Int
  | 0 => []
  | s + 1 => phL s ++ [12, 0, 0]
theorem phL_len : ∀ s, (phL s).length = s * 3
  | 0 => rfl
  | s + 1 => by
    show (phL s ++ [12, 0, 0]).length = _
    rw [List.length_append, phL_len s]
    simp
    omega
theorem fpP_len (G : List Gp) (k a b : Int) (j : Nat) : ∃ m, m ≤ 2 ∧ (fpP G k a b j).length = m * 3 := by
  unfold fpP
  split
  · split
    · exact ⟨_, rotK_len _, rotL_len _ _⟩
    · exact ⟨0, by omega, rfl⟩
  · exact ⟨1, by omega, rfl⟩
theorem fpL_len (G : List Gp) (xs : List Int) : ∀ j, ∃ m, m ≤ j * 2 ∧ (fpL G xs j).length = m * 3
  | 0 => ⟨0, by omega, rfl⟩
  | j + 1 => by
    obtain ⟨m, h1, h2⟩ := fpL_len G xs j
    obtain ⟨m', h3, h4⟩ := fpP_len G (at3 xs (j * 3)) (at3 xs (j * 3 + 1)) (at3 xs (j * 3 + 2)) j
    refine ⟨m + m', by omega, ?_⟩
    show (fpL G xs j ++ _).length = _
    rw [List.length_append, h2, h4]
    omega

end Go.Proofs.Ytbddgeoaaklgpaa
