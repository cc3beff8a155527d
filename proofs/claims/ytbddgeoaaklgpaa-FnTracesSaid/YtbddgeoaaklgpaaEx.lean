/- Regions that draw their order, whose operations may yield what is not known ahead (calls and appends whose slices lie somewhere new): one walk serves every order, up to a forced tail. -/
import Derived.Test.YtbddgeoaaklgpaaMade
namespace Go.Proofs.Ytbddgeoaaklgpaa
open Go.RowKit
set_option linter.unusedVariables false
set_option linter.unusedSimpArgs false
namespace Ex
open Wr (wt wt_closed wt_ready tailB)

/-- the block that a value points to -/
def blk : Value → Option Nat
  | .slice (some a) _ _ => some a.block
  | .pointer (some a) => some a.block
  | _ => none
/-- What an operation is: its value is a function of the values of the operations rs; of its value v, phi v W is known, and it lies in a block of its own group (0: none is claimed). -/
inductive EK where
  | fn (rs : List Nat) (f : List Value → Value)
  | ex (phi : Value → World → Prop) (grp : Nat) (rs : List Nat)
def EK.at (kl : List EK) (i : Nat) : EK := kl.getD i (.fn [] fun _ => undef)
def EK.val (k : EK) (σ : Nat → Value) (i : Nat) : Value := match k with
  | .fn rs f => f (rs.map σ)
  | .ex _ _ _ => σ i
def EK.rs : EK → List Nat
  | .fn rs _ => rs
  | .ex _ _ rs => rs
def EK.phi : EK → Value → World → Prop
  | .fn _ _ => fun _ _ => True
  | .ex phi _ _ => phi
def EK.grp : EK → Nat
  | .fn _ _ => 0
  | .ex _ g _ => g
def EK.mono (k : EK) : Prop := ∀ v W W', k.phi v W → Ext W W' → k.phi v W'
def rsB (ops : Array Oper) (kl : List EK) : Bool := (List.range ops.size).all fun i => (EK.at kl i).rs.all fun j => wt ops 6 i j
/-- two groups have no block in common -/
def Apart (kl : List EK) (σ : Nat → Value) (i j : Nat) : Prop := (EK.at kl i).grp ≠ (EK.at kl j).grp → (EK.at kl i).grp ≠ 0 → (EK.at kl j).grp ≠ 0 → ∀ b, blk (σ i) = some b → blk (σ j) = some b → False
/-- what is known of the operations js -/
structure Facts (kl : List EK) (σ : Nat → Value) (js : List Nat) (W : World) : Prop where
  phi : ∀ j ∈ js, (EK.at kl j).phi (σ j) W
  dif : ∀ i ∈ js, ∀ j ∈ js, Apart kl σ i j
  lt : ∀ j ∈ js, (EK.at kl j).grp ≠ 0 → ∀ b, blk (σ j) = some b → b < W.heap.size
def finN (ops : Array Oper) (kl : List EK) (a0 : Act) (σ : Nat → Value) : Nat → Act
  | 0 => a0
  | n + 1 => (finN ops kl a0 σ n).put (dstOf ops n) ((EK.at kl n).val σ n)
/-- an operation that yields some v and leaves a world, both of C -/
def exUpon (P : Program) (C : Value → World → Prop) : Result Next → Prop
  | .ok (.value u) w' => C u w'
  | .ok .skip w' => C undef w'
  | .ok (.enter f args) w' => Calls P f args w' (fun e w'' => ∃ v, e = .returned v ∧ C v w'')
  | _ => False
def New (kl : List EK) (σ : Nat → Value) (g : Nat) (rs : List Nat) (W : World) (v : Value) (W' : World) : Prop :=
  g ≠ 0 → ∀ b, blk v = some b → b < W'.heap.size ∧ (W.heap.size ≤ b ∨ ∃ j ∈ rs, (EK.at kl j).grp = g ∧ blk (σ j) = some b)
def Ob (P : Program) (ops : Array Oper) (kl : List EK) (W0 : World) (σ : Nat → Value) (o : Oper) (k : EK) (a : Act) : Prop := match k with
  | .fn rs f => if Region.wanted o (yielded ops a.tmps) then ∀ W, Ext W0 W → Facts kl σ rs W → Oper.quietUpon P (fun w'' => Ext W w'') W (f (rs.map σ)) ((execOp a.eval o).run P W) else f (rs.map σ) = undef
  | .ex phi g rs => o.guard = none ∧ ∀ W, Ext W0 W → Facts kl σ rs W → exUpon P (fun v W' => Ext W W' ∧ phi v W' ∧ New kl σ g rs W v W') ((execOp a.eval o).run P W)
/-- the walk in the order of the text -/
def WE (P : Program) (ops : Array Oper) (kl : List EK) (W0 : World) (σ : Nat → Value) (Q : Exit → Act → World → Prop) : List EK → List Oper → Nat → Act → Prop
  | [], l, _, a => ∀ W, Ext W0 W → Facts kl σ (List.range kl.length) W → wpList P ops Q l a W
  | _ :: _, [], _, _ => False
  | k :: ks, o :: l, i, a => Ob P ops kl W0 σ o k a ∧ WE P ops kl W0 σ Q ks l (i + 1) (a.put o.dst (k.val σ i))

/-- as Ssa, for the first n operations, where the others wait for all of them -/
def ssaN (ops : Array Oper) (m n : Nat) : Bool :=
  Region.noSelect ops &&
  (List.range ops.size).all fun i =>
    (match dstOf ops i with
      | some d => decide (d < m) && (List.range ops.size).all fun j => i == j || dstOf ops j != some d
      | none => true) &&
    (match ops[i]? with
      | some o => (o.after.all fun e => !Region.binds .any e || decide (e.on < i)) &&
          (decide (n ≤ i) || (o.looksAt ops).all fun t => (List.range n).all fun j => dstOf ops j != some t || o.after.any fun e => Region.binds .any e && e.on == j)
      | none => true)
structure SsaN (ops : Array Oper) (m n : Nat) : Prop where
  nosel : Region.noSelect ops = true
  bd : ∀ i d, i < ops.size → dstOf ops i = some d → d < m
  one : ∀ i j d, i < ops.size → j < ops.size → i ≠ j → dstOf ops i = some d → dstOf ops j ≠ some d
  dn : ∀ (i : Nat) (o : Oper) (e : Edge), ops[i]? = some o → e ∈ o.after → Region.binds .any e = true → e.on < i
  sees : ∀ (i : Nat) (o : Oper) (t : Tmp) (j : Nat), i < n → ops[i]? = some o → t ∈ o.looksAt ops → j < n → dstOf ops j = some t → ∃ e ∈ o.after, Region.binds .any e = true ∧ e.on = j
theorem ssaN_of {ops : Array Oper} {m n : Nat} (h : ssaN ops m n = true) : SsaN ops m n := by
  unfold ssaN at h
  rw [Bool.and_eq_true, List.all_eq_true] at h
  obtain ⟨h0, h⟩ := h
  refine ⟨h0, ?_, ?_, ?_, ?_⟩
  · intro i d hi hd
    have := h i (List.mem_range.2 hi)
    rw [hd] at this
    simp only [Bool.and_eq_true, decide_eq_true_eq] at this
    exact this.1.1
  · intro i j d hi hj hne hd
    have := h i (List.mem_range.2 hi)
    rw [hd] at this
    simp only [Bool.and_eq_true, decide_eq_true_eq, List.all_eq_true] at this
    have := this.1.2 j (List.mem_range.2 hj)
    simp only [Bool.or_eq_true, beq_iff_eq, bne_iff_ne] at this
    rcases this with h | h
    · exact absurd h hne
    · exact h
  · intro i o e ho he hb
    have hi : i < ops.size := (Array.getElem?_eq_some_iff.1 ho).1
    have := h i (List.mem_range.2 hi)
    rw [ho] at this
    simp only [Bool.and_eq_true] at this
    have := Array.all_eq_true'.1 this.2.1 e he
    simpa [hb] using this
  · intro i o t j hin ho ht hj hd
    have hi : i < ops.size := (Array.getElem?_eq_some_iff.1 ho).1
    have := h i (List.mem_range.2 hi)
    rw [ho] at this
    simp only [Bool.and_eq_true, Bool.or_eq_true, decide_eq_true_eq] at this
    rcases this.2.2 with h2 | h2
    · omega
    rw [List.all_eq_true] at h2
    have h3 := h2 t ht
    rw [List.all_eq_true] at h3
    have h4 := h3 j (List.mem_range.2 hj)
    simp only [Bool.or_eq_true, bne_iff_ne] at h4
    rcases h4 with h4 | h4
    · exact absurd hd h4
    · obtain ⟨e, he, h5⟩ := Array.any_eq_true'.1 h4
      simp only [Bool.and_eq_true, beq_iff_eq] at h5
      exact ⟨e, he, h5.1, h5.2⟩
theorem all_listedN {ops : Array Oper} {m n : Nat} {L : Array Bool} (hs : SsaN ops m n) (hl : L.size = ops.size) (h : Region.ready .any ops L = []) : ∀ i, i < ops.size → L.getD i false = true := by
  intro i
  induction i using Nat.strongRecOn with
  | ind i ih =>
    intro hi
    cases hg : L.getD i false with
    | true => rfl
    | false =>
      exfalso
      have : i ∈ Region.ready .any ops L := by
        refine mem_ready.2 ⟨?_, ops[i], Array.getElem?_eq_getElem hi, fun e he hb => ih e.on (hs.dn i _ e (Array.getElem?_eq_getElem hi) he hb) (by have := hs.dn i _ e (Array.getElem?_eq_getElem hi) he hb; omega)⟩
        have hil : i < L.size := by omega
        simp [hil] at hg ⊢
        exact hg
      rw [h] at this
      cases this

section
variable {P : Program} {ops : Array Oper} {kl : List EK} {a0 : Act} {W0 : World} {σ : Nat → Value}

theorem finN_get {m nn : Nat} (hs : SsaN ops m nn) (hm : a0.tmps.size = m) : ∀ n, n ≤ ops.size →
    (finN ops kl a0 σ n).defers = a0.defers ∧ (finN ops kl a0 σ n).tmps.size = a0.tmps.size ∧
    (∀ i d, i < n → dstOf ops i = some d → (finN ops kl a0 σ n).tmps[d]? = some ((EK.at kl i).val σ i)) ∧
    (∀ t, (∀ i, i < n → dstOf ops i ≠ some t) → (finN ops kl a0 σ n).tmps[t]? = a0.tmps[t]?) := by
  intro n
  induction n with
  | zero => intro _; exact ⟨rfl, rfl, fun i d hi => absurd hi (by omega), fun t _ => rfl⟩
  | succ n ih =>
    intro hn
    obtain ⟨h1, h2, h3, h4⟩ := ih (by omega)
    unfold finN
    cases hd : dstOf ops n with
    | none =>
      refine ⟨h1, h2, fun i d hi he => ?_, fun t ht => h4 t fun i hi => ht i (by omega)⟩
      by_cases hin : i = n
      · subst hin; rw [hd] at he; cases he
      · exact h3 i d (by omega) he
    | some d0 =>
      have hlt : d0 < a0.tmps.size := by rw [hm]; exact hs.bd n d0 (by omega) hd
      refine ⟨h1, by simp [Act.put, h2], fun i d hi he => ?_, fun t ht => ?_⟩
      · by_cases hin : i = n
        · subst hin
          rw [hd] at he
          obtain rfl := Option.some.inj he
          simp [Act.put, h2, hlt]
        · have hne : d0 ≠ d := fun e => hs.one n i d0 (by omega) (by omega) (fun e => hin e.symm) hd (by rw [he, e])
          simp only [Act.put]
          rw [Array.getElem?_setIfInBounds_ne hne]
          exact h3 i d (by omega) he
      · have hne : d0 ≠ t := fun e => ht n (by omega) (by rw [hd, e])
        simp only [Act.put]
        rw [Array.getElem?_setIfInBounds_ne hne]
        exact h4 t fun i hi => ht i (by omega)

structure Inv (ops : Array Oper) (kl : List EK) (a0 : Act) (W0 : World) (σ : Nat → Value) (L : Array Bool) (a : Act) (W : World) : Prop where
  lsize : L.size = ops.size
  closed : ∀ (i : Nat) (o : Oper), ops[i]? = some o → L.getD i false = true → ∀ e ∈ o.after, Region.binds .any e = true → L.getD e.on false = true
  defers : a.defers = a0.defers
  size : a.tmps.size = a0.tmps.size
  on : ∀ i d, i < ops.size → L.getD i false = true → dstOf ops i = some d → a.tmps[d]? = some ((EK.at kl i).val σ i)
  off : ∀ t, (∀ i, i < ops.size → L.getD i false = true → dstOf ops i ≠ some t) → a.tmps[t]? = a0.tmps[t]?
  ext : Ext W0 W
  phi : ∀ i, L.getD i false = true → (EK.at kl i).phi (σ i) W
  lt : ∀ i, L.getD i false = true → (EK.at kl i).grp ≠ 0 → ∀ b, blk (σ i) = some b → b < W.heap.size
  dif : ∀ i j, L.getD i false = true → L.getD j false = true → Apart kl σ i j

theorem Inv.frame {m nn : Nat} {L : Array Bool} {a : Act} {W : World} {σ' : Nat → Value} {i : Nat} {o : Oper} (hs : SsaN ops m nn) (hm : a0.tmps.size = m) (hr : rsB ops kl = true) (h : Inv ops kl a0 W0 σ L a W) (hi : i ∈ Region.ready .any ops L) (ho : ops[i]? = some o)
    (hσ : ∀ j, L.getD j false = true → σ' j = σ j) :
    (L.setIfInBounds i true).size = ops.size ∧
    (∀ (k : Nat) (q : Oper), ops[k]? = some q → (L.setIfInBounds i true).getD k false = true → ∀ e ∈ q.after, Region.binds .any e = true → (L.setIfInBounds i true).getD e.on false = true) ∧
    (a.put o.dst ((EK.at kl i).val σ' i)).defers = a0.defers ∧ (a.put o.dst ((EK.at kl i).val σ' i)).tmps.size = a0.tmps.size ∧
    (∀ k d, k < ops.size → (L.setIfInBounds i true).getD k false = true → dstOf ops k = some d → (a.put o.dst ((EK.at kl i).val σ' i)).tmps[d]? = some ((EK.at kl k).val σ' k)) ∧
    (∀ t, (∀ k, k < ops.size → (L.setIfInBounds i true).getD k false = true → dstOf ops k ≠ some t) → (a.put o.dst ((EK.at kl i).val σ' i)).tmps[t]? = a0.tmps[t]?) := by
  obtain ⟨_, oi, hoi, hall⟩ := mem_ready.1 hi
  obtain rfl : oi = o := Option.some.inj (hoi.symm.trans ho)
  have hilt : i < ops.size := (Array.getElem?_eq_some_iff.1 ho).1
  have hil : i < L.size := by rw [h.lsize]; exact hilt
  have hdst : dstOf ops i = oi.dst := by simp [dstOf, ho]
  have hval : ∀ k, k < ops.size → L.getD k false = true → (EK.at kl k).val σ' k = (EK.at kl k).val σ k := fun k hk hl => by
    unfold rsB at hr
    rw [List.all_eq_true] at hr
    have h1 := hr k (List.mem_range.2 hk)
    rw [List.all_eq_true] at h1
    cases hkk : EK.at kl k with
    | fn rs f =>
      rw [hkk] at h1
      simp only [EK.val]
      congr 1
      apply List.map_congr_left
      intro r hr'
      exact hσ r (wt_closed h.closed 6 k r (h1 r hr') hl)
    | ex phi g rs => exact hσ k hl
  refine ⟨by simp [h.lsize], ?_, ?_, ?_, ?_, ?_⟩
  · intro k q hk hl e he hb
    rw [getD_set hil] at hl ⊢
    split
    · rfl
    · by_cases hki : k = i
      · subst hki
        obtain rfl : q = oi := Option.some.inj (hk.symm.trans ho)
        exact hall e he hb
      · rw [if_neg hki] at hl
        exact h.closed k q hk hl e he hb
  · rw [← h.defers]; cases oi.dst <;> rfl
  · rw [← h.size]; cases oi.dst <;> simp [Act.put]
  · intro k d hk hl hd
    rw [getD_set hil] at hl
    cases hod : oi.dst with
    | none =>
      simp only [Act.put]
      by_cases hki : k = i
      · subst hki; rw [hdst, hod] at hd; cases hd
      · rw [if_neg hki] at hl
        rw [hval k hk hl]
        exact h.on k d hk hl hd
    | some d0 =>
      have hlt : d0 < a.tmps.size := by rw [h.size, hm]; exact hs.bd i d0 hilt (hdst.trans hod)
      by_cases hki : k = i
      · subst hki
        rw [hdst, hod] at hd
        obtain rfl := Option.some.inj hd
        simp [Act.put, hlt]
      · rw [if_neg hki] at hl
        have hne : d0 ≠ d := fun e => hs.one i k d0 hilt hk (fun e => hki e.symm) (hdst.trans hod) (by rw [hd, e])
        simp only [Act.put]
        rw [Array.getElem?_setIfInBounds_ne hne, hval k hk hl]
        exact h.on k d hk hl hd
  · intro t ht
    have h1 := h.off t fun k hk hl => ht k hk (by rw [getD_set hil]; split <;> simp [hl])
    cases hod : oi.dst with
    | none => exact h1
    | some d0 =>
      have hne : d0 ≠ t := fun e => ht i hilt (by rw [getD_set hil]; simp) (by rw [hdst, hod, e])
      simp only [Act.put]
      rw [Array.getElem?_setIfInBounds_ne hne]
      exact h1

theorem Inv.sees {m nn : Nat} {L : Array Bool} {a : Act} {W : World} {i : Nat} {o : Oper} (hs : SsaN ops m nn) (hm : a0.tmps.size = m) (h : Inv ops kl a0 W0 σ L a W) (hoff : ∀ t, nn ≤ t → L.getD t false = false) (hnn : nn ≤ ops.size) (hin : i < nn) (hi : i ∈ Region.ready .any ops L) (ho : ops[i]? = some o) :
    execOp a.eval o = execOp (finN ops kl a0 σ i).eval o ∧ Region.wanted o (yielded ops a.tmps) = Region.wanted o (yielded ops (finN ops kl a0 σ i).tmps) := by
  obtain ⟨_, oi, hoi, hall⟩ := mem_ready.1 hi
  obtain rfl : oi = o := Option.some.inj (hoi.symm.trans ho)
  have hilt : i < ops.size := (Array.getElem?_eq_some_iff.1 ho).1
  obtain ⟨f1, f2, f3, f4⟩ := finN_get (kl := kl) (σ := σ) hs hm i (by omega)
  have hat : ∀ t ∈ oi.looksAt ops, a.tmps[t]? = (finN ops kl a0 σ i).tmps[t]? := by
    intro t ht
    by_cases hex : ∃ j, j < nn ∧ dstOf ops j = some t
    · obtain ⟨j, hj, hd⟩ := hex
      obtain ⟨e, he, hb, rfl⟩ := hs.sees i oi t j hin ho ht hj hd
      rw [h.on e.on t (by omega) (hall e he hb) hd, f3 e.on t (hs.dn i oi e ho he hb) hd]
    · have hlt : ∀ j, L.getD j false = true → j < nn := fun j hl => by
        rcases Nat.lt_or_ge j nn with h2 | h2
        · exact h2
        · rw [hoff j h2] at hl; cases hl
      rw [h.off t fun j hj hl hd => hex ⟨j, hlt j hl, hd⟩, f4 t fun j hj hd => hex ⟨j, by omega, hd⟩]
  refine ⟨execOp_congr oi (Region.noSelect_spec hs.nosel i oi · · ho) fun x hx => ?_, ?_⟩
  · cases x with
    | tmp t =>
      have := hat t (List.mem_append_left _ (List.mem_filterMap.2 ⟨.tmp t, by simpa using hx, rfl⟩))
      simp only [Act.eval, Array.getD_eq_getD_getElem?, this]
    | _ => rfl
  · unfold Region.wanted
    cases hg : oi.guard with
    | none => rfl
    | some gw =>
      obtain ⟨g, want⟩ := gw
      have : yielded ops a.tmps g = yielded ops (finN ops kl a0 σ i).tmps g := by
        unfold yielded
        cases ht : (ops[g]?).bind (·.dst) with
        | none => rfl
        | some t =>
          have := hat t (by simp [Oper.looksAt, hg, ht])
          simp [this]
      simp only [this]

/-- a step whose value is a function of others' -/
theorem Inv.fnS {m nn : Nat} {L : Array Bool} {a : Act} {W W' : World} {i : Nat} {o : Oper} {rs : List Nat} {f : List Value → Value} (hs : SsaN ops m nn) (hm : a0.tmps.size = m) (hr : rsB ops kl = true) (hmo : ∀ j, (EK.at kl j).mono) (h : Inv ops kl a0 W0 σ L a W)
    (hi : i ∈ Region.ready .any ops L) (ho : ops[i]? = some o) (hk : EK.at kl i = .fn rs f) (hx : Ext W W') : Inv ops kl a0 W0 σ (L.setIfInBounds i true) (a.put o.dst (f (rs.map σ))) W' := by
  obtain ⟨g1, g2, g3, g4, g5, g6⟩ := h.frame hs hm hr hi ho (σ' := σ) (fun _ _ => rfl)
  rw [hk] at g3 g4 g5 g6
  have hilt : i < ops.size := (Array.getElem?_eq_some_iff.1 ho).1
  have hil : i < L.size := by rw [h.lsize]; exact hilt
  refine ⟨g1, g2, g3, g4, g5, g6, h.ext.trans hx, ?_, ?_, ?_⟩
  · intro j hl
    rw [getD_set hil] at hl
    by_cases e : j = i
    · subst e; rw [hk]; trivial
    · rw [if_neg e] at hl
      exact hmo j _ _ _ (h.phi j hl) hx
  · intro j hl hg b hb
    rw [getD_set hil] at hl
    by_cases e : j = i
    · subst e; rw [hk] at hg; exact absurd rfl hg
    · rw [if_neg e] at hl
      exact Nat.lt_of_lt_of_le (h.lt j hl hg b hb) hx.size
  · intro j j' hl hl'
    rw [getD_set hil] at hl hl'
    by_cases e : j = i
    · subst e; intro _ h2; rw [hk] at h2; exact absurd rfl h2
    by_cases e' : j' = i
    · subst e'; intro _ _ h3; rw [hk] at h3; exact absurd rfl h3
    rw [if_neg e] at hl
    rw [if_neg e'] at hl'
    exact h.dif j j' hl hl'

/-- a step whose value is not known ahead -/
theorem Inv.exS {m nn : Nat} {L : Array Bool} {a : Act} {W W' : World} {i : Nat} {o : Oper} {v : Value} {phi : Value → World → Prop} {g : Nat} {rs : List Nat} (hs : SsaN ops m nn) (hm : a0.tmps.size = m) (hr : rsB ops kl = true) (hmo : ∀ j, (EK.at kl j).mono) (h : Inv ops kl a0 W0 σ L a W)
    (hi : i ∈ Region.ready .any ops L) (ho : ops[i]? = some o) (hk : EK.at kl i = .ex phi g rs) (hun : L.getD i false = false) (hrl : ∀ j ∈ rs, L.getD j false = true) (hx : Ext W W') (hp : phi v W') (hnew : New kl σ g rs W v W') :
    Inv ops kl a0 W0 (fun j => if j = i then v else σ j) (L.setIfInBounds i true) (a.put o.dst v) W' := by
  have hσ : ∀ j, L.getD j false = true → (fun j => if j = i then v else σ j) j = σ j := fun j hj => if_neg fun e => by rw [e, hun] at hj; cases hj
  obtain ⟨g1, g2, g3, g4, g5, g6⟩ := h.frame hs hm hr hi ho hσ
  have hv : (EK.at kl i).val (fun j => if j = i then v else σ j) i = v := by rw [hk]; simp [EK.val]
  rw [hv] at g3 g4 g5 g6
  have hilt : i < ops.size := (Array.getElem?_eq_some_iff.1 ho).1
  have hil : i < L.size := by rw [h.lsize]; exact hilt
  have hdif : ∀ j, j ≠ i → L.getD j false = true → (EK.at kl j).grp ≠ g → (EK.at kl j).grp ≠ 0 → g ≠ 0 → ∀ b, blk (σ j) = some b → blk v = some b → False := fun j hji hl h1 h2 h3 b hb hvb => by
    obtain ⟨k1, k2⟩ := hnew h3 b hvb
    rcases k2 with k2 | ⟨r, hr', k3, k4⟩
    · have := h.lt j hl h2 b hb
      omega
    · exact h.dif j r hl (hrl r hr') (by rw [k3]; exact h1) h2 (by rw [k3]; exact h3) b hb k4
  refine ⟨g1, g2, g3, g4, g5, g6, h.ext.trans hx, ?_, ?_, ?_⟩
  · intro j hl
    rw [getD_set hil] at hl
    by_cases e : j = i
    · subst e; simp only [if_pos]; rw [hk]; exact hp
    · rw [if_neg e] at hl
      simp only [if_neg e]
      exact hmo j _ _ _ (h.phi j hl) hx
  · intro j hl hg b hb
    rw [getD_set hil] at hl
    by_cases e : j = i
    · subst e
      simp only [if_pos] at hb
      rw [hk] at hg
      exact (hnew hg b hb).1
    · rw [if_neg e] at hl
      simp only [if_neg e] at hb
      exact Nat.lt_of_lt_of_le (h.lt j hl hg b hb) hx.size
  · intro j j' hl hl'
    rw [getD_set hil] at hl hl'
    unfold Apart
    by_cases e : j = i
    · subst e
      by_cases e' : j' = j
      · subst e'; intro h1; exact absurd rfl h1
      · rw [if_neg e'] at hl'
        simp only [if_pos, if_neg e', hk]
        intro h1 h2 h3 b hb hb'
        exact hdif j' e' hl' (fun e => h1 e.symm) h3 h2 b hb' hb
    · rw [if_neg e] at hl
      by_cases e' : j' = i
      · subst e'
        simp only [if_pos, if_neg e, hk]
        intro h1 h2 h3 b hb hb'
        exact hdif j e hl h1 h2 h3 b hb hb'
      · rw [if_neg e'] at hl'
        simp only [if_neg e, if_neg e']
        exact h.dif j j' hl hl'

theorem we_at {Q : Exit → Act → World → Prop} {full : List Oper} (hf : ops = full.toArray) : ∀ (ks : List EK) (l : List Oper) (i : Nat) (A : Act), l = full.drop i → ks = kl.drop i → A = finN ops kl a0 σ i → WE P ops kl W0 σ Q ks l i A →
    (∀ (j : Nat) (o : Oper), i ≤ j → j < kl.length → ops[j]? = some o → Ob P ops kl W0 σ o (EK.at kl j) (finN ops kl a0 σ j)) ∧
      ∀ W, Ext W0 W → Facts kl σ (List.range kl.length) W → i ≤ kl.length → wpList P ops Q (full.drop kl.length) (finN ops kl a0 σ kl.length) W := by
  intro ks
  induction ks with
  | nil =>
    intro l i A hl hks hA h
    have hle : kl.length ≤ i := by
      have := congrArg List.length hks
      rw [List.length_drop, List.length_nil] at this
      omega
    refine ⟨fun j o h1 h2 => by omega, fun W hx hF hi => ?_⟩
    obtain rfl : i = kl.length := by omega
    rw [← hl, ← hA]
    exact h W hx hF
  | cons k ks ih =>
    intro l i A hl hks hA h
    cases l with
    | nil => exact h.elim
    | cons o rest =>
      obtain ⟨h1, h2⟩ := h
      have hilt : i < kl.length := by
        rcases Nat.lt_or_ge i kl.length with h3 | h3
        · exact h3
        · rw [List.drop_of_length_le h3] at hks; cases hks
      have hk : EK.at kl i = k := by
        unfold EK.at
        rw [List.getD_eq_getElem?_getD]
        have : (kl.drop i)[0]? = some k := by rw [← hks]; rfl
        rw [List.getElem?_drop, Nat.add_zero] at this
        rw [this]; rfl
      have h0 : ops[i]? = some o := by
        rw [hf]
        have : (full.drop i)[0]? = some o := by rw [← hl]; rfl
        simpa using this
      have hrest : rest = full.drop (i + 1) := by rw [← List.drop_drop, ← hl]; rfl
      have hks' : ks = kl.drop (i + 1) := by rw [← List.drop_drop, ← hks]; rfl
      have hA' : A.put o.dst (k.val σ i) = finN ops kl a0 σ (i + 1) := by
        unfold finN
        have e1 : dstOf ops i = o.dst := by simp [dstOf, h0]
        rw [e1, hk, hA]
      obtain ⟨k1, k2⟩ := ih rest (i + 1) _ hrest hks' hA' h2
      refine ⟨fun j o' hj hj2 ho' => ?_, fun W hx hF hi => k2 W hx hF (by omega)⟩
      by_cases hji : j = i
      · subst hji
        obtain rfl : o' = o := Option.some.inj (ho'.symm.trans h0)
        rw [hk, ← hA]
        exact h1
      · exact k1 j o' (by omega) hj2 ho'

theorem any_ex {m : Nat} {Q : Exit → Act → World → Prop} {l : List Oper} (hops : ops = l.toArray) (hs : SsaN ops m kl.length) (hm : a0.tmps.size = m) (hr : rsB ops kl = true) (ht : tailB ops kl.length = true) (hmo : ∀ j, (EK.at kl j).mono)
    (hob : ∀ (σ : Nat → Value) (i : Nat) (o : Oper), i < kl.length → ops[i]? = some o → Ob P ops kl W0 σ o (EK.at kl i) (finN ops kl a0 σ i))
    (hfin : ∀ (σ : Nat → Value) W, Ext W0 W → Facts kl σ (List.range kl.length) W → wpList P ops Q (l.drop kl.length) (finN ops kl a0 σ kl.length) W) :
    ∀ (fuel : Nat) (L : Array Bool) (a : Act) (W : World) (σ : Nat → Value), Inv ops kl a0 W0 σ L a W → (∀ t, kl.length ≤ t → L.getD t false = false) → Wr.unl L kl.length = fuel → wpAny P .any ops Q (fuel + (ops.size - kl.length)) L a W := by
  unfold tailB at ht
  simp only [Bool.and_eq_true, decide_eq_true_eq] at ht
  obtain ⟨⟨hnle, ht1⟩, ht2⟩ := ht
  have hopl : ops.size = l.length := by rw [hops]; simp
  have hrl : ∀ i, i < ops.size → ∀ j ∈ (EK.at kl i).rs, wt ops 6 i j = true := fun i hi j hj => by
    unfold rsB at hr
    rw [List.all_eq_true] at hr
    have h1 := hr i (List.mem_range.2 hi)
    rw [List.all_eq_true] at h1
    exact h1 j hj
  generalize hn : kl.length = n at *
  intro fuel
  induction fuel with
  | zero =>
    intro L a W σ h hoff hu
    have hall := Wr.unl_zero n hu
    have hLe : L = ((List.range ops.size).map fun i => decide (i < n)).toArray := by
      apply Array.ext
      · simp [h.lsize]
      · intro i h1 h2
        have h3 : L.getD i false = L[i] := by simp [h1]
        have h4 : L.getD i false = decide (i < n) := by
          by_cases e : i < n
          · rw [hall i e]; simp [e]
          · rw [hoff i (by omega)]; simp [e]
        rw [← h3, h4]
        simp
    have hdl : ops.size - n = (l.drop n).length := by rw [hopl]; simp
    rw [Nat.zero_add, hdl]
    refine wpAny_of_seq (l.drop n) n L a W (fun j => by rw [hops]; simp [List.getElem?_drop]) (by rw [← hdl, hLe]; exact ht2) ?_
    have hae : a = finN ops kl a0 σ n := by
      obtain ⟨f1, f2, f3, f4⟩ := finN_get (kl := kl) (σ := σ) hs hm n hnle
      have htm : a.tmps = (finN ops kl a0 σ n).tmps := by
        apply Array.ext_getElem?
        intro t
        by_cases hex : ∃ j, j < n ∧ dstOf ops j = some t
        · obtain ⟨j, hj, hd⟩ := hex
          rw [h.on j t (by omega) (hall j hj) hd, f3 j t hj hd]
        · have hlt : ∀ j, L.getD j false = true → j < n := fun j hl => by
            rcases Nat.lt_or_ge j n with h2 | h2
            · exact h2
            · rw [hoff j h2] at hl; cases hl
          rw [h.off t fun j hj hl hd => hex ⟨j, hlt j hl, hd⟩, f4 t fun j hj hd => hex ⟨j, hj, hd⟩]
      have hd : a.defers = (finN ops kl a0 σ n).defers := h.defers.trans f1.symm
      cases a
      generalize finN ops kl a0 σ n = F at *
      cases F
      simp only at htm hd
      rw [htm, hd]
    rw [hae]
    exact hfin σ W h.ext ⟨fun j hj => h.phi j (hall j (List.mem_range.1 hj)), fun i hi j hj => h.dif i j (hall i (List.mem_range.1 hi)) (hall j (List.mem_range.1 hj)), fun j hj => h.lt j (hall j (List.mem_range.1 hj))⟩
  | succ fuel ih =>
    intro L a W σ h hoff hu
    rw [show fuel + 1 + (ops.size - n) = (fuel + (ops.size - n)) + 1 by omega]
    have hsome : ∃ i, i < n ∧ L.getD i false = false := by
      apply Classical.byContradiction
      intro hno
      have hall : ∀ i, i < n → L.getD i false = true := by
        intro i hi
        cases hg : L.getD i false with
        | true => rfl
        | false => exact absurd ⟨i, hi, hg⟩ hno
      have : ∀ k, k ≤ n → Wr.unl L k = 0 := by
        intro k
        induction k with
        | zero => intro _; rfl
        | succ k ihk =>
          intro hk
          unfold Wr.unl
          rw [ihk (by omega), hall k (by omega)]
          simp
      rw [this n (Nat.le_refl _)] at hu
      omega
    refine ⟨fun hr => ?_, fun i hi => ?_⟩
    · exfalso
      obtain ⟨i, hin, hiun⟩ := hsome
      have := all_listedN hs h.lsize hr i (by omega)
      rw [hiun] at this
      cases this
    obtain ⟨hun0, o, ho, hall⟩ := mem_ready.1 hi
    have hilt : i < ops.size := (Array.getElem?_eq_some_iff.1 ho).1
    have hil : i < L.size := by rw [h.lsize]; exact hilt
    have hun : L.getD i false = false := by simp [hil] at hun0 ⊢; exact hun0
    have hin : i < n := by
      rcases Nat.lt_or_ge i n with h2 | h2
      · exact h2
      · exfalso
        obtain ⟨j, hjn, hjun⟩ := hsome
        rw [List.all_eq_true] at ht1
        have h3 := ht1 i (List.mem_range.2 hilt)
        simp only [Bool.or_eq_true, decide_eq_true_eq] at h3
        rcases h3 with h3 | h3
        · omega
        · rw [List.all_eq_true] at h3
          have := wt_ready h.closed ho hall _ _ (h3 j (List.mem_range.2 hjn))
          rw [hjun] at this
          cases this
    have hu' : Wr.unl (L.setIfInBounds i true) n = fuel := by
      have := Wr.unl_set hil hun n hin
      omega
    have hoff' : ∀ t, n ≤ t → (L.setIfInBounds i true).getD t false = false := by
      intro t ht
      rw [getD_set hil, if_neg (by omega)]
      exact hoff t ht
    obtain ⟨hx, hwt⟩ := h.sees hs hm hoff hnle hin hi ho
    have hobi := hob σ i o hin ho
    have hrsl : ∀ j ∈ (EK.at kl i).rs, L.getD j false = true := fun j hj => wt_ready h.closed ho hall _ _ (hrl i hilt j hj)
    have hF : Facts kl σ (EK.at kl i).rs W := ⟨fun j hj => h.phi j (hrsl j hj), fun j hj j' hj' => h.dif j j' (hrsl j hj) (hrsl j' hj'), fun j hj => h.lt j (hrsl j hj)⟩
    unfold wpOp
    simp only [ho]
    cases hk : EK.at kl i with
    | fn rs f =>
      rw [hk] at hobi hF
      simp only [Ob] at hobi
      rw [← hx, ← hwt] at hobi
      split
      · rename_i hwt'
        rw [if_pos hwt'] at hobi
        refine .inl ?_
        have h3 := hobi W h.ext hF
        unfold Oper.wp
        generalize (execOp a.eval o).run P W = r at *
        cases r with
        | ok nx w' =>
          cases nx <;> simp only [Oper.quietUpon] at h3 <;> simp only [Oper.upon]
          case value u =>
            obtain ⟨rfl, rfl⟩ := h3
            exact ih _ _ _ _ (h.fnS hs hm hr hmo hi ho hk (Ext.refl _)) hoff' hu'
          case skip =>
            obtain ⟨rfl, he⟩ := h3
            have h4 := h.fnS hs hm hr hmo hi ho hk (Ext.refl _)
            rw [he] at h4
            exact ih _ _ _ _ h4 hoff' hu'
          case enter g args =>
            obtain ⟨rfl, hc⟩ := h3
            exact hc.mono fun e w'' ⟨he, hx''⟩ => by
              subst he
              exact ih _ _ _ _ (h.fnS hs hm hr hmo hi ho hk hx'') hoff' hu'
        | halt x w' => simp only [Oper.quietUpon] at h3
      · rename_i hwt'
        rw [if_neg hwt'] at hobi
        have h4 := h.fnS hs hm hr hmo hi ho hk (Ext.refl W)
        rw [hobi] at h4
        exact ih _ _ _ _ h4 hoff' hu'
    | ex phi g rs =>
      rw [hk] at hobi hF hrsl
      simp only [Ob] at hobi
      rw [← hx] at hobi
      obtain ⟨hgd, hobi⟩ := hobi
      have hw : Region.wanted o (yielded ops a.tmps) = true := by simp [Region.wanted, hgd]
      rw [if_pos hw]
      refine .inl ?_
      have h3 := hobi W h.ext hF
      unfold Oper.wp
      generalize (execOp a.eval o).run P W = r at *
      cases r with
      | ok nx w' =>
        cases nx <;> simp only [exUpon] at h3 <;> simp only [Oper.upon]
        case value u =>
          obtain ⟨k1, k2, k3⟩ := h3
          exact ih _ _ _ _ (h.exS hs hm hr hmo hi ho hk hun hrsl k1 k2 k3) hoff' hu'
        case skip =>
          obtain ⟨k1, k2, k3⟩ := h3
          exact ih _ _ _ _ (h.exS hs hm hr hmo hi ho hk hun hrsl k1 k2 k3) hoff' hu'
        case enter f args =>
          exact h3.mono fun e w'' ⟨v, he, k1, k2, k3⟩ => by
            subst he
            exact ih _ _ _ _ (h.exS hs hm hr hmo hi ho hk hun hrsl k1 k2 k3) hoff' hu'
      | halt x w' => simp only [exUpon] at h3

/-- one walk serves every order -/
theorem wp_region_ex {id m : Nat} {Q : Exit → Act → World → Prop} {l : List Oper} (kl : List EK) (hm : P.follows .mixedOrders = true) (hB : ssaN l.toArray m kl.length = true) (hsz : a0.tmps.size = m) (ht : tailB l.toArray kl.length = true) (hr : rsB l.toArray kl = true)
    (hmo : ∀ j, (EK.at kl j).mono) (h : ∀ σ, WE P l.toArray kl W0 σ Q kl l 0 a0) : (Code.region id l.toArray true).wp P Q a0 W0 := by
  have hs := ssaN_of hB
  have ht0 := ht
  have hnle : kl.length ≤ l.toArray.size := by
    unfold tailB at ht0
    simp only [Bool.and_eq_true, decide_eq_true_eq] at ht0
    exact ht0.1.1
  refine wp_region_any hm ?_
  have hno : ∀ i, (Array.replicate l.toArray.size false).getD i false = false := by
    intro i
    rw [Array.getD_eq_getD_getElem?, Array.getElem?_replicate]
    split <;> rfl
  have hall := fun σ => we_at (P := P) (ops := l.toArray) (kl := kl) (a0 := a0) (W0 := W0) (σ := σ) (Q := Q) (full := l) rfl kl l 0 a0 rfl rfl rfl (h σ)
  have H := any_ex (P := P) (kl := kl) (a0 := a0) (W0 := W0) (Q := Q) rfl hs hsz hr ht hmo (fun σ i o hi ho => (hall σ).1 i o (by omega) hi ho) (fun σ W hx hF => (hall σ).2 W hx hF (by omega))
    kl.length (Array.replicate l.toArray.size false) a0 { W0 with drawn := W0.drawn + 1 } (fun _ => undef) ?_ (fun t _ => hno t) (Wr.unl_none _ fun i _ => hno i)
  · have : kl.length + (l.toArray.size - kl.length) = l.toArray.size := by omega
    rw [this] at H
    exact H
  · refine ⟨by simp, ?_, rfl, rfl, ?_, fun _ _ => rfl, (Ext.refl W0).drew, ?_, ?_, ?_⟩
    · intro i o _ hl; rw [hno] at hl; cases hl
    · intro i d _ hl; rw [hno] at hl; cases hl
    · intro i hl; rw [hno] at hl; cases hl
    · intro i hl; rw [hno] at hl; cases hl
    · intro i j hl; rw [hno] at hl; cases hl

/-! ### Steps for the walk -/
theorem mono_nil (j : Nat) : (EK.at [] j).mono := fun _ _ _ _ _ => trivial
theorem mono_fn {ks : List EK} {rs : List Nat} {f : List Value → Value} (h : ∀ j, (EK.at ks j).mono) : ∀ j, (EK.at (.fn rs f :: ks) j).mono
  | 0 => fun _ _ _ _ _ => trivial
  | j + 1 => h j
theorem mono_ex {ks : List EK} {phi : Value → World → Prop} {g : Nat} {rs : List Nat} (h1 : ∀ v W W', phi v W → Ext W W' → phi v W') (h : ∀ j, (EK.at ks j).mono) : ∀ j, (EK.at (.ex phi g rs :: ks) j).mono
  | 0 => h1
  | j + 1 => h j
variable {Q : Exit → Act → World → Prop} {ks : List EK} {o : Oper} {l : List Oper} {i : Nat} {a : Act}
/-- a value that is known ahead; in a world that has grown -/
theorem we_det {v : Value} (h : if Region.wanted o (yielded ops a.tmps) then ∀ x : Xt W0, Oper.quietUpon P (fun w'' => Ext x.w w'') x.w v ((execOp a.eval o).run P x.w) else v = undef)
    (h2 : WE P ops kl W0 σ Q ks l (i + 1) (a.put o.dst v)) : WE P ops kl W0 σ Q (.fn [] (fun _ => v) :: ks) (o :: l) i a := by
  refine ⟨?_, h2⟩
  simp only [Ob]
  split
  · rename_i hw
    rw [if_pos hw] at h
    exact fun W hx _ => h ⟨W, hx⟩
  · rename_i hw
    rw [if_neg hw] at h
    exact h
theorem we_fn {rs : List Nat} {f : List Value → Value} (hg : o.guard = none) (h : ∀ W, Ext W0 W → Facts kl σ rs W → (execOp a.eval o).run P W = .ok (.value (f (rs.map σ))) W)
    (h2 : WE P ops kl W0 σ Q ks l (i + 1) (a.put o.dst (f (rs.map σ)))) : WE P ops kl W0 σ Q (.fn rs f :: ks) (o :: l) i a := by
  refine ⟨?_, h2⟩
  simp only [Ob]
  rw [if_pos (by simp [Region.wanted, hg])]
  intro W hx hF
  rw [h W hx hF]
  exact ⟨rfl, rfl⟩
theorem we_ex {phi : Value → World → Prop} {g : Nat} {rs : List Nat} (hg : o.guard = none) (h : ∀ W, Ext W0 W → Facts kl σ rs W → exUpon P (fun v W' => Ext W W' ∧ phi v W' ∧ New kl σ g rs W v W') ((execOp a.eval o).run P W))
    (h2 : WE P ops kl W0 σ Q ks l (i + 1) (a.put o.dst (σ i))) : WE P ops kl W0 σ Q (.ex phi g rs :: ks) (o :: l) i a := ⟨⟨hg, h⟩, h2⟩
theorem we_stop (h : ∀ W, Ext W0 W → Facts kl σ (List.range kl.length) W → wpList P ops Q l a W) : WE P ops kl W0 σ Q [] l i a := h
end
end Ex
end Go.Proofs.Ytbddgeoaaklgpaa
