/- A region that draws its order, whose operations read old memory, call functions that make at most new memory, and make blocks of their own: one walk serves every order. -/
import Derived.Test.YtamiploliebplaaDoorBase
namespace Go.Proofs.YtamiploliebplaaDoor
open Go.RowKit

/-- What an operation of such a region is: it yields v (and makes at most new memory); it makes the block n, yields mk n, and the operation s (if there is one) fills that block; it is the one that fills the block of operation j. -/
inductive Kd where
  | quiet (v : Value)
  | maker (mk : Nat → Value) (t : TypeId) (c0 : Array Value) (s : Nat) (c1 : Array Value)
  | store (j : Nat)
  | put (v : Value) (B : Nat) (t : TypeId) (c0 c1 : Array Value)
def Kd.val (k : Kd) (n : Nat) : Value := match k with
  | .quiet v => v
  | .maker mk _ _ _ _ => mk n
  | .store _ => undef
  | .put v _ _ _ _ => v
def Kd.at (kl : List Kd) (i : Nat) : Kd := kl.getD i (.quiet undef)
def dstOf (ops : Array Oper) (i : Nat) : Option Tmp := (ops[i]?).bind (·.dst)
/-- the frame behind the first n operations -/
def finN (ops : Array Oper) (kl : List Kd) (a0 : Act) (σ : Nat → Nat) : Nat → Act
  | 0 => a0
  | n + 1 => (finN ops kl a0 σ n).put (dstOf ops n) ((Kd.at kl n).val (σ n))

/-- what is asked of the region's edges: closed facts -/
def ssaB (ops : Array Oper) (m : Nat) : Bool :=
  Region.noSelect ops &&
  (List.range ops.size).all fun i =>
    (match dstOf ops i with
      | some d => decide (d < m) && (List.range ops.size).all fun j => i == j || dstOf ops j != some d
      | none => true) &&
    (match ops[i]? with
      | some o => (o.after.all fun e => !Region.binds .any e || decide (e.on < i)) &&
          (o.looksAt ops).all fun t => (List.range ops.size).all fun j => dstOf ops j != some t || o.after.any fun e => Region.binds .any e && e.on == j
      | none => true)
def Kd.isPut (k : Kd) : Bool := match k with
  | .put _ _ _ _ _ => true
  | _ => false
def stB (ops : Array Oper) (kl : List Kd) : Bool :=
  ((List.range ops.size).all fun i => (List.range ops.size).all fun j => i == j || !((Kd.at kl i).isPut && (Kd.at kl j).isPut)) &&
  (List.range ops.size).all fun i => match Kd.at kl i with
    | .quiet _ => true
    | .put _ _ _ _ _ => true
    | .maker _ _ _ s _ => decide (ops.size ≤ s) || (match Kd.at kl s with | .store j => j == i | _ => false)
    | .store j => (match Kd.at kl j with | .maker _ _ _ s _ => s == i && decide (j < ops.size) | _ => false) && (dstOf ops i).isNone && ((ops[i]?).map fun o => o.after.any fun e => Region.binds .any e && e.on == j).getD false

section
variable {P : Program} {ops : Array Oper} {kl : List Kd} {a0 : Act} {w0 W0 : World}

structure Ssa (ops : Array Oper) (m : Nat) : Prop where
  nosel : Region.noSelect ops = true
  bd : ∀ i d, i < ops.size → dstOf ops i = some d → d < m
  one : ∀ i j d, i < ops.size → j < ops.size → i ≠ j → dstOf ops i = some d → dstOf ops j ≠ some d
  dn : ∀ (i : Nat) (o : Oper) (e : Edge), ops[i]? = some o → e ∈ o.after → Region.binds .any e = true → e.on < i
  sees : ∀ (i : Nat) (o : Oper) (t : Tmp) (j : Nat), ops[i]? = some o → t ∈ o.looksAt ops → j < ops.size → dstOf ops j = some t → ∃ e ∈ o.after, Region.binds .any e = true ∧ e.on = j
theorem ssa_of {m : Nat} (h : ssaB ops m = true) : Ssa ops m := by
  unfold ssaB at h
  rw [Bool.and_eq_true, List.all_eq_true] at h
  obtain ⟨h0, h⟩ := h
  refine ⟨h0, ?_, ?_, ?_, ?_⟩
  · intro i d hi hd
    have := h i (List.mem_range.2 hi)
    rw [hd] at this
    simp only [Bool.and_eq_true, decide_eq_true_eq] at this
    exact this.1.1
  · intro i j d hi hj hne hd
    have := h i (List.mem_range.2 hi)
    rw [hd] at this
    simp only [Bool.and_eq_true, decide_eq_true_eq, List.all_eq_true] at this
    have := this.1.2 j (List.mem_range.2 hj)
    simp only [Bool.or_eq_true, beq_iff_eq, bne_iff_ne] at this
    rcases this with h | h
    · exact absurd h hne
    · exact h
  · intro i o e ho he hb
    have hi : i < ops.size := (Array.getElem?_eq_some_iff.1 ho).1
    have := h i (List.mem_range.2 hi)
    rw [ho] at this
    simp only [Bool.and_eq_true] at this
    have := Array.all_eq_true'.1 this.2.1 e he
    simpa [hb] using this
  · intro i o t j ho ht hj hd
    have hi : i < ops.size := (Array.getElem?_eq_some_iff.1 ho).1
    have := h i (List.mem_range.2 hi)
    rw [ho] at this
    simp only [Bool.and_eq_true, List.all_eq_true] at this
    have := this.2.2 t ht j (List.mem_range.2 hj)
    simp only [Bool.or_eq_true, bne_iff_ne, Array.any_eq_true', Bool.and_eq_true, beq_iff_eq] at this
    rcases this with h | ⟨e, he, h1, h2⟩
    · exact absurd hd h
    · exact ⟨e, he, h1, h2⟩
structure St (ops : Array Oper) (kl : List Kd) : Prop where
  made : ∀ i mk t c s c1, i < ops.size → Kd.at kl i = .maker mk t c s c1 → s < ops.size → Kd.at kl s = .store i
  st : ∀ i j, i < ops.size → Kd.at kl i = .store j → j < ops.size ∧ dstOf ops i = none ∧ (∃ mk t c c1, Kd.at kl j = .maker mk t c i c1) ∧ ∃ o : Oper, ops[i]? = some o ∧ ∃ e ∈ o.after, Region.binds .any e = true ∧ e.on = j
  one : ∀ i j v B t c0 c1 v' B' t' c0' c1', i < ops.size → j < ops.size → Kd.at kl i = .put v B t c0 c1 → Kd.at kl j = .put v' B' t' c0' c1' → i = j
theorem st_of (h : stB ops kl = true) : St ops kl := by
  unfold stB at h
  rw [Bool.and_eq_true] at h
  obtain ⟨hone, h⟩ := h
  rw [List.all_eq_true] at h
  refine ⟨?_, ?_, ?_⟩
  rotate_left 2
  · intro i j v B t c0 c1 v' B' t' c0' c1' hi hj h1 h2
    rw [List.all_eq_true] at hone
    have h3 := hone i (List.mem_range.2 hi)
    rw [List.all_eq_true] at h3
    have h4 := h3 j (List.mem_range.2 hj)
    rw [h1, h2] at h4
    simpa [Kd.isPut] using h4
  · intro i mk t c s c1 hi hk hs
    have := h i (List.mem_range.2 hi)
    rw [hk] at this
    simp only [Bool.or_eq_true, decide_eq_true_eq] at this
    rcases this with h | h
    · omega
    · split at h
      · rename_i j hj
        rw [hj]
        simp only [beq_iff_eq] at h
        rw [h]
      · cases h
  · intro i j hi hk
    have := h i (List.mem_range.2 hi)
    rw [hk] at this
    simp only [Bool.and_eq_true] at this
    obtain ⟨⟨h1, h2⟩, h3⟩ := this
    split at h1
    · rename_i mk t c s c1 hj
      simp only [Bool.and_eq_true, beq_iff_eq, decide_eq_true_eq] at h1
      obtain ⟨rfl, hjs⟩ := h1
      refine ⟨hjs, by simpa using h2, ⟨mk, t, c, c1, hj⟩, ?_⟩
      cases ho : ops[s]? with
      | none => rw [ho] at h3; cases h3
      | some o =>
        rw [ho] at h3
        simp only [Option.map_some, Option.getD_some, Array.any_eq_true', Bool.and_eq_true, beq_iff_eq] at h3
        obtain ⟨e, he, h1, h2⟩ := h3
        exact ⟨o, rfl, e, he, h1, h2⟩
    · cases h1

theorem finN_get {m : Nat} (hs : Ssa ops m) (σ : Nat → Nat) (hm : a0.tmps.size = m) : ∀ n, n ≤ ops.size →
    (finN ops kl a0 σ n).defers = a0.defers ∧ (finN ops kl a0 σ n).tmps.size = a0.tmps.size ∧
    (∀ i d, i < n → dstOf ops i = some d → (finN ops kl a0 σ n).tmps[d]? = some ((Kd.at kl i).val (σ i))) ∧
    (∀ t, (∀ i, i < n → dstOf ops i ≠ some t) → (finN ops kl a0 σ n).tmps[t]? = a0.tmps[t]?) := by
  intro n
  induction n with
  | zero => intro _; exact ⟨rfl, rfl, fun i d hi => absurd hi (by omega), fun t _ => rfl⟩
  | succ n ih =>
    intro hn
    obtain ⟨h1, h2, h3, h4⟩ := ih (by omega)
    unfold finN
    cases hd : dstOf ops n with
    | none =>
      refine ⟨h1, h2, fun i d hi he => ?_, fun t ht => h4 t fun i hi => ht i (by omega)⟩
      by_cases hin : i = n
      · subst hin; rw [hd] at he; cases he
      · exact h3 i d (by omega) he
    | some d0 =>
      have hlt : d0 < a0.tmps.size := by rw [hm]; exact hs.bd n d0 (by omega) hd
      refine ⟨h1, by simp [Act.put, h2], fun i d hi he => ?_, fun t ht => ?_⟩
      · by_cases hin : i = n
        · subst hin
          rw [hd] at he
          obtain rfl := Option.some.inj he
          simp [Act.put, h2, hlt]
        · have hne : d0 ≠ d := fun e => hs.one n i d0 (by omega) (by omega) (fun e => hin e.symm) hd (by rw [he, e])
          simp only [Act.put]
          rw [Array.getElem?_setIfInBounds_ne hne]
          exact h3 i d (by omega) he
      · have hne : d0 ≠ t := fun e => ht n (by omega) (by rw [hd, e])
        simp only [Act.put]
        rw [Array.getElem?_setIfInBounds_ne hne]
        exact h4 t fun i hi => ht i (by omega)

structure MInv (ops : Array Oper) (kl : List Kd) (a0 : Act) (w0 : World) (L : Array Bool) (a : Act) (W : World) (σ : Nat → Nat) : Prop where
  lsize : L.size = ops.size
  closed : ∀ (i : Nat) (o : Oper), ops[i]? = some o → L.getD i false = true → ∀ e ∈ o.after, Region.binds .any e = true → L.getD e.on false = true
  defers : a.defers = a0.defers
  size : a.tmps.size = a0.tmps.size
  on : ∀ i d, i < ops.size → L.getD i false = true → dstOf ops i = some d → a.tmps[d]? = some ((Kd.at kl i).val (σ i))
  off : ∀ t, (∀ i, i < ops.size → L.getD i false = true → dstOf ops i ≠ some t) → a.tmps[t]? = a0.tmps[t]?
  ext : Ext w0 W
  blk : ∀ i mk t c s c1, i < ops.size → L.getD i false = true → Kd.at kl i = .maker mk t c s c1 → w0.heap.size ≤ σ i ∧ W.heap[σ i]? = some (.cells (if L.getD s false then c1 else c) t (0, 0))
  dif : ∀ i j mk t c s c1 mk' t' c' s' c1', i < ops.size → j < ops.size → i ≠ j → L.getD i false = true → L.getD j false = true → Kd.at kl i = .maker mk t c s c1 → Kd.at kl j = .maker mk' t' c' s' c1' → σ i ≠ σ j
  put : ∀ i v B t c0 c1, i < ops.size → Kd.at kl i = .put v B t c0 c1 → w0.heap.size ≤ B ∧ W.heap[B]? = some (.cells (if L.getD i false then c1 else c0) t (0, 0)) ∧ ∀ j mk' t' c' s' c1', j < ops.size → L.getD j false = true → Kd.at kl j = .maker mk' t' c' s' c1' → σ j ≠ B

theorem getD_set {L : Array Bool} {i j : Nat} (hi : i < L.size) : (L.setIfInBounds i true).getD j false = (if j = i then true else L.getD j false) := by
  by_cases h : j = i
  · subst h; simp [hi]
  · rw [if_neg h]
    simp only [Array.getD_eq_getD_getElem?]
    rw [Array.getElem?_setIfInBounds_ne (fun e => h e.symm)]

/-- the frame's and the list's part of a step -/
theorem MInv.frame {m : Nat} {L : Array Bool} {a : Act} {W : World} {σ σ' : Nat → Nat} {i : Nat} {o : Oper} (hs : Ssa ops m) (hm : a0.tmps.size = m) (h : MInv ops kl a0 w0 L a W σ) (hi : i ∈ Region.ready .any ops L) (ho : ops[i]? = some o)
    (hσ : ∀ j, L.getD j false = true → σ' j = σ j) :
    (L.setIfInBounds i true).size = ops.size ∧
    (∀ (k : Nat) (q : Oper), ops[k]? = some q → (L.setIfInBounds i true).getD k false = true → ∀ e ∈ q.after, Region.binds .any e = true → (L.setIfInBounds i true).getD e.on false = true) ∧
    (a.put o.dst ((Kd.at kl i).val (σ' i))).defers = a0.defers ∧ (a.put o.dst ((Kd.at kl i).val (σ' i))).tmps.size = a0.tmps.size ∧
    (∀ k d, k < ops.size → (L.setIfInBounds i true).getD k false = true → dstOf ops k = some d → (a.put o.dst ((Kd.at kl i).val (σ' i))).tmps[d]? = some ((Kd.at kl k).val (σ' k))) ∧
    (∀ t, (∀ k, k < ops.size → (L.setIfInBounds i true).getD k false = true → dstOf ops k ≠ some t) → (a.put o.dst ((Kd.at kl i).val (σ' i))).tmps[t]? = a0.tmps[t]?) := by
  obtain ⟨_, oi, hoi, hall⟩ := mem_ready.1 hi
  obtain rfl : oi = o := Option.some.inj (hoi.symm.trans ho)
  have hilt : i < ops.size := (Array.getElem?_eq_some_iff.1 ho).1
  have hil : i < L.size := by rw [h.lsize]; exact hilt
  have hdst : dstOf ops i = oi.dst := by simp [dstOf, ho]
  have hval : ∀ k, L.getD k false = true → (Kd.at kl k).val (σ' k) = (Kd.at kl k).val (σ k) := fun k hk => by rw [hσ k hk]
  refine ⟨by simp [h.lsize], ?_, ?_, ?_, ?_, ?_⟩
  · intro k q hk hl e he hb
    rw [getD_set hil] at hl ⊢
    split
    · rfl
    · by_cases hki : k = i
      · subst hki
        obtain rfl : q = oi := Option.some.inj (hk.symm.trans ho)
        exact hall e he hb
      · rw [if_neg hki] at hl
        exact h.closed k q hk hl e he hb
  · rw [← h.defers]; cases oi.dst <;> rfl
  · rw [← h.size]; cases oi.dst <;> simp [Act.put]
  · intro k d hk hl hd
    rw [getD_set hil] at hl
    cases hod : oi.dst with
    | none =>
      simp only [Act.put]
      by_cases hki : k = i
      · subst hki; rw [hdst, hod] at hd; cases hd
      · rw [if_neg hki] at hl
        rw [hval k hl]
        exact h.on k d hk hl hd
    | some d0 =>
      have hlt : d0 < a.tmps.size := by rw [h.size, hm]; exact hs.bd i d0 hilt (hdst.trans hod)
      by_cases hki : k = i
      · subst hki
        rw [hdst, hod] at hd
        obtain rfl := Option.some.inj hd
        simp [Act.put, hlt]
      · rw [if_neg hki] at hl
        have hne : d0 ≠ d := fun e => hs.one i k d0 hilt hk (fun e => hki e.symm) (hdst.trans hod) (by rw [hd, e])
        simp only [Act.put]
        rw [Array.getElem?_setIfInBounds_ne hne, hval k hl]
        exact h.on k d hk hl hd
  · intro t ht
    have h1 := h.off t fun k hk hl => ht k hk (by rw [getD_set hil]; split <;> simp [hl])
    cases hod : oi.dst with
    | none => exact h1
    | some d0 =>
      have hne : d0 ≠ t := fun e => ht i hilt (by rw [getD_set hil]; simp) (by rw [hdst, hod, e])
      simp only [Act.put]
      rw [Array.getElem?_setIfInBounds_ne hne]
      exact h1

/-- an operation that may come up sees what it sees in the frame behind the operations ahead of it -/
theorem MInv.sees {m : Nat} {L : Array Bool} {a : Act} {W : World} {σ : Nat → Nat} {i : Nat} {o : Oper} (hs : Ssa ops m) (hm : a0.tmps.size = m) (h : MInv ops kl a0 w0 L a W σ) (hi : i ∈ Region.ready .any ops L) (ho : ops[i]? = some o) :
    execOp a.eval o = execOp (finN ops kl a0 σ i).eval o ∧ Region.wanted o (yielded ops a.tmps) = Region.wanted o (yielded ops (finN ops kl a0 σ i).tmps) := by
  obtain ⟨_, oi, hoi, hall⟩ := mem_ready.1 hi
  obtain rfl : oi = o := Option.some.inj (hoi.symm.trans ho)
  have hilt : i < ops.size := (Array.getElem?_eq_some_iff.1 ho).1
  obtain ⟨f1, f2, f3, f4⟩ := finN_get (kl := kl) hs σ hm i (by omega)
  have hat : ∀ t ∈ oi.looksAt ops, a.tmps[t]? = (finN ops kl a0 σ i).tmps[t]? := by
    intro t ht
    by_cases hex : ∃ j, j < ops.size ∧ dstOf ops j = some t
    · obtain ⟨j, hj, hd⟩ := hex
      obtain ⟨e, he, hb, rfl⟩ := hs.sees i oi t j ho ht hj hd
      rw [h.on e.on t hj (hall e he hb) hd, f3 e.on t (hs.dn i oi e ho he hb) hd]
    · rw [h.off t fun j hj _ hd => hex ⟨j, hj, hd⟩, f4 t fun j hj hd => hex ⟨j, by omega, hd⟩]
  refine ⟨execOp_congr oi (Region.noSelect_spec hs.nosel i oi · · ho) fun x hx => ?_, ?_⟩
  · cases x with
    | tmp t =>
      have := hat t (List.mem_append_left _ (List.mem_filterMap.2 ⟨.tmp t, by simpa using hx, rfl⟩))
      simp only [Act.eval, Array.getD_eq_getD_getElem?, this]
    | _ => rfl
  · unfold Region.wanted
    cases hg : oi.guard with
    | none => rfl
    | some gw =>
      obtain ⟨g, want⟩ := gw
      have : yielded ops a.tmps g = yielded ops (finN ops kl a0 σ i).tmps g := by
        unfold yielded
        cases ht : (ops[g]?).bind (·.dst) with
        | none => rfl
        | some t =>
          have := hat t (by simp [Oper.looksAt, hg, ht])
          simp [this]
      simp only [this]

/-- an operation that yields v and leaves a world of C -/
def putUpon (P : Program) (C : World → Prop) (v : Value) : Result Next → Prop
  | .ok (.value u) w' => u = v ∧ C w'
  | .ok .skip w' => v = undef ∧ C w'
  | .ok (.enter f args) w' => Calls P f args w' (fun e w'' => e = .returned v ∧ C w'')
  | _ => False

/-- what is asked of one operation -/
def Ob (P : Program) (ops : Array Oper) (kl : List Kd) (w0 W0 : World) (σ : Nat → Nat) (o : Oper) (k : Kd) (a : Act) : Prop := match k with
  | .quiet v => if Region.wanted o (yielded ops a.tmps) then ∀ x : Xt w0, Oper.quietUpon P (fun w'' => Ext x.w w'') x.w v ((execOp a.eval o).run P x.w) else v = undef
  | .maker mk t c _ _ => o.guard = none ∧ ∀ x : Xt w0, (execOp a.eval o).run P x.w = .ok (.value (mk x.w.heap.size)) (x.w.alloc (.cells c t))
  | .store j => o.guard = none ∧ ∀ (x : Xt w0) (mk : Nat → Value) (t : TypeId) (c : Array Value) (s : Nat) (c1 : Array Value), Kd.at kl j = .maker mk t c s c1 → w0.heap.size ≤ σ j → x.w.heap[σ j]? = some (.cells c t (0, 0)) →
      ∃ W', (execOp a.eval o).run P x.w = .ok .skip W' ∧ x.w.grownBy W' (some (σ j)) ∧ W'.heap.size = x.w.heap.size ∧ W'.heap[σ j]? = some (.cells c1 t (0, 0))
  | .put v B t c0 c1 => o.guard = none ∧ W0.heap[B]? = some (.cells c0 t (0, 0)) ∧ w0.heap.size ≤ B ∧ ∀ x : Xt w0, x.w.heap[B]? = some (.cells c0 t (0, 0)) →
      putUpon P (fun W' => x.w.grownBy W' (some B) ∧ W'.heap[B]? = some (.cells c1 t (0, 0))) v ((execOp a.eval o).run P x.w)

/-- what is known at the end -/
structure MFin (ops : Array Oper) (kl : List Kd) (w0 : World) (W : World) (σ : Nat → Nat) : Prop where
  ext : Ext w0 W
  blk : ∀ i mk t c s c1, i < ops.size → Kd.at kl i = .maker mk t c s c1 → w0.heap.size ≤ σ i ∧ W.heap[σ i]? = some (.cells (if s < ops.size then c1 else c) t (0, 0))
  dif : ∀ i j mk t c s c1 mk' t' c' s' c1', i < ops.size → j < ops.size → i ≠ j → Kd.at kl i = .maker mk t c s c1 → Kd.at kl j = .maker mk' t' c' s' c1' → σ i ≠ σ j
  put : ∀ i v B t c0 c1, i < ops.size → Kd.at kl i = .put v B t c0 c1 → W.heap[B]? = some (.cells c1 t (0, 0))

theorem all_listed {m : Nat} {L : Array Bool} (hs : Ssa ops m) (hl : L.size = ops.size) (h : Region.ready .any ops L = []) : ∀ i, i < ops.size → L.getD i false = true := by
  intro i
  induction i using Nat.strongRecOn with
  | _ i ih =>
    intro hi
    cases hg : L.getD i false with
    | true => rfl
    | false =>
      have ho := Array.getElem?_eq_getElem hi
      have : i ∈ Region.ready .any ops L := by
        rw [mem_ready]
        refine ⟨?_, ops[i], ho, fun e he hb => ih e.on (hs.dn i _ e ho he hb) (by have := hs.dn i _ e ho he hb; omega)⟩
        have hil : i < L.size := by omega
        simp [hil] at hg ⊢
        exact hg
      rw [h] at this
      cases this

theorem MInv.fin {m : Nat} {L : Array Bool} {a : Act} {W : World} {σ : Nat → Nat} (hs : Ssa ops m) (hm : a0.tmps.size = m) (h : MInv ops kl a0 w0 L a W σ) (hall : ∀ i, i < ops.size → L.getD i false = true) :
    a = finN ops kl a0 σ ops.size ∧ MFin ops kl w0 W σ := by
  obtain ⟨f1, f2, f3, f4⟩ := finN_get (kl := kl) hs σ hm ops.size (Nat.le_refl _)
  refine ⟨?_, h.ext, ?_, ?_, ?_⟩
  · have ht : a.tmps = (finN ops kl a0 σ ops.size).tmps := by
      apply Array.ext_getElem?
      intro t
      by_cases hex : ∃ j, j < ops.size ∧ dstOf ops j = some t
      · obtain ⟨j, hj, hd⟩ := hex
        rw [h.on j t hj (hall j hj) hd, f3 j t hj hd]
      · rw [h.off t fun j hj _ hd => hex ⟨j, hj, hd⟩, f4 t fun j hj hd => hex ⟨j, hj, hd⟩]
    have hd : a.defers = (finN ops kl a0 σ ops.size).defers := h.defers.trans f1.symm
    cases a
    generalize finN ops kl a0 σ ops.size = F at *
    cases F
    simp only at ht hd
    rw [ht, hd]
  · intro i mk t c s c1 hi hk
    obtain ⟨h1, h2⟩ := h.blk i mk t c s c1 hi (hall i hi) hk
    refine ⟨h1, h2.trans ?_⟩
    by_cases hsl : s < ops.size
    · rw [hall s hsl]; simp [hsl]
    · have : L.getD s false = false := by
        simp only [Array.getD_eq_getD_getElem?]
        rw [Array.getElem?_eq_none (by rw [h.lsize]; omega)]
        rfl
      rw [this]; simp [hsl]
  · intro i j mk t c s c1 mk' t' c' s' c1' hi hj hne hk hk'
    exact h.dif i j mk t c s c1 mk' t' c' s' c1' hi hj hne (hall i hi) (hall j hj) hk hk'
  · intro i v B t c0 c1 hi hk
    obtain ⟨_, h2, _⟩ := h.put i v B t c0 c1 hi hk
    rw [hall i hi] at h2
    simpa using h2

/-- one step of the invariant, for an operation that is no maker and no store -/
theorem MInv.quiet {m : Nat} {L : Array Bool} {a : Act} {W W' : World} {σ : Nat → Nat} {i : Nat} {o : Oper} {v : Value} (hs : Ssa ops m) (hst : St ops kl) (hm : a0.tmps.size = m) (h : MInv ops kl a0 w0 L a W σ) (hi : i ∈ Region.ready .any ops L) (ho : ops[i]? = some o)
    (hk : Kd.at kl i = .quiet v) (hx : Ext W W') : MInv ops kl a0 w0 (L.setIfInBounds i true) (a.put o.dst v) W' σ := by
  obtain ⟨g1, g2, g3, g4, g5, g6⟩ := h.frame hs hm hi ho (σ' := σ) (fun _ _ => rfl)
  rw [hk] at g3 g4 g5 g6
  have hilt : i < ops.size := (Array.getElem?_eq_some_iff.1 ho).1
  have hil : i < L.size := by rw [h.lsize]; exact hilt
  refine ⟨g1, g2, g3, g4, g5, g6, h.ext.trans hx, ?_, ?_, ?_⟩
  · intro j mk t c s c1 hj hl hkj
    have hji : j ≠ i := fun e => by rw [e, hk] at hkj; cases hkj
    rw [getD_set hil, if_neg hji] at hl
    obtain ⟨h1, h2⟩ := h.blk j mk t c s c1 hj hl hkj
    have hsi : s ≠ i := fun e => by
      subst e
      have := hst.made j mk t c s c1 hj hkj hilt
      rw [hk] at this
      cases this
    rw [getD_set hil, if_neg hsi]
    exact ⟨h1, (hx.heap (Array.getElem?_eq_some_iff.1 h2).1).trans h2⟩
  · intro j j' mk t c s c1 mk' t' c' s' c1' hj hj' hne hl hl' hkj hkj'
    have hji : j ≠ i := fun e => by rw [e, hk] at hkj; cases hkj
    have hji' : j' ≠ i := fun e => by rw [e, hk] at hkj'; cases hkj'
    rw [getD_set hil, if_neg hji] at hl
    rw [getD_set hil, if_neg hji'] at hl'
    exact h.dif j j' mk t c s c1 mk' t' c' s' c1' hj hj' hne hl hl' hkj hkj'
  · intro j v' B t c0 c1 hj hkj
    have hji : j ≠ i := fun e => by rw [e, hk] at hkj; cases hkj
    obtain ⟨h1, h2, h3⟩ := h.put j v' B t c0 c1 hj hkj
    rw [getD_set hil, if_neg hji]
    refine ⟨h1, (hx.heap (Array.getElem?_eq_some_iff.1 h2).1).trans h2, fun j' mk' t' c' s' c1' hj' hl' hkj' => ?_⟩
    have hji' : j' ≠ i := fun e => by rw [e, hk] at hkj'; cases hkj'
    rw [getD_set hil, if_neg hji'] at hl'
    exact h3 j' mk' t' c' s' c1' hj' hl' hkj'

theorem MInv.maker {m : Nat} {L : Array Bool} {a : Act} {W : World} {σ : Nat → Nat} {i : Nat} {o : Oper} {mk : Nat → Value} {t : TypeId} {c : Array Value} {s : Nat} {c1 : Array Value} (hs : Ssa ops m) (hst : St ops kl) (hm : a0.tmps.size = m) (h : MInv ops kl a0 w0 L a W σ)
    (hi : i ∈ Region.ready .any ops L) (ho : ops[i]? = some o) (hk : Kd.at kl i = .maker mk t c s c1) :
    MInv ops kl a0 w0 (L.setIfInBounds i true) (a.put o.dst (mk W.heap.size)) (W.alloc (.cells c t)) (fun j => if j = i then W.heap.size else σ j) := by
  have hun : L.getD i false = false := by
    have := (mem_ready.1 hi).1
    cases hg : L.getD i false with
    | false => rfl
    | true =>
      exfalso
      have hilt : i < ops.size := (Array.getElem?_eq_some_iff.1 ho).1
      have hil : i < L.size := by rw [h.lsize]; exact hilt
      simp [hil] at hg this
      rw [hg] at this
      cases this
  obtain ⟨g1, g2, g3, g4, g5, g6⟩ := h.frame hs hm hi ho (σ' := fun j => if j = i then W.heap.size else σ j) (fun j hj => if_neg fun e => by rw [e, hun] at hj; cases hj)
  have hv : (Kd.at kl i).val ((fun j => if j = i then W.heap.size else σ j) i) = mk W.heap.size := by rw [hk]; simp [Kd.val]
  rw [hv] at g3 g4 g5 g6
  have hilt : i < ops.size := (Array.getElem?_eq_some_iff.1 ho).1
  have hil : i < L.size := by rw [h.lsize]; exact hilt
  have hold : ∀ j mk t c s c1, j < ops.size → L.getD j false = true → Kd.at kl j = .maker mk t c s c1 → σ j < W.heap.size := fun j mk t c s c1 hj hl hkj => (Array.getElem?_eq_some_iff.1 (h.blk j mk t c s c1 hj hl hkj).2).1
  refine ⟨g1, g2, g3, g4, g5, g6, h.ext.alloc _, ?_, ?_, ?_⟩
  · intro j mk' t' c' s' c1' hj hl hkj
    by_cases hji : j = i
    · subst hji
      rw [hk] at hkj
      injection hkj with e1 e2 e3 e4 e5
      subst e1; subst e2; subst e3; subst e4; subst e5
      have hsun : (L.setIfInBounds j true).getD s false = false := by
        by_cases hsl : s < ops.size
        · have hks := hst.made j mk t c s c1 hj hk hsl
          obtain ⟨_, _, _, os, hos, e, he, hb, hon⟩ := hst.st s j hsl hks
          have hsj : s ≠ j := fun e => by rw [e, hk] at hks; cases hks
          rw [getD_set hil, if_neg hsj]
          cases hg : L.getD s false with
          | false => rfl
          | true =>
            have := h.closed s os hos hg e he hb
            rw [hon, hun] at this
            cases this
        · simp only [Array.getD_eq_getD_getElem?]
          rw [Array.getElem?_eq_none (by rw [g1]; omega)]
          rfl
      rw [hsun]
      simp only [if_pos]
      exact ⟨h.ext.size, by simpa using heap_alloc_new W _⟩
    · rw [getD_set hil, if_neg hji] at hl
      obtain ⟨h1, h2⟩ := h.blk j mk' t' c' s' c1' hj hl hkj
      have hsi : s' ≠ i := fun e => by
        subst e
        have := hst.made j mk' t' c' s' c1' hj hkj hilt
        rw [hk] at this
        cases this
      simp only [if_neg hji]
      rw [getD_set hil, if_neg hsi]
      exact ⟨h1, (((Ext.refl W).alloc _).heap (Array.getElem?_eq_some_iff.1 h2).1).trans h2⟩
  · intro j j' mk1 t1 c1 s1 d1 mk2 t2 c2 s2 d2 hj hj' hne hl hl' hkj hkj'
    show (if j = i then W.heap.size else σ j) ≠ (if j' = i then W.heap.size else σ j')
    by_cases hji : j = i
    · rw [if_pos hji]
      have hji' : j' ≠ i := fun e => hne (by rw [hji, e])
      rw [if_neg hji']
      rw [getD_set hil, if_neg hji'] at hl'
      have := hold j' mk2 t2 c2 s2 d2 hj' hl' hkj'
      omega
    · rw [if_neg hji]
      rw [getD_set hil, if_neg hji] at hl
      by_cases hji' : j' = i
      · rw [if_pos hji']
        have := hold j mk1 t1 c1 s1 d1 hj hl hkj
        omega
      · rw [if_neg hji']
        rw [getD_set hil, if_neg hji'] at hl'
        exact h.dif j j' mk1 t1 c1 s1 d1 mk2 t2 c2 s2 d2 hj hj' hne hl hl' hkj hkj'
  · intro j v B t0 d0 d1 hj hkj
    have hji : j ≠ i := fun e => by rw [e, hk] at hkj; cases hkj
    obtain ⟨h1, h2, h3⟩ := h.put j v B t0 d0 d1 hj hkj
    have hBlt := (Array.getElem?_eq_some_iff.1 h2).1
    rw [getD_set hil, if_neg hji]
    refine ⟨h1, (((Ext.refl W).alloc _).heap hBlt).trans h2, fun j' mk' t' c' s' c1' hj' hl' hkj' => ?_⟩
    show (if j' = i then W.heap.size else σ j') ≠ B
    by_cases hji' : j' = i
    · rw [if_pos hji']; omega
    · rw [if_neg hji']
      rw [getD_set hil, if_neg hji'] at hl'
      exact h3 j' mk' t' c' s' c1' hj' hl' hkj'

theorem MInv.store {m : Nat} {L : Array Bool} {a : Act} {W W' : World} {σ : Nat → Nat} {i j0 : Nat} {o : Oper} {mk : Nat → Value} {t : TypeId} {c : Array Value} {c1 : Array Value} (hs : Ssa ops m) (hst : St ops kl) (hm : a0.tmps.size = m) (h : MInv ops kl a0 w0 L a W σ)
    (hi : i ∈ Region.ready .any ops L) (ho : ops[i]? = some o) (hk : Kd.at kl i = .store j0) (hkj : Kd.at kl j0 = .maker mk t c i c1) (hb : w0.heap.size ≤ σ j0) (hj0 : j0 < ops.size) (hl0 : L.getD j0 false = true)
    (hg : W.grownBy W' (some (σ j0))) (_hz : W'.heap.size = W.heap.size) (hc : W'.heap[σ j0]? = some (.cells c1 t (0, 0))) :
    MInv ops kl a0 w0 (L.setIfInBounds i true) (a.put o.dst undef) W' σ := by
  obtain ⟨g1, g2, g3, g4, g5, g6⟩ := h.frame hs hm hi ho (σ' := σ) (fun _ _ => rfl)
  rw [hk] at g3 g4 g5 g6
  have hilt : i < ops.size := (Array.getElem?_eq_some_iff.1 ho).1
  have hil : i < L.size := by rw [h.lsize]; exact hilt
  refine ⟨g1, g2, g3, g4, g5, g6, h.ext.grown hg (fun k hk => by cases hk; exact hb), ?_, ?_, ?_⟩
  · intro j mk' t' c' s' c1' hj hl hkj'
    have hji : j ≠ i := fun e => by rw [e, hk] at hkj'; cases hkj'
    rw [getD_set hil, if_neg hji] at hl
    obtain ⟨h1, h2⟩ := h.blk j mk' t' c' s' c1' hj hl hkj'
    refine ⟨h1, ?_⟩
    by_cases hj0' : j = j0
    · subst hj0'
      rw [hkj] at hkj'
      injection hkj' with e1 e2 e3 e4 e5
      subst e1; subst e2; subst e3; subst e4; subst e5
      rw [getD_set hil, if_pos rfl]
      simpa using hc
    · have hne := h.dif j j0 mk' t' c' s' c1' mk t c i c1 hj hj0 hj0' hl hl0 hkj' hkj
      have hsi : s' ≠ i := fun e => by
        subst e
        have := hst.made j mk' t' c' s' c1' hj hkj' hilt
        rw [hk] at this
        injection this with this
        exact hj0' this.symm
      rw [getD_set hil, if_neg hsi]
      exact (hg.block (σ j) (Array.getElem?_eq_some_iff.1 h2).1 (fun e => hne (by injection e))).trans h2
  · intro j j' mk t c s c1 mk' t' c' s' c1' hj hj' hne hl hl' hkj hkj'
    have hji : j ≠ i := fun e => by rw [e, hk] at hkj; cases hkj
    have hji' : j' ≠ i := fun e => by rw [e, hk] at hkj'; cases hkj'
    rw [getD_set hil, if_neg hji] at hl
    rw [getD_set hil, if_neg hji'] at hl'
    exact h.dif j j' mk t c s c1 mk' t' c' s' c1' hj hj' hne hl hl' hkj hkj'
  · intro j v B t0 d0 d1 hj hkj'
    have hji : j ≠ i := fun e => by rw [e, hk] at hkj'; cases hkj'
    obtain ⟨h1, h2, h3⟩ := h.put j v B t0 d0 d1 hj hkj'
    rw [getD_set hil, if_neg hji]
    refine ⟨h1, (hg.block B (Array.getElem?_eq_some_iff.1 h2).1 (fun e => h3 j0 mk t c i c1 hj0 hl0 hkj (by injection e with e; exact e.symm))).trans h2, fun j' mk' t' c' s' c1' hj' hl' hkj'' => ?_⟩
    have hji' : j' ≠ i := fun e => by rw [e, hk] at hkj''; cases hkj''
    rw [getD_set hil, if_neg hji'] at hl'
    exact h3 j' mk' t' c' s' c1' hj' hl' hkj''
theorem MInv.putS {m : Nat} {L : Array Bool} {a : Act} {W W' : World} {σ : Nat → Nat} {i : Nat} {v : Value} {B : Nat} {o : Oper} {t : TypeId} {c0 c1 : Array Value} (hs : Ssa ops m) (hst : St ops kl) (hm : a0.tmps.size = m) (h : MInv ops kl a0 w0 L a W σ)
    (hi : i ∈ Region.ready .any ops L) (ho : ops[i]? = some o) (hk : Kd.at kl i = .put v B t c0 c1)
    (hg : W.grownBy W' (some B)) (hc : W'.heap[B]? = some (.cells c1 t (0, 0))) :
    MInv ops kl a0 w0 (L.setIfInBounds i true) (a.put o.dst v) W' σ := by
  obtain ⟨g1, g2, g3, g4, g5, g6⟩ := h.frame hs hm hi ho (σ' := σ) (fun _ _ => rfl)
  rw [hk] at g3 g4 g5 g6
  have hilt : i < ops.size := (Array.getElem?_eq_some_iff.1 ho).1
  have hil : i < L.size := by rw [h.lsize]; exact hilt
  obtain ⟨p1, p2, p3⟩ := h.put i v B t c0 c1 hilt hk
  refine ⟨g1, g2, g3, g4, g5, g6, h.ext.grown hg (fun k hk => by cases hk; exact p1), ?_, ?_, ?_⟩
  · intro j mk' t' c' s' c1' hj hl hkj'
    have hji : j ≠ i := fun e => by rw [e, hk] at hkj'; cases hkj'
    rw [getD_set hil, if_neg hji] at hl
    obtain ⟨h1, h2⟩ := h.blk j mk' t' c' s' c1' hj hl hkj'
    have hsi : s' ≠ i := fun e => by
      subst e
      have := hst.made j mk' t' c' s' c1' hj hkj' hilt
      rw [hk] at this
      cases this
    rw [getD_set hil, if_neg hsi]
    exact ⟨h1, (hg.block (σ j) (Array.getElem?_eq_some_iff.1 h2).1 (fun e => p3 j mk' t' c' s' c1' hj hl hkj' (by injection e))).trans h2⟩
  · intro j j' mk t c s c1 mk' t' c' s' c1' hj hj' hne hl hl' hkj hkj'
    have hji : j ≠ i := fun e => by rw [e, hk] at hkj; cases hkj
    have hji' : j' ≠ i := fun e => by rw [e, hk] at hkj'; cases hkj'
    rw [getD_set hil, if_neg hji] at hl
    rw [getD_set hil, if_neg hji'] at hl'
    exact h.dif j j' mk t c s c1 mk' t' c' s' c1' hj hj' hne hl hl' hkj hkj'
  · intro j v' B' t' d0 d1 hj hkj
    obtain rfl : j = i := hst.one j i v' B' t' d0 d1 v B t c0 c1 hj hilt hkj hk
    rw [hk] at hkj
    injection hkj with e0 e1 e2 e3 e4
    subst e0; subst e1; subst e2; subst e3; subst e4
    rw [getD_set hil, if_pos rfl]
    refine ⟨p1, by simpa using hc, fun j' mk' t' c' s' c1' hj' hl' hkj' => ?_⟩
    have hji' : j' ≠ j := fun e => by rw [e, hk] at hkj'; cases hkj'
    rw [getD_set hil, if_neg hji'] at hl'
    exact p3 j' mk' t' c' s' c1' hj' hl' hkj'

/-- how many have not come up yet -/
def unl (n : Nat) (L : Array Bool) : Nat := ((List.range n).filter fun i => !L.getD i false).length
theorem unl_set {n i : Nat} {L : Array Bool} (hi : i < n) (hil : i < L.size) (hun : L.getD i false = false) : unl n (L.setIfInBounds i true) < unl n L := by
  unfold unl
  have hsub : ((List.range n).filter fun j => !(L.setIfInBounds i true).getD j false) = ((List.range n).filter fun j => !L.getD j false).filter fun j => j != i := by
    rw [List.filter_filter]
    apply List.filter_congr
    intro j _
    rw [getD_set hil]
    by_cases h : j = i <;> simp [h]
  rw [hsub]
  apply List.length_filter_lt_length_iff_exists.2
  exact ⟨i, List.mem_filter.2 ⟨List.mem_range.2 hi, by rw [hun]; rfl⟩, by simp⟩
theorem unl_zero {n : Nat} {L : Array Bool} (h : unl n L = 0) : ∀ i, i < n → L.getD i false = true := by
  intro i hi
  unfold unl at h
  have := List.eq_nil_of_length_eq_zero h
  rw [List.filter_eq_nil_iff] at this
  have := this i (List.mem_range.2 hi)
  simpa using this

theorem any_made {m : Nat} {Q : Exit → Act → World → Prop} (hs : Ssa ops m) (hst : St ops kl) (hm : a0.tmps.size = m)
    (hob : ∀ (i : Nat) (o : Oper), ops[i]? = some o → ∀ σ, Ob P ops kl w0 W0 σ o (Kd.at kl i) (finN ops kl a0 σ i))
    (hfin : ∀ σ W, MFin ops kl w0 W σ → Q .normal (finN ops kl a0 σ ops.size) W) :
    ∀ (fuel : Nat) (L : Array Bool) (a : Act) (W : World) (σ : Nat → Nat), MInv ops kl a0 w0 L a W σ → unl ops.size L ≤ fuel → wpAny P .any ops Q fuel L a W := by
  have hend : ∀ (L : Array Bool) (a : Act) (W : World) (σ : Nat → Nat), MInv ops kl a0 w0 L a W σ → (∀ i, i < ops.size → L.getD i false = true) → Q .normal a W := by
    intro L a W σ h hall
    obtain ⟨rfl, hf⟩ := h.fin hs hm hall
    exact hfin σ W hf
  intro fuel
  induction fuel with
  | zero =>
    intro L a W σ h hu
    have hall := unl_zero (n := ops.size) (L := L) (by omega)
    refine ⟨?_, hend L a W σ h hall⟩
    apply List.eq_nil_iff_forall_not_mem.2
    intro i hi
    obtain ⟨hun, o, ho, _⟩ := mem_ready.1 hi
    have hilt : i < ops.size := (Array.getElem?_eq_some_iff.1 ho).1
    have := hall i hilt
    have hil : i < L.size := by rw [h.lsize]; exact hilt
    simp [hil] at this hun
    rw [this] at hun
    cases hun
  | succ fuel ih =>
    intro L a W σ h hu
    refine ⟨fun hr => hend L a W σ h (all_listed hs h.lsize hr), fun i hi => ?_⟩
    obtain ⟨hun0, o, ho, _⟩ := mem_ready.1 hi
    have hilt : i < ops.size := (Array.getElem?_eq_some_iff.1 ho).1
    have hil : i < L.size := by rw [h.lsize]; exact hilt
    have hun : L.getD i false = false := by simp [hil] at hun0 ⊢; exact hun0
    have hlt := unl_set hilt hil hun
    have hu' : unl ops.size (L.setIfInBounds i true) ≤ fuel := by omega
    obtain ⟨hx, hw⟩ := h.sees hs hm hi ho
    have hobi := hob i o ho σ
    unfold wpOp
    simp only [ho]
    cases hk : Kd.at kl i with
    | quiet v =>
      rw [hk] at hobi
      simp only [Ob] at hobi
      rw [← hx, ← hw] at hobi
      split
      · rename_i hwt
        rw [if_pos hwt] at hobi
        refine .inl ?_
        have h3 := hobi ⟨W, h.ext⟩
        unfold Oper.wp
        simp only [Xt.w] at h3
        generalize (execOp a.eval o).run P W = r at *
        cases r with
        | ok n w' =>
          cases n <;> simp only [Oper.quietUpon] at h3 <;> simp only [Oper.upon]
          case value u =>
            obtain ⟨rfl, rfl⟩ := h3
            exact ih _ _ _ σ (h.quiet hs hst hm hi ho hk (Ext.refl _)) hu'
          case skip =>
            obtain ⟨rfl, rfl⟩ := h3
            exact ih _ _ _ σ (h.quiet hs hst hm hi ho hk (Ext.refl _)) hu'
          case enter f args =>
            obtain ⟨rfl, hc⟩ := h3
            exact hc.mono fun e w'' ⟨he, hx''⟩ => by
              subst he
              exact ih _ _ _ σ (h.quiet hs hst hm hi ho hk hx'') hu'
        | halt x w' => simp only [Oper.quietUpon] at h3
      · rename_i hwt
        rw [if_neg hwt] at hobi
        subst hobi
        exact ih _ _ _ σ (h.quiet hs hst hm hi ho hk (Ext.refl _)) hu'
    | maker mk t c s c1 =>
      rw [hk] at hobi
      simp only [Ob] at hobi
      rw [← hx] at hobi
      obtain ⟨hg, hrun⟩ := hobi
      rw [if_pos (by simp [Region.wanted, hg])]
      refine .inl ?_
      unfold Oper.wp
      have := hrun ⟨W, h.ext⟩
      simp only [Xt.w] at this
      rw [this]
      simp only [Oper.upon]
      exact ih _ _ _ _ (h.maker hs hst hm hi ho hk) hu'
    | store j0 =>
      rw [hk] at hobi
      simp only [Ob] at hobi
      rw [← hx] at hobi
      obtain ⟨hg, hrun⟩ := hobi
      rw [if_pos (by simp [Region.wanted, hg])]
      refine .inl ?_
      obtain ⟨hj0, _, ⟨mk, t, c, c1, hkj⟩, o', ho', e, he, hb, hon⟩ := hst.st i j0 hilt hk
      obtain rfl : o' = o := Option.some.inj (ho'.symm.trans ho)
      obtain ⟨_, o2, ho2, hall⟩ := mem_ready.1 hi
      obtain rfl : o2 = o' := Option.some.inj (ho2.symm.trans ho)
      have hl0 : L.getD j0 false = true := by rw [← hon]; exact hall e he hb
      obtain ⟨hbase, hblk⟩ := h.blk j0 mk t c i c1 hj0 hl0 hkj
      rw [hun] at hblk
      obtain ⟨W', hr, hgr, hz, hc1⟩ := hrun ⟨W, h.ext⟩ mk t c i c1 hkj hbase (by simpa [Xt.w] using hblk)
      unfold Oper.wp
      simp only [Xt.w] at hr hgr hz
      rw [hr]
      simp only [Oper.upon]
      exact ih _ _ _ σ (h.store hs hst hm hi ho hk hkj hbase hj0 hl0 hgr hz hc1) hu'
    | put v B t c0 c1 =>
      rw [hk] at hobi
      simp only [Ob] at hobi
      rw [← hx] at hobi
      obtain ⟨hg, _, _, hrun⟩ := hobi
      rw [if_pos (by simp [Region.wanted, hg])]
      refine .inl ?_
      obtain ⟨_, p2, _⟩ := h.put i v B t c0 c1 hilt hk
      rw [hun] at p2
      have h3 := hrun ⟨W, h.ext⟩ (by simpa [Xt.w] using p2)
      unfold Oper.wp
      simp only [Xt.w] at h3
      generalize (execOp a.eval o).run P W = r at *
      cases r with
      | ok nx w' =>
        cases nx <;> simp only [putUpon] at h3 <;> simp only [Oper.upon]
        case value u =>
          obtain ⟨rfl, hgr, hc1⟩ := h3
          exact ih _ _ _ σ (h.putS hs hst hm hi ho hk hgr hc1) hu'
        case skip =>
          obtain ⟨rfl, hgr, hc1⟩ := h3
          exact ih _ _ _ σ (h.putS hs hst hm hi ho hk hgr hc1) hu'
        case enter f args =>
          exact h3.mono fun e w'' ⟨he, hgr, hc1⟩ => by
            subst he
            exact ih _ _ _ σ (h.putS hs hst hm hi ho hk hgr hc1) hu'
      | halt x w' => simp only [putUpon] at h3

/-- the walk in the order of the text -/
def MW (P : Program) (ops : Array Oper) (w0 W0 : World) (Q : Exit → Act → World → Prop) : List Oper → List Kd → ((Nat → Nat) → Act) → Prop
  | [], kl, A => stB ops kl = true ∧ ∀ σ W, MFin ops kl w0 W σ → Q .normal (A σ) W
  | o :: rest, kl, A => ∃ k : Kd, (∀ (σ : Nat → Nat) (more : List Kd), Ob P ops (kl ++ k :: more) w0 W0 σ o k (A σ)) ∧ MW P ops w0 W0 Q rest (kl ++ [k]) (fun σ => (A σ).put o.dst (k.val (σ kl.length)))

theorem finN_append (σ : Nat → Nat) : ∀ (n : Nat) (k1 k2 : List Kd), n ≤ k1.length → finN ops (k1 ++ k2) a0 σ n = finN ops k1 a0 σ n := by
  intro n
  induction n with
  | zero => intro _ _ _; rfl
  | succ n ih =>
    intro k1 k2 h
    unfold finN
    rw [ih k1 k2 (by omega)]
    have : Kd.at (k1 ++ k2) n = Kd.at k1 n := by
      unfold Kd.at
      simp only [List.getD_eq_getElem?_getD]
      rw [List.getElem?_append_left (by omega)]
    rw [this]

theorem mw_sound {Q : Exit → Act → World → Prop} : ∀ (l : List Oper) (kl : List Kd) (A : (Nat → Nat) → Act), (∀ j, l[j]? = ops[kl.length + j]?) → (∀ σ, A σ = finN ops kl a0 σ kl.length) → MW P ops w0 W0 Q l kl A →
    ∃ kl' : List Kd, (∃ more, kl' = kl ++ more ∧ more.length = l.length) ∧ stB ops kl' = true ∧ (∀ (i : Nat) (o : Oper), kl.length ≤ i → ops[i]? = some o → ∀ σ, Ob P ops kl' w0 W0 σ o (Kd.at kl' i) (finN ops kl' a0 σ i)) ∧
      (∀ σ W, MFin ops kl' w0 W σ → Q .normal (finN ops kl' a0 σ kl'.length) W) := by
  intro l
  induction l with
  | nil =>
    intro kl A hl hA h
    refine ⟨kl, ⟨[], by simp, rfl⟩, h.1, ?_, fun σ W hf => by rw [← hA]; exact h.2 σ W hf⟩
    intro i o hi ho
    have := hl (i - kl.length)
    rw [show kl.length + (i - kl.length) = i by omega, ho] at this
    simp at this
  | cons o rest ih =>
    intro kl A hl hA h
    obtain ⟨k, hk, hr⟩ := h
    have h0 : ops[kl.length]? = some o := by have := hl 0; simpa using this.symm
    have hA' : ∀ σ, (fun σ => (A σ).put o.dst (k.val (σ kl.length))) σ = finN ops (kl ++ [k]) a0 σ (kl ++ [k]).length := by
      intro σ
      simp only [List.length_append, List.length_cons, List.length_nil, Nat.zero_add]
      unfold finN
      rw [finN_append σ kl.length kl [k] (Nat.le_refl _), hA σ]
      have e1 : dstOf ops kl.length = o.dst := by simp [dstOf, h0]
      have e2 : Kd.at (kl ++ [k]) kl.length = k := by simp [Kd.at]
      rw [e1, e2]
    obtain ⟨kl', ⟨more, rfl, hml⟩, h1, h2, h3⟩ := ih (kl ++ [k]) _ (fun j => by
      have := hl (j + 1)
      simp only [List.getElem?_cons_succ] at this
      rw [this]
      simp only [List.length_append, List.length_cons, List.length_nil]
      congr 1
      omega) hA' hr
    refine ⟨kl ++ [k] ++ more, ⟨k :: more, by simp, by simp [hml]⟩, h1, ?_, h3⟩
    intro i o' hi ho' σ
    by_cases hik : i = kl.length
    · subst hik
      obtain rfl : o' = o := Option.some.inj (ho'.symm.trans h0)
      have e1 : Kd.at (kl ++ [k] ++ more) kl.length = k := by simp [Kd.at]
      rw [e1, List.append_assoc, finN_append σ kl.length kl _ (Nat.le_refl _), ← hA σ]
      exact hk σ more
    · exact h2 i o' (by simp; omega) ho' σ

theorem wp_region_madeP {id m : Nat} {Q : Exit → Act → World → Prop} {l : List Oper} (hm : P.follows .mixedOrders = true) (hB : ssaB l.toArray m = true) (hsz : a0.tmps.size = m) (hW : Ext w0 W0)
    (h : MW P l.toArray w0 W0 Q l [] (fun _ => a0)) : (Code.region id l.toArray true).wp P Q a0 W0 := by
  obtain ⟨kl, ⟨more, hkl, hml⟩, h1, h2, h3⟩ := mw_sound (a0 := a0) l [] (fun _ => a0) (by simp) (fun _ => rfl) h
  have hs := ssa_of hB
  have hst := st_of h1
  have hlen : kl.length = l.toArray.size := by rw [hkl]; simpa using hml
  refine wp_region_any hm ?_
  refine any_made (w0 := w0) (W0 := W0) hs hst hsz (fun i o ho σ => h2 i o (by simp) ho σ) (fun σ W hf => by rw [← hlen]; exact h3 σ W hf) _ _ _ _ (fun _ => 0) ?_ ?_
  · have hno : ∀ i, (Array.replicate l.toArray.size false).getD i false = false := by
      intro i
      rw [Array.getD_eq_getD_getElem?, Array.getElem?_replicate]
      split <;> rfl
    refine ⟨by simp, ?_, rfl, rfl, ?_, fun _ _ => rfl, hW.drew, ?_, ?_, ?_⟩
    · intro i o _ hl; rw [hno] at hl; cases hl
    · intro i d _ hl; rw [hno] at hl; cases hl
    · intro i mk t c s c1 _ hl; rw [hno] at hl; cases hl
    · intro i j mk t c s c1 mk' t' c' s' c1' _ _ _ hl; rw [hno] at hl; cases hl
    · intro i v B t c0 c1 hi hk
      have ho := h2 i _ (by simp) (Array.getElem?_eq_getElem hi) (fun _ => 0)
      rw [hk] at ho
      simp only [Ob] at ho
      obtain ⟨_, ho1, ho2, _⟩ := ho
      refine ⟨ho2, ?_, ?_⟩
      · rw [hno]; simpa using ho1
      · intro j mk' t' c' s' c1' _ hl; rw [hno] at hl; cases hl
  · unfold unl
    exact Nat.le_trans (List.length_filter_le _ _) (by simp)
theorem wp_region_made {id m : Nat} {Q : Exit → Act → World → Prop} {l : List Oper} (hm : P.follows .mixedOrders = true) (hB : ssaB l.toArray m = true) (hsz : a0.tmps.size = m)
    (h : MW P l.toArray w0 w0 Q l [] (fun _ => a0)) : (Code.region id l.toArray true).wp P Q a0 w0 := wp_region_madeP hm hB hsz (Ext.refl w0) h

/-- the block g is being filled, nothing else is touched -/
structure Fill (W : World) (g : Nat) (t : TypeId) (cs : Array Value) (W' : World) : Prop where
  grown : W.grownBy W' (some g)
  size : W'.heap.size = W.heap.size
  blk : W'.heap[g]? = some (.cells cs t (0, 0))
theorem Fill.start {W : World} {g : Nat} {t : TypeId} {c : Array Value} (h : W.heap[g]? = some (.cells c t (0, 0))) : Fill W g t c W := ⟨World.grownBy.refl W _, rfl, h⟩
theorem Fill.set {W W' : World} {g : Nat} {t : TypeId} {cs : Array Value} (h : Fill W g t cs W') (i : Nat) (u : Value) : Fill W g t (cs.setIfInBounds i u) (W'.setCell ⟨g, i, none⟩ u) := by
  refine ⟨⟨h.grown.os, h.grown.tape, h.grown.output, by rw [World.size_setCell]; exact h.grown.size, fun k hk hne => ?_⟩, by rw [World.size_setCell]; exact h.size, ?_⟩
  · rw [Below.heap_setCell _ _ _ _ (fun e => hne (by rw [e]))]
    exact h.grown.block k hk hne
  · have := h.blk
    simp [World.setCell, Array.getElem?_modify, this]
theorem calls_ext {P : Program} {f : FuncId} {args : Array Value} {w : World} {v : Value} (h : Calls P f args w fun e w' => e = .returned v ∧ w = w') : Calls P f args w fun e w' => e = .returned v ∧ Ext w w' :=
  h.mono fun _ _ ⟨he, hx⟩ => ⟨he, hx ▸ Ext.refl w⟩
theorem mfin_blk {ops : Array Oper} {kl : List Kd} {w0 W : World} {σ : Nat → Nat} (h : MFin ops kl w0 W σ) (i s : Nat) {mk : Nat → Value} {t : TypeId} {c c1 : Array Value} (hk : Kd.at kl i = .maker mk t c s c1) (hi : i < ops.size) (cs : Array Value) (he : (if s < ops.size then c1 else c) = cs) :
    w0.heap.size ≤ σ i ∧ σ i < W.heap.size ∧ (∀ k, W.cell? ⟨σ i, k, none⟩ = cs[k]?) ∧ (∀ k, W.frozen? ⟨σ i, k, none⟩ = false) := by
  obtain ⟨h1, h2⟩ := h.blk i mk t c s c1 hi hk
  rw [he] at h2
  exact ⟨h1, (Array.getElem?_eq_some_iff.1 h2).1, fun k => cell_of_row _ _ _ _ _ _ h2, fun k => frozen_of_row _ _ _ _ _ h2⟩

/-! ### Steps for the walk -/
theorem mw_quiet {Q : Exit → Act → World → Prop} {o : Oper} {rest : List Oper} {kl : List Kd} {A : (Nat → Nat) → Act}
    (h : ∃ v : Value, (∀ (σ : Nat → Nat), if Region.wanted o (yielded ops (A σ).tmps) then ∀ x : Xt w0, Oper.quietUpon P (fun w'' => Ext x.w w'') x.w v ((execOp (A σ).eval o).run P x.w) else v = undef) ∧ MW P ops w0 W0 Q rest (kl ++ [.quiet v]) (fun σ => (A σ).put o.dst v)) :
    MW P ops w0 W0 Q (o :: rest) kl A := by
  obtain ⟨v, h1, h2⟩ := h
  exact ⟨.quiet v, fun σ _ => h1 σ, h2⟩
theorem mw_maker {Q : Exit → Act → World → Prop} {o : Oper} {rest : List Oper} {kl : List Kd} {A : (Nat → Nat) → Act} (mk : Nat → Value) (t : TypeId) (c : Array Value) (s : Nat) (c1 : Array Value) (hg : o.guard = none)
    (h1 : ∀ (σ : Nat → Nat) (x : Xt w0), (execOp (A σ).eval o).run P x.w = .ok (.value (mk x.w.heap.size)) (x.w.alloc (.cells c t))) (h2 : MW P ops w0 W0 Q rest (kl ++ [.maker mk t c s c1]) (fun σ => (A σ).put o.dst (mk (σ kl.length)))) :
    MW P ops w0 W0 Q (o :: rest) kl A := ⟨.maker mk t c s c1, fun σ _ => ⟨hg, h1 σ⟩, h2⟩
theorem mw_store {Q : Exit → Act → World → Prop} {o : Oper} {rest : List Oper} {kl : List Kd} {A : (Nat → Nat) → Act} (j : Nat) {mk : Nat → Value} {t : TypeId} {c : Array Value} {s : Nat} {c1 : Array Value} (hj : kl[j]? = some (.maker mk t c s c1)) (hg : o.guard = none)
    (h1 : ∀ (σ : Nat → Nat) (x : Xt w0), w0.heap.size ≤ σ j → x.w.heap[σ j]? = some (.cells c t (0, 0)) →
      ∃ W', (execOp (A σ).eval o).run P x.w = .ok .skip W' ∧ Fill x.w (σ j) t c1 W') (h2 : MW P ops w0 W0 Q rest (kl ++ [.store j]) (fun σ => (A σ).put o.dst undef)) :
    MW P ops w0 W0 Q (o :: rest) kl A := by
  refine ⟨.store j, fun σ more => ⟨hg, fun x mk' t' c' s' c1' hk hb hc => ?_⟩, h2⟩
  have hjl : j < kl.length := (List.getElem?_eq_some_iff.1 hj).1
  have : Kd.at (kl ++ .store j :: more) j = .maker mk t c s c1 := by
    unfold Kd.at
    simp only [List.getD_eq_getElem?_getD]
    rw [List.getElem?_append_left hjl, hj]
    rfl
  rw [this] at hk
  injection hk with e1 e2 e3 e4 e5
  subst e1; subst e2; subst e3; subst e4; subst e5
  obtain ⟨W', hr, hf⟩ := h1 σ x hb hc
  exact ⟨W', hr, hf.grown, hf.size, hf.blk⟩
theorem mw_put {Q : Exit → Act → World → Prop} {o : Oper} {rest : List Oper} {kl : List Kd} {A : (Nat → Nat) → Act} (B : Nat) (t : TypeId) (c c1 : Array Value) (hg : o.guard = none) (hb : w0.heap.size ≤ B) (h0 : W0.heap[B]? = some (.cells c t (0, 0)))
    (h1 : ∀ (σ : Nat → Nat) (x : Xt w0), x.w.heap[B]? = some (.cells c t (0, 0)) →
      ∃ W', (execOp (A σ).eval o).run P x.w = .ok .skip W' ∧ Fill x.w B t c1 W') (h2 : MW P ops w0 W0 Q rest (kl ++ [.put undef B t c c1]) (fun σ => (A σ).put o.dst undef)) :
    MW P ops w0 W0 Q (o :: rest) kl A := by
  refine ⟨.put undef B t c c1, fun σ more => ⟨hg, h0, hb, fun x hc => ?_⟩, h2⟩
  obtain ⟨W', hr, hf⟩ := h1 σ x hc
  rw [hr]
  exact ⟨rfl, hf.grown, hf.blk⟩
theorem mw_putc {Q : Exit → Act → World → Prop} {o : Oper} {rest : List Oper} {kl : List Kd} {A : (Nat → Nat) → Act} (v : Value) (B : Nat) (t : TypeId) (c c1 : Array Value) (hg : o.guard = none) (hb : w0.heap.size ≤ B) (h0 : W0.heap[B]? = some (.cells c t (0, 0)))
    (h1 : ∀ (σ : Nat → Nat) (x : Xt w0), x.w.heap[B]? = some (.cells c t (0, 0)) → ∃ f args, (execOp (A σ).eval o).run P x.w = .ok (.enter f args) x.w ∧
      Calls P f args x.w fun e w'' => e = .returned v ∧ x.w.grownBy w'' (some B) ∧ w''.heap[B]? = some (.cells c1 t (0, 0))) (h2 : MW P ops w0 W0 Q rest (kl ++ [.put v B t c c1]) (fun σ => (A σ).put o.dst v)) :
    MW P ops w0 W0 Q (o :: rest) kl A := by
  refine ⟨.put v B t c c1, fun σ more => ⟨hg, h0, hb, fun x hc => ?_⟩, h2⟩
  obtain ⟨f, args, hr, hf⟩ := h1 σ x hc
  rw [hr]
  exact hf
end
theorem heap_alloc_at (w : World) (o : Obj) (k : Nat) (h : k = w.heap.size) : (w.alloc o).heap[k]? = some o := by
  subst h
  exact heap_alloc_new w o
theorem wp_region_madeC {P : Program} {a0 : Act} {w0 : World} {id m : Nat} {Q : Exit → Act → World → Prop} {l : List Oper} (hm : P.follows .mixedOrders = true) (hB : ssaB l.toArray m = true) (hsz : a0.tmps.size = m)
    (h : (∀ (x : Xt w0) (b o : Nat), b < w0.heap.size → x.w.cell? ⟨b, o, none⟩ = w0.cell? ⟨b, o, none⟩) → MW P l.toArray w0 w0 Q l [] (fun _ => a0)) : (Code.region id l.toArray true).wp P Q a0 w0 :=
  wp_region_made hm hB hsz (h fun x b o h => x.ext.cells.1 b o h)
theorem wp_region_madePC {P : Program} {a0 : Act} (w0 : World) {W0 : World} {id m : Nat} {Q : Exit → Act → World → Prop} {l : List Oper} (hm : P.follows .mixedOrders = true) (hB : ssaB l.toArray m = true) (hsz : a0.tmps.size = m) (hW : Ext w0 W0)
    (h : (∀ (x : Xt w0) (b o : Nat), b < w0.heap.size → x.w.cell? ⟨b, o, none⟩ = w0.cell? ⟨b, o, none⟩) → MW P l.toArray w0 W0 Q l [] (fun _ => a0)) : (Code.region id l.toArray true).wp P Q a0 W0 :=
  wp_region_madeP hm hB hsz hW (h fun x b o h => x.ext.cells.1 b o h)
end Go.Proofs.YtamiploliebplaaDoor
