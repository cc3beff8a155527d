/- A region that draws its order, whose operations read old memory, call functions that make at most new memory, and make blocks of their own: one walk serves every order. -/
import Derived.Test.YtbddgeoaaklgpaaBase
import Derived.StillTail
namespace Go.Proofs.Ytbddgeoaaklgpaa
open Go.RowKit

/-- What an operation of such a region is: it yields v (and makes at most new memory); it makes the block n, yields mk n, and the operation s (if there is one) fills that block; it is the one that fills the block of operation j. -/
inductive Kd where
  | quiet (v : Value)
  | maker (mk : Nat → Value) (t : TypeId) (c0 : Array Value) (s : Nat) (c1 : Array Value)
  | store (j : Nat)
  | put (v : Value) (B : Nat) (t : TypeId) (c0 c1 : Array Value)
def Kd.val (k : Kd) (n : Nat) : Value := match k with
  | .quiet v => v
  | .maker mk _ _ _ _ => mk n
  | .store _ => undef
  | .put v _ _ _ _ => v
def Kd.at (kl : List Kd) (i : Nat) : Kd := kl.getD i (.quiet undef)
def dstOf (ops : Array Oper) (i : Nat) : Option Tmp := (ops[i]?).bind (·.dst)
/-- the frame behind the first n operations -/
def finN (ops : Array Oper) (kl : List Kd) (a0 : Act) (σ : Nat → Nat) : Nat → Act
  | 0 => a0
  | n + 1 => (finN ops kl a0 σ n).put (dstOf ops n) ((Kd.at kl n).val (σ n))

/-- what is asked of the region's edges: closed facts -/
def ssaB (ops : Array Oper) (m : Nat) : Bool :=
  Region.noSelect ops &&
  (List.range ops.size).all fun i =>
    (match dstOf ops i with
      | some d => decide (d < m) && (List.range ops.size).all fun j => i == j || dstOf ops j != some d
      | none => true) &&
    (match ops[i]? with
      | some o => (o.after.all fun e => !Region.binds .any e || decide (e.on < i)) &&
          (o.looksAt ops).all fun t => (List.range ops.size).all fun j => dstOf ops j != some t || o.after.any fun e => Region.binds .any e && e.on == j
      | none => true)
def Kd.isPut (k : Kd) : Bool := match k with
  | .put _ _ _ _ _ => true
  | _ => false
def stB (ops : Array Oper) (kl : List Kd) : Bool :=
  ((List.range ops.size).all fun i => (List.range ops.size).all fun j => i == j || !((Kd.at kl i).isPut && (Kd.at kl j).isPut)) &&
  (List.range ops.size).all fun i => match Kd.at kl i with
    | .quiet _ => true
    | .put _ _ _ _ _ => true
    | .maker _ _ _ s _ => decide (ops.size ≤ s) || (match Kd.at kl s with | .store j => j == i | _ => false)
    | .store j => (match Kd.at kl j with | .maker _ _ _ s _ => s == i && decide (j < ops.size) | _ => false) && (dstOf ops i).isNone && ((ops[i]?).map fun o => o.after.any fun e => Region.binds .any e && e.on == j).getD false

section
variable {P : Program} {ops : Array Oper} {kl : List Kd} {a0 : Act} {w0 W0 : World}

structure Ssa (ops : Array Oper) (m : Nat) : Prop where
  nosel : Region.noSelect ops = true
  bd : ∀ i d, i < ops.size → dstOf ops i = some d → d < m
  one : ∀ i j d, i < ops.size → j < ops.size → i ≠ j → dstOf ops i = some d → dstOf ops j ≠ some d
  dn : ∀ (i : Nat) (o : Oper) (e : Edge), ops[i]? = some o → e ∈ o.after → Region.binds .any e = true → e.on < i
  sees : ∀ (i : Nat) (o : Oper) (t : Tmp) (j : Nat), ops[i]? = some o → t ∈ o.looksAt ops → j < ops.size → dstOf ops j = some t → ∃ e ∈ o.after, Region.binds .any e = true ∧ e.on = j
theorem ssa_of {m : Nat} (h : ssaB ops m = true) : Ssa ops m := by
  unfold ssaB at h
  rw [Bool.and_eq_true, List.all_eq_true] at h
  obtain ⟨h0, h⟩ := h
  refine ⟨h0, ?_, ?_, ?_, ?_⟩
  · intro i d hi hd
    have := h i (List.mem_range.2 hi)
    rw [hd] at this
    simp only [Bool.and_eq_true, decide_eq_true_eq] at this
    exact this.1.1
  · intro i j d hi hj hne hd
    have := h i (List.mem_range.2 hi)
    rw [hd] at this
    simp only [Bool.and_eq_true, decide_eq_true_eq, List.all_eq_true] at this
    have := this.1.2 j (List.mem_range.2 hj)
    simp only [Bool.or_eq_true, beq_iff_eq, bne_iff_ne] at this
    rcases this with h | h
    · exact absurd h hne
    · exact h
  · intro i o e ho he hb
    have hi : i < ops.size := (Array.getElem?_eq_some_iff.1 ho).1
    have := h i (List.mem_range.2 hi)
    rw [ho] at this
    simp only [Bool.and_eq_true] at this
    have := Array.all_eq_true'.1 this.2.1 e he
    simpa [hb] using this
  · intro i o t j ho ht hj hd
    have hi : i < ops.size := (Array.getElem?_eq_some_iff.1 ho).1
    have := h i (List.mem_range.2 hi)
    rw [ho] at this
    simp only [Bool.and_eq_true, List.all_eq_true] at this
    have := this.2.2 t ht j (List.mem_range.2 hj)
    simp only [Bool.or_eq_true, bne_iff_ne, Array.any_eq_true', Bool.and_eq_true, beq_iff_eq] at this
    rcases this with h | ⟨e, he, h1, h2⟩
    · exact absurd hd h
    · exact ⟨e, he, h1, h2⟩
structure St (ops : Array Oper) (kl : List Kd) : Prop where
  made : ∀ i mk t c s c1, i < ops.size → Kd.at kl i = .maker mk t c s c1 → s < ops.size → Kd.at kl s = .store i
  st : ∀ i j, i < ops.size → Kd.at kl i = .store j → j < ops.size ∧ dstOf ops i = none ∧ (∃ mk t c c1, Kd.at kl j = .maker mk t c i c1) ∧ ∃ o : Oper, ops[i]? = some o ∧ ∃ e ∈ o.after, Region.binds .any e = true ∧ e.on = j
  one : ∀ i j v B t c0 c1 v' B' t' c0' c1', i < ops.size → j < ops.size → Kd.at kl i = .put v B t c0 c1 → Kd.at kl j = .put v' B' t' c0' c1' → i = j
theorem st_of (h : stB ops kl = true) : St ops kl := by
  unfold stB at h
  rw [Bool.and_eq_true] at h
  obtain ⟨hone, h⟩ := h
  rw [List.all_eq_true] at h
  refine ⟨?_, ?_, ?_⟩
  rotate_left 2
  · intro i j v B t c0 c1 v' B' t' c0' c1' hi hj h1 h2
    rw [List.all_eq_true] at hone
    have h3 := hone i (List.mem_range.2 hi)
    rw [List.all_eq_true] at h3
    have h4 := h3 j (List.mem_range.2 hj)
    rw [h1, h2] at h4
    simpa [Kd.isPut] using h4
  · intro i mk t c s c1 hi hk hs
    have := h i (List.mem_range.2 hi)
    rw [hk] at this
    simp only [Bool.or_eq_true, decide_eq_true_eq] at this
    rcases this with h | h
    · omega
    · split at h
      · rename_i j hj
        rw [hj]
        simp only [beq_iff_eq] at h
        rw [h]
      · cases h
  · intro i j hi hk
    have := h i (List.mem_range.2 hi)
    rw [hk] at this
    simp only [Bool.and_eq_true] at this
    obtain ⟨⟨h1, h2⟩, h3⟩ := this
    split at h1
    · rename_i mk t c s c1 hj
      simp only [Bool.and_eq_true, beq_iff_eq, decide_eq_true_eq] at h1
      obtain ⟨rfl, hjs⟩ := h1
      refine ⟨hjs, by simpa using h2, ⟨mk, t, c, c1, hj⟩, ?_⟩
      cases ho : ops[s]? with
      | none => rw [ho] at h3; cases h3
      | some o =>
        rw [ho] at h3
        simp only [Option.map_some, Option.getD_some, Array.any_eq_true', Bool.and_eq_true, beq_iff_eq] at h3
        obtain ⟨e, he, h1, h2⟩ := h3
        exact ⟨o, rfl, e, he, h1, h2⟩
    · cases h1

theorem finN_get {m : Nat} (hs : Ssa ops m) (σ : Nat → Nat) (hm : a0.tmps.size = m) : ∀ n, n ≤ ops.size →
    (finN ops kl a0 σ n).defers = a0.defers ∧ (finN ops kl a0 σ n).tmps.size = a0.tmps.size ∧
    (∀ i d, i < n → dstOf ops i = some d → (finN ops kl a0 σ n).tmps[d]? = some ((Kd.at kl i).val (σ i))) ∧
    (∀ t, (∀ i, i < n → dstOf ops i ≠ some t) → (finN ops kl a0 σ n).tmps[t]? = a0.tmps[t]?) := by
  intro n
  induction n with
  | zero => intro _; exact ⟨rfl, rfl, fun i d hi => absurd hi (by omega), fun t _ => rfl⟩
  | succ n ih =>
    intro hn
    obtain ⟨h1, h2, h3, h4⟩ := ih (by omega)
    unfold finN
    cases hd : dstOf ops n with
    | none =>
      refine ⟨h1, h2, fun i d hi he => ?_, fun t ht => h4 t fun i hi => ht i (by omega)⟩
      by_cases hin : i = n
      · subst hin; rw [hd] at he; cases he
      · exact h3 i d (by omega) he
    | some d0 =>
      have hlt : d0 < a0.tmps.size := by rw [hm]; exact hs.bd n d0 (by omega) hd
      refine ⟨h1, by simp [Act.put, h2], fun i d hi he => ?_, fun t ht => ?_⟩
      · by_cases hin : i = n
        · subst hin
          rw [hd] at he
          obtain rfl := Option.some.inj he
          simp [Act.put, h2, hlt]
        · have hne : d0 ≠ d := fun e => hs.one n i d0 (by omega) (by omega) (fun e => hin e.symm) hd (by rw [he, e])
          simp only [Act.put]
          rw [Array.getElem?_setIfInBounds_ne hne]
          exact h3 i d (by omega) he
      · have hne : d0 ≠ t := fun e => ht n (by omega) (by rw [hd, e])
        simp only [Act.put]
        rw [Array.getElem?_setIfInBounds_ne hne]
        exact h4 t fun i hi => ht i (by omega)

structure MInv (ops : Array Oper) (kl : List Kd) (a0 : Act) (w0 : World) (L : Array Bool) (a : Act) (W : World) (σ : Nat → Nat) : Prop where
  lsize : L.size = ops.size
  closed : ∀ (i : Nat) (o : Oper), ops[i]? = some o → L.getD i false = true → ∀ e ∈ o.after, Region.binds .any e = true → L.getD e.on false = true
  defers : a.defers = a0.defers
  size : a.tmps.size = a0.tmps.size
  on : ∀ i d, i < ops.size → L.getD i false = true → dstOf ops i = some d → a.tmps[d]? = some ((Kd.at kl i).val (σ i))
  off : ∀ t, (∀ i, i < ops.size → L.getD i false = true → dstOf ops i ≠ some t) → a.tmps[t]? = a0.tmps[t]?
  ext : Ext w0 W
  blk : ∀ i mk t c s c1, i < ops.size → L.getD i false = true → Kd.at kl i = .maker mk t c s c1 → w0.heap.size ≤ σ i ∧ W.heap[σ i]? = some (.cells (if L.getD s false then c1 else c) t (0, 0))
  dif : ∀ i j mk t c s c1 mk' t' c' s' c1', i < ops.size → j < ops.size → i ≠ j → L.getD i false = true → L.getD j false = true → Kd.at kl i = .maker mk t c s c1 → Kd.at kl j = .maker mk' t' c' s' c1' → σ i ≠ σ j
  put : ∀ i v B t c0 c1, i < ops.size → Kd.at kl i = .put v B t c0 c1 → w0.heap.size ≤ B ∧ W.heap[B]? = some (.cells (if L.getD i false then c1 else c0) t (0, 0)) ∧ ∀ j mk' t' c' s' c1', j < ops.size → L.getD j false = true → Kd.at kl j = .maker mk' t' c' s' c1' → σ j ≠ B

theorem getD_set {L : Array Bool} {i j : Nat} (hi : i < L.size) : (L.setIfInBounds i true).getD j false = (if j = i then true else L.getD j false) := by
  by_cases h : j = i
  · subst h; simp [hi]
  · rw [if_neg h]
    simp only [Array.getD_eq_getD_getElem?]
    rw [Array.getElem?_setIfInBounds_ne (fun e => h e.symm)]

/-- the frame's and the list's part of a step -/
theorem MInv.frame {m : Nat} {L : Array Bool} {a : Act} {W : World} {σ σ' : Nat → Nat} {i : Nat} {o : Oper} (hs : Ssa ops m) (hm : a0.tmps.size = m) (h : MInv ops kl a0 w0 L a W σ) (hi : i ∈ Region.ready .any ops L) (ho : ops[i]? = some o)
    (hσ : ∀ j, L.getD j false = true → σ' j = σ j) :
    (L.setIfInBounds i true).size = ops.size ∧
    (∀ (k : Nat) (q : Oper), ops[k]? = some q → (L.setIfInBounds i true).getD k false = true → ∀ e ∈ q.after, Region.binds .any e = true → (L.setIfInBounds i true).getD e.on false = true) ∧
    (a.put o.dst ((Kd.at kl i).val (σ' i))).defers = a0.defers ∧ (a.put o.dst ((Kd.at kl i).val (σ' i))).tmps.size = a0.tmps.size ∧
    (∀ k d, k < ops.size → (L.setIfInBounds i true).getD k false = true → dstOf ops k = some d → (a.put o.dst ((Kd.at kl i).val (σ' i))).tmps[d]? = some ((Kd.at kl k).val (σ' k))) ∧
    (∀ t, (∀ k, k < ops.size → (L.setIfInBounds i true).getD k false = true → dstOf ops k ≠ some t) → (a.put o.dst ((Kd.at kl i).val (σ' i))).tmps[t]? = a0.tmps[t]?) := by
  obtain ⟨_, oi, hoi, hall⟩ := mem_ready.1 hi
  obtain rfl : oi = o := Option.some.inj (hoi.symm.trans ho)
  have hilt : i < ops.size := (Array.getElem?_eq_some_iff.1 ho).1
  have hil : i < L.size := by rw [h.lsize]; exact hilt
  have hdst : dstOf ops i = oi.dst := by simp [dstOf, ho]
  have hval : ∀ k, L.getD k false = true → (Kd.at kl k).val (σ' k) = (Kd.at kl k).val (σ k) := fun k hk => by rw [hσ k hk]
  refine ⟨by simp [h.lsize], ?_, ?_, ?_, ?_, ?_⟩
  · intro k q hk hl e he hb
    rw [getD_set hil] at hl ⊢
    split
    · rfl
    · by_cases hki : k = i
      · subst hki
        obtain rfl : q = oi := Option.some.inj (hk.symm.trans ho)
        exact hall e he hb
      · rw [if_neg hki] at hl
        exact h.closed k q hk hl e he hb
  · rw [← h.defers]; cases oi.dst <;> rfl
  · rw [← h.size]; cases oi.dst <;> simp [Act.put]
  · intro k d hk hl hd
    rw [getD_set hil] at hl
    cases hod : oi.dst with
    | none =>
      simp only [Act.put]
      by_cases hki : k = i
      · subst hki; rw [hdst, hod] at hd; cases hd
      · rw [if_neg hki] at hl
        rw [hval k hl]
        exact h.on k d hk hl hd
    | some d0 =>
      have hlt : d0 < a.tmps.size := by rw [h.size, hm]; exact hs.bd i d0 hilt (hdst.trans hod)
      by_cases hki : k = i
      · subst hki
        rw [hdst, hod] at hd
        obtain rfl := Option.some.inj hd
        simp [Act.put, hlt]
      · rw [if_neg hki] at hl
        have hne : d0 ≠ d := fun e => hs.one i k d0 hilt hk (fun e => hki e.symm) (hdst.trans hod) (by rw [hd, e])
        simp only [Act.put]
        rw [Array.getElem?_setIfInBounds_ne hne, hval k hl]
        exact h.on k d hk hl hd
  · intro t ht
    have h1 := h.off t fun k hk hl => ht k hk (by rw [getD_set hil]; split <;> simp [hl])
    cases hod : oi.dst with
    | none => exact h1
    | some d0 =>
      have hne : d0 ≠ t := fun e => ht i hilt (by rw [getD_set hil]; simp) (by rw [hdst, hod, e])
      simp only [Act.put]
      rw [Array.getElem?_setIfInBounds_ne hne]
      exact h1

/-- an operation that may come up sees what it sees in the frame behind the operations ahead of it -/
theorem MInv.sees {m : Nat} {L : Array Bool} {a : Act} {W : World} {σ : Nat → Nat} {i : Nat} {o : Oper} (hs : Ssa ops m) (hm : a0.tmps.size = m) (h : MInv ops kl a0 w0 L a W σ) (hi : i ∈ Region.ready .any ops L) (ho : ops[i]? = some o) :
    execOp a.eval o = execOp (finN ops kl a0 σ i).eval o ∧ Region.wanted o (yielded ops a.tmps) = Region.wanted o (yielded ops (finN ops kl a0 σ i).tmps) := by
  obtain ⟨_, oi, hoi, hall⟩ := mem_ready.1 hi
  obtain rfl : oi = o := Option.some.inj (hoi.symm.trans ho)
  have hilt : i < ops.size := (Array.getElem?_eq_some_iff.1 ho).1
  obtain ⟨f1, f2, f3, f4⟩ := finN_get (kl := kl) hs σ hm i (by omega)
  have hat : ∀ t ∈ oi.looksAt ops, a.tmps[t]? = (finN ops kl a0 σ i).tmps[t]? := by
    intro t ht
    by_cases hex : ∃ j, j < ops.size ∧ dstOf ops j = some t
    · obtain ⟨j, hj, hd⟩ := hex
      obtain ⟨e, he, hb, rfl⟩ := hs.sees i oi t j ho ht hj hd
      rw [h.on e.on t hj (hall e he hb) hd, f3 e.on t (hs.dn i oi e ho he hb) hd]
    · rw [h.off t fun j hj _ hd => hex ⟨j, hj, hd⟩, f4 t fun j hj hd => hex ⟨j, by omega, hd⟩]
  refine ⟨execOp_congr oi (Region.noSelect_spec hs.nosel i oi · · ho) fun x hx => ?_, ?_⟩
  · cases x with
    | tmp t =>
      have := hat t (List.mem_append_left _ (List.mem_filterMap.2 ⟨.tmp t, by simpa using hx, rfl⟩))
      simp only [Act.eval, Array.getD_eq_getD_getElem?, this]
    | _ => rfl
  · unfold Region.wanted
    cases hg : oi.guard with
    | none => rfl
    | some gw =>
      obtain ⟨g, want⟩ := gw
      have : yielded ops a.tmps g = yielded ops (finN ops kl a0 σ i).tmps g := by
        unfold yielded
        cases ht : (ops[g]?).bind (·.dst) with
        | none => rfl
        | some t =>
          have := hat t (by simp [Oper.looksAt, hg, ht])
          simp [this]
      simp only [this]

/-- an operation that yields v and leaves a world of C -/
def putUpon (P : Program) (C : World → Prop) (v : Value) : Result Next → Prop
  | .ok (.value u) w' => u = v ∧ C w'
  | .ok .skip w' => v = undef ∧ C w'
  | .ok (.enter f args) w' => Calls P f args w' (fun e w'' => e = .returned v ∧ C w'')
  | _ => False

/-- what is asked of one operation -/
def Ob (P : Program) (ops : Array Oper) (kl : List Kd) (w0 W0 : World) (σ : Nat → Nat) (o : Oper) (k : Kd) (a : Act) : Prop := match k with
  | .quiet v => if Region.wanted o (yielded ops a.tmps) then ∀ x : Xt w0, Oper.quietUpon P (fun w'' => Ext x.w w'') x.w v ((execOp a.eval o).run P x.w) else v = undef
  | .maker mk t c _ _ => o.guard = none ∧ ∀ x : Xt w0, (execOp a.eval o).run P x.w = .ok (.value (mk x.w.heap.size)) (x.w.alloc (.cells c t))
  | .store j => o.guard = none ∧ ∀ (x : Xt w0) (mk : Nat → Value) (t : TypeId) (c : Array Value) (s : Nat) (c1 : Array Value), Kd.at kl j = .maker mk t c s c1 → w0.heap.size ≤ σ j → x.w.heap[σ j]? = some (.cells c t (0, 0)) →
      ∃ W', (execOp a.eval o).run P x.w = .ok .skip W' ∧ x.w.grownBy W' (some (σ j)) ∧ W'.heap.size = x.w.heap.size ∧ W'.heap[σ j]? = some (.cells c1 t (0, 0))
  | .put v B t c0 c1 => o.guard = none ∧ W0.heap[B]? = some (.cells c0 t (0, 0)) ∧ w0.heap.size ≤ B ∧ ∀ x : Xt w0, x.w.heap[B]? = some (.cells c0 t (0, 0)) →
      putUpon P (fun W' => x.w.grownBy W' (some B) ∧ W'.heap[B]? = some (.cells c1 t (0, 0))) v ((execOp a.eval o).run P x.w)

/-- what is known at the end -/
structure MFin (ops : Array Oper) (kl : List Kd) (w0 : World) (W : World) (σ : Nat → Nat) : Prop where
  ext : Ext w0 W
  blk : ∀ i mk t c s c1, i < ops.size → Kd.at kl i = .maker mk t c s c1 → w0.heap.size ≤ σ i ∧ W.heap[σ i]? = some (.cells (if s < ops.size then c1 else c) t (0, 0))
  dif : ∀ i j mk t c s c1 mk' t' c' s' c1', i < ops.size → j < ops.size → i ≠ j → Kd.at kl i = .maker mk t c s c1 → Kd.at kl j = .maker mk' t' c' s' c1' → σ i ≠ σ j
  put : ∀ i v B t c0 c1, i < ops.size → Kd.at kl i = .put v B t c0 c1 → W.heap[B]? = some (.cells c1 t (0, 0))

theorem all_listed {m : Nat} {L : Array Bool} (hs : Ssa ops m) (hl : L.size = ops.size) (h : Region.ready .any ops L = []) : ∀ i, i < ops.size → L.getD i false = true := by
  intro i
  induction i using Nat.strongRecOn with
  | _ i ih =>
    intro hi
    cases hg : L.getD i false with
    | true => rfl
    | false =>
      have ho := Array.getElem?_eq_getElem hi
      have : i ∈ Region.ready .any ops L := by
        rw [mem_ready]
        refine ⟨?_, ops[i], ho, fun e he hb => ih e.on (hs.dn i _ e ho he hb) (by have := hs.dn i _ e ho he hb; omega)⟩
        have hil : i < L.size := by omega
        simp [hil] at hg ⊢
        exact hg
      rw [h] at this
      cases this

theorem MInv.fin {m : Nat} {L : Array Bool} {a : Act} {W : World} {σ : Nat → Nat} (hs : Ssa ops m) (hm : a0.tmps.size = m) (h : MInv ops kl a0 w0 L a W σ) (hall : ∀ i, i < ops.size → L.getD i false = true) :
    a = finN ops kl a0 σ ops.size ∧ MFin ops kl w0 W σ := by
  obtain ⟨f1, f2, f3, f4⟩ := finN_get (kl := kl) hs σ hm ops.size (Nat.le_refl _)
  refine ⟨?_, h.ext, ?_, ?_, ?_⟩
  · have ht : a.tmps = (finN ops kl a0 σ ops.size).tmps := by
      apply Array.ext_getElem?
      intro t
      by_cases hex : ∃ j, j < ops.size ∧ dstOf ops j = some t
      · obtain ⟨j, hj, hd⟩ := hex
        rw [h.on j t hj (hall j hj) hd, f3 j t hj hd]
      · rw [h.off t fun j hj _ hd => hex ⟨j, hj, hd⟩, f4 t fun j hj hd => hex ⟨j, hj, hd⟩]
    have hd : a.defers = (finN ops kl a0 σ ops.size).defers := h.defers.trans f1.symm
    cases a
    generalize finN ops kl a0 σ ops.size = F at *
    cases F
    simp only at ht hd
    rw [ht, hd]
  · intro i mk t c s c1 hi hk
    obtain ⟨h1, h2⟩ := h.blk i mk t c s c1 hi (hall i hi) hk
    refine ⟨h1, h2.trans ?_⟩
    by_cases hsl : s < ops.size
    · rw [hall s hsl]; simp [hsl]
    · have : L.getD s false = false := by
        simp only [Array.getD_eq_getD_getElem?]
        rw [Array.getElem?_eq_none (by rw [h.lsize]; omega)]
        rfl
      rw [this]; simp [hsl]
  · intro i j mk t c s c1 mk' t' c' s' c1' hi hj hne hk hk'
    exact h.dif i j mk t c s c1 mk' t' c' s' c1' hi hj hne (hall i hi) (hall j hj) hk hk'
  · intro i v B t c0 c1 hi hk
    obtain ⟨_, h2, _⟩ := h.put i v B t c0 c1 hi hk
    rw [hall i hi] at h2
    simpa using h2

/-- one step of the invariant, for an operation that is no maker and no store -/
theorem MInv.quiet {m : Nat} {L : Array Bool} {a : Act} {W W' : World} {σ : Nat → Nat} {i : Nat} {o : Oper} {v : Value} (hs : Ssa ops m) (hst : St ops kl) (hm : a0.tmps.size = m) (h : MInv ops kl a0 w0 L a W σ) (hi : i ∈ Region.ready .any ops L) (ho : ops[i]? = some o)
    (hk : Kd.at kl i = .quiet v) (hx : Ext W W') : MInv ops kl a0 w0 (L.setIfInBounds i true) (a.put o.dst v) W' σ := by
  obtain ⟨g1, g2, g3, g4, g5, g6⟩ := h.frame hs hm hi ho (σ' := σ) (fun _ _ => rfl)
  rw [hk] at g3 g4 g5 g6
  have hilt : i < ops.size := (Array.getElem?_eq_some_iff.1 ho).1
  have hil : i < L.size := by rw [h.lsize]; exact hilt
  refine ⟨g1, g2, g3, g4, g5, g6, h.ext.trans hx, ?_, ?_, ?_⟩
  · intro j mk t c s c1 hj hl hkj
    have hji : j ≠ i := fun e => by rw [e, hk] at hkj; cases hkj
    rw [getD_set hil, if_neg hji] at hl
    obtain ⟨h1, h2⟩ := h.blk j mk t c s c1 hj hl hkj
    have hsi : s ≠ i := fun e => by
      subst e
      have := hst.made j mk t c s c1 hj hkj hilt
      rw [hk] at this
      cases this
    rw [getD_set hil, if_neg hsi]
    exact ⟨h1, (hx.heap (Array.getElem?_eq_some_iff.1 h2).1).trans h2⟩
  · intro j j' mk t c s c1 mk' t' c' s' c1' hj hj' hne hl hl' hkj hkj'
    have hji : j ≠ i := fun e => by rw [e, hk] at hkj; cases hkj
    have hji' : j' ≠ i := fun e => by rw [e, hk] at hkj'; cases hkj'
    rw [getD_set hil, if_neg hji] at hl
    rw [getD_set hil, if_neg hji'] at hl'
    exact h.dif j j' mk t c s c1 mk' t' c' s' c1' hj hj' hne hl hl' hkj hkj'
  · intro j v' B t c0 c1 hj hkj
    have hji : j ≠ i := fun e => by rw [e, hk] at hkj; cases hkj
    obtain ⟨h1, h2, h3⟩ := h.put j v' B t c0 c1 hj hkj
    rw [getD_set hil, if_neg hji]
    refine ⟨h1, (hx.heap (Array.getElem?_eq_some_iff.1 h2).1).trans h2, fun j' mk' t' c' s' c1' hj' hl' hkj' => ?_⟩
    have hji' : j' ≠ i := fun e => by rw [e, hk] at hkj'; cases hkj'
    rw [getD_set hil, if_neg hji'] at hl'
    exact h3 j' mk' t' c' s' c1' hj' hl' hkj'

theorem MInv.maker {m : Nat} {L : Array Bool} {a : Act} {W : World} {σ : Nat → Nat} {i : Nat} {o : Oper} {mk : Nat → Value} {t : TypeId} {c : Array Value} {s : Nat} {c1 : Array Value} (hs : Ssa ops m) (hst : St ops kl) (hm : a0.tmps.size = m) (h : MInv ops kl a0 w0 L a W σ)
    (hi : i ∈ Region.ready .any ops L) (ho : ops[i]? = some o) (hk : Kd.at kl i = .maker mk t c s c1) :
    MInv ops kl a0 w0 (L.setIfInBounds i true) (a.put o.dst (mk W.heap.size)) (W.alloc (.cells c t)) (fun j => if j = i then W.heap.size else σ j) := by
  have hun : L.getD i false = false := by
    have := (mem_ready.1 hi).1
    cases hg : L.getD i false with
    | false => rfl
    | true =>
      exfalso
      have hilt : i < ops.size := (Array.getElem?_eq_some_iff.1 ho).1
      have hil : i < L.size := by rw [h.lsize]; exact hilt
      simp [hil] at hg this
      rw [hg] at this
      cases this
  obtain ⟨g1, g2, g3, g4, g5, g6⟩ := h.frame hs hm hi ho (σ' := fun j => if j = i then W.heap.size else σ j) (fun j hj => if_neg fun e => by rw [e, hun] at hj; cases hj)
  have hv : (Kd.at kl i).val ((fun j => if j = i then W.heap.size else σ j) i) = mk W.heap.size := by rw [hk]; simp [Kd.val]
  rw [hv] at g3 g4 g5 g6
  have hilt : i < ops.size := (Array.getElem?_eq_some_iff.1 ho).1
  have hil : i < L.size := by rw [h.lsize]; exact hilt
  have hold : ∀ j mk t c s c1, j < ops.size → L.getD j false = true → Kd.at kl j = .maker mk t c s c1 → σ j < W.heap.size := fun j mk t c s c1 hj hl hkj => (Array.getElem?_eq_some_iff.1 (h.blk j mk t c s c1 hj hl hkj).2).1
  refine ⟨g1, g2, g3, g4, g5, g6, h.ext.alloc _, ?_, ?_, ?_⟩
  · intro j mk' t' c' s' c1' hj hl hkj
    by_cases hji : j = i
    · subst hji
      rw [hk] at hkj
      injection hkj with e1 e2 e3 e4 e5
      subst e1; subst e2; subst e3; subst e4; subst e5
      have hsun : (L.setIfInBounds j true).getD s false = false := by
        by_cases hsl : s < ops.size
        · have hks := hst.made j mk t c s c1 hj hk hsl
          obtain ⟨_, _, _, os, hos, e, he, hb, hon⟩ := hst.st s j hsl hks
          have hsj : s ≠ j := fun e => by rw [e, hk] at hks; cases hks
          rw [getD_set hil, if_neg hsj]
          cases hg : L.getD s false with
          | false => rfl
          | true =>
            have := h.closed s os hos hg e he hb
            rw [hon, hun] at this
            cases this
        · simp only [Array.getD_eq_getD_getElem?]
          rw [Array.getElem?_eq_none (by rw [g1]; omega)]
          rfl
      rw [hsun]
      simp only [if_pos]
      exact ⟨h.ext.size, by simpa using heap_alloc_new W _⟩
    · rw [getD_set hil, if_neg hji] at hl
      obtain ⟨h1, h2⟩ := h.blk j mk' t' c' s' c1' hj hl hkj
      have hsi : s' ≠ i := fun e => by
        subst e
        have := hst.made j mk' t' c' s' c1' hj hkj hilt
        rw [hk] at this
        cases this
      simp only [if_neg hji]
      rw [getD_set hil, if_neg hsi]
      exact ⟨h1, (((Ext.refl W).alloc _).heap (Array.getElem?_eq_some_iff.1 h2).1).trans h2⟩
  · intro j j' mk1 t1 c1 s1 d1 mk2 t2 c2 s2 d2 hj hj' hne hl hl' hkj hkj'
    show (if j = i then W.heap.size else σ j) ≠ (if j' = i then W.heap.size else σ j')
    by_cases hji : j = i
    · rw [if_pos hji]
      have hji' : j' ≠ i := fun e => hne (by rw [hji, e])
      rw [if_neg hji']
      rw [getD_set hil, if_neg hji'] at hl'
      have := hold j' mk2 t2 c2 s2 d2 hj' hl' hkj'
      omega
    · rw [if_neg hji]
      rw [getD_set hil, if_neg hji] at hl
      by_cases hji' : j' = i
      · rw [if_pos hji']
        have := hold j mk1 t1 c1 s1 d1 hj hl hkj
        omega
      · rw [if_neg hji']
        rw [getD_set hil, if_neg hji'] at hl'
        exact h.dif j j' mk1 t1 c1 s1 d1 mk2 t2 c2 s2 d2 hj hj' hne hl hl' hkj hkj'
  · intro j v B t0 d0 d1 hj hkj
    have hji : j ≠ i := fun e => by rw [e, hk] at hkj; cases hkj
    obtain ⟨h1, h2, h3⟩ := h.put j v B t0 d0 d1 hj hkj
    have hBlt := (Array.getElem?_eq_some_iff.1 h2).1
    rw [getD_set hil, if_neg hji]
    refine ⟨h1, (((Ext.refl W).alloc _).heap hBlt).trans h2, fun j' mk' t' c' s' c1' hj' hl' hkj' => ?_⟩
    show (if j' = i then W.heap.size else σ j') ≠ B
    by_cases hji' : j' = i
    · rw [if_pos hji']; omega
    · rw [if_neg hji']
      rw [getD_set hil, if_neg hji'] at hl'
      exact h3 j' mk' t' c' s' c1' hj' hl' hkj'

theorem MInv.store {m : Nat} {L : Array Bool} {a : Act} {W W' : World} {σ : Nat → Nat} {i j0 : Nat} {o : Oper} {mk : Nat → Value} {t : TypeId} {c : Array Value} {c1 : Array Value} (hs : Ssa ops m) (hst : St ops kl) (hm : a0.tmps.size = m) (h : MInv ops kl a0 w0 L a W σ)
    (hi : i ∈ Region.ready .any ops L) (ho : ops[i]? = some o) (hk : Kd.at kl i = .store j0) (hkj : Kd.at kl j0 = .maker mk t c i c1) (hb : w0.heap.size ≤ σ j0) (hj0 : j0 < ops.size) (hl0 : L.getD j0 false = true)
    (hg : W.grownBy W' (some (σ j0))) (_hz : W'.heap.size = W.heap.size) (hc : W'.heap[σ j0]? = some (.cells c1 t (0, 0))) :
    MInv ops kl a0 w0 (L.setIfInBounds i true) (a.put o.dst undef) W' σ := by
  obtain ⟨g1, g2, g3, g4, g5, g6⟩ := h.frame hs hm hi ho (σ' := σ) (fun _ _ => rfl)
  rw [hk] at g3 g4 g5 g6
  have hilt : i < ops.size := (Array.getElem?_eq_some_iff.1 ho).1
  have hil : i < L.size := by rw [h.lsize]; exact hilt
  refine ⟨g1, g2, g3, g4, g5, g6, h.ext.grown hg (fun k hk => by cases hk; exact hb), ?_, ?_, ?_⟩
  · intro j mk' t' c' s' c1' hj hl hkj'
    have hji : j ≠ i := fun e => by rw [e, hk] at hkj'; cases hkj'
    rw [getD_set hil, if_neg hji] at hl
    obtain ⟨h1, h2⟩ := h.blk j mk' t' c' s' c1' hj hl hkj'
    refine ⟨h1, ?_⟩
    by_cases hj0' : j = j0
    · subst hj0'
      rw [hkj] at hkj'
      injection hkj' with e1 e2 e3 e4 e5
      subst e1; subst e2; subst e3; subst e4; subst e5
      rw [getD_set hil, if_pos rfl]
      simpa using hc
    · have hne := h.dif j j0 mk' t' c' s' c1' mk t c i c1 hj hj0 hj0' hl hl0 hkj' hkj
      have hsi : s' ≠ i := fun e => by
        subst e
        have := hst.made j mk' t' c' s' c1' hj hkj' hilt
        rw [hk] at this
        injection this with this
        exact hj0' this.symm
      rw [getD_set hil, if_neg hsi]
      exact (hg.block (σ j) (Array.getElem?_eq_some_iff.1 h2).1 (fun e => hne (by injection e))).trans h2
  · intro j j' mk t c s c1 mk' t' c' s' c1' hj hj' hne hl hl' hkj hkj'
    have hji : j ≠ i := fun e => by rw [e, hk] at hkj; cases hkj
    have hji' : j' ≠ i := fun e => by rw [e, hk] at hkj'; cases hkj'
    rw [getD_set hil, if_neg hji] at hl
    rw [getD_set hil, if_neg hji'] at hl'
    exact h.dif j j' mk t c s c1 mk' t' c' s' c1' hj hj' hne hl hl' hkj hkj'
  · intro j v B t0 d0 d1 hj hkj'
    have hji : j ≠ i := fun e => by rw [e, hk] at hkj'; cases hkj'
    obtain ⟨h1, h2, h3⟩ := h.put j v B t0 d0 d1 hj hkj'
    rw [getD_set hil, if_neg hji]
    refine ⟨h1, (hg.block B (Array.getElem?_eq_some_iff.1 h2).1 (fun e => h3 j0 mk t c i c1 hj0 hl0 hkj (by injection e with e; exact e.symm))).trans h2, fun j' mk' t' c' s' c1' hj' hl' hkj'' => ?_⟩
    have hji' : j' ≠ i := fun e => by rw [e, hk] at hkj''; cases hkj''
    rw [getD_set hil, if_neg hji'] at hl'
    exact h3 j' mk' t' c' s' c1' hj' hl' hkj''
theorem MInv.putS {m : Nat} {L : Array Bool} {a : Act} {W W' : World} {σ : Nat → Nat} {i : Nat} {v : Value} {B : Nat} {o : Oper} {t : TypeId} {c0 c1 : Array Value} (hs : Ssa ops m) (hst : St ops kl) (hm : a0.tmps.size = m) (h : MInv ops kl a0 w0 L a W σ)
    (hi : i ∈ Region.ready .any ops L) (ho : ops[i]? = some o) (hk : Kd.at kl i = .put v B t c0 c1)
    (hg : W.grownBy W' (some B)) (hc : W'.heap[B]? = some (.cells c1 t (0, 0))) :
    MInv ops kl a0 w0 (L.setIfInBounds i true) (a.put o.dst v) W' σ := by
  obtain ⟨g1, g2, g3, g4, g5, g6⟩ := h.frame hs hm hi ho (σ' := σ) (fun _ _ => rfl)
  rw [hk] at g3 g4 g5 g6
  have hilt : i < ops.size := (Array.getElem?_eq_some_iff.1 ho).1
  have hil : i < L.size := by rw [h.lsize]; exact hilt
  obtain ⟨p1, p2, p3⟩ := h.put i v B t c0 c1 hilt hk
  refine ⟨g1, g2, g3, g4, g5, g6, h.ext.grown hg (fun k hk => by cases hk; exact p1), ?_, ?_, ?_⟩
  · intro j mk' t' c' s' c1' hj hl hkj'
    have hji : j ≠ i := fun e => by rw [e, hk] at hkj'; cases hkj'
    rw [getD_set hil, if_neg hji] at hl
    obtain ⟨h1, h2⟩ := h.blk j mk' t' c' s' c1' hj hl hkj'
    have hsi : s' ≠ i := fun e => by
      subst e
      have := hst.made j mk' t' c' s' c1' hj hkj' hilt
      rw [hk] at this
      cases this
    rw [getD_set hil, if_neg hsi]
    exact ⟨h1, (hg.block (σ j) (Array.getElem?_eq_some_iff.1 h2).1 (fun e => p3 j mk' t' c' s' c1' hj hl hkj' (by injection e))).trans h2⟩
  · intro j j' mk t c s c1 mk' t' c' s' c1' hj hj' hne hl hl' hkj hkj'
    have hji : j ≠ i := fun e => by rw [e, hk] at hkj; cases hkj
    have hji' : j' ≠ i := fun e => by rw [e, hk] at hkj'; cases hkj'
    rw [getD_set hil, if_neg hji] at hl
    rw [getD_set hil, if_neg hji'] at hl'
    exact h.dif j j' mk t c s c1 mk' t' c' s' c1' hj hj' hne hl hl' hkj hkj'
  · intro j v' B' t' d0 d1 hj hkj
    obtain rfl : j = i := hst.one j i v' B' t' d0 d1 v B t c0 c1 hj hilt hkj hk
    rw [hk] at hkj
    injection hkj with e0 e1 e2 e3 e4
    subst e0; subst e1; subst e2; subst e3; subst e4
    rw [getD_set hil, if_pos rfl]
    refine ⟨p1, by simpa using hc, fun j' mk' t' c' s' c1' hj' hl' hkj' => ?_⟩
    have hji' : j' ≠ j := fun e => by rw [e, hk] at hkj'; cases hkj'
    rw [getD_set hil, if_neg hji'] at hl'
    exact p3 j' mk' t' c' s' c1' hj' hl' hkj'

/-- how many have not come up yet -/
def unl (n : Nat) (L : Array Bool) : Nat := ((List.range n).filter fun i => !L.getD i false).length
theorem unl_set {n i : Nat} {L : Array Bool} (hi : i < n) (hil : i < L.size) (hun : L.getD i false = false) : unl n (L.setIfInBounds i true) < unl n L := by
  unfold unl
  have hsub : ((List.range n).filter fun j => !(L.setIfInBounds i true).getD j false) = ((List.range n).filter fun j => !L.getD j false).filter fun j => j != i := by
    rw [List.filter_filter]
    apply List.filter_congr
    intro j _
    rw [getD_set hil]
    by_cases h : j = i <;> simp [h]
  rw [hsub]
  apply List.length_filter_lt_length_iff_exists.2
  exact ⟨i, List.mem_filter.2 ⟨List.mem_range.2 hi, by rw [hun]; rfl⟩, by simp⟩
theorem unl_zero {n : Nat} {L : Array Bool} (h : unl n L = 0) : ∀ i, i < n → L.getD i false = true := by
  intro i hi
  unfold unl at h
  have := List.eq_nil_of_length_eq_zero h
  rw [List.filter_eq_nil_iff] at this
  have := this i (List.mem_range.2 hi)
  simpa using this

theorem any_made {m : Nat} {Q : Exit → Act → World → Prop} (hs : Ssa ops m) (hst : St ops kl) (hm : a0.tmps.size = m)
    (hob : ∀ (i : Nat) (o : Oper), ops[i]? = some o → ∀ σ, Ob P ops kl w0 W0 σ o (Kd.at kl i) (finN ops kl a0 σ i))
    (hfin : ∀ σ W, MFin ops kl w0 W σ → Q .normal (finN ops kl a0 σ ops.size) W) :
    ∀ (fuel : Nat) (L : Array Bool) (a : Act) (W : World) (σ : Nat → Nat), MInv ops kl a0 w0 L a W σ → unl ops.size L ≤ fuel → wpAny P .any ops Q fuel L a W := by
  have hend : ∀ (L : Array Bool) (a : Act) (W : World) (σ : Nat → Nat), MInv ops kl a0 w0 L a W σ → (∀ i, i < ops.size → L.getD i false = true) → Q .normal a W := by
    intro L a W σ h hall
    obtain ⟨rfl, hf⟩ := h.fin hs hm hall
    exact hfin σ W hf
  intro fuel
  induction fuel with
  | zero =>
    intro L a W σ h hu
    have hall := unl_zero (n := ops.size) (L := L) (by omega)
    refine ⟨?_, hend L a W σ h hall⟩
    apply List.eq_nil_iff_forall_not_mem.2
    intro i hi
    obtain ⟨hun, o, ho, _⟩ := mem_ready.1 hi
    have hilt : i < ops.size := (Array.getElem?_eq_some_iff.1 ho).1
    have := hall i hilt
    have hil : i < L.size := by rw [h.lsize]; exact hilt
    simp [hil] at this hun
    rw [this] at hun
    cases hun
  | succ fuel ih =>
    intro L a W σ h hu
    refine ⟨fun hr => hend L a W σ h (all_listed hs h.lsize hr), fun i hi => ?_⟩
    obtain ⟨hun0, o, ho, _⟩ := mem_ready.1 hi
    have hilt : i < ops.size := (Array.getElem?_eq_some_iff.1 ho).1
    have hil : i < L.size := by rw [h.lsize]; exact hilt
    have hun : L.getD i false = false := by simp [hil] at hun0 ⊢; exact hun0
    have hlt := unl_set hilt hil hun
    have hu' : unl ops.size (L.setIfInBounds i true) ≤ fuel := by omega
    obtain ⟨hx, hw⟩ := h.sees hs hm hi ho
    have hobi := hob i o ho σ
    unfold wpOp
    simp only [ho]
    cases hk : Kd.at kl i with
    | quiet v =>
      rw [hk] at hobi
      simp only [Ob] at hobi
      rw [← hx, ← hw] at hobi
      split
      · rename_i hwt
        rw [if_pos hwt] at hobi
        refine .inl ?_
        have h3 := hobi ⟨W, h.ext⟩
        unfold Oper.wp
        simp only [Xt.w] at h3
        generalize (execOp a.eval o).run P W = r at *
        cases r with
        | ok n w' =>
          cases n <;> simp only [Oper.quietUpon] at h3 <;> simp only [Oper.upon]
          case value u =>
            obtain ⟨rfl, rfl⟩ := h3
            exact ih _ _ _ σ (h.quiet hs hst hm hi ho hk (Ext.refl _)) hu'
          case skip =>
            obtain ⟨rfl, rfl⟩ := h3
            exact ih _ _ _ σ (h.quiet hs hst hm hi ho hk (Ext.refl _)) hu'
          case enter f args =>
            obtain ⟨rfl, hc⟩ := h3
            exact hc.mono fun e w'' ⟨he, hx''⟩ => by
              subst he
              exact ih _ _ _ σ (h.quiet hs hst hm hi ho hk hx'') hu'
        | halt x w' => simp only [Oper.quietUpon] at h3
      · rename_i hwt
        rw [if_neg hwt] at hobi
        subst hobi
        exact ih _ _ _ σ (h.quiet hs hst hm hi ho hk (Ext.refl _)) hu'
    | maker mk t c s c1 =>
      rw [hk] at hobi
      simp only [Ob] at hobi
      rw [← hx] at hobi
      obtain ⟨hg, hrun⟩ := hobi
      rw [if_pos (by simp [Region.wanted, hg])]
      refine .inl ?_
      unfold Oper.wp
      have := hrun ⟨W, h.ext⟩
      simp only [Xt.w] at this
      rw [this]
      simp only [Oper.upon]
      exact ih _ _ _ _ (h.maker hs hst hm hi ho hk) hu'
    | store j0 =>
      rw [hk] at hobi
      simp only [Ob] at hobi
      rw [← hx] at hobi
      obtain ⟨hg, hrun⟩ := hobi
      rw [if_pos (by simp [Region.wanted, hg])]
      refine .inl ?_
      obtain ⟨hj0, _, ⟨mk, t, c, c1, hkj⟩, o', ho', e, he, hb, hon⟩ := hst.st i j0 hilt hk
      obtain rfl : o' = o := Option.some.inj (ho'.symm.trans ho)
      obtain ⟨_, o2, ho2, hall⟩ := mem_ready.1 hi
      obtain rfl : o2 = o' := Option.some.inj (ho2.symm.trans ho)
      have hl0 : L.getD j0 false = true := by rw [← hon]; exact hall e he hb
      obtain ⟨hbase, hblk⟩ := h.blk j0 mk t c i c1 hj0 hl0 hkj
      rw [hun] at hblk
      obtain ⟨W', hr, hgr, hz, hc1⟩ := hrun ⟨W, h.ext⟩ mk t c i c1 hkj hbase (by simpa [Xt.w] using hblk)
      unfold Oper.wp
      simp only [Xt.w] at hr hgr hz
      rw [hr]
      simp only [Oper.upon]
      exact ih _ _ _ σ (h.store hs hst hm hi ho hk hkj hbase hj0 hl0 hgr hz hc1) hu'
    | put v B t c0 c1 =>
      rw [hk] at hobi
      simp only [Ob] at hobi
      rw [← hx] at hobi
      obtain ⟨hg, _, _, hrun⟩ := hobi
      rw [if_pos (by simp [Region.wanted, hg])]
      refine .inl ?_
      obtain ⟨_, p2, _⟩ := h.put i v B t c0 c1 hilt hk
      rw [hun] at p2
      have h3 := hrun ⟨W, h.ext⟩ (by simpa [Xt.w] using p2)
      unfold Oper.wp
      simp only [Xt.w] at h3
      generalize (execOp a.eval o).run P W = r at *
      cases r with
      | ok nx w' =>
        cases nx <;> simp only [putUpon] at h3 <;> simp only [Oper.upon]
        case value u =>
          obtain ⟨rfl, hgr, hc1⟩ := h3
          exact ih _ _ _ σ (h.putS hs hst hm hi ho hk hgr hc1) hu'
        case skip =>
          obtain ⟨rfl, hgr, hc1⟩ := h3
          exact ih _ _ _ σ (h.putS hs hst hm hi ho hk hgr hc1) hu'
        case enter f args =>
          exact h3.mono fun e w'' ⟨he, hgr, hc1⟩ => by
            subst he
            exact ih _ _ _ σ (h.putS hs hst hm hi ho hk hgr hc1) hu'
      | halt x w' => simp only [putUpon] at h3

/-- the walk in the order of the text -/
def MW (P : Program) (ops : Array Oper) (w0 W0 : World) (Q : Exit → Act → World → Prop) : List Oper → List Kd → ((Nat → Nat) → Act) → Prop
  | [], kl, A => stB ops kl = true ∧ ∀ σ W, MFin ops kl w0 W σ → Q .normal (A σ) W
  | o :: rest, kl, A => ∃ k : Kd, (∀ (σ : Nat → Nat) (more : List Kd), Ob P ops (kl ++ k :: more) w0 W0 σ o k (A σ)) ∧ MW P ops w0 W0 Q rest (kl ++ [k]) (fun σ => (A σ).put o.dst (k.val (σ kl.length)))

theorem finN_append (σ : Nat → Nat) : ∀ (n : Nat) (k1 k2 : List Kd), n ≤ k1.length → finN ops (k1 ++ k2) a0 σ n = finN ops k1 a0 σ n := by
  intro n
  induction n with
  | zero => intro _ _ _; rfl
  | succ n ih =>
    intro k1 k2 h
    unfold finN
    rw [ih k1 k2 (by omega)]
    have : Kd.at (k1 ++ k2) n = Kd.at k1 n := by
      unfold Kd.at
      simp only [List.getD_eq_getElem?_getD]
      rw [List.getElem?_append_left (by omega)]
    rw [this]

theorem mw_sound {Q : Exit → Act → World → Prop} : ∀ (l : List Oper) (kl : List Kd) (A : (Nat → Nat) → Act), (∀ j, l[j]? = ops[kl.length + j]?) → (∀ σ, A σ = finN ops kl a0 σ kl.length) → MW P ops w0 W0 Q l kl A →
    ∃ kl' : List Kd, (∃ more, kl' = kl ++ more ∧ more.length = l.length) ∧ stB ops kl' = true ∧ (∀ (i : Nat) (o : Oper), kl.length ≤ i → ops[i]? = some o → ∀ σ, Ob P ops kl' w0 W0 σ o (Kd.at kl' i) (finN ops kl' a0 σ i)) ∧
      (∀ σ W, MFin ops kl' w0 W σ → Q .normal (finN ops kl' a0 σ kl'.length) W) := by
  intro l
  induction l with
  | nil =>
    intro kl A hl hA h
    refine ⟨kl, ⟨[], by simp, rfl⟩, h.1, ?_, fun σ W hf => by rw [← hA]; exact h.2 σ W hf⟩
    intro i o hi ho
    have := hl (i - kl.length)
    rw [show kl.length + (i - kl.length) = i by omega, ho] at this
    simp at this
  | cons o rest ih =>
    intro kl A hl hA h
    obtain ⟨k, hk, hr⟩ := h
    have h0 : ops[kl.length]? = some o := by have := hl 0; simpa using this.symm
    have hA' : ∀ σ, (fun σ => (A σ).put o.dst (k.val (σ kl.length))) σ = finN ops (kl ++ [k]) a0 σ (kl ++ [k]).length := by
      intro σ
      simp only [List.length_append, List.length_cons, List.length_nil, Nat.zero_add]
      unfold finN
      rw [finN_append σ kl.length kl [k] (Nat.le_refl _), hA σ]
      have e1 : dstOf ops kl.length = o.dst := by simp [dstOf, h0]
      have e2 : Kd.at (kl ++ [k]) kl.length = k := by simp [Kd.at]
      rw [e1, e2]
    obtain ⟨kl', ⟨more, rfl, hml⟩, h1, h2, h3⟩ := ih (kl ++ [k]) _ (fun j => by
      have := hl (j + 1)
      simp only [List.getElem?_cons_succ] at this
      rw [this]
      simp only [List.length_append, List.length_cons, List.length_nil]
      congr 1
      omega) hA' hr
    refine ⟨kl ++ [k] ++ more, ⟨k :: more, by simp, by simp [hml]⟩, h1, ?_, h3⟩
    intro i o' hi ho' σ
    by_cases hik : i = kl.length
    · subst hik
      obtain rfl : o' = o := Option.some.inj (ho'.symm.trans h0)
      have e1 : Kd.at (kl ++ [k] ++ more) kl.length = k := by simp [Kd.at]
      rw [e1, List.append_assoc, finN_append σ kl.length kl _ (Nat.le_refl _), ← hA σ]
      exact hk σ more
    · exact h2 i o' (by simp; omega) ho' σ

theorem wp_region_madeP {id m : Nat} {Q : Exit → Act → World → Prop} {l : List Oper} (hm : P.follows .mixedOrders = true) (hB : ssaB l.toArray m = true) (hsz : a0.tmps.size = m) (hW : Ext w0 W0)
    (h : MW P l.toArray w0 W0 Q l [] (fun _ => a0)) : (Code.region id l.toArray true).wp P Q a0 W0 := by
  obtain ⟨kl, ⟨more, hkl, hml⟩, h1, h2, h3⟩ := mw_sound (a0 := a0) l [] (fun _ => a0) (by simp) (fun _ => rfl) h
  have hs := ssa_of hB
  have hst := st_of h1
  have hlen : kl.length = l.toArray.size := by rw [hkl]; simpa using hml
  refine wp_region_any hm ?_
  refine any_made (w0 := w0) (W0 := W0) hs hst hsz (fun i o ho σ => h2 i o (by simp) ho σ) (fun σ W hf => by rw [← hlen]; exact h3 σ W hf) _ _ _ _ (fun _ => 0) ?_ ?_
  · have hno : ∀ i, (Array.replicate l.toArray.size false).getD i false = false := by
      intro i
      rw [Array.getD_eq_getD_getElem?, Array.getElem?_replicate]
      split <;> rfl
    refine ⟨by simp, ?_, rfl, rfl, ?_, fun _ _ => rfl, hW.drew, ?_, ?_, ?_⟩
    · intro i o _ hl; rw [hno] at hl; cases hl
    · intro i d _ hl; rw [hno] at hl; cases hl
    · intro i mk t c s c1 _ hl; rw [hno] at hl; cases hl
    · intro i j mk t c s c1 mk' t' c' s' c1' _ _ _ hl; rw [hno] at hl; cases hl
    · intro i v B t c0 c1 hi hk
      have ho := h2 i _ (by simp) (Array.getElem?_eq_getElem hi) (fun _ => 0)
      rw [hk] at ho
      simp only [Ob] at ho
      obtain ⟨_, ho1, ho2, _⟩ := ho
      refine ⟨ho2, ?_, ?_⟩
      · rw [hno]; simpa using ho1
      · intro j mk' t' c' s' c1' _ hl; rw [hno] at hl; cases hl
  · unfold unl
    exact Nat.le_trans (List.length_filter_le _ _) (by simp)
theorem wp_region_made {id m : Nat} {Q : Exit → Act → World → Prop} {l : List Oper} (hm : P.follows .mixedOrders = true) (hB : ssaB l.toArray m = true) (hsz : a0.tmps.size = m)
    (h : MW P l.toArray w0 w0 Q l [] (fun _ => a0)) : (Code.region id l.toArray true).wp P Q a0 w0 := wp_region_madeP hm hB hsz (Ext.refl w0) h

/-- the block g is being filled, nothing else is touched -/
structure Fill (W : World) (g : Nat) (t : TypeId) (cs : Array Value) (W' : World) : Prop where
  grown : W.grownBy W' (some g)
  size : W'.heap.size = W.heap.size
  blk : W'.heap[g]? = some (.cells cs t (0, 0))
theorem Fill.start {W : World} {g : Nat} {t : TypeId} {c : Array Value} (h : W.heap[g]? = some (.cells c t (0, 0))) : Fill W g t c W := ⟨World.grownBy.refl W _, rfl, h⟩
theorem Fill.set {W W' : World} {g : Nat} {t : TypeId} {cs : Array Value} (h : Fill W g t cs W') (i : Nat) (u : Value) : Fill W g t (cs.setIfInBounds i u) (W'.setCell ⟨g, i, none⟩ u) := by
  refine ⟨⟨h.grown.os, h.grown.tape, h.grown.output, by rw [World.size_setCell]; exact h.grown.size, fun k hk hne => ?_⟩, by rw [World.size_setCell]; exact h.size, ?_⟩
  · rw [Below.heap_setCell _ _ _ _ (fun e => hne (by rw [e]))]
    exact h.grown.block k hk hne
  · have := h.blk
    simp [World.setCell, Array.getElem?_modify, this]
theorem calls_ext {P : Program} {f : FuncId} {args : Array Value} {w : World} {v : Value} (h : Calls P f args w fun e w' => e = .returned v ∧ w = w') : Calls P f args w fun e w' => e = .returned v ∧ Ext w w' :=
  h.mono fun _ _ ⟨he, hx⟩ => ⟨he, hx ▸ Ext.refl w⟩
theorem mfin_blk {ops : Array Oper} {kl : List Kd} {w0 W : World} {σ : Nat → Nat} (h : MFin ops kl w0 W σ) (i s : Nat) {mk : Nat → Value} {t : TypeId} {c c1 : Array Value} (hk : Kd.at kl i = .maker mk t c s c1) (hi : i < ops.size) (cs : Array Value) (he : (if s < ops.size then c1 else c) = cs) :
    w0.heap.size ≤ σ i ∧ σ i < W.heap.size ∧ (∀ k, W.cell? ⟨σ i, k, none⟩ = cs[k]?) ∧ (∀ k, W.frozen? ⟨σ i, k, none⟩ = false) := by
  obtain ⟨h1, h2⟩ := h.blk i mk t c s c1 hi hk
  rw [he] at h2
  exact ⟨h1, (Array.getElem?_eq_some_iff.1 h2).1, fun k => cell_of_row _ _ _ _ _ _ h2, fun k => frozen_of_row _ _ _ _ _ h2⟩

/-! ### Steps for the walk -/
theorem mw_quiet {Q : Exit → Act → World → Prop} {o : Oper} {rest : List Oper} {kl : List Kd} {A : (Nat → Nat) → Act}
    (h : ∃ v : Value, (∀ (σ : Nat → Nat), if Region.wanted o (yielded ops (A σ).tmps) then ∀ x : Xt w0, Oper.quietUpon P (fun w'' => Ext x.w w'') x.w v ((execOp (A σ).eval o).run P x.w) else v = undef) ∧ MW P ops w0 W0 Q rest (kl ++ [.quiet v]) (fun σ => (A σ).put o.dst v)) :
    MW P ops w0 W0 Q (o :: rest) kl A := by
  obtain ⟨v, h1, h2⟩ := h
  exact ⟨.quiet v, fun σ _ => h1 σ, h2⟩
theorem mw_maker {Q : Exit → Act → World → Prop} {o : Oper} {rest : List Oper} {kl : List Kd} {A : (Nat → Nat) → Act} (mk : Nat → Value) (t : TypeId) (c : Array Value) (s : Nat) (c1 : Array Value) (hg : o.guard = none)
    (h1 : ∀ (σ : Nat → Nat) (x : Xt w0), (execOp (A σ).eval o).run P x.w = .ok (.value (mk x.w.heap.size)) (x.w.alloc (.cells c t))) (h2 : MW P ops w0 W0 Q rest (kl ++ [.maker mk t c s c1]) (fun σ => (A σ).put o.dst (mk (σ kl.length)))) :
    MW P ops w0 W0 Q (o :: rest) kl A := ⟨.maker mk t c s c1, fun σ _ => ⟨hg, h1 σ⟩, h2⟩
theorem mw_store {Q : Exit → Act → World → Prop} {o : Oper} {rest : List Oper} {kl : List Kd} {A : (Nat → Nat) → Act} (j : Nat) {mk : Nat → Value} {t : TypeId} {c : Array Value} {s : Nat} {c1 : Array Value} (hj : kl[j]? = some (.maker mk t c s c1)) (hg : o.guard = none)
    (h1 : ∀ (σ : Nat → Nat) (x : Xt w0), w0.heap.size ≤ σ j → x.w.heap[σ j]? = some (.cells c t (0, 0)) →
      ∃ W', (execOp (A σ).eval o).run P x.w = .ok .skip W' ∧ Fill x.w (σ j) t c1 W') (h2 : MW P ops w0 W0 Q rest (kl ++ [.store j]) (fun σ => (A σ).put o.dst undef)) :
    MW P ops w0 W0 Q (o :: rest) kl A := by
  refine ⟨.store j, fun σ more => ⟨hg, fun x mk' t' c' s' c1' hk hb hc => ?_⟩, h2⟩
  have hjl : j < kl.length := (List.getElem?_eq_some_iff.1 hj).1
  have : Kd.at (kl ++ .store j :: more) j = .maker mk t c s c1 := by
    unfold Kd.at
    simp only [List.getD_eq_getElem?_getD]
    rw [List.getElem?_append_left hjl, hj]
    rfl
  rw [this] at hk
  injection hk with e1 e2 e3 e4 e5
  subst e1; subst e2; subst e3; subst e4; subst e5
  obtain ⟨W', hr, hf⟩ := h1 σ x hb hc
  exact ⟨W', hr, hf.grown, hf.size, hf.blk⟩
theorem mw_put {Q : Exit → Act → World → Prop} {o : Oper} {rest : List Oper} {kl : List Kd} {A : (Nat → Nat) → Act} (B : Nat) (t : TypeId) (c c1 : Array Value) (hg : o.guard = none) (hb : w0.heap.size ≤ B) (h0 : W0.heap[B]? = some (.cells c t (0, 0)))
    (h1 : ∀ (σ : Nat → Nat) (x : Xt w0), x.w.heap[B]? = some (.cells c t (0, 0)) →
      ∃ W', (execOp (A σ).eval o).run P x.w = .ok .skip W' ∧ Fill x.w B t c1 W') (h2 : MW P ops w0 W0 Q rest (kl ++ [.put undef B t c c1]) (fun σ => (A σ).put o.dst undef)) :
    MW P ops w0 W0 Q (o :: rest) kl A := by
  refine ⟨.put undef B t c c1, fun σ more => ⟨hg, h0, hb, fun x hc => ?_⟩, h2⟩
  obtain ⟨W', hr, hf⟩ := h1 σ x hc
  rw [hr]
  exact ⟨rfl, hf.grown, hf.blk⟩
theorem mw_putc {Q : Exit → Act → World → Prop} {o : Oper} {rest : List Oper} {kl : List Kd} {A : (Nat → Nat) → Act} (v : Value) (B : Nat) (t : TypeId) (c c1 : Array Value) (hg : o.guard = none) (hb : w0.heap.size ≤ B) (h0 : W0.heap[B]? = some (.cells c t (0, 0)))
    (h1 : ∀ (σ : Nat → Nat) (x : Xt w0), x.w.heap[B]? = some (.cells c t (0, 0)) → ∃ f args, (execOp (A σ).eval o).run P x.w = .ok (.enter f args) x.w ∧
      Calls P f args x.w fun e w'' => e = .returned v ∧ x.w.grownBy w'' (some B) ∧ w''.heap[B]? = some (.cells c1 t (0, 0))) (h2 : MW P ops w0 W0 Q rest (kl ++ [.put v B t c c1]) (fun σ => (A σ).put o.dst v)) :
    MW P ops w0 W0 Q (o :: rest) kl A := by
  refine ⟨.put v B t c c1, fun σ more => ⟨hg, h0, hb, fun x hc => ?_⟩, h2⟩
  obtain ⟨f, args, hr, hf⟩ := h1 σ x hc
  rw [hr]
  exact hf
end
theorem heap_alloc_at (w : World) (o : Obj) (k : Nat) (h : k = w.heap.size) : (w.alloc o).heap[k]? = some o := by
  subst h
  exact heap_alloc_new w o
theorem wp_region_madeC {P : Program} {a0 : Act} {w0 : World} {id m : Nat} {Q : Exit → Act → World → Prop} {l : List Oper} (hm : P.follows .mixedOrders = true) (hB : ssaB l.toArray m = true) (hsz : a0.tmps.size = m)
    (h : (∀ (x : Xt w0) (b o : Nat), b < w0.heap.size → x.w.cell? ⟨b, o, none⟩ = w0.cell? ⟨b, o, none⟩) → MW P l.toArray w0 w0 Q l [] (fun _ => a0)) : (Code.region id l.toArray true).wp P Q a0 w0 :=
  wp_region_made hm hB hsz (h fun x b o h => x.ext.cells.1 b o h)
theorem wp_region_madePC {P : Program} {a0 : Act} (w0 : World) {W0 : World} {id m : Nat} {Q : Exit → Act → World → Prop} {l : List Oper} (hm : P.follows .mixedOrders = true) (hB : ssaB l.toArray m = true) (hsz : a0.tmps.size = m) (hW : Ext w0 W0)
    (h : (∀ (x : Xt w0) (b o : Nat), b < w0.heap.size → x.w.cell? ⟨b, o, none⟩ = w0.cell? ⟨b, o, none⟩) → MW P l.toArray w0 W0 Q l [] (fun _ => a0)) : (Code.region id l.toArray true).wp P Q a0 W0 :=
  wp_region_madeP hm hB hsz hW (h fun x b o h => x.ext.cells.1 b o h)

open Go.RowKit
set_option linter.unusedVariables false

/-- All but the blocks of S is as it was. -/
structure GX (S : List Nat) (w w' : World) : Prop where
  os : w'.os = w.os
  tape : w'.tape = w.tape
  output : w'.output = w.output
  size : w.heap.size ≤ w'.heap.size
  block : ∀ k, k < w.heap.size → k ∉ S → w'.heap[k]? = w.heap[k]?
theorem GX.refl (S : List Nat) (w : World) : GX S w w := ⟨rfl, rfl, rfl, Nat.le_refl _, fun _ _ _ => rfl⟩
theorem GX.trans {S : List Nat} {a b c : World} (h : GX S a b) (k : GX S b c) : GX S a c :=
  ⟨k.os.trans h.os, k.tape.trans h.tape, k.output.trans h.output, Nat.le_trans h.size k.size, fun i hi hn => (k.block i (Nat.lt_of_lt_of_le hi h.size) hn).trans (h.block i hi hn)⟩
theorem GX.ofExt {S : List Nat} {a b : World} (h : Ext a b) : GX S a b := ⟨h.os, h.tape, h.output, h.size, fun k hk _ => h.heap hk⟩
theorem GX.ext {S : List Nat} {a b c : World} (h : GX S a b) (k : Ext b c) : GX S a c := h.trans (.ofExt k)
theorem GX.grown {S : List Nat} {a b c : World} {g : Nat} (h : GX S a b) (k : b.grownBy c (some g)) (hg : g ∈ S) : GX S a c :=
  h.trans ⟨k.os, k.tape, k.output, k.size, fun i hi hn => k.block i hi fun e => hn (by injection e with e; rw [e]; exact hg)⟩
theorem GX.mono {S S' : List Nat} {a b : World} (h : GX S a b) (hs : ∀ k, k ∈ S → k ∈ S' ∨ a.heap.size ≤ k) : GX S' a b :=
  ⟨h.os, h.tape, h.output, h.size, fun k hk hn => h.block k hk fun e => (hs k e).elim hn fun h2 => by omega⟩
theorem GX.toExt {S : List Nat} {a b : World} (h : GX S a b) (hs : ∀ k, k ∈ S → a.heap.size ≤ k) : Ext a b :=
  ⟨h.os, h.tape, h.output, h.size, fun k hk => h.block k hk fun e => by have := hs k e; omega⟩
theorem GX.toGrown {g : Nat} {a b : World} (h : GX [g] a b) : a.grownBy b (some g) :=
  ⟨h.os, h.tape, h.output, h.size, fun k hk hn => h.block k hk fun e => hn (by rw [List.mem_singleton.1 e])⟩
theorem GX.ofGrown {g : Nat} {a b : World} (h : a.grownBy b (some g)) : GX [g] a b :=
  ⟨h.os, h.tape, h.output, h.size, fun k hk hn => h.block k hk fun e => hn (by injection e with e; rw [e]; exact List.mem_singleton.2 rfl)⟩
theorem GX.drew {S : List Nat} {a b : World} (h : GX S a b) : GX S a b.drew := ⟨h.os, h.tape, h.output, h.size, h.block⟩
theorem GX.join {S S' : List Nat} {a b c : World} (h : GX S a b) (k : GX S' b c) (hs : ∀ x, x ∈ S' → x ∈ S ∨ a.heap.size ≤ x) : GX S a c :=
  ⟨k.os.trans h.os, k.tape.trans h.tape, k.output.trans h.output, Nat.le_trans h.size k.size, fun i hi hn => (k.block i (Nat.lt_of_lt_of_le hi h.size) (fun e => (hs i e).elim hn fun h2 => by omega)).trans (h.block i hi hn)⟩
theorem GX.drewN {S : List Nat} {a b : World} (h : GX S a b) (n : Nat) : GX S a (b.drewN n) := ⟨h.os, h.tape, h.output, h.size, h.block⟩
theorem GX.alloc {S : List Nat} {a b : World} (h : GX S a b) (o : Obj) : GX S a (b.alloc o) := h.ext ((Ext.refl b).alloc o)
theorem GX.setCell {S : List Nat} {a b : World} (h : GX S a b) {p : Addr} (hp : p.block ∈ S ∨ a.heap.size ≤ p.block) (u : Value) : GX S a (b.setCell p u) :=
  ⟨h.os, h.tape, h.output, by rw [World.size_setCell]; exact h.size, fun k hk hn => by
    rw [Below.heap_setCell _ _ _ _ (fun e => hp.elim (fun h2 => hn (by rw [e]; exact h2)) (fun h2 => by omega))]
    exact h.block k hk hn⟩
theorem GX.heap {S : List Nat} {a b : World} (h : GX S a b) {k : Nat} (hk : k < a.heap.size) (hn : k ∉ S) : b.heap[k]? = a.heap[k]? := h.block k hk hn
theorem heap_set_ne {w : World} {p : Addr} {u : Value} {k : Nat} {x : Option Obj} (hne : k ≠ p.block) (h : w.heap[k]? = x) : (w.setCell p u).heap[k]? = x := by
  rw [Below.heap_setCell _ _ _ _ hne]
  exact h
theorem heap_alloc_lt {w : World} {o o' : Obj} {k : Nat} (h : w.heap[k]? = some o') : (w.alloc o).heap[k]? = some o' :=
  ((Ext.refl w).alloc o).heap (Array.getElem?_eq_some_iff.1 h).1 |>.trans h
theorem heap_set_at {w : World} {g : Nat} {t : TypeId} {cs : Array Value} (h : w.heap[g]? = some (.cells cs t (0, 0))) (i : Nat) (u : Value) : (w.setCell ⟨g, i, none⟩ u).heap[g]? = some (.cells (cs.setIfInBounds i u) t (0, 0)) := by
  simp [World.setCell, Array.getElem?_modify, h]
theorem GX.cell {S : List Nat} {a b : World} (h : GX S a b) : ∀ k o, k < a.heap.size → k ∉ S → b.cell? ⟨k, o, none⟩ = a.cell? ⟨k, o, none⟩ :=
  fun k o hk hn => World.cell?_of_block (w := a) (h.block k hk hn)
theorem GX.frozen {S : List Nat} {a b : World} (h : GX S a b) : ∀ k o, k < a.heap.size → k ∉ S → b.frozen? ⟨k, o, none⟩ = a.frozen? ⟨k, o, none⟩ :=
  fun k o hk hn => World.frozen?_of_block (w := a) (h.block k hk hn)

namespace Wr
/-- What an operation is: it yields v and reads (beside what no operation writes) the slots rs; it yields v and leaves the cells c1 in slot s. -/
inductive K where
  | quiet (v : Value) (rs : List Nat)
  | write (v : Value) (s : Nat) (c1 : Array Value)
def K.val : K → Value
  | .quiet v _ => v
  | .write v _ _ => v
def K.at (kl : List K) (i : Nat) : K := kl.getD i (.quiet undef [])
/-- a block that is written, its type, what it holds at first -/
structure Slot where
  B : Nat
  t : TypeId
  c : Array Value
def slotB (Ss : List Slot) (s : Nat) : Nat := ((Ss[s]?).map (·.B)).getD 0
def slotT (Ss : List Slot) (s : Nat) : TypeId := ((Ss[s]?).map (·.t)).getD 0
def slotC (Ss : List Slot) (s : Nat) : Array Value := ((Ss[s]?).map (·.c)).getD #[]
def upd (b : Bool) (k : K) (s : Nat) (acc : Array Value) : Array Value := match k with
  | .write _ s' c1 => if b && s' == s then c1 else acc
  | .quiet _ _ => acc
/-- what the slot holds behind the listed ones of the first n operations -/
def contL (Ss : List Slot) (kl : List K) (L : Nat → Bool) (s : Nat) : Nat → Array Value
  | 0 => slotC Ss s
  | n + 1 => upd (L n) (K.at kl n) s (contL Ss kl L s n)
def cur (Ss : List Slot) (kl : List K) (s : Nat) : Array Value := contL Ss kl (fun _ => true) s kl.length
def holdsAt (W : World) (Ss : List Slot) (s : Nat) (c : Array Value) : Prop := W.heap[slotB Ss s]? = some (.cells c (slotT Ss s) (0, 0))

def finN (ops : Array Oper) (kl : List K) (a0 : Act) : Nat → Act
  | 0 => a0
  | n + 1 => (finN ops kl a0 n).put (dstOf ops n) (K.at kl n).val
/-- operation i waits for operation j -/
def wt (ops : Array Oper) : Nat → Nat → Nat → Bool
  | 0, _, _ => false
  | f + 1, i, j => match ops[i]? with
    | some o => o.after.any fun e => Region.binds .any e && (e.on == j || wt ops f e.on j)
    | none => false
def K.writes (k : K) (s : Nat) : Bool := match k with
  | .write _ s' _ => s' == s
  | .quiet _ _ => false
def ordB (ops : Array Oper) (kl : List K) (i s : Nat) : Bool :=
  (List.range ops.size).all fun j => !(K.at kl j).writes s || j == i || (if j < i then wt ops 6 i j else wt ops 6 j i)
def wrB (ops : Array Oper) (kl : List K) : Bool :=
  (List.range ops.size).all fun i => match K.at kl i with
    | .quiet _ rs => rs.all fun s => ordB ops kl i s
    | .write _ s _ => ordB ops kl i s
def tailB (ops : Array Oper) (n : Nat) : Bool :=
  decide (n ≤ ops.size) && ((List.range ops.size).all fun t => decide (t < n) || (List.range n).all fun i => wt ops 6 t i) &&
  Region.seqB .any ops (ops.size - n) n ((List.range ops.size).map fun i => decide (i < n)).toArray

section
variable {P : Program} {ops : Array Oper} {kl : List K} {a0 : Act} {W0 : World} {Ss : List Slot}

theorem wt_closed {L : Array Bool} (hc : ∀ (i : Nat) (o : Oper), ops[i]? = some o → L.getD i false = true → ∀ e ∈ o.after, Region.binds .any e = true → L.getD e.on false = true) :
    ∀ f i j, wt ops f i j = true → L.getD i false = true → L.getD j false = true := by
  intro f
  induction f with
  | zero => intro i j h; simp [wt] at h
  | succ f ih =>
    intro i j h hl
    unfold wt at h
    cases ho : ops[i]? with
    | none => rw [ho] at h; cases h
    | some o =>
      rw [ho] at h
      obtain ⟨e, he, h2⟩ := Array.any_eq_true'.1 h
      simp only [Bool.and_eq_true, Bool.or_eq_true, beq_iff_eq] at h2
      have h3 := hc i o ho hl e he h2.1
      rcases h2.2 with rfl | h4
      · exact h3
      · exact ih _ _ h4 h3
theorem wt_ready {L : Array Bool} (hc : ∀ (i : Nat) (o : Oper), ops[i]? = some o → L.getD i false = true → ∀ e ∈ o.after, Region.binds .any e = true → L.getD e.on false = true) {i : Nat} {o : Oper} (ho : ops[i]? = some o)
    (hd : ∀ e ∈ o.after, Region.binds .any e = true → L.getD e.on false = true) : ∀ f j, wt ops f i j = true → L.getD j false = true := by
  intro f j h
  cases f with
  | zero => simp [wt] at h
  | succ f =>
    unfold wt at h
    rw [ho] at h
    obtain ⟨e, he, h2⟩ := Array.any_eq_true'.1 h
    simp only [Bool.and_eq_true, Bool.or_eq_true, beq_iff_eq] at h2
    have h3 := hd e he h2.1
    rcases h2.2 with rfl | h4
    · exact h3
    · exact wt_closed hc _ _ _ h4 h3

theorem contL_all {L : Nat → Bool} {s : Nat} : ∀ n, (∀ j, j < n → (K.at kl j).writes s = true → L j = true) → contL Ss kl L s n = contL Ss kl (fun _ => true) s n := by
  intro n
  induction n with
  | zero => intro _; rfl
  | succ n ih =>
    intro h
    unfold contL
    rw [ih fun j hj => h j (by omega)]
    have h1 := h n (by omega)
    cases hk : K.at kl n with
    | quiet v rs => rfl
    | write v s' c1 =>
      rw [hk] at h1
      simp only [upd, K.writes] at h1 ⊢
      by_cases e : s' = s
      · rw [h1 (by simpa using e)]
      · simp [e]
theorem contL_none {L : Nat → Bool} {s i : Nat} : ∀ n, i ≤ n → (∀ j, i ≤ j → j < n → (K.at kl j).writes s = true → L j = false) → contL Ss kl L s n = contL Ss kl L s i := by
  intro n
  induction n with
  | zero => intro h _; obtain rfl : i = 0 := by omega
            rfl
  | succ n ih =>
    intro h h2
    by_cases e : i = n + 1
    · rw [e]
    · rw [← ih (by omega) fun j hj hj2 => h2 j hj (by omega)]
      conv => lhs; unfold contL
      have h1 := h2 n (by omega) (by omega)
      cases hk : K.at kl n with
      | quiet v rs => rfl
      | write v s' c1 =>
        rw [hk] at h1
        simp only [upd, K.writes] at h1 ⊢
        by_cases e : s' = s
        · rw [h1 (by simpa using e)]; simp
        · simp [e]
theorem contL_set {L L' : Nat → Bool} {s : Nat} : ∀ n, (∀ j, j < n → (K.at kl j).writes s = true → L j = L' j) → contL Ss kl L s n = contL Ss kl L' s n := by
  intro n
  induction n with
  | zero => intro _; rfl
  | succ n ih =>
    intro h
    unfold contL
    rw [ih fun j hj => h j (by omega)]
    have h1 := h n (by omega)
    cases hk : K.at kl n with
    | quiet v rs => rfl
    | write v s' c1 =>
      rw [hk] at h1
      simp only [upd, K.writes] at h1 ⊢
      by_cases e : s' = s
      · rw [h1 (by simpa using e)]
      · simp [e]
theorem contL_append (s : Nat) (k2 : List K) : ∀ n, n ≤ kl.length → contL Ss (kl ++ k2) (fun _ => true) s n = contL Ss kl (fun _ => true) s n := by
  intro n
  induction n with
  | zero => intro _; rfl
  | succ n ih =>
    intro h
    unfold contL
    rw [ih (by omega)]
    have : K.at (kl ++ k2) n = K.at kl n := by
      unfold K.at
      simp only [List.getD_eq_getElem?_getD]
      rw [List.getElem?_append_left (by omega)]
    rw [this]

theorem finN_get {m : Nat} (hs : Ssa ops m) (hm : a0.tmps.size = m) : ∀ n, n ≤ ops.size →
    (finN ops kl a0 n).defers = a0.defers ∧ (finN ops kl a0 n).tmps.size = a0.tmps.size ∧
    (∀ i d, i < n → dstOf ops i = some d → (finN ops kl a0 n).tmps[d]? = some (K.at kl i).val) ∧
    (∀ t, (∀ i, i < n → dstOf ops i ≠ some t) → (finN ops kl a0 n).tmps[t]? = a0.tmps[t]?) := by
  intro n
  induction n with
  | zero => intro _; exact ⟨rfl, rfl, fun i d hi => absurd hi (by omega), fun t _ => rfl⟩
  | succ n ih =>
    intro hn
    obtain ⟨h1, h2, h3, h4⟩ := ih (by omega)
    unfold finN
    cases hd : dstOf ops n with
    | none =>
      refine ⟨h1, h2, fun i d hi he => ?_, fun t ht => h4 t fun i hi => ht i (by omega)⟩
      by_cases hin : i = n
      · subst hin; rw [hd] at he; cases he
      · exact h3 i d (by omega) he
    | some d0 =>
      have hlt : d0 < a0.tmps.size := by rw [hm]; exact hs.bd n d0 (by omega) hd
      refine ⟨h1, by simp [Act.put, h2], fun i d hi he => ?_, fun t ht => ?_⟩
      · by_cases hin : i = n
        · subst hin
          rw [hd] at he
          obtain rfl := Option.some.inj he
          simp [Act.put, h2, hlt]
        · have hne : d0 ≠ d := fun e => hs.one n i d0 (by omega) (by omega) (fun e => hin e.symm) hd (by rw [he, e])
          simp only [Act.put]
          rw [Array.getElem?_setIfInBounds_ne hne]
          exact h3 i d (by omega) he
      · have hne : d0 ≠ t := fun e => ht n (by omega) (by rw [hd, e])
        simp only [Act.put]
        rw [Array.getElem?_setIfInBounds_ne hne]
        exact h4 t fun i hi => ht i (by omega)

structure Inv (ops : Array Oper) (kl : List K) (a0 : Act) (Ss : List Slot) (W0 : World) (L : Array Bool) (a : Act) (W : World) : Prop where
  lsize : L.size = ops.size
  closed : ∀ (i : Nat) (o : Oper), ops[i]? = some o → L.getD i false = true → ∀ e ∈ o.after, Region.binds .any e = true → L.getD e.on false = true
  defers : a.defers = a0.defers
  size : a.tmps.size = a0.tmps.size
  on : ∀ i d, i < ops.size → L.getD i false = true → dstOf ops i = some d → a.tmps[d]? = some (K.at kl i).val
  off : ∀ t, (∀ i, i < ops.size → L.getD i false = true → dstOf ops i ≠ some t) → a.tmps[t]? = a0.tmps[t]?
  gx : GX (Ss.map (·.B)) W0 W
  cont : ∀ s, s < Ss.length → holdsAt W Ss s (contL Ss kl (fun i => L.getD i false) s ops.size)

/-- the frame's and the list's part of a step -/
theorem Inv.frame {m : Nat} {L : Array Bool} {a : Act} {W : World} {i : Nat} {o : Oper} (hs : Ssa ops m) (hm : a0.tmps.size = m) (h : Inv ops kl a0 Ss W0 L a W) (hi : i ∈ Region.ready .any ops L) (ho : ops[i]? = some o) :
    (L.setIfInBounds i true).size = ops.size ∧
    (∀ (k : Nat) (q : Oper), ops[k]? = some q → (L.setIfInBounds i true).getD k false = true → ∀ e ∈ q.after, Region.binds .any e = true → (L.setIfInBounds i true).getD e.on false = true) ∧
    (a.put o.dst (K.at kl i).val).defers = a0.defers ∧ (a.put o.dst (K.at kl i).val).tmps.size = a0.tmps.size ∧
    (∀ k d, k < ops.size → (L.setIfInBounds i true).getD k false = true → dstOf ops k = some d → (a.put o.dst (K.at kl i).val).tmps[d]? = some (K.at kl k).val) ∧
    (∀ t, (∀ k, k < ops.size → (L.setIfInBounds i true).getD k false = true → dstOf ops k ≠ some t) → (a.put o.dst (K.at kl i).val).tmps[t]? = a0.tmps[t]?) := by
  obtain ⟨_, oi, hoi, hall⟩ := mem_ready.1 hi
  obtain rfl : oi = o := Option.some.inj (hoi.symm.trans ho)
  have hilt : i < ops.size := (Array.getElem?_eq_some_iff.1 ho).1
  have hil : i < L.size := by rw [h.lsize]; exact hilt
  have hdst : dstOf ops i = oi.dst := by simp [dstOf, ho]
  refine ⟨by simp [h.lsize], ?_, ?_, ?_, ?_, ?_⟩
  · intro k q hk hl e he hb
    rw [getD_set hil] at hl ⊢
    split
    · rfl
    · by_cases hki : k = i
      · subst hki
        obtain rfl : q = oi := Option.some.inj (hk.symm.trans ho)
        exact hall e he hb
      · rw [if_neg hki] at hl
        exact h.closed k q hk hl e he hb
  · rw [← h.defers]; cases oi.dst <;> rfl
  · rw [← h.size]; cases oi.dst <;> simp [Act.put]
  · intro k d hk hl hd
    rw [getD_set hil] at hl
    cases hod : oi.dst with
    | none =>
      simp only [Act.put]
      by_cases hki : k = i
      · subst hki; rw [hdst, hod] at hd; cases hd
      · rw [if_neg hki] at hl
        exact h.on k d hk hl hd
    | some d0 =>
      have hlt : d0 < a.tmps.size := by rw [h.size, hm]; exact hs.bd i d0 hilt (hdst.trans hod)
      by_cases hki : k = i
      · subst hki
        rw [hdst, hod] at hd
        obtain rfl := Option.some.inj hd
        simp [Act.put, hlt]
      · rw [if_neg hki] at hl
        have hne : d0 ≠ d := fun e => hs.one i k d0 hilt hk (fun e => hki e.symm) (hdst.trans hod) (by rw [hd, e])
        simp only [Act.put]
        rw [Array.getElem?_setIfInBounds_ne hne]
        exact h.on k d hk hl hd
  · intro t ht
    have h1 := h.off t fun k hk hl => ht k hk (by rw [getD_set hil]; split <;> simp [hl])
    cases hod : oi.dst with
    | none => exact h1
    | some d0 =>
      have hne : d0 ≠ t := fun e => ht i hilt (by rw [getD_set hil]; simp) (by rw [hdst, hod, e])
      simp only [Act.put]
      rw [Array.getElem?_setIfInBounds_ne hne]
      exact h1

/-- an operation that may come up sees what it sees in the frame behind the operations ahead of it -/
theorem Inv.sees {m : Nat} {L : Array Bool} {a : Act} {W : World} {i : Nat} {o : Oper} (hs : Ssa ops m) (hm : a0.tmps.size = m) (h : Inv ops kl a0 Ss W0 L a W) (hi : i ∈ Region.ready .any ops L) (ho : ops[i]? = some o) :
    execOp a.eval o = execOp (finN ops kl a0 i).eval o ∧ Region.wanted o (yielded ops a.tmps) = Region.wanted o (yielded ops (finN ops kl a0 i).tmps) := by
  obtain ⟨_, oi, hoi, hall⟩ := mem_ready.1 hi
  obtain rfl : oi = o := Option.some.inj (hoi.symm.trans ho)
  have hilt : i < ops.size := (Array.getElem?_eq_some_iff.1 ho).1
  obtain ⟨f1, f2, f3, f4⟩ := finN_get (kl := kl) hs hm i (by omega)
  have hat : ∀ t ∈ oi.looksAt ops, a.tmps[t]? = (finN ops kl a0 i).tmps[t]? := by
    intro t ht
    by_cases hex : ∃ j, j < ops.size ∧ dstOf ops j = some t
    · obtain ⟨j, hj, hd⟩ := hex
      obtain ⟨e, he, hb, rfl⟩ := hs.sees i oi t j ho ht hj hd
      rw [h.on e.on t hj (hall e he hb) hd, f3 e.on t (hs.dn i oi e ho he hb) hd]
    · rw [h.off t fun j hj _ hd => hex ⟨j, hj, hd⟩, f4 t fun j hj hd => hex ⟨j, by omega, hd⟩]
  refine ⟨execOp_congr oi (Region.noSelect_spec hs.nosel i oi · · ho) fun x hx => ?_, ?_⟩
  · cases x with
    | tmp t =>
      have := hat t (List.mem_append_left _ (List.mem_filterMap.2 ⟨.tmp t, by simpa using hx, rfl⟩))
      simp only [Act.eval, Array.getD_eq_getD_getElem?, this]
    | _ => rfl
  · unfold Region.wanted
    cases hg : oi.guard with
    | none => rfl
    | some gw =>
      obtain ⟨g, want⟩ := gw
      have : yielded ops a.tmps g = yielded ops (finN ops kl a0 i).tmps g := by
        unfold yielded
        cases ht : (ops[g]?).bind (·.dst) with
        | none => rfl
        | some t =>
          have := hat t (by simp [Oper.looksAt, hg, ht])
          simp [this]
      simp only [this]

/-- an operation that yields v and leaves a world of C -/
def writeUpon (P : Program) (C : World → Prop) (v : Value) : Result Next → Prop
  | .ok (.value u) w' => u = v ∧ C w'
  | .ok .skip w' => v = undef ∧ C w'
  | .ok (.enter f args) w' => Calls P f args w' (fun e w'' => e = .returned v ∧ C w'')
  | _ => False

/-- what is asked of one operation -/
def Ob (P : Program) (ops : Array Oper) (Ss : List Slot) (kl : List K) (W0 : World) (o : Oper) (k : K) (a : Act) : Prop := match k with
  | .quiet v rs => if Region.wanted o (yielded ops a.tmps) then (∀ s ∈ rs, s < Ss.length) ∧ ∀ W, GX (Ss.map (·.B)) W0 W → (∀ s ∈ rs, holdsAt W Ss s (cur Ss kl s)) → Oper.quietUpon P (fun w'' => Ext W w'') W v ((execOp a.eval o).run P W) else v = undef
  | .write v s c1 => Region.wanted o (yielded ops a.tmps) = true ∧ s < Ss.length ∧ ∀ W, GX (Ss.map (·.B)) W0 W → holdsAt W Ss s (cur Ss kl s) →
      writeUpon P (fun w'' => W.grownBy w'' (some (slotB Ss s)) ∧ holdsAt w'' Ss s c1) v ((execOp a.eval o).run P W)

theorem slot_mem {s : Nat} (h : s < Ss.length) : slotB Ss s ∈ Ss.map (·.B) := by
  unfold slotB
  rw [List.getElem?_eq_getElem h]
  exact List.mem_map.2 ⟨Ss[s], List.getElem_mem h, rfl⟩
theorem slot_inj {s s' : Nat} (hn : (Ss.map (·.B)).Nodup) (h : s < Ss.length) (h' : s' < Ss.length) (e : slotB Ss s = slotB Ss s') : s = s' := by
  unfold slotB at e
  rw [List.getElem?_eq_getElem h, List.getElem?_eq_getElem h'] at e
  simp only [Option.map_some, Option.getD_some] at e
  have h1 : s < (Ss.map (·.B)).length := by simpa using h
  have h2 : s' < (Ss.map (·.B)).length := by simpa using h'
  exact (List.getElem_inj (h₀ := h1) (h₁ := h2) hn).1 (by simpa using e)

/-- what an operation that reads or writes the slot finds there -/
theorem Inv.slot {m : Nat} {L : Array Bool} {a : Act} {W : World} {i s : Nat} {o : Oper} (hs : Ssa ops m) (h : Inv ops kl a0 Ss W0 L a W) (hi : i ∈ Region.ready .any ops L) (ho : ops[i]? = some o) (hord : ordB ops kl i s = true) :
    (∀ j, j < i → (K.at kl j).writes s = true → L.getD j false = true) ∧ (∀ j, i ≤ j → j < ops.size → (K.at kl j).writes s = true → L.getD j false = false) := by
  obtain ⟨hun0, oi, hoi, hall⟩ := mem_ready.1 hi
  obtain rfl : oi = o := Option.some.inj (hoi.symm.trans ho)
  have hilt : i < ops.size := (Array.getElem?_eq_some_iff.1 ho).1
  have hil : i < L.size := by rw [h.lsize]; exact hilt
  have hun : L.getD i false = false := by simp [hil] at hun0 ⊢; exact hun0
  unfold ordB at hord
  rw [List.all_eq_true] at hord
  refine ⟨fun j hj hw => ?_, fun j hj hj2 hw => ?_⟩
  · have h1 := hord j (List.mem_range.2 (by omega))
    rw [hw, if_pos hj] at h1
    simp only [Bool.not_true, Bool.false_or, Bool.or_eq_true, beq_iff_eq] at h1
    rcases h1 with h1 | h1
    · omega
    · exact wt_ready h.closed ho hall _ _ h1
  · by_cases e : j = i
    · rw [e]; exact hun
    · have h1 := hord j (List.mem_range.2 hj2)
      rw [hw, if_neg (by omega)] at h1
      simp only [Bool.not_true, Bool.false_or, Bool.or_eq_true, beq_iff_eq] at h1
      rcases h1 with h1 | h1
      · exact absurd h1 e
      · cases hg : L.getD j false with
        | false => rfl
        | true =>
          have := wt_closed h.closed _ _ _ h1 hg
          rw [hun] at this
          cases this

theorem Inv.quiet {m : Nat} {L : Array Bool} {a : Act} {W W' : World} {i : Nat} {o : Oper} {v : Value} {rs : List Nat} (hs : Ssa ops m) (hm : a0.tmps.size = m) (h : Inv ops kl a0 Ss W0 L a W) (hi : i ∈ Region.ready .any ops L) (ho : ops[i]? = some o)
    (hk : K.at kl i = .quiet v rs) (hx : Ext W W') : Inv ops kl a0 Ss W0 (L.setIfInBounds i true) (a.put o.dst v) W' := by
  obtain ⟨g1, g2, g3, g4, g5, g6⟩ := h.frame hs hm hi ho
  rw [hk] at g3 g4 g5 g6
  have hilt : i < ops.size := (Array.getElem?_eq_some_iff.1 ho).1
  have hil : i < L.size := by rw [h.lsize]; exact hilt
  refine ⟨g1, g2, g3, g4, g5, g6, h.gx.ext hx, fun s hs' => ?_⟩
  have h1 := h.cont s hs'
  have h2 : contL Ss kl (fun j => (L.setIfInBounds i true).getD j false) s ops.size = contL Ss kl (fun j => L.getD j false) s ops.size :=
    contL_set _ fun j hj hw => by
      rw [getD_set hil]
      by_cases e : j = i
      · rw [e, hk] at hw; cases hw
      · rw [if_neg e]
  rw [h2]
  unfold holdsAt at h1 ⊢
  exact (hx.heap (Array.getElem?_eq_some_iff.1 h1).1).trans h1

theorem Inv.write {m : Nat} {L : Array Bool} {a : Act} {W W' : World} {i : Nat} {o : Oper} {v : Value} {s : Nat} {c1 : Array Value} (hs : Ssa ops m) (hm : a0.tmps.size = m) (hn : (Ss.map (·.B)).Nodup) (h : Inv ops kl a0 Ss W0 L a W) (hi : i ∈ Region.ready .any ops L) (ho : ops[i]? = some o)
    (hk : K.at kl i = .write v s c1) (hlt : s < Ss.length) (hord : ordB ops kl i s = true) (hg : W.grownBy W' (some (slotB Ss s))) (hc : holdsAt W' Ss s c1) : Inv ops kl a0 Ss W0 (L.setIfInBounds i true) (a.put o.dst v) W' := by
  obtain ⟨g1, g2, g3, g4, g5, g6⟩ := h.frame hs hm hi ho
  rw [hk] at g3 g4 g5 g6
  have hilt : i < ops.size := (Array.getElem?_eq_some_iff.1 ho).1
  have hil : i < L.size := by rw [h.lsize]; exact hilt
  obtain ⟨k1, k2⟩ := h.slot hs hi ho hord
  refine ⟨g1, g2, g3, g4, g5, g6, h.gx.grown hg (slot_mem hlt), fun s' hs' => ?_⟩
  by_cases e : s' = s
  · subst e
    have h2 : contL Ss kl (fun j => (L.setIfInBounds i true).getD j false) s' ops.size = c1 := by
      rw [contL_none (i := i + 1) ops.size (by omega) fun j hj hj2 hw => by
        rw [getD_set hil, if_neg (by omega)]
        exact k2 j (by omega) hj2 hw]
      unfold contL
      rw [hk]
      simp [upd, hil]
    rw [h2]
    exact hc
  · have h1 := h.cont s' hs'
    have h2 : contL Ss kl (fun j => (L.setIfInBounds i true).getD j false) s' ops.size = contL Ss kl (fun j => L.getD j false) s' ops.size :=
      contL_set _ fun j hj hw => by
        rw [getD_set hil]
        by_cases e2 : j = i
        · rw [e2, hk] at hw
          simp only [K.writes, beq_iff_eq] at hw
          exact absurd hw.symm e
        · rw [if_neg e2]
    rw [h2]
    unfold holdsAt at h1 ⊢
    exact (hg.block _ (Array.getElem?_eq_some_iff.1 h1).1 fun e2 => e (slot_inj hn hs' hlt (by injection e2))).trans h1

/-- how many of the first n have not come up yet -/
def unl (L : Array Bool) : Nat → Nat
  | 0 => 0
  | n + 1 => unl L n + (if L.getD n false then 0 else 1)
theorem unl_same {L L' : Array Bool} : ∀ n, (∀ j, j < n → L.getD j false = L'.getD j false) → unl L n = unl L' n := by
  intro n
  induction n with
  | zero => intro _; rfl
  | succ n ih =>
    intro h
    unfold unl
    rw [ih fun j hj => h j (by omega), h n (by omega)]
theorem unl_set {L : Array Bool} {i : Nat} (hil : i < L.size) (hun : L.getD i false = false) : ∀ n, i < n → unl (L.setIfInBounds i true) n + 1 = unl L n := by
  intro n
  induction n with
  | zero => intro h; omega
  | succ n ih =>
    intro h
    unfold unl
    by_cases e : i = n
    · subst e
      have e1 : unl (L.setIfInBounds i true) i = unl L i := unl_same i fun j hj => by rw [getD_set hil, if_neg (by omega)]
      rw [e1, getD_set hil, if_pos rfl, hun]
      simp
    · have h1 := ih (by omega)
      have e3 : (L.setIfInBounds i true).getD n false = L.getD n false := by rw [getD_set hil, if_neg (fun (e2 : n = i) => e e2.symm)]
      rw [e3]
      omega
theorem unl_zero {L : Array Bool} : ∀ n, unl L n = 0 → ∀ i, i < n → L.getD i false = true := by
  intro n
  induction n with
  | zero => intro _ i hi; omega
  | succ n ih =>
    intro h i hi
    unfold unl at h
    have h1 : L.getD n false = true := by
      cases hg : L.getD n false with
      | true => rfl
      | false => rw [hg] at h; simp at h
    by_cases e : i = n
    · rw [e]; exact h1
    · exact ih (by omega) i (by omega)
theorem unl_none {L : Array Bool} : ∀ n, (∀ i, i < n → L.getD i false = false) → unl L n = n := by
  intro n
  induction n with
  | zero => intro _; rfl
  | succ n ih =>
    intro h
    unfold unl
    rw [ih fun i hi => h i (by omega), h n (by omega)]
    simp

theorem any_wr {m n : Nat} {Q : Exit → Act → World → Prop} {l : List Oper} (hops : ops = l.toArray) (hs : Ssa ops m) (hm : a0.tmps.size = m) (hn : (Ss.map (·.B)).Nodup) (hw : wrB ops kl = true) (ht : tailB ops n = true) (hkl : kl.length = n)
    (hob : ∀ (i : Nat) (o : Oper), i < n → ops[i]? = some o → Ob P ops Ss (kl.take i) W0 o (K.at kl i) (finN ops kl a0 i))
    (hfin : ∀ W, GX (Ss.map (·.B)) W0 W → (∀ s, s < Ss.length → holdsAt W Ss s (cur Ss kl s)) → wpList P ops Q (l.drop n) (finN ops kl a0 n) W) :
    ∀ (fuel : Nat) (L : Array Bool) (a : Act) (W : World), Inv ops kl a0 Ss W0 L a W → (∀ t, n ≤ t → L.getD t false = false) → unl L n = fuel → wpAny P .any ops Q (fuel + (ops.size - n)) L a W := by
  unfold tailB at ht
  simp only [Bool.and_eq_true, decide_eq_true_eq] at ht
  obtain ⟨⟨hnle, ht1⟩, ht2⟩ := ht
  have hopl : ops.size = l.length := by rw [hops]; simp
  have hfar : ∀ j, n ≤ j → K.at kl j = .quiet undef [] := by
    intro j hj
    unfold K.at
    simp only [List.getD_eq_getElem?_getD]
    rw [List.getElem?_eq_none (by omega)]
    rfl
  have hcur : ∀ i s, i ≤ n → contL Ss kl (fun _ => true) s i = cur Ss (kl.take i) s := by
    intro i s hi
    unfold cur
    have h1 : (kl.take i).length = i := by simp; omega
    rw [h1]
    have := contL_append (Ss := Ss) (kl := kl.take i) s (kl.drop i) i (by omega)
    rw [List.take_append_drop] at this
    exact this
  intro fuel
  induction fuel with
  | zero =>
    intro L a W h hoff hu
    have hall := unl_zero n hu
    have hLe : L = ((List.range ops.size).map fun i => decide (i < n)).toArray := by
      apply Array.ext
      · simp [h.lsize]
      · intro i h1 h2
        have h3 : L.getD i false = L[i] := by simp [h1]
        have h4 : L.getD i false = decide (i < n) := by
          by_cases e : i < n
          · rw [hall i e]; simp [e]
          · rw [hoff i (by omega)]; simp [e]
        rw [← h3, h4]
        simp
    have hdl : ops.size - n = (l.drop n).length := by rw [hopl]; simp
    rw [Nat.zero_add, hdl]
    refine wpAny_of_seq (l.drop n) n L a W (fun j => by rw [hops]; simp [List.getElem?_drop]) (by rw [← hdl, hLe]; exact ht2) ?_
    have hae : a = finN ops kl a0 n := by
      obtain ⟨f1, f2, f3, f4⟩ := finN_get (kl := kl) hs hm n hnle
      have htm : a.tmps = (finN ops kl a0 n).tmps := by
        apply Array.ext_getElem?
        intro t
        by_cases hex : ∃ j, j < n ∧ dstOf ops j = some t
        · obtain ⟨j, hj, hd⟩ := hex
          rw [h.on j t (by omega) (hall j hj) hd, f3 j t hj hd]
        · have hlt : ∀ j, L.getD j false = true → j < n := fun j hl => by
            rcases Nat.lt_or_ge j n with h2 | h2
            · exact h2
            · rw [hoff j h2] at hl; cases hl
          rw [h.off t fun j hj hl hd => hex ⟨j, hlt j hl, hd⟩, f4 t fun j hj hd => hex ⟨j, hj, hd⟩]
      have hd : a.defers = (finN ops kl a0 n).defers := h.defers.trans f1.symm
      cases a
      generalize finN ops kl a0 n = F at *
      cases F
      simp only at htm hd
      rw [htm, hd]
    rw [hae]
    refine hfin W h.gx fun s hs' => ?_
    have h1 := h.cont s hs'
    rw [contL_none (i := n) ops.size hnle fun j hj _ hw => by rw [hfar j hj] at hw; cases hw] at h1
    rw [contL_all n fun j hj _ => hall j hj, hcur n s (Nat.le_refl _)] at h1
    rw [List.take_of_length_le (by omega)] at h1
    exact h1
  | succ fuel ih =>
    intro L a W h hoff hu
    rw [show fuel + 1 + (ops.size - n) = (fuel + (ops.size - n)) + 1 by omega]
    have hsome : ∃ i, i < n ∧ L.getD i false = false := by
      apply Classical.byContradiction
      intro hno
      have hall : ∀ i, i < n → L.getD i false = true := by
        intro i hi
        cases hg : L.getD i false with
        | true => rfl
        | false => exact absurd ⟨i, hi, hg⟩ hno
      have : ∀ k, k ≤ n → unl L k = 0 := by
        intro k
        induction k with
        | zero => intro _; rfl
        | succ k ihk =>
          intro hk
          unfold unl
          rw [ihk (by omega), hall k (by omega)]
          simp
      rw [this n (Nat.le_refl _)] at hu
      omega
    refine ⟨fun hr => ?_, fun i hi => ?_⟩
    · exfalso
      obtain ⟨i, hin, hiun⟩ := hsome
      have := all_listed hs h.lsize hr i (by omega)
      rw [hiun] at this
      cases this
    obtain ⟨hun0, o, ho, hall⟩ := mem_ready.1 hi
    have hilt : i < ops.size := (Array.getElem?_eq_some_iff.1 ho).1
    have hil : i < L.size := by rw [h.lsize]; exact hilt
    have hun : L.getD i false = false := by simp [hil] at hun0 ⊢; exact hun0
    have hin : i < n := by
      rcases Nat.lt_or_ge i n with h2 | h2
      · exact h2
      · exfalso
        obtain ⟨j, hjn, hjun⟩ := hsome
        rw [List.all_eq_true] at ht1
        have h3 := ht1 i (List.mem_range.2 hilt)
        simp only [Bool.or_eq_true, decide_eq_true_eq] at h3
        rcases h3 with h3 | h3
        · omega
        · rw [List.all_eq_true] at h3
          have := wt_ready h.closed ho hall _ _ (h3 j (List.mem_range.2 hjn))
          rw [hjun] at this
          cases this
    have hu' : unl (L.setIfInBounds i true) n = fuel := by
      have := unl_set hil hun n hin
      omega
    have hoff' : ∀ t, n ≤ t → (L.setIfInBounds i true).getD t false = false := by
      intro t ht
      rw [getD_set hil, if_neg (by omega)]
      exact hoff t ht
    obtain ⟨hx, hwt⟩ := h.sees hs hm hi ho
    have hobi := hob i o hin ho
    unfold wrB at hw
    rw [List.all_eq_true] at hw
    have hwi := hw i (List.mem_range.2 hilt)
    unfold wpOp
    simp only [ho]
    cases hk : K.at kl i with
    | quiet v rs =>
      rw [hk] at hobi hwi
      simp only [Ob] at hobi
      rw [← hx, ← hwt] at hobi
      split
      · rename_i hwt'
        rw [if_pos hwt'] at hobi
        refine .inl ?_
        have h3 := hobi.2 W h.gx fun s hs' => by
          rw [List.all_eq_true] at hwi
          obtain ⟨k1, k2⟩ := h.slot hs hi ho (hwi s hs')
          have h4 := h.cont s (hobi.1 s hs')
          rw [contL_none (i := i) ops.size (by omega) fun j hj hj2 hw => k2 j hj hj2 hw, contL_all i fun j hj hw => k1 j hj hw, hcur i s (by omega)] at h4
          exact h4
        unfold Oper.wp
        generalize (execOp a.eval o).run P W = r at *
        cases r with
        | ok nx w' =>
          cases nx <;> simp only [Oper.quietUpon] at h3 <;> simp only [Oper.upon]
          case value u =>
            obtain ⟨rfl, rfl⟩ := h3
            exact ih _ _ _ (h.quiet hs hm hi ho hk (Ext.refl _)) hoff' hu'
          case skip =>
            obtain ⟨rfl, rfl⟩ := h3
            exact ih _ _ _ (h.quiet hs hm hi ho hk (Ext.refl _)) hoff' hu'
          case enter f args =>
            obtain ⟨rfl, hc⟩ := h3
            exact hc.mono fun e w'' ⟨he, hx''⟩ => by
              subst he
              exact ih _ _ _ (h.quiet hs hm hi ho hk hx'') hoff' hu'
        | halt x w' => simp only [Oper.quietUpon] at h3
      · rename_i hwt'
        rw [if_neg hwt'] at hobi
        subst hobi
        exact ih _ _ _ (h.quiet hs hm hi ho hk (Ext.refl _)) hoff' hu'
    | write v s c1 =>
      rw [hk] at hobi hwi
      simp only [Ob] at hobi
      simp only at hwi
      rw [← hx, ← hwt] at hobi
      obtain ⟨hwt', hlt, hrun⟩ := hobi
      rw [if_pos hwt']
      refine .inl ?_
      obtain ⟨k1, k2⟩ := h.slot hs hi ho hwi
      have h4 := h.cont s hlt
      rw [contL_none (i := i) ops.size (by omega) fun j hj hj2 hw => k2 j hj hj2 hw, contL_all i fun j hj hw => k1 j hj hw, hcur i s (by omega)] at h4
      have h3 := hrun W h.gx h4
      unfold Oper.wp
      generalize (execOp a.eval o).run P W = r at *
      cases r with
      | ok nx w' =>
        cases nx <;> simp only [writeUpon] at h3 <;> simp only [Oper.upon]
        case value u =>
          obtain ⟨rfl, hg, hc⟩ := h3
          exact ih _ _ _ (h.write hs hm hn hi ho hk hlt hwi hg hc) hoff' hu'
        case skip =>
          obtain ⟨rfl, hg, hc⟩ := h3
          exact ih _ _ _ (h.write hs hm hn hi ho hk hlt hwi hg hc) hoff' hu'
        case enter f args =>
          exact h3.mono fun e w'' ⟨he, hg, hc⟩ => by
            subst he
            exact ih _ _ _ (h.write hs hm hn hi ho hk hlt hwi hg hc) hoff' hu'
      | halt x w' => simp only [writeUpon] at h3

/-- the walk in the order of the text; it may stop where all that is left is forced -/
def Stop (P : Program) (ops : Array Oper) (Ss : List Slot) (W0 : World) (Q : Exit → Act → World → Prop) (rest : List Oper) (kl : List K) (a : Act) : Prop :=
  wrB ops kl = true ∧ tailB ops kl.length = true ∧ ∀ W, GX (Ss.map (·.B)) W0 W → (∀ s, s < Ss.length → holdsAt W Ss s (cur Ss kl s)) → wpList P ops Q rest a W
def WW (P : Program) (ops : Array Oper) (Ss : List Slot) (W0 : World) (Q : Exit → Act → World → Prop) : List Oper → List K → Act → Prop
  | [], kl, a => Stop P ops Ss W0 Q [] kl a
  | o :: rest, kl, a => Stop P ops Ss W0 Q (o :: rest) kl a ∨ ∃ k : K, Ob P ops Ss kl W0 o k a ∧ WW P ops Ss W0 Q rest (kl ++ [k]) (a.put o.dst k.val)

theorem finN_append (k2 : List K) : ∀ (n : Nat), n ≤ kl.length → finN ops (kl ++ k2) a0 n = finN ops kl a0 n := by
  intro n
  induction n with
  | zero => intro _; rfl
  | succ n ih =>
    intro h
    unfold finN
    rw [ih (by omega)]
    have : K.at (kl ++ k2) n = K.at kl n := by
      unfold K.at
      simp only [List.getD_eq_getElem?_getD]
      rw [List.getElem?_append_left (by omega)]
    rw [this]

theorem ww_sound {Q : Exit → Act → World → Prop} {full : List Oper} (hf : ops = full.toArray) : ∀ (l : List Oper) (kl : List K) (A : Act), l = full.drop kl.length → A = finN ops kl a0 kl.length → WW P ops Ss W0 Q l kl A →
    ∃ kl' : List K, (∃ more, kl' = kl ++ more) ∧ (∀ (i : Nat) (o : Oper), kl.length ≤ i → i < kl'.length → ops[i]? = some o → Ob P ops Ss (kl'.take i) W0 o (K.at kl' i) (finN ops kl' a0 i)) ∧
      Stop P ops Ss W0 Q (full.drop kl'.length) kl' (finN ops kl' a0 kl'.length) := by
  have stop : ∀ (l : List Oper) (kl : List K) (A : Act), l = full.drop kl.length → A = finN ops kl a0 kl.length → Stop P ops Ss W0 Q l kl A →
      ∃ kl' : List K, (∃ more, kl' = kl ++ more) ∧ (∀ (i : Nat) (o : Oper), kl.length ≤ i → i < kl'.length → ops[i]? = some o → Ob P ops Ss (kl'.take i) W0 o (K.at kl' i) (finN ops kl' a0 i)) ∧
        Stop P ops Ss W0 Q (full.drop kl'.length) kl' (finN ops kl' a0 kl'.length) := by
    intro l kl A hl hA h
    refine ⟨kl, ⟨[], by simp⟩, fun i o hi hi2 _ => by omega, ?_⟩
    rw [← hl, ← hA]
    exact h
  intro l
  induction l with
  | nil => intro kl A hl hA h; exact stop [] kl A hl hA h
  | cons o rest ih =>
    intro kl A hl hA h
    rcases h with h | ⟨k, hk, hr⟩
    · exact stop _ kl A hl hA h
    have h0 : ops[kl.length]? = some o := by
      rw [hf]
      have : (full.drop kl.length)[0]? = some o := by rw [← hl]; rfl
      simpa using this
    have hrest : rest = full.drop (kl ++ [k]).length := by
      simp only [List.length_append, List.length_cons, List.length_nil, Nat.zero_add]
      rw [← List.drop_drop, ← hl]
      rfl
    have hA' : A.put o.dst k.val = finN ops (kl ++ [k]) a0 (kl ++ [k]).length := by
      simp only [List.length_append, List.length_cons, List.length_nil, Nat.zero_add]
      unfold finN
      rw [finN_append [k] kl.length (Nat.le_refl _), hA]
      have e1 : dstOf ops kl.length = o.dst := by simp [dstOf, h0]
      have e2 : K.at (kl ++ [k]) kl.length = k := by simp [K.at]
      rw [e1, e2]
    obtain ⟨kl', ⟨more, rfl⟩, h2, h3⟩ := ih (kl ++ [k]) _ hrest hA' hr
    refine ⟨kl ++ [k] ++ more, ⟨k :: more, by simp⟩, ?_, h3⟩
    intro i o' hi hi2 ho'
    by_cases hik : i = kl.length
    · subst hik
      obtain rfl : o' = o := Option.some.inj (ho'.symm.trans h0)
      have e1 : K.at (kl ++ [k] ++ more) kl.length = k := by simp [K.at]
      rw [e1, List.append_assoc, finN_append _ kl.length (Nat.le_refl _), ← hA, List.take_append_of_le_length (Nat.le_refl _), List.take_length]
      exact hk
    · exact h2 i o' (by simp; omega) hi2 ho'

/-- one walk serves every order -/
theorem wp_region_wr {id m : Nat} {Q : Exit → Act → World → Prop} {l : List Oper} (Ss : List Slot) (hm : P.follows .mixedOrders = true) (hB : ssaB l.toArray m = true) (hsz : a0.tmps.size = m) (hn : (Ss.map (·.B)).Nodup)
    (h0 : ∀ s, s < Ss.length → holdsAt W0 Ss s (slotC Ss s)) (h : WW P l.toArray Ss W0 Q l [] a0) : (Code.region id l.toArray true).wp P Q a0 W0 := by
  have hs := ssa_of hB
  obtain ⟨kl, -, h2, h1, hT, h3⟩ := ww_sound (ops := l.toArray) (a0 := a0) (full := l) rfl l [] a0 rfl rfl h
  refine wp_region_any hm ?_
  have hno : ∀ i, (Array.replicate l.toArray.size false).getD i false = false := by
    intro i
    rw [Array.getD_eq_getD_getElem?, Array.getElem?_replicate]
    split <;> rfl
  have H := any_wr (P := P) (kl := kl) (a0 := a0) (W0 := W0) (Ss := Ss) (Q := Q) rfl hs hsz hn h1 hT rfl (fun i o hi ho => h2 i o (by simp) hi ho) h3
    kl.length (Array.replicate l.toArray.size false) a0 { W0 with drawn := W0.drawn + 1 } ?_ (fun t _ => hno t) (unl_none _ fun i _ => hno i)
  · have hnle : kl.length ≤ l.toArray.size := by
      unfold tailB at hT
      simp only [Bool.and_eq_true, decide_eq_true_eq] at hT
      exact hT.1.1
    have : kl.length + (l.toArray.size - kl.length) = l.toArray.size := by omega
    rw [this] at H
    exact H
  · refine ⟨by simp, ?_, rfl, rfl, ?_, fun _ _ => rfl, (GX.refl _ W0).drew, ?_⟩
    · intro i o _ hl; rw [hno] at hl; cases hl
    · intro i d _ hl; rw [hno] at hl; cases hl
    · intro s hs'
      rw [contL_none (i := 0) l.toArray.size (by omega) fun j _ _ _ => hno j]
      exact h0 s hs'

/-- a world that differs from W0 at the blocks S alone, and meets F -/
def Xf (S : List Nat) (W0 : World) (F : World → Prop) : Type := { W : World // GX S W0 W ∧ F W }
def Xf.w {S : List Nat} {W0 : World} {F : World → Prop} (x : Xf S W0 F) : World := x.1

/-! ### Steps for the walk -/
variable {Q : Exit → Act → World → Prop} {o : Oper} {rest : List Oper} {a : Act}
theorem ww_quiet (rs : List Nat) (F : World → Prop) (hr : (rs.all fun s => decide (s < Ss.length)) = true) (hF : ∀ W, (∀ s ∈ rs, holdsAt W Ss s (cur Ss kl s)) → F W)
    (h : ∃ v : Value, (if Region.wanted o (yielded ops a.tmps) then ∀ x : Xf (Ss.map (·.B)) W0 F, Oper.quietUpon P (fun w'' => Ext x.w w'') x.w v ((execOp a.eval o).run P x.w) else v = undef) ∧ WW P ops Ss W0 Q rest (kl ++ [.quiet v rs]) (a.put o.dst v)) :
    WW P ops Ss W0 Q (o :: rest) kl a := by
  obtain ⟨v, h1, h2⟩ := h
  refine .inr ⟨.quiet v rs, ?_, h2⟩
  simp only [Ob]
  split
  · rename_i hw
    rw [if_pos hw] at h1
    rw [List.all_eq_true] at hr
    exact ⟨fun s hs => of_decide_eq_true (hr s hs), fun W hg hs => h1 ⟨W, hg, hF W hs⟩⟩
  · rename_i hw
    rw [if_neg hw] at h1
    exact h1
theorem ww_store (s B : Nat) (t : TypeId) (c0 c1 : Array Value) (hw : Region.wanted o (yielded ops a.tmps) = true) (hs : s < Ss.length) (hB : slotB Ss s = B) (ht : slotT Ss s = t) (hc : cur Ss kl s = c0)
    (h1 : ∀ x : Xf (Ss.map (·.B)) W0 (fun W => W.heap[B]? = some (.cells c0 t (0, 0))), ∃ W', (execOp a.eval o).run P x.w = .ok .skip W' ∧ Fill x.w B t c1 W')
    (h2 : WW P ops Ss W0 Q rest (kl ++ [.write undef s c1]) (a.put o.dst undef)) : WW P ops Ss W0 Q (o :: rest) kl a := by
  refine .inr ⟨.write undef s c1, ⟨hw, hs, fun W hg hh => ?_⟩, h2⟩
  unfold holdsAt at hh ⊢
  rw [hc, hB, ht] at hh
  rw [hB, ht]
  obtain ⟨W', hr, hf⟩ := h1 ⟨W, hg, hh⟩
  simp only [Xf.w] at hr hf
  rw [hr]
  exact ⟨rfl, hf.grown, hf.blk⟩
theorem ww_call (v : Value) (s B : Nat) (t : TypeId) (c0 c1 : Array Value) (hw : Region.wanted o (yielded ops a.tmps) = true) (hs : s < Ss.length) (hB : slotB Ss s = B) (ht : slotT Ss s = t) (hc : cur Ss kl s = c0)
    (h1 : ∀ x : Xf (Ss.map (·.B)) W0 (fun W => W.heap[B]? = some (.cells c0 t (0, 0))), ∃ f args, (execOp a.eval o).run P x.w = .ok (.enter f args) x.w ∧
      Calls P f args x.w fun e w'' => e = .returned v ∧ x.w.grownBy w'' (some B) ∧ w''.heap[B]? = some (.cells c1 t (0, 0)))
    (h2 : WW P ops Ss W0 Q rest (kl ++ [.write v s c1]) (a.put o.dst v)) : WW P ops Ss W0 Q (o :: rest) kl a := by
  refine .inr ⟨.write v s c1, ⟨hw, hs, fun W hg hh => ?_⟩, h2⟩
  unfold holdsAt at hh ⊢
  rw [hc, hB, ht] at hh
  rw [hB, ht]
  obtain ⟨f, args, hr, hf⟩ := h1 ⟨W, hg, hh⟩
  simp only [Xf.w] at hr hf
  rw [hr]
  exact hf
theorem ww_read (s B : Nat) (t : TypeId) (c : Array Value) (hs : s < Ss.length) (hB : slotB Ss s = B) (ht : slotT Ss s = t) (hc : cur Ss kl s = c)
    (h : (∀ (x : Xf (Ss.map (·.B)) W0 (fun W => W.heap[B]? = some (.cells c t (0, 0)))) (k : Nat), x.w.cell? ⟨B, k, none⟩ = c[k]?) →
      ∃ v : Value, (if Region.wanted o (yielded ops a.tmps) then ∀ x : Xf (Ss.map (·.B)) W0 (fun W => W.heap[B]? = some (.cells c t (0, 0))), Oper.quietUpon P (fun w'' => Ext x.w w'') x.w v ((execOp a.eval o).run P x.w) else v = undef) ∧ WW P ops Ss W0 Q rest (kl ++ [.quiet v [s]]) (a.put o.dst v)) :
    WW P ops Ss W0 Q (o :: rest) kl a := by
  subst hB
  subst ht
  subst hc
  refine ww_quiet [s] _ (by simpa using hs) (fun W hh => hh s (by simp)) (h fun x k => cell_of_row _ _ _ _ _ _ x.2.2)
theorem ww_plain
    (h : ∃ v : Value, (if Region.wanted o (yielded ops a.tmps) then ∀ x : Xf (Ss.map (·.B)) W0 (fun _ => True), Oper.quietUpon P (fun w'' => Ext x.w w'') x.w v ((execOp a.eval o).run P x.w) else v = undef) ∧ WW P ops Ss W0 Q rest (kl ++ [.quiet v []]) (a.put o.dst v)) :
    WW P ops Ss W0 Q (o :: rest) kl a := ww_quiet [] _ rfl (fun _ _ => trivial) h
theorem ww_stop (h1 : wrB ops kl = true) (h2 : tailB ops kl.length = true) {l : List Oper} (h3 : ∀ W, GX (Ss.map (·.B)) W0 W → (∀ s, s < Ss.length → W.heap[slotB Ss s]? = some (.cells (cur Ss kl s) (slotT Ss s) (0, 0))) → wpList P ops Q l a W) : WW P ops Ss W0 Q l kl a := by
  cases l with
  | nil => exact ⟨h1, h2, h3⟩
  | cons o rest => exact .inl ⟨h1, h2, h3⟩
theorem ww_done (h1 : wrB ops kl = true) (h2 : tailB ops kl.length = true) (h3 : ∀ W, GX (Ss.map (·.B)) W0 W → (∀ s, s < Ss.length → W.heap[slotB Ss s]? = some (.cells (cur Ss kl s) (slotT Ss s) (0, 0))) → Q .normal a W) : WW P ops Ss W0 Q [] kl a := ⟨h1, h2, h3⟩
end
end Wr

open Go.RowKit

/-- a block that was there and is not written -/
theorem Wr.ww_old {P : Program} {ops : Array Oper} {kl : List Wr.K} {W0 : World} {Ss : List Wr.Slot} {Q : Exit → Act → World → Prop} {l : List Oper} {a : Act} (B : Nat) (hl : B < W0.heap.size) (hn : B ∉ Ss.map (·.B))
    (h : (∀ (x : Wr.Xf (Ss.map (·.B)) W0 (fun _ => True)) (k : Nat), x.w.cell? ⟨B, k, none⟩ = W0.cell? ⟨B, k, none⟩) → Wr.WW P ops Ss W0 Q l kl a) : Wr.WW P ops Ss W0 Q l kl a :=
  h fun x k => x.2.1.cell B k hl hn
theorem GX.same {S : List Nat} {a b : World} {k : Nat} (h : GX (k :: S) a b) (hk : b.heap[k]? = a.heap[k]?) : GX S a b :=
  ⟨h.os, h.tape, h.output, h.size, fun i hi hn => by
    by_cases e : i = k
    · subst e; exact hk
    · exact h.block i hi (by simp; exact ⟨e, hn⟩)⟩
theorem own_gx {S : List Nat} {w w' : World} {base : Nat} {e : TypeId} {size : Nat} {v : Value} {n : Nat} {xs : List Value} (h : w.ownsRow base e size v n xs) (hg : GX S w w') (hS : ∀ k, k ∈ S → k < base) : w'.ownsRow base e size v n xs := by
  refine ⟨h.1, ?_⟩
  rcases h.2 with hn | ⟨g, cap, cur, hv, hb, hh, r⟩
  · exact .inl hn
  · exact .inr ⟨g, cap, cur, hv, hb, (hg.heap (Array.getElem?_eq_some_iff.1 hh).1 (fun hm => by have := hS g hm; omega)).trans hh, r⟩


open Go.RowKit
set_option linter.unusedVariables false
set_option linter.unusedSimpArgs false
namespace Wr

/-- the kinds, the maker's among them -/
def kx (kl : List K) (e : Nat) (v : Value) : List K := kl ++ List.replicate (e - kl.length) (.quiet undef []) ++ [.quiet v []]
theorem kx_lt {kl : List K} {e i : Nat} {v : Value} (h : i < kl.length) : K.at (kx kl e v) i = K.at kl i := by
  unfold K.at kx
  simp only [List.getD_eq_getElem?_getD, List.append_assoc]
  rw [List.getElem?_append_left h]
theorem kx_e {kl : List K} {e : Nat} {v : Value} (h : kl.length ≤ e) : K.at (kx kl e v) e = .quiet v [] := by
  unfold K.at kx
  simp only [List.getD_eq_getElem?_getD]
  rw [List.getElem?_append_right (by simp; omega)]
  have : e - (kl ++ List.replicate (e - kl.length) (K.quiet undef [])).length = 0 := by simp; omega
  rw [this]
  rfl
theorem kx_far {kl : List K} {e j : Nat} {v : Value} (hle : kl.length ≤ e) (h : kl.length ≤ j) (hne : j ≠ e) : K.at (kx kl e v) j = .quiet undef [] := by
  unfold K.at kx
  simp only [List.getD_eq_getElem?_getD, List.append_assoc]
  rw [List.getElem?_append_right h]
  by_cases h1 : j < e
  · rw [List.getElem?_append_left (by simp; omega)]
    rw [List.getElem?_replicate]
    split <;> rfl
  · rw [List.getElem?_eq_none (by simp; omega)]
    rfl

theorem act_ext {a b : Act} (h1 : a.tmps = b.tmps) (h2 : a.defers = b.defers) : a = b := by
  cases a
  cases b
  simp only at h1 h2
  rw [h1, h2]

section
variable {P : Program} {ops : Array Oper} {kl : List K} {a0 : Act} {W0 : World} {Ss : List Slot}

theorem contL_same {kl' : List K} {L : Nat → Bool} {s : Nat} (h : ∀ j b acc, upd b (K.at kl j) s acc = upd b (K.at kl' j) s acc) : ∀ n, contL Ss kl L s n = contL Ss kl' L s n
  | 0 => rfl
  | n + 1 => by unfold contL; rw [contL_same h n, h]
theorem Inv.other {e : Nat} {v v' : Value} {L : Array Bool} {a : Act} {W : World} (h : Inv ops (kx kl e v) a0 Ss W0 L a W) (hle : kl.length ≤ e) (hun : L.getD e false = false) : Inv ops (kx kl e v') a0 Ss W0 L a W := by
  have hk : ∀ j, j ≠ e → K.at (kx kl e v) j = K.at (kx kl e v') j := by
    intro j hj
    rcases Nat.lt_or_ge j kl.length with h2 | h2
    · rw [kx_lt h2, kx_lt h2]
    · rw [kx_far hle h2 hj, kx_far hle h2 hj]
  refine ⟨h.lsize, h.closed, h.defers, h.size, fun i d hi hl hd => ?_, h.off, h.gx, fun s hs' => ?_⟩
  · have hie : i ≠ e := by intro e2; rw [e2, hun] at hl; cases hl
    rw [← hk i hie]
    exact h.on i d hi hl hd
  · rw [← contL_same (kl := kx kl e v) (fun j b acc => ?_)]
    · exact h.cont s hs'
    · by_cases e2 : j = e
      · subst e2
        rw [kx_e hle, kx_e hle]
        rfl
      · rw [hk j e2]

theorem any_wra {m e : Nat} {mk : Nat → Value} {te : TypeId} {obj : Array Value} {Q : Exit → Act → World → Prop} {l : List Oper} (hops : ops = l.toArray) (hs : Ssa ops m) (hm : a0.tmps.size = m) (hn : (Ss.map (·.B)).Nodup) (hw : ∀ v, wrB ops (kx kl e v) = true) (ht : tailB ops (e + 1) = true) (hkl : kl.length = e)
    (hob : ∀ (i : Nat) (o : Oper), i < e → ops[i]? = some o → Ob P ops Ss (kl.take i) W0 o (K.at kl i) (finN ops kl a0 i))
    (hmaker : ∃ oe, ops[e]? = some oe ∧ Region.wanted oe (yielded ops (finN ops kl a0 e).tmps) = true ∧ ∀ W, GX (Ss.map (·.B)) W0 W → (execOp (finN ops kl a0 e).eval oe).run P W = .ok (.value (mk W.heap.size)) (W.alloc (.cells obj te)))
    (hfin : ∀ W B, GX (Ss.map (·.B)) W0 W → (∀ s, s < Ss.length → holdsAt W Ss s (cur Ss kl s)) → W0.heap.size ≤ B → W.heap[B]? = some (.cells obj te (0, 0)) → wpList P ops Q (l.drop (e + 1)) ((finN ops kl a0 e).put (dstOf ops e) (mk B)) W) :
    ∀ (fuel : Nat) (L : Array Bool) (a : Act) (W : World) (ve : Value), Inv ops (kx kl e ve) a0 Ss W0 L a W →
      (L.getD e false = true → ∃ B, W0.heap.size ≤ B ∧ (∀ s, s < Ss.length → slotB Ss s ≠ B) ∧ ve = mk B ∧ W.heap[B]? = some (.cells obj te (0, 0))) →
      (∀ t, e + 1 ≤ t → L.getD t false = false) → unl L (e + 1) = fuel → wpAny P .any ops Q (fuel + (ops.size - (e + 1))) L a W := by
  unfold tailB at ht
  simp only [Bool.and_eq_true, decide_eq_true_eq] at ht
  obtain ⟨⟨hnle, ht1⟩, ht2⟩ := ht
  have hopl : ops.size = l.length := by rw [hops]; simp
  have hfarW : ∀ ve j s, e ≤ j → (K.at (kx kl e ve) j).writes s = false := by
    intro ve j s hj
    by_cases e2 : j = e
    · subst e2; rw [kx_e (by omega)]; rfl
    · rw [kx_far (by omega) (by omega) e2]; rfl
  have hfinN : ∀ ve i, i ≤ e → finN ops (kx kl e ve) a0 i = finN ops kl a0 i := by
    intro ve i hi
    unfold kx
    rw [List.append_assoc]
    exact finN_append _ i (by omega)
  have hcur : ∀ ve i s, i ≤ e → contL Ss (kx kl e ve) (fun _ => true) s i = cur Ss (kl.take i) s := by
    intro ve i s hi
    unfold cur
    have h1 : (kl.take i).length = i := by simp; omega
    rw [h1]
    have := contL_append (Ss := Ss) (kl := kl.take i) s (kl.drop i ++ (List.replicate (e - kl.length) (.quiet undef []) ++ [.quiet ve []])) i (by omega)
    rw [← List.append_assoc, List.take_append_drop, ← List.append_assoc] at this
    exact this
  intro fuel
  induction fuel with
  | zero =>
    intro L a W ve h hB hoff hu
    have hall := unl_zero (e + 1) hu
    obtain ⟨B, b1, b2, rfl, b4⟩ := hB (hall e (by omega))
    have hLe : L = ((List.range ops.size).map fun i => decide (i < e + 1)).toArray := by
      apply Array.ext
      · simp [h.lsize]
      · intro i h1 h2
        have h3 : L.getD i false = L[i] := by simp [h1]
        have h4 : L.getD i false = decide (i < e + 1) := by
          by_cases e1 : i < e + 1
          · rw [hall i e1]; simp [e1]
          · rw [hoff i (by omega)]; simp [e1]
        rw [← h3, h4]
        simp
    have hdl : ops.size - (e + 1) = (l.drop (e + 1)).length := by rw [hopl]; simp
    rw [Nat.zero_add, hdl]
    refine wpAny_of_seq (l.drop (e + 1)) (e + 1) L a W (fun j => by rw [hops]; simp [List.getElem?_drop]) (by rw [← hdl, hLe]; exact ht2) ?_
    have hae : a = (finN ops kl a0 e).put (dstOf ops e) (mk B) := by
      obtain ⟨f1, f2, f3, f4⟩ := finN_get (kl := kl) hs hm e (by omega)
      have hlt : ∀ j, L.getD j false = true → j < e ∨ j = e := fun j hl => by
        rcases Nat.lt_or_ge j (e + 1) with h2 | h2
        · omega
        · rw [hoff j h2] at hl; cases hl
      have hLe1 := hall e (by omega)
      have htm : a.tmps = ((finN ops kl a0 e).put (dstOf ops e) (mk B)).tmps := by
        apply Array.ext_getElem?
        intro t
        by_cases hte : dstOf ops e = some t
        · rw [h.on e t (by omega) hLe1 hte, kx_e (by omega), hte]
          have hb := hs.bd e t (by omega) hte
          simp [Act.put, f2, hm, hb, K.val]
        · have hput : ((finN ops kl a0 e).put (dstOf ops e) (mk B)).tmps[t]? = (finN ops kl a0 e).tmps[t]? := by
            cases hd : dstOf ops e with
            | none => rfl
            | some d0 =>
              have hne2 : d0 ≠ t := fun e2 => hte (by rw [hd, e2])
              simp only [Act.put]
              rw [Array.getElem?_setIfInBounds_ne hne2]
          rw [hput]
          by_cases hex : ∃ j, j < e ∧ dstOf ops j = some t
          · obtain ⟨j, hj, hd⟩ := hex
            rw [h.on j t (by omega) (hall j (by omega)) hd, f3 j t hj hd, kx_lt (by omega)]
          · rw [h.off t fun j hj hl hd => (hlt j hl).elim (fun h2 => hex ⟨j, h2, hd⟩) (fun h2 => hte (by rw [← h2]; exact hd)), f4 t fun j hj hd => hex ⟨j, hj, hd⟩]
      have hd : a.defers = ((finN ops kl a0 e).put (dstOf ops e) (mk B)).defers := by
        have : ((finN ops kl a0 e).put (dstOf ops e) (mk B)).defers = (finN ops kl a0 e).defers := by cases dstOf ops e <;> rfl
        rw [this]
        exact h.defers.trans f1.symm
      exact act_ext htm hd
    rw [hae]
    refine hfin W B h.gx (fun s hs' => ?_) b1 b4
    have h1 := h.cont s hs'
    rw [contL_none (i := e) ops.size (by omega) fun j hj _ hw => by rw [hfarW _ j s hj] at hw; cases hw] at h1
    rw [contL_all e fun j hj _ => hall j (by omega), hcur _ e s (Nat.le_refl _)] at h1
    rw [List.take_of_length_le (by omega)] at h1
    exact h1
  | succ fuel ih =>
    intro L a W ve h hB hoff hu
    rw [show fuel + 1 + (ops.size - (e + 1)) = (fuel + (ops.size - (e + 1))) + 1 by omega]
    have hsome : ∃ i, i < e + 1 ∧ L.getD i false = false := by
      apply Classical.byContradiction
      intro hno
      have hall : ∀ i, i < e + 1 → L.getD i false = true := by
        intro i hi
        cases hg : L.getD i false with
        | true => rfl
        | false => exact absurd ⟨i, hi, hg⟩ hno
      have : ∀ k, k ≤ e + 1 → unl L k = 0 := by
        intro k
        induction k with
        | zero => intro _; rfl
        | succ k ihk =>
          intro hk
          unfold unl
          rw [ihk (by omega), hall k (by omega)]
          simp
      rw [this (e + 1) (Nat.le_refl _)] at hu
      omega
    refine ⟨fun hr => ?_, fun i hi => ?_⟩
    · exfalso
      obtain ⟨i, hin, hiun⟩ := hsome
      have := all_listed hs h.lsize hr i (by omega)
      rw [hiun] at this
      cases this
    obtain ⟨hun0, o, ho, hall⟩ := mem_ready.1 hi
    have hilt : i < ops.size := (Array.getElem?_eq_some_iff.1 ho).1
    have hil : i < L.size := by rw [h.lsize]; exact hilt
    have hun : L.getD i false = false := by simp [hil] at hun0 ⊢; exact hun0
    have hin : i < e + 1 := by
      rcases Nat.lt_or_ge i (e + 1) with h2 | h2
      · exact h2
      · exfalso
        obtain ⟨j, hjn, hjun⟩ := hsome
        rw [List.all_eq_true] at ht1
        have h3 := ht1 i (List.mem_range.2 hilt)
        simp only [Bool.or_eq_true, decide_eq_true_eq] at h3
        rcases h3 with h3 | h3
        · omega
        · rw [List.all_eq_true] at h3
          have := wt_ready h.closed ho hall _ _ (h3 j (List.mem_range.2 hjn))
          rw [hjun] at this
          cases this
    have hu' : unl (L.setIfInBounds i true) (e + 1) = fuel := by
      have := unl_set hil hun (e + 1) hin
      omega
    have hoff' : ∀ t, e + 1 ≤ t → (L.setIfInBounds i true).getD t false = false := by
      intro t ht
      rw [getD_set hil, if_neg (by omega)]
      exact hoff t ht
    obtain ⟨hx, hwt⟩ := h.sees hs hm hi ho
    by_cases hie : i = e
    · subst hie
      rw [hfinN ve i (Nat.le_refl _)] at hx hwt
      obtain ⟨oe, hoe, hwe, hmk⟩ := hmaker
      obtain rfl : oe = o := Option.some.inj (hoe.symm.trans ho)
      have h' : Inv ops (kx kl i (mk W.heap.size)) a0 Ss W0 L a W := h.other (by omega) hun
      have hlt : ∀ s, s < Ss.length → slotB Ss s < W.heap.size := fun s hs' => by
        have := h.cont s hs'
        unfold holdsAt at this
        exact (Array.getElem?_eq_some_iff.1 this).1
      unfold wpOp
      simp only [ho]
      rw [← hwt] at hwe
      rw [if_pos hwe]
      refine .inl ?_
      unfold Oper.wp
      rw [hx, hmk W h.gx]
      simp only [Oper.upon]
      refine ih _ _ _ _ (h'.quiet hs hm hi ho (kx_e (by omega)) ((Ext.refl W).alloc (.cells obj te))) (fun _ => ⟨W.heap.size, h.gx.size, fun s hs' => by have := hlt s hs'; omega, rfl, heap_alloc_new _ _⟩) hoff' hu'
    rw [hfinN ve i (by omega)] at hx hwt
    have hin' : i < e := by omega
    have hbx : ∀ (W' : World), Ext W W' → ((L.setIfInBounds i true).getD e false = true → ∃ B, W0.heap.size ≤ B ∧ (∀ s, s < Ss.length → slotB Ss s ≠ B) ∧ ve = mk B ∧ W'.heap[B]? = some (.cells obj te (0, 0))) := fun W' hxx hl => by
      rw [getD_set hil, if_neg (fun e2 => hie e2.symm)] at hl
      obtain ⟨B, k1, k2, k3, k4⟩ := hB hl
      exact ⟨B, k1, k2, k3, (hxx.heap (Array.getElem?_eq_some_iff.1 k4).1).trans k4⟩
    have hbg : ∀ (W' : World) (s : Nat), s < Ss.length → W.grownBy W' (some (slotB Ss s)) → ((L.setIfInBounds i true).getD e false = true → ∃ B, W0.heap.size ≤ B ∧ (∀ s, s < Ss.length → slotB Ss s ≠ B) ∧ ve = mk B ∧ W'.heap[B]? = some (.cells obj te (0, 0))) := fun W' s hs' hgg hl => by
      rw [getD_set hil, if_neg (fun e2 => hie e2.symm)] at hl
      obtain ⟨B, k1, k2, k3, k4⟩ := hB hl
      exact ⟨B, k1, k2, k3, (hgg.block B (Array.getElem?_eq_some_iff.1 k4).1 (fun e2 => k2 s hs' (by injection e2 with e3; exact e3.symm))).trans k4⟩
    have hobi := hob i o hin' ho
    have hw' := hw ve
    unfold wrB at hw'
    rw [List.all_eq_true] at hw'
    have hwi := hw' i (List.mem_range.2 hilt)
    rw [kx_lt (show i < kl.length by omega)] at hwi
    unfold wpOp
    simp only [ho]
    cases hk : K.at kl i with
    | quiet u0 rs =>
      have hk' : K.at (kx kl e ve) i = .quiet u0 rs := (kx_lt (by omega)).trans hk
      rw [hk] at hobi hwi
      simp only [Ob] at hobi
      rw [← hx, ← hwt] at hobi
      split
      · rename_i hwt'
        rw [if_pos hwt'] at hobi
        refine .inl ?_
        have h3 := hobi.2 W h.gx fun s hs' => by
          rw [List.all_eq_true] at hwi
          obtain ⟨k1, k2⟩ := h.slot hs hi ho (hwi s hs')
          have h4 := h.cont s (hobi.1 s hs')
          rw [contL_none (i := i) ops.size (by omega) fun j hj hj2 hw => k2 j hj hj2 hw, contL_all i fun j hj hw => k1 j hj hw, hcur ve i s (by omega)] at h4
          exact h4
        unfold Oper.wp
        generalize (execOp a.eval o).run P W = r at *
        cases r with
        | ok nx w' =>
          cases nx <;> simp only [Oper.quietUpon] at h3 <;> simp only [Oper.upon]
          case value u =>
            obtain ⟨rfl, rfl⟩ := h3
            exact ih _ _ _ _ (h.quiet hs hm hi ho hk' (Ext.refl _)) (hbx _ (Ext.refl _)) hoff' hu'
          case skip =>
            obtain ⟨rfl, rfl⟩ := h3
            exact ih _ _ _ _ (h.quiet hs hm hi ho hk' (Ext.refl _)) (hbx _ (Ext.refl _)) hoff' hu'
          case enter f args =>
            obtain ⟨rfl, hc⟩ := h3
            exact hc.mono fun e w'' ⟨he, hx''⟩ => by
              subst he
              exact ih _ _ _ _ (h.quiet hs hm hi ho hk' hx'') (hbx _ hx'') hoff' hu'
        | halt x w' => simp only [Oper.quietUpon] at h3
      · rename_i hwt'
        rw [if_neg hwt'] at hobi
        subst hobi
        exact ih _ _ _ _ (h.quiet hs hm hi ho hk' (Ext.refl _)) (hbx _ (Ext.refl _)) hoff' hu'
    | write u0 s c1 =>
      have hk' : K.at (kx kl e ve) i = .write u0 s c1 := (kx_lt (by omega)).trans hk
      rw [hk] at hobi hwi
      simp only [Ob] at hobi
      simp only at hwi
      rw [← hx, ← hwt] at hobi
      obtain ⟨hwt', hlt, hrun⟩ := hobi
      rw [if_pos hwt']
      refine .inl ?_
      obtain ⟨k1, k2⟩ := h.slot hs hi ho hwi
      have h4 := h.cont s hlt
      rw [contL_none (i := i) ops.size (by omega) fun j hj hj2 hw => k2 j hj hj2 hw, contL_all i fun j hj hw => k1 j hj hw, hcur ve i s (by omega)] at h4
      have h3 := hrun W h.gx h4
      unfold Oper.wp
      generalize (execOp a.eval o).run P W = r at *
      cases r with
      | ok nx w' =>
        cases nx <;> simp only [writeUpon] at h3 <;> simp only [Oper.upon]
        case value u =>
          obtain ⟨rfl, hg, hc⟩ := h3
          exact ih _ _ _ _ (h.write hs hm hn hi ho hk' hlt hwi hg hc) (hbg _ _ hlt hg) hoff' hu'
        case skip =>
          obtain ⟨rfl, hg, hc⟩ := h3
          exact ih _ _ _ _ (h.write hs hm hn hi ho hk' hlt hwi hg hc) (hbg _ _ hlt hg) hoff' hu'
        case enter f args =>
          exact h3.mono fun e w'' ⟨he, hg, hc⟩ => by
            subst he
            exact ih _ _ _ _ (h.write hs hm hn hi ho hk' hlt hwi hg hc) (hbg _ _ hlt hg) hoff' hu'
      | halt x w' => simp only [writeUpon] at h3

def StopA (P : Program) (ops : Array Oper) (Ss : List Slot) (W0 : World) (Q : Exit → Act → World → Prop) (mk : Nat → Value) (te : TypeId) (obj : Array Value) (o : Oper) (rest : List Oper) (kl : List K) (a : Act) : Prop :=
  (∀ v, wrB ops (kx kl kl.length v) = true) ∧ tailB ops (kl.length + 1) = true ∧ Region.wanted o (yielded ops a.tmps) = true ∧ (∀ W, GX (Ss.map (·.B)) W0 W → (execOp a.eval o).run P W = .ok (.value (mk W.heap.size)) (W.alloc (.cells obj te))) ∧
    ∀ W B, GX (Ss.map (·.B)) W0 W → (∀ s, s < Ss.length → holdsAt W Ss s (cur Ss kl s)) → W0.heap.size ≤ B → W.heap[B]? = some (.cells obj te (0, 0)) → wpList P ops Q rest (a.put o.dst (mk B)) W
def WWA (P : Program) (ops : Array Oper) (Ss : List Slot) (W0 : World) (Q : Exit → Act → World → Prop) (mk : Nat → Value) (te : TypeId) (obj : Array Value) : List Oper → List K → Act → Prop
  | [], _, _ => False
  | o :: rest, kl, a => StopA P ops Ss W0 Q mk te obj o rest kl a ∨ ∃ k : K, Ob P ops Ss kl W0 o k a ∧ WWA P ops Ss W0 Q mk te obj rest (kl ++ [k]) (a.put o.dst k.val)

theorem wa_sound {Q : Exit → Act → World → Prop} {mk : Nat → Value} {te : TypeId} {obj : Array Value} {full : List Oper} (hf : ops = full.toArray) : ∀ (l : List Oper) (kl : List K) (A : Act), l = full.drop kl.length → A = finN ops kl a0 kl.length → WWA P ops Ss W0 Q mk te obj l kl A →
    ∃ kl' : List K, (∃ more, kl' = kl ++ more) ∧ (∀ (i : Nat) (o : Oper), kl.length ≤ i → i < kl'.length → ops[i]? = some o → Ob P ops Ss (kl'.take i) W0 o (K.at kl' i) (finN ops kl' a0 i)) ∧
      ∃ o, ops[kl'.length]? = some o ∧ StopA P ops Ss W0 Q mk te obj o (full.drop (kl'.length + 1)) kl' (finN ops kl' a0 kl'.length) := by
  intro l
  induction l with
  | nil => intro kl A hl hA h; exact h.elim
  | cons o rest ih =>
    intro kl A hl hA h
    have h0 : ops[kl.length]? = some o := by
      rw [hf]
      have : (full.drop kl.length)[0]? = some o := by rw [← hl]; rfl
      simpa using this
    have hrest0 : rest = full.drop (kl.length + 1) := by
      rw [← List.drop_drop, ← hl]
      rfl
    rcases h with h | ⟨k, hk, hr⟩
    · refine ⟨kl, ⟨[], by simp⟩, fun i o hi hi2 _ => by omega, o, h0, ?_⟩
      rw [← hA, ← hrest0]
      exact h
    have hrest : rest = full.drop (kl ++ [k]).length := by
      simp only [List.length_append, List.length_cons, List.length_nil, Nat.zero_add]
      exact hrest0
    have hA' : A.put o.dst k.val = finN ops (kl ++ [k]) a0 (kl ++ [k]).length := by
      simp only [List.length_append, List.length_cons, List.length_nil, Nat.zero_add]
      unfold finN
      rw [finN_append [k] kl.length (Nat.le_refl _), hA]
      have e1 : dstOf ops kl.length = o.dst := by simp [dstOf, h0]
      have e2 : K.at (kl ++ [k]) kl.length = k := by simp [K.at]
      rw [e1, e2]
    obtain ⟨kl', ⟨more, rfl⟩, h2, h3⟩ := ih (kl ++ [k]) _ hrest hA' hr
    refine ⟨kl ++ [k] ++ more, ⟨k :: more, by simp⟩, ?_, h3⟩
    intro i o' hi hi2 ho'
    by_cases hik : i = kl.length
    · subst hik
      obtain rfl : o' = o := Option.some.inj (ho'.symm.trans h0)
      have e1 : K.at (kl ++ [k] ++ more) kl.length = k := by simp [K.at]
      rw [e1, List.append_assoc, finN_append _ kl.length (Nat.le_refl _), ← hA, List.take_append_of_le_length (Nat.le_refl _), List.take_length]
      exact hk
    · exact h2 i o' (by simp; omega) hi2 ho'

/-- one walk serves every order -/
theorem wp_region_wra {id m : Nat} {Q : Exit → Act → World → Prop} {l : List Oper} (mk : Nat → Value) (te : TypeId) (obj : Array Value) (Ss : List Slot) (hm : P.follows .mixedOrders = true) (hB : ssaB l.toArray m = true) (hsz : a0.tmps.size = m) (hn : (Ss.map (·.B)).Nodup)
    (h0 : ∀ s, s < Ss.length → holdsAt W0 Ss s (slotC Ss s)) (h : WWA P l.toArray Ss W0 Q mk te obj l [] a0) : (Code.region id l.toArray true).wp P Q a0 W0 := by
  have hs := ssa_of hB
  obtain ⟨kl, -, h2, o, ho, h1, hT, hwt, hmk, h4⟩ := wa_sound (ops := l.toArray) (a0 := a0) (full := l) rfl l [] a0 rfl rfl h
  refine wp_region_any hm ?_
  have hno : ∀ i, (Array.replicate l.toArray.size false).getD i false = false := by
    intro i
    rw [Array.getD_eq_getD_getElem?, Array.getElem?_replicate]
    split <;> rfl
  have hdst : dstOf l.toArray kl.length = o.dst := by simp only [dstOf, ho]; rfl
  have H := any_wra (P := P) (kl := kl) (a0 := a0) (W0 := W0) (Ss := Ss) (Q := Q) (mk := mk) (te := te) (obj := obj) rfl hs hsz hn h1 hT rfl (fun i o hi ho => h2 i o (by simp) hi ho) ⟨o, ho, hwt, hmk⟩ (fun W B => by rw [hdst]; exact h4 W B)
    (kl.length + 1) (Array.replicate l.toArray.size false) a0 { W0 with drawn := W0.drawn + 1 } undef ?_ (fun hl => by rw [hno] at hl; cases hl) (fun t _ => hno t) (unl_none _ fun i _ => hno i)
  · have hnle : kl.length + 1 ≤ l.toArray.size := by
      unfold tailB at hT
      simp only [Bool.and_eq_true, decide_eq_true_eq] at hT
      exact hT.1.1
    have : kl.length + 1 + (l.toArray.size - (kl.length + 1)) = l.toArray.size := by omega
    rw [this] at H
    exact H
  · refine ⟨by simp, ?_, rfl, rfl, ?_, fun _ _ => rfl, (GX.refl _ W0).drew, ?_⟩
    · intro i o _ hl; rw [hno] at hl; cases hl
    · intro i d _ hl; rw [hno] at hl; cases hl
    · intro s hs'
      rw [contL_none (i := 0) l.toArray.size (by omega) fun j _ _ _ => hno j]
      exact h0 s hs'

/-! ### Steps for the walk -/
variable {Q : Exit → Act → World → Prop} {o : Oper} {rest : List Oper} {a : Act} {mk : Nat → Value} {te : TypeId} {obj : Array Value}
theorem wa_quiet (rs : List Nat) (F : World → Prop) (hr : (rs.all fun s => decide (s < Ss.length)) = true) (hF : ∀ W, (∀ s ∈ rs, holdsAt W Ss s (cur Ss kl s)) → F W)
    (h : ∃ v : Value, (if Region.wanted o (yielded ops a.tmps) then ∀ x : Xf (Ss.map (·.B)) W0 F, Oper.quietUpon P (fun w'' => Ext x.w w'') x.w v ((execOp a.eval o).run P x.w) else v = undef) ∧ WWA P ops Ss W0 Q mk te obj rest (kl ++ [.quiet v rs]) (a.put o.dst v)) :
    WWA P ops Ss W0 Q mk te obj (o :: rest) kl a := by
  obtain ⟨v, h1, h2⟩ := h
  refine .inr ⟨.quiet v rs, ?_, h2⟩
  simp only [Ob]
  split
  · rename_i hw
    rw [if_pos hw] at h1
    rw [List.all_eq_true] at hr
    exact ⟨fun s hs => of_decide_eq_true (hr s hs), fun W hg hs => h1 ⟨W, hg, hF W hs⟩⟩
  · rename_i hw
    rw [if_neg hw] at h1
    exact h1
theorem wa_store (s B : Nat) (t : TypeId) (c0 c1 : Array Value) (hw : Region.wanted o (yielded ops a.tmps) = true) (hs : s < Ss.length) (hB : slotB Ss s = B) (ht : slotT Ss s = t) (hc : cur Ss kl s = c0)
    (h1 : ∀ x : Xf (Ss.map (·.B)) W0 (fun W => W.heap[B]? = some (.cells c0 t (0, 0))), ∃ W', (execOp a.eval o).run P x.w = .ok .skip W' ∧ Fill x.w B t c1 W')
    (h2 : WWA P ops Ss W0 Q mk te obj rest (kl ++ [.write undef s c1]) (a.put o.dst undef)) : WWA P ops Ss W0 Q mk te obj (o :: rest) kl a := by
  refine .inr ⟨.write undef s c1, ⟨hw, hs, fun W hg hh => ?_⟩, h2⟩
  unfold holdsAt at hh ⊢
  rw [hc, hB, ht] at hh
  rw [hB, ht]
  obtain ⟨W', hr, hf⟩ := h1 ⟨W, hg, hh⟩
  simp only [Xf.w] at hr hf
  rw [hr]
  exact ⟨rfl, hf.grown, hf.blk⟩
theorem wa_call (v : Value) (s B : Nat) (t : TypeId) (c0 c1 : Array Value) (hw : Region.wanted o (yielded ops a.tmps) = true) (hs : s < Ss.length) (hB : slotB Ss s = B) (ht : slotT Ss s = t) (hc : cur Ss kl s = c0)
    (h1 : ∀ x : Xf (Ss.map (·.B)) W0 (fun W => W.heap[B]? = some (.cells c0 t (0, 0))), ∃ f args, (execOp a.eval o).run P x.w = .ok (.enter f args) x.w ∧
      Calls P f args x.w fun e w'' => e = .returned v ∧ x.w.grownBy w'' (some B) ∧ w''.heap[B]? = some (.cells c1 t (0, 0)))
    (h2 : WWA P ops Ss W0 Q mk te obj rest (kl ++ [.write v s c1]) (a.put o.dst v)) : WWA P ops Ss W0 Q mk te obj (o :: rest) kl a := by
  refine .inr ⟨.write v s c1, ⟨hw, hs, fun W hg hh => ?_⟩, h2⟩
  unfold holdsAt at hh ⊢
  rw [hc, hB, ht] at hh
  rw [hB, ht]
  obtain ⟨f, args, hr, hf⟩ := h1 ⟨W, hg, hh⟩
  simp only [Xf.w] at hr hf
  rw [hr]
  exact hf
theorem wa_read (s B : Nat) (t : TypeId) (c : Array Value) (hs : s < Ss.length) (hB : slotB Ss s = B) (ht : slotT Ss s = t) (hc : cur Ss kl s = c)
    (h : (∀ (x : Xf (Ss.map (·.B)) W0 (fun W => W.heap[B]? = some (.cells c t (0, 0)))) (k : Nat), x.w.cell? ⟨B, k, none⟩ = c[k]?) →
      ∃ v : Value, (if Region.wanted o (yielded ops a.tmps) then ∀ x : Xf (Ss.map (·.B)) W0 (fun W => W.heap[B]? = some (.cells c t (0, 0))), Oper.quietUpon P (fun w'' => Ext x.w w'') x.w v ((execOp a.eval o).run P x.w) else v = undef) ∧ WWA P ops Ss W0 Q mk te obj rest (kl ++ [.quiet v [s]]) (a.put o.dst v)) :
    WWA P ops Ss W0 Q mk te obj (o :: rest) kl a := by
  subst hB
  subst ht
  subst hc
  refine wa_quiet [s] _ (by simpa using hs) (fun W hh => hh s (by simp)) (h fun x k => cell_of_row _ _ _ _ _ _ x.2.2)
theorem wa_plain
    (h : ∃ v : Value, (if Region.wanted o (yielded ops a.tmps) then ∀ x : Xf (Ss.map (·.B)) W0 (fun _ => True), Oper.quietUpon P (fun w'' => Ext x.w w'') x.w v ((execOp a.eval o).run P x.w) else v = undef) ∧ WWA P ops Ss W0 Q mk te obj rest (kl ++ [.quiet v []]) (a.put o.dst v)) :
    WWA P ops Ss W0 Q mk te obj (o :: rest) kl a := wa_quiet [] _ rfl (fun _ _ => trivial) h
theorem wa_old {l : List Oper} (B : Nat) (hl : B < W0.heap.size) (hn : B ∉ Ss.map (·.B))
    (h : (∀ (x : Xf (Ss.map (·.B)) W0 (fun _ => True)) (k : Nat), x.w.cell? ⟨B, k, none⟩ = W0.cell? ⟨B, k, none⟩) → WWA P ops Ss W0 Q mk te obj l kl a) : WWA P ops Ss W0 Q mk te obj l kl a :=
  h fun x k => x.2.1.cell B k hl hn
theorem wa_stop (h1 : ∀ v, wrB ops (kx kl kl.length v) = true) (h2 : tailB ops (kl.length + 1) = true) (hw : Region.wanted o (yielded ops a.tmps) = true)
    (hm : ∀ W, GX (Ss.map (·.B)) W0 W → (execOp a.eval o).run P W = .ok (.value (mk W.heap.size)) (W.alloc (.cells obj te)))
    (h3 : ∀ W B, GX (Ss.map (·.B)) W0 W → (∀ s, s < Ss.length → W.heap[slotB Ss s]? = some (.cells (cur Ss kl s) (slotT Ss s) (0, 0))) → W0.heap.size ≤ B → W.heap[B]? = some (.cells obj te (0, 0)) → wpList P ops Q rest (a.put o.dst (mk B)) W) :
    WWA P ops Ss W0 Q mk te obj (o :: rest) kl a := .inl ⟨h1, h2, hw, hm, h3⟩
end
end Wr
end Go.Proofs.Ytbddgeoaaklgpaa
