/- A region that draws its order, whose operations read, call functions that make at most new memory, and write (by a store or a call) known blocks that were there, in a forced order; what is forced behind may be walked as it stands: one walk serves every order. -/
import Derived.Test.YtamiploliebplaaDoorMade
import Derived.StillTail
namespace Go.Proofs.YtamiploliebplaaDoor
open Go.RowKit
set_option linter.unusedVariables false

/-- All but the blocks of S is as it was. -/
structure GX (S : List Nat) (w w' : World) : Prop where
  os : w'.os = w.os
  tape : w'.tape = w.tape
  output : w'.output = w.output
  size : w.heap.size ≤ w'.heap.size
  block : ∀ k, k < w.heap.size → k ∉ S → w'.heap[k]? = w.heap[k]?
theorem GX.refl (S : List Nat) (w : World) : GX S w w := ⟨rfl, rfl, rfl, Nat.le_refl _, fun _ _ _ => rfl⟩
theorem GX.trans {S : List Nat} {a b c : World} (h : GX S a b) (k : GX S b c) : GX S a c :=
  ⟨k.os.trans h.os, k.tape.trans h.tape, k.output.trans h.output, Nat.le_trans h.size k.size, fun i hi hn => (k.block i (Nat.lt_of_lt_of_le hi h.size) hn).trans (h.block i hi hn)⟩
theorem GX.ofExt {S : List Nat} {a b : World} (h : Ext a b) : GX S a b := ⟨h.os, h.tape, h.output, h.size, fun k hk _ => h.heap hk⟩
theorem GX.ext {S : List Nat} {a b c : World} (h : GX S a b) (k : Ext b c) : GX S a c := h.trans (.ofExt k)
theorem GX.grown {S : List Nat} {a b c : World} {g : Nat} (h : GX S a b) (k : b.grownBy c (some g)) (hg : g ∈ S) : GX S a c :=
  h.trans ⟨k.os, k.tape, k.output, k.size, fun i hi hn => k.block i hi fun e => hn (by injection e with e; rw [e]; exact hg)⟩
theorem GX.mono {S S' : List Nat} {a b : World} (h : GX S a b) (hs : ∀ k, k ∈ S → k ∈ S' ∨ a.heap.size ≤ k) : GX S' a b :=
  ⟨h.os, h.tape, h.output, h.size, fun k hk hn => h.block k hk fun e => (hs k e).elim hn fun h2 => by omega⟩
theorem GX.toExt {S : List Nat} {a b : World} (h : GX S a b) (hs : ∀ k, k ∈ S → a.heap.size ≤ k) : Ext a b :=
  ⟨h.os, h.tape, h.output, h.size, fun k hk => h.block k hk fun e => by have := hs k e; omega⟩
theorem GX.toGrown {g : Nat} {a b : World} (h : GX [g] a b) : a.grownBy b (some g) :=
  ⟨h.os, h.tape, h.output, h.size, fun k hk hn => h.block k hk fun e => hn (by rw [List.mem_singleton.1 e])⟩
theorem GX.ofGrown {g : Nat} {a b : World} (h : a.grownBy b (some g)) : GX [g] a b :=
  ⟨h.os, h.tape, h.output, h.size, fun k hk hn => h.block k hk fun e => hn (by injection e with e; rw [e]; exact List.mem_singleton.2 rfl)⟩
theorem GX.drew {S : List Nat} {a b : World} (h : GX S a b) : GX S a b.drew := ⟨h.os, h.tape, h.output, h.size, h.block⟩
theorem GX.join {S S' : List Nat} {a b c : World} (h : GX S a b) (k : GX S' b c) (hs : ∀ x, x ∈ S' → x ∈ S ∨ a.heap.size ≤ x) : GX S a c :=
  ⟨k.os.trans h.os, k.tape.trans h.tape, k.output.trans h.output, Nat.le_trans h.size k.size, fun i hi hn => (k.block i (Nat.lt_of_lt_of_le hi h.size) (fun e => (hs i e).elim hn fun h2 => by omega)).trans (h.block i hi hn)⟩
theorem GX.drewN {S : List Nat} {a b : World} (h : GX S a b) (n : Nat) : GX S a (b.drewN n) := ⟨h.os, h.tape, h.output, h.size, h.block⟩
theorem GX.alloc {S : List Nat} {a b : World} (h : GX S a b) (o : Obj) : GX S a (b.alloc o) := h.ext ((Ext.refl b).alloc o)
theorem GX.setCell {S : List Nat} {a b : World} (h : GX S a b) {p : Addr} (hp : p.block ∈ S ∨ a.heap.size ≤ p.block) (u : Value) : GX S a (b.setCell p u) :=
  ⟨h.os, h.tape, h.output, by rw [World.size_setCell]; exact h.size, fun k hk hn => by
    rw [Below.heap_setCell _ _ _ _ (fun e => hp.elim (fun h2 => hn (by rw [e]; exact h2)) (fun h2 => by omega))]
    exact h.block k hk hn⟩
theorem GX.heap {S : List Nat} {a b : World} (h : GX S a b) {k : Nat} (hk : k < a.heap.size) (hn : k ∉ S) : b.heap[k]? = a.heap[k]? := h.block k hk hn
theorem heap_set_ne {w : World} {p : Addr} {u : Value} {k : Nat} {x : Option Obj} (hne : k ≠ p.block) (h : w.heap[k]? = x) : (w.setCell p u).heap[k]? = x := by
  rw [Below.heap_setCell _ _ _ _ hne]
  exact h
theorem heap_alloc_lt {w : World} {o o' : Obj} {k : Nat} (h : w.heap[k]? = some o') : (w.alloc o).heap[k]? = some o' :=
  ((Ext.refl w).alloc o).heap (Array.getElem?_eq_some_iff.1 h).1 |>.trans h
theorem heap_set_at {w : World} {g : Nat} {t : TypeId} {cs : Array Value} (h : w.heap[g]? = some (.cells cs t (0, 0))) (i : Nat) (u : Value) : (w.setCell ⟨g, i, none⟩ u).heap[g]? = some (.cells (cs.setIfInBounds i u) t (0, 0)) := by
  simp [World.setCell, Array.getElem?_modify, h]
theorem GX.cell {S : List Nat} {a b : World} (h : GX S a b) : ∀ k o, k < a.heap.size → k ∉ S → b.cell? ⟨k, o, none⟩ = a.cell? ⟨k, o, none⟩ :=
  fun k o hk hn => World.cell?_of_block (w := a) (h.block k hk hn)
theorem GX.frozen {S : List Nat} {a b : World} (h : GX S a b) : ∀ k o, k < a.heap.size → k ∉ S → b.frozen? ⟨k, o, none⟩ = a.frozen? ⟨k, o, none⟩ :=
  fun k o hk hn => World.frozen?_of_block (w := a) (h.block k hk hn)

namespace Wr
/-- What an operation is: it yields v and reads (beside what no operation writes) the slots rs; it yields v and leaves the cells c1 in slot s. -/
inductive K where
  | quiet (v : Value) (rs : List Nat)
  | write (v : Value) (s : Nat) (c1 : Array Value)
def K.val : K → Value
  | .quiet v _ => v
  | .write v _ _ => v
def K.at (kl : List K) (i : Nat) : K := kl.getD i (.quiet undef [])
/-- a block that is written, its type, what it holds at first -/
structure Slot where
  B : Nat
  t : TypeId
  c : Array Value
def slotB (Ss : List Slot) (s : Nat) : Nat := ((Ss[s]?).map (·.B)).getD 0
def slotT (Ss : List Slot) (s : Nat) : TypeId := ((Ss[s]?).map (·.t)).getD 0
def slotC (Ss : List Slot) (s : Nat) : Array Value := ((Ss[s]?).map (·.c)).getD #[]
def upd (b : Bool) (k : K) (s : Nat) (acc : Array Value) : Array Value := match k with
  | .write _ s' c1 => if b && s' == s then c1 else acc
  | .quiet _ _ => acc
/-- what the slot holds behind the listed ones of the first n operations -/
def contL (Ss : List Slot) (kl : List K) (L : Nat → Bool) (s : Nat) : Nat → Array Value
  | 0 => slotC Ss s
  | n + 1 => upd (L n) (K.at kl n) s (contL Ss kl L s n)
def cur (Ss : List Slot) (kl : List K) (s : Nat) : Array Value := contL Ss kl (fun _ => true) s kl.length
def holdsAt (W : World) (Ss : List Slot) (s : Nat) (c : Array Value) : Prop := W.heap[slotB Ss s]? = some (.cells c (slotT Ss s) (0, 0))

def finN (ops : Array Oper) (kl : List K) (a0 : Act) : Nat → Act
  | 0 => a0
  | n + 1 => (finN ops kl a0 n).put (dstOf ops n) (K.at kl n).val
/-- operation i waits for operation j -/
def wt (ops : Array Oper) : Nat → Nat → Nat → Bool
  | 0, _, _ => false
  | f + 1, i, j => match ops[i]? with
    | some o => o.after.any fun e => Region.binds .any e && (e.on == j || wt ops f e.on j)
    | none => false
def K.writes (k : K) (s : Nat) : Bool := match k with
  | .write _ s' _ => s' == s
  | .quiet _ _ => false
def ordB (ops : Array Oper) (kl : List K) (i s : Nat) : Bool :=
  (List.range ops.size).all fun j => !(K.at kl j).writes s || j == i || (if j < i then wt ops 6 i j else wt ops 6 j i)
def wrB (ops : Array Oper) (kl : List K) : Bool :=
  (List.range ops.size).all fun i => match K.at kl i with
    | .quiet _ rs => rs.all fun s => ordB ops kl i s
    | .write _ s _ => ordB ops kl i s
def tailB (ops : Array Oper) (n : Nat) : Bool :=
  decide (n ≤ ops.size) && ((List.range ops.size).all fun t => decide (t < n) || (List.range n).all fun i => wt ops 6 t i) &&
  Region.seqB .any ops (ops.size - n) n ((List.range ops.size).map fun i => decide (i < n)).toArray

section
variable {P : Program} {ops : Array Oper} {kl : List K} {a0 : Act} {W0 : World} {Ss : List Slot}

theorem wt_closed {L : Array Bool} (hc : ∀ (i : Nat) (o : Oper), ops[i]? = some o → L.getD i false = true → ∀ e ∈ o.after, Region.binds .any e = true → L.getD e.on false = true) :
    ∀ f i j, wt ops f i j = true → L.getD i false = true → L.getD j false = true := by
  intro f
  induction f with
  | zero => intro i j h; simp [wt] at h
  | succ f ih =>
    intro i j h hl
    unfold wt at h
    cases ho : ops[i]? with
    | none => rw [ho] at h; cases h
    | some o =>
      rw [ho] at h
      obtain ⟨e, he, h2⟩ := Array.any_eq_true'.1 h
      simp only [Bool.and_eq_true, Bool.or_eq_true, beq_iff_eq] at h2
      have h3 := hc i o ho hl e he h2.1
      rcases h2.2 with rfl | h4
      · exact h3
      · exact ih _ _ h4 h3
theorem wt_ready {L : Array Bool} (hc : ∀ (i : Nat) (o : Oper), ops[i]? = some o → L.getD i false = true → ∀ e ∈ o.after, Region.binds .any e = true → L.getD e.on false = true) {i : Nat} {o : Oper} (ho : ops[i]? = some o)
    (hd : ∀ e ∈ o.after, Region.binds .any e = true → L.getD e.on false = true) : ∀ f j, wt ops f i j = true → L.getD j false = true := by
  intro f j h
  cases f with
  | zero => simp [wt] at h
  | succ f =>
    unfold wt at h
    rw [ho] at h
    obtain ⟨e, he, h2⟩ := Array.any_eq_true'.1 h
    simp only [Bool.and_eq_true, Bool.or_eq_true, beq_iff_eq] at h2
    have h3 := hd e he h2.1
    rcases h2.2 with rfl | h4
    · exact h3
    · exact wt_closed hc _ _ _ h4 h3

theorem contL_all {L : Nat → Bool} {s : Nat} : ∀ n, (∀ j, j < n → (K.at kl j).writes s = true → L j = true) → contL Ss kl L s n = contL Ss kl (fun _ => true) s n := by
  intro n
  induction n with
  | zero => intro _; rfl
  | succ n ih =>
    intro h
    unfold contL
    rw [ih fun j hj => h j (by omega)]
    have h1 := h n (by omega)
    cases hk : K.at kl n with
    | quiet v rs => rfl
    | write v s' c1 =>
      rw [hk] at h1
      simp only [upd, K.writes] at h1 ⊢
      by_cases e : s' = s
      · rw [h1 (by simpa using e)]
      · simp [e]
theorem contL_none {L : Nat → Bool} {s i : Nat} : ∀ n, i ≤ n → (∀ j, i ≤ j → j < n → (K.at kl j).writes s = true → L j = false) → contL Ss kl L s n = contL Ss kl L s i := by
  intro n
  induction n with
  | zero => intro h _; obtain rfl : i = 0 := by omega
            rfl
  | succ n ih =>
    intro h h2
    by_cases e : i = n + 1
    · rw [e]
    · rw [← ih (by omega) fun j hj hj2 => h2 j hj (by omega)]
      conv => lhs; unfold contL
      have h1 := h2 n (by omega) (by omega)
      cases hk : K.at kl n with
      | quiet v rs => rfl
      | write v s' c1 =>
        rw [hk] at h1
        simp only [upd, K.writes] at h1 ⊢
        by_cases e : s' = s
        · rw [h1 (by simpa using e)]; simp
        · simp [e]
theorem contL_set {L L' : Nat → Bool} {s : Nat} : ∀ n, (∀ j, j < n → (K.at kl j).writes s = true → L j = L' j) → contL Ss kl L s n = contL Ss kl L' s n := by
  intro n
  induction n with
  | zero => intro _; rfl
  | succ n ih =>
    intro h
    unfold contL
    rw [ih fun j hj => h j (by omega)]
    have h1 := h n (by omega)
    cases hk : K.at kl n with
    | quiet v rs => rfl
    | write v s' c1 =>
      rw [hk] at h1
      simp only [upd, K.writes] at h1 ⊢
      by_cases e : s' = s
      · rw [h1 (by simpa using e)]
      · simp [e]
theorem contL_append (s : Nat) (k2 : List K) : ∀ n, n ≤ kl.length → contL Ss (kl ++ k2) (fun _ => true) s n = contL Ss kl (fun _ => true) s n := by
  intro n
  induction n with
  | zero => intro _; rfl
  | succ n ih =>
    intro h
    unfold contL
    rw [ih (by omega)]
    have : K.at (kl ++ k2) n = K.at kl n := by
      unfold K.at
      simp only [List.getD_eq_getElem?_getD]
      rw [List.getElem?_append_left (by omega)]
    rw [this]

theorem finN_get {m : Nat} (hs : Ssa ops m) (hm : a0.tmps.size = m) : ∀ n, n ≤ ops.size →
    (finN ops kl a0 n).defers = a0.defers ∧ (finN ops kl a0 n).tmps.size = a0.tmps.size ∧
    (∀ i d, i < n → dstOf ops i = some d → (finN ops kl a0 n).tmps[d]? = some (K.at kl i).val) ∧
    (∀ t, (∀ i, i < n → dstOf ops i ≠ some t) → (finN ops kl a0 n).tmps[t]? = a0.tmps[t]?) := by
  intro n
  induction n with
  | zero => intro _; exact ⟨rfl, rfl, fun i d hi => absurd hi (by omega), fun t _ => rfl⟩
  | succ n ih =>
    intro hn
    obtain ⟨h1, h2, h3, h4⟩ := ih (by omega)
    unfold finN
    cases hd : dstOf ops n with
    | none =>
      refine ⟨h1, h2, fun i d hi he => ?_, fun t ht => h4 t fun i hi => ht i (by omega)⟩
      by_cases hin : i = n
      · subst hin; rw [hd] at he; cases he
      · exact h3 i d (by omega) he
    | some d0 =>
      have hlt : d0 < a0.tmps.size := by rw [hm]; exact hs.bd n d0 (by omega) hd
      refine ⟨h1, by simp [Act.put, h2], fun i d hi he => ?_, fun t ht => ?_⟩
      · by_cases hin : i = n
        · subst hin
          rw [hd] at he
          obtain rfl := Option.some.inj he
          simp [Act.put, h2, hlt]
        · have hne : d0 ≠ d := fun e => hs.one n i d0 (by omega) (by omega) (fun e => hin e.symm) hd (by rw [he, e])
          simp only [Act.put]
          rw [Array.getElem?_setIfInBounds_ne hne]
          exact h3 i d (by omega) he
      · have hne : d0 ≠ t := fun e => ht n (by omega) (by rw [hd, e])
        simp only [Act.put]
        rw [Array.getElem?_setIfInBounds_ne hne]
        exact h4 t fun i hi => ht i (by omega)

structure Inv (ops : Array Oper) (kl : List K) (a0 : Act) (Ss : List Slot) (W0 : World) (L : Array Bool) (a : Act) (W : World) : Prop where
  lsize : L.size = ops.size
  closed : ∀ (i : Nat) (o : Oper), ops[i]? = some o → L.getD i false = true → ∀ e ∈ o.after, Region.binds .any e = true → L.getD e.on false = true
  defers : a.defers = a0.defers
  size : a.tmps.size = a0.tmps.size
  on : ∀ i d, i < ops.size → L.getD i false = true → dstOf ops i = some d → a.tmps[d]? = some (K.at kl i).val
  off : ∀ t, (∀ i, i < ops.size → L.getD i false = true → dstOf ops i ≠ some t) → a.tmps[t]? = a0.tmps[t]?
  gx : GX (Ss.map (·.B)) W0 W
  cont : ∀ s, s < Ss.length → holdsAt W Ss s (contL Ss kl (fun i => L.getD i false) s ops.size)

/-- the frame's and the list's part of a step -/
theorem Inv.frame {m : Nat} {L : Array Bool} {a : Act} {W : World} {i : Nat} {o : Oper} (hs : Ssa ops m) (hm : a0.tmps.size = m) (h : Inv ops kl a0 Ss W0 L a W) (hi : i ∈ Region.ready .any ops L) (ho : ops[i]? = some o) :
    (L.setIfInBounds i true).size = ops.size ∧
    (∀ (k : Nat) (q : Oper), ops[k]? = some q → (L.setIfInBounds i true).getD k false = true → ∀ e ∈ q.after, Region.binds .any e = true → (L.setIfInBounds i true).getD e.on false = true) ∧
    (a.put o.dst (K.at kl i).val).defers = a0.defers ∧ (a.put o.dst (K.at kl i).val).tmps.size = a0.tmps.size ∧
    (∀ k d, k < ops.size → (L.setIfInBounds i true).getD k false = true → dstOf ops k = some d → (a.put o.dst (K.at kl i).val).tmps[d]? = some (K.at kl k).val) ∧
    (∀ t, (∀ k, k < ops.size → (L.setIfInBounds i true).getD k false = true → dstOf ops k ≠ some t) → (a.put o.dst (K.at kl i).val).tmps[t]? = a0.tmps[t]?) := by
  obtain ⟨_, oi, hoi, hall⟩ := mem_ready.1 hi
  obtain rfl : oi = o := Option.some.inj (hoi.symm.trans ho)
  have hilt : i < ops.size := (Array.getElem?_eq_some_iff.1 ho).1
  have hil : i < L.size := by rw [h.lsize]; exact hilt
  have hdst : dstOf ops i = oi.dst := by simp [dstOf, ho]
  refine ⟨by simp [h.lsize], ?_, ?_, ?_, ?_, ?_⟩
  · intro k q hk hl e he hb
    rw [getD_set hil] at hl ⊢
    split
    · rfl
    · by_cases hki : k = i
      · subst hki
        obtain rfl : q = oi := Option.some.inj (hk.symm.trans ho)
        exact hall e he hb
      · rw [if_neg hki] at hl
        exact h.closed k q hk hl e he hb
  · rw [← h.defers]; cases oi.dst <;> rfl
  · rw [← h.size]; cases oi.dst <;> simp [Act.put]
  · intro k d hk hl hd
    rw [getD_set hil] at hl
    cases hod : oi.dst with
    | none =>
      simp only [Act.put]
      by_cases hki : k = i
      · subst hki; rw [hdst, hod] at hd; cases hd
      · rw [if_neg hki] at hl
        exact h.on k d hk hl hd
    | some d0 =>
      have hlt : d0 < a.tmps.size := by rw [h.size, hm]; exact hs.bd i d0 hilt (hdst.trans hod)
      by_cases hki : k = i
      · subst hki
        rw [hdst, hod] at hd
        obtain rfl := Option.some.inj hd
        simp [Act.put, hlt]
      · rw [if_neg hki] at hl
        have hne : d0 ≠ d := fun e => hs.one i k d0 hilt hk (fun e => hki e.symm) (hdst.trans hod) (by rw [hd, e])
        simp only [Act.put]
        rw [Array.getElem?_setIfInBounds_ne hne]
        exact h.on k d hk hl hd
  · intro t ht
    have h1 := h.off t fun k hk hl => ht k hk (by rw [getD_set hil]; split <;> simp [hl])
    cases hod : oi.dst with
    | none => exact h1
    | some d0 =>
      have hne : d0 ≠ t := fun e => ht i hilt (by rw [getD_set hil]; simp) (by rw [hdst, hod, e])
      simp only [Act.put]
      rw [Array.getElem?_setIfInBounds_ne hne]
      exact h1

/-- an operation that may come up sees what it sees in the frame behind the operations ahead of it -/
theorem Inv.sees {m : Nat} {L : Array Bool} {a : Act} {W : World} {i : Nat} {o : Oper} (hs : Ssa ops m) (hm : a0.tmps.size = m) (h : Inv ops kl a0 Ss W0 L a W) (hi : i ∈ Region.ready .any ops L) (ho : ops[i]? = some o) :
    execOp a.eval o = execOp (finN ops kl a0 i).eval o ∧ Region.wanted o (yielded ops a.tmps) = Region.wanted o (yielded ops (finN ops kl a0 i).tmps) := by
  obtain ⟨_, oi, hoi, hall⟩ := mem_ready.1 hi
  obtain rfl : oi = o := Option.some.inj (hoi.symm.trans ho)
  have hilt : i < ops.size := (Array.getElem?_eq_some_iff.1 ho).1
  obtain ⟨f1, f2, f3, f4⟩ := finN_get (kl := kl) hs hm i (by omega)
  have hat : ∀ t ∈ oi.looksAt ops, a.tmps[t]? = (finN ops kl a0 i).tmps[t]? := by
    intro t ht
    by_cases hex : ∃ j, j < ops.size ∧ dstOf ops j = some t
    · obtain ⟨j, hj, hd⟩ := hex
      obtain ⟨e, he, hb, rfl⟩ := hs.sees i oi t j ho ht hj hd
      rw [h.on e.on t hj (hall e he hb) hd, f3 e.on t (hs.dn i oi e ho he hb) hd]
    · rw [h.off t fun j hj _ hd => hex ⟨j, hj, hd⟩, f4 t fun j hj hd => hex ⟨j, by omega, hd⟩]
  refine ⟨execOp_congr oi (Region.noSelect_spec hs.nosel i oi · · ho) fun x hx => ?_, ?_⟩
  · cases x with
    | tmp t =>
      have := hat t (List.mem_append_left _ (List.mem_filterMap.2 ⟨.tmp t, by simpa using hx, rfl⟩))
      simp only [Act.eval, Array.getD_eq_getD_getElem?, this]
    | _ => rfl
  · unfold Region.wanted
    cases hg : oi.guard with
    | none => rfl
    | some gw =>
      obtain ⟨g, want⟩ := gw
      have : yielded ops a.tmps g = yielded ops (finN ops kl a0 i).tmps g := by
        unfold yielded
        cases ht : (ops[g]?).bind (·.dst) with
        | none => rfl
        | some t =>
          have := hat t (by simp [Oper.looksAt, hg, ht])
          simp [this]
      simp only [this]

/-- an operation that yields v and leaves a world of C -/
def writeUpon (P : Program) (C : World → Prop) (v : Value) : Result Next → Prop
  | .ok (.value u) w' => u = v ∧ C w'
  | .ok .skip w' => v = undef ∧ C w'
  | .ok (.enter f args) w' => Calls P f args w' (fun e w'' => e = .returned v ∧ C w'')
  | _ => False

/-- what is asked of one operation -/
def Ob (P : Program) (ops : Array Oper) (Ss : List Slot) (kl : List K) (W0 : World) (o : Oper) (k : K) (a : Act) : Prop := match k with
  | .quiet v rs => if Region.wanted o (yielded ops a.tmps) then (∀ s ∈ rs, s < Ss.length) ∧ ∀ W, GX (Ss.map (·.B)) W0 W → (∀ s ∈ rs, holdsAt W Ss s (cur Ss kl s)) → Oper.quietUpon P (fun w'' => Ext W w'') W v ((execOp a.eval o).run P W) else v = undef
  | .write v s c1 => Region.wanted o (yielded ops a.tmps) = true ∧ s < Ss.length ∧ ∀ W, GX (Ss.map (·.B)) W0 W → holdsAt W Ss s (cur Ss kl s) →
      writeUpon P (fun w'' => W.grownBy w'' (some (slotB Ss s)) ∧ holdsAt w'' Ss s c1) v ((execOp a.eval o).run P W)

theorem slot_mem {s : Nat} (h : s < Ss.length) : slotB Ss s ∈ Ss.map (·.B) := by
  unfold slotB
  rw [List.getElem?_eq_getElem h]
  exact List.mem_map.2 ⟨Ss[s], List.getElem_mem h, rfl⟩
theorem slot_inj {s s' : Nat} (hn : (Ss.map (·.B)).Nodup) (h : s < Ss.length) (h' : s' < Ss.length) (e : slotB Ss s = slotB Ss s') : s = s' := by
  unfold slotB at e
  rw [List.getElem?_eq_getElem h, List.getElem?_eq_getElem h'] at e
  simp only [Option.map_some, Option.getD_some] at e
  have h1 : s < (Ss.map (·.B)).length := by simpa using h
  have h2 : s' < (Ss.map (·.B)).length := by simpa using h'
  exact (List.getElem_inj (h₀ := h1) (h₁ := h2) hn).1 (by simpa using e)

/-- what an operation that reads or writes the slot finds there -/
theorem Inv.slot {m : Nat} {L : Array Bool} {a : Act} {W : World} {i s : Nat} {o : Oper} (hs : Ssa ops m) (h : Inv ops kl a0 Ss W0 L a W) (hi : i ∈ Region.ready .any ops L) (ho : ops[i]? = some o) (hord : ordB ops kl i s = true) :
    (∀ j, j < i → (K.at kl j).writes s = true → L.getD j false = true) ∧ (∀ j, i ≤ j → j < ops.size → (K.at kl j).writes s = true → L.getD j false = false) := by
  obtain ⟨hun0, oi, hoi, hall⟩ := mem_ready.1 hi
  obtain rfl : oi = o := Option.some.inj (hoi.symm.trans ho)
  have hilt : i < ops.size := (Array.getElem?_eq_some_iff.1 ho).1
  have hil : i < L.size := by rw [h.lsize]; exact hilt
  have hun : L.getD i false = false := by simp [hil] at hun0 ⊢; exact hun0
  unfold ordB at hord
  rw [List.all_eq_true] at hord
  refine ⟨fun j hj hw => ?_, fun j hj hj2 hw => ?_⟩
  · have h1 := hord j (List.mem_range.2 (by omega))
    rw [hw, if_pos hj] at h1
    simp only [Bool.not_true, Bool.false_or, Bool.or_eq_true, beq_iff_eq] at h1
    rcases h1 with h1 | h1
    · omega
    · exact wt_ready h.closed ho hall _ _ h1
  · by_cases e : j = i
    · rw [e]; exact hun
    · have h1 := hord j (List.mem_range.2 hj2)
      rw [hw, if_neg (by omega)] at h1
      simp only [Bool.not_true, Bool.false_or, Bool.or_eq_true, beq_iff_eq] at h1
      rcases h1 with h1 | h1
      · exact absurd h1 e
      · cases hg : L.getD j false with
        | false => rfl
        | true =>
          have := wt_closed h.closed _ _ _ h1 hg
          rw [hun] at this
          cases this

theorem Inv.quiet {m : Nat} {L : Array Bool} {a : Act} {W W' : World} {i : Nat} {o : Oper} {v : Value} {rs : List Nat} (hs : Ssa ops m) (hm : a0.tmps.size = m) (h : Inv ops kl a0 Ss W0 L a W) (hi : i ∈ Region.ready .any ops L) (ho : ops[i]? = some o)
    (hk : K.at kl i = .quiet v rs) (hx : Ext W W') : Inv ops kl a0 Ss W0 (L.setIfInBounds i true) (a.put o.dst v) W' := by
  obtain ⟨g1, g2, g3, g4, g5, g6⟩ := h.frame hs hm hi ho
  rw [hk] at g3 g4 g5 g6
  have hilt : i < ops.size := (Array.getElem?_eq_some_iff.1 ho).1
  have hil : i < L.size := by rw [h.lsize]; exact hilt
  refine ⟨g1, g2, g3, g4, g5, g6, h.gx.ext hx, fun s hs' => ?_⟩
  have h1 := h.cont s hs'
  have h2 : contL Ss kl (fun j => (L.setIfInBounds i true).getD j false) s ops.size = contL Ss kl (fun j => L.getD j false) s ops.size :=
    contL_set _ fun j hj hw => by
      rw [getD_set hil]
      by_cases e : j = i
      · rw [e, hk] at hw; cases hw
      · rw [if_neg e]
  rw [h2]
  unfold holdsAt at h1 ⊢
  exact (hx.heap (Array.getElem?_eq_some_iff.1 h1).1).trans h1

theorem Inv.write {m : Nat} {L : Array Bool} {a : Act} {W W' : World} {i : Nat} {o : Oper} {v : Value} {s : Nat} {c1 : Array Value} (hs : Ssa ops m) (hm : a0.tmps.size = m) (hn : (Ss.map (·.B)).Nodup) (h : Inv ops kl a0 Ss W0 L a W) (hi : i ∈ Region.ready .any ops L) (ho : ops[i]? = some o)
    (hk : K.at kl i = .write v s c1) (hlt : s < Ss.length) (hord : ordB ops kl i s = true) (hg : W.grownBy W' (some (slotB Ss s))) (hc : holdsAt W' Ss s c1) : Inv ops kl a0 Ss W0 (L.setIfInBounds i true) (a.put o.dst v) W' := by
  obtain ⟨g1, g2, g3, g4, g5, g6⟩ := h.frame hs hm hi ho
  rw [hk] at g3 g4 g5 g6
  have hilt : i < ops.size := (Array.getElem?_eq_some_iff.1 ho).1
  have hil : i < L.size := by rw [h.lsize]; exact hilt
  obtain ⟨k1, k2⟩ := h.slot hs hi ho hord
  refine ⟨g1, g2, g3, g4, g5, g6, h.gx.grown hg (slot_mem hlt), fun s' hs' => ?_⟩
  by_cases e : s' = s
  · subst e
    have h2 : contL Ss kl (fun j => (L.setIfInBounds i true).getD j false) s' ops.size = c1 := by
      rw [contL_none (i := i + 1) ops.size (by omega) fun j hj hj2 hw => by
        rw [getD_set hil, if_neg (by omega)]
        exact k2 j (by omega) hj2 hw]
      unfold contL
      rw [hk]
      simp [upd, hil]
    rw [h2]
    exact hc
  · have h1 := h.cont s' hs'
    have h2 : contL Ss kl (fun j => (L.setIfInBounds i true).getD j false) s' ops.size = contL Ss kl (fun j => L.getD j false) s' ops.size :=
      contL_set _ fun j hj hw => by
        rw [getD_set hil]
        by_cases e2 : j = i
        · rw [e2, hk] at hw
          simp only [K.writes, beq_iff_eq] at hw
          exact absurd hw.symm e
        · rw [if_neg e2]
    rw [h2]
    unfold holdsAt at h1 ⊢
    exact (hg.block _ (Array.getElem?_eq_some_iff.1 h1).1 fun e2 => e (slot_inj hn hs' hlt (by injection e2))).trans h1

/-- how many of the first n have not come up yet -/
def unl (L : Array Bool) : Nat → Nat
  | 0 => 0
  | n + 1 => unl L n + (if L.getD n false then 0 else 1)
theorem unl_same {L L' : Array Bool} : ∀ n, (∀ j, j < n → L.getD j false = L'.getD j false) → unl L n = unl L' n := by
  intro n
  induction n with
  | zero => intro _; rfl
  | succ n ih =>
    intro h
    unfold unl
    rw [ih fun j hj => h j (by omega), h n (by omega)]
theorem unl_set {L : Array Bool} {i : Nat} (hil : i < L.size) (hun : L.getD i false = false) : ∀ n, i < n → unl (L.setIfInBounds i true) n + 1 = unl L n := by
  intro n
  induction n with
  | zero => intro h; omega
  | succ n ih =>
    intro h
    unfold unl
    by_cases e : i = n
    · subst e
      have e1 : unl (L.setIfInBounds i true) i = unl L i := unl_same i fun j hj => by rw [getD_set hil, if_neg (by omega)]
      rw [e1, getD_set hil, if_pos rfl, hun]
      simp
    · have h1 := ih (by omega)
      have e3 : (L.setIfInBounds i true).getD n false = L.getD n false := by rw [getD_set hil, if_neg (fun (e2 : n = i) => e e2.symm)]
      rw [e3]
      omega
theorem unl_zero {L : Array Bool} : ∀ n, unl L n = 0 → ∀ i, i < n → L.getD i false = true := by
  intro n
  induction n with
  | zero => intro _ i hi; omega
  | succ n ih =>
    intro h i hi
    unfold unl at h
    have h1 : L.getD n false = true := by
      cases hg : L.getD n false with
      | true => rfl
      | false => rw [hg] at h; simp at h
    by_cases e : i = n
    · rw [e]; exact h1
    · exact ih (by omega) i (by omega)
theorem unl_none {L : Array Bool} : ∀ n, (∀ i, i < n → L.getD i false = false) → unl L n = n := by
  intro n
  induction n with
  | zero => intro _; rfl
  | succ n ih =>
    intro h
    unfold unl
    rw [ih fun i hi => h i (by omega), h n (by omega)]
    simp

theorem any_wr {m n : Nat} {Q : Exit → Act → World → Prop} {l : List Oper} (hops : ops = l.toArray) (hs : Ssa ops m) (hm : a0.tmps.size = m) (hn : (Ss.map (·.B)).Nodup) (hw : wrB ops kl = true) (ht : tailB ops n = true) (hkl : kl.length = n)
    (hob : ∀ (i : Nat) (o : Oper), i < n → ops[i]? = some o → Ob P ops Ss (kl.take i) W0 o (K.at kl i) (finN ops kl a0 i))
    (hfin : ∀ W, GX (Ss.map (·.B)) W0 W → (∀ s, s < Ss.length → holdsAt W Ss s (cur Ss kl s)) → wpList P ops Q (l.drop n) (finN ops kl a0 n) W) :
    ∀ (fuel : Nat) (L : Array Bool) (a : Act) (W : World), Inv ops kl a0 Ss W0 L a W → (∀ t, n ≤ t → L.getD t false = false) → unl L n = fuel → wpAny P .any ops Q (fuel + (ops.size - n)) L a W := by
  unfold tailB at ht
  simp only [Bool.and_eq_true, decide_eq_true_eq] at ht
  obtain ⟨⟨hnle, ht1⟩, ht2⟩ := ht
  have hopl : ops.size = l.length := by rw [hops]; simp
  have hfar : ∀ j, n ≤ j → K.at kl j = .quiet undef [] := by
    intro j hj
    unfold K.at
    simp only [List.getD_eq_getElem?_getD]
    rw [List.getElem?_eq_none (by omega)]
    rfl
  have hcur : ∀ i s, i ≤ n → contL Ss kl (fun _ => true) s i = cur Ss (kl.take i) s := by
    intro i s hi
    unfold cur
    have h1 : (kl.take i).length = i := by simp; omega
    rw [h1]
    have := contL_append (Ss := Ss) (kl := kl.take i) s (kl.drop i) i (by omega)
    rw [List.take_append_drop] at this
    exact this
  intro fuel
  induction fuel with
  | zero =>
    intro L a W h hoff hu
    have hall := unl_zero n hu
    have hLe : L = ((List.range ops.size).map fun i => decide (i < n)).toArray := by
      apply Array.ext
      · simp [h.lsize]
      · intro i h1 h2
        have h3 : L.getD i false = L[i] := by simp [h1]
        have h4 : L.getD i false = decide (i < n) := by
          by_cases e : i < n
          · rw [hall i e]; simp [e]
          · rw [hoff i (by omega)]; simp [e]
        rw [← h3, h4]
        simp
    have hdl : ops.size - n = (l.drop n).length := by rw [hopl]; simp
    rw [Nat.zero_add, hdl]
    refine wpAny_of_seq (l.drop n) n L a W (fun j => by rw [hops]; simp [List.getElem?_drop]) (by rw [← hdl, hLe]; exact ht2) ?_
    have hae : a = finN ops kl a0 n := by
      obtain ⟨f1, f2, f3, f4⟩ := finN_get (kl := kl) hs hm n hnle
      have htm : a.tmps = (finN ops kl a0 n).tmps := by
        apply Array.ext_getElem?
        intro t
        by_cases hex : ∃ j, j < n ∧ dstOf ops j = some t
        · obtain ⟨j, hj, hd⟩ := hex
          rw [h.on j t (by omega) (hall j hj) hd, f3 j t hj hd]
        · have hlt : ∀ j, L.getD j false = true → j < n := fun j hl => by
            rcases Nat.lt_or_ge j n with h2 | h2
            · exact h2
            · rw [hoff j h2] at hl; cases hl
          rw [h.off t fun j hj hl hd => hex ⟨j, hlt j hl, hd⟩, f4 t fun j hj hd => hex ⟨j, hj, hd⟩]
      have hd : a.defers = (finN ops kl a0 n).defers := h.defers.trans f1.symm
      cases a
      generalize finN ops kl a0 n = F at *
      cases F
      simp only at htm hd
      rw [htm, hd]
    rw [hae]
    refine hfin W h.gx fun s hs' => ?_
    have h1 := h.cont s hs'
    rw [contL_none (i := n) ops.size hnle fun j hj _ hw => by rw [hfar j hj] at hw; cases hw] at h1
    rw [contL_all n fun j hj _ => hall j hj, hcur n s (Nat.le_refl _)] at h1
    rw [List.take_of_length_le (by omega)] at h1
    exact h1
  | succ fuel ih =>
    intro L a W h hoff hu
    rw [show fuel + 1 + (ops.size - n) = (fuel + (ops.size - n)) + 1 by omega]
    have hsome : ∃ i, i < n ∧ L.getD i false = false := by
      apply Classical.byContradiction
      intro hno
      have hall : ∀ i, i < n → L.getD i false = true := by
        intro i hi
        cases hg : L.getD i false with
        | true => rfl
        | false => exact absurd ⟨i, hi, hg⟩ hno
      have : ∀ k, k ≤ n → unl L k = 0 := by
        intro k
        induction k with
        | zero => intro _; rfl
        | succ k ihk =>
          intro hk
          unfold unl
          rw [ihk (by omega), hall k (by omega)]
          simp
      rw [this n (Nat.le_refl _)] at hu
      omega
    refine ⟨fun hr => ?_, fun i hi => ?_⟩
    · exfalso
      obtain ⟨i, hin, hiun⟩ := hsome
      have := all_listed hs h.lsize hr i (by omega)
      rw [hiun] at this
      cases this
    obtain ⟨hun0, o, ho, hall⟩ := mem_ready.1 hi
    have hilt : i < ops.size := (Array.getElem?_eq_some_iff.1 ho).1
    have hil : i < L.size := by rw [h.lsize]; exact hilt
    have hun : L.getD i false = false := by simp [hil] at hun0 ⊢; exact hun0
    have hin : i < n := by
      rcases Nat.lt_or_ge i n with h2 | h2
      · exact h2
      · exfalso
        obtain ⟨j, hjn, hjun⟩ := hsome
        rw [List.all_eq_true] at ht1
        have h3 := ht1 i (List.mem_range.2 hilt)
        simp only [Bool.or_eq_true, decide_eq_true_eq] at h3
        rcases h3 with h3 | h3
        · omega
        · rw [List.all_eq_true] at h3
          have := wt_ready h.closed ho hall _ _ (h3 j (List.mem_range.2 hjn))
          rw [hjun] at this
          cases this
    have hu' : unl (L.setIfInBounds i true) n = fuel := by
      have := unl_set hil hun n hin
      omega
    have hoff' : ∀ t, n ≤ t → (L.setIfInBounds i true).getD t false = false := by
      intro t ht
      rw [getD_set hil, if_neg (by omega)]
      exact hoff t ht
    obtain ⟨hx, hwt⟩ := h.sees hs hm hi ho
    have hobi := hob i o hin ho
    unfold wrB at hw
    rw [List.all_eq_true] at hw
    have hwi := hw i (List.mem_range.2 hilt)
    unfold wpOp
    simp only [ho]
    cases hk : K.at kl i with
    | quiet v rs =>
      rw [hk] at hobi hwi
      simp only [Ob] at hobi
      rw [← hx, ← hwt] at hobi
      split
      · rename_i hwt'
        rw [if_pos hwt'] at hobi
        refine .inl ?_
        have h3 := hobi.2 W h.gx fun s hs' => by
          rw [List.all_eq_true] at hwi
          obtain ⟨k1, k2⟩ := h.slot hs hi ho (hwi s hs')
          have h4 := h.cont s (hobi.1 s hs')
          rw [contL_none (i := i) ops.size (by omega) fun j hj hj2 hw => k2 j hj hj2 hw, contL_all i fun j hj hw => k1 j hj hw, hcur i s (by omega)] at h4
          exact h4
        unfold Oper.wp
        generalize (execOp a.eval o).run P W = r at *
        cases r with
        | ok nx w' =>
          cases nx <;> simp only [Oper.quietUpon] at h3 <;> simp only [Oper.upon]
          case value u =>
            obtain ⟨rfl, rfl⟩ := h3
            exact ih _ _ _ (h.quiet hs hm hi ho hk (Ext.refl _)) hoff' hu'
          case skip =>
            obtain ⟨rfl, rfl⟩ := h3
            exact ih _ _ _ (h.quiet hs hm hi ho hk (Ext.refl _)) hoff' hu'
          case enter f args =>
            obtain ⟨rfl, hc⟩ := h3
            exact hc.mono fun e w'' ⟨he, hx''⟩ => by
              subst he
              exact ih _ _ _ (h.quiet hs hm hi ho hk hx'') hoff' hu'
        | halt x w' => simp only [Oper.quietUpon] at h3
      · rename_i hwt'
        rw [if_neg hwt'] at hobi
        subst hobi
        exact ih _ _ _ (h.quiet hs hm hi ho hk (Ext.refl _)) hoff' hu'
    | write v s c1 =>
      rw [hk] at hobi hwi
      simp only [Ob] at hobi
      simp only at hwi
      rw [← hx, ← hwt] at hobi
      obtain ⟨hwt', hlt, hrun⟩ := hobi
      rw [if_pos hwt']
      refine .inl ?_
      obtain ⟨k1, k2⟩ := h.slot hs hi ho hwi
      have h4 := h.cont s hlt
      rw [contL_none (i := i) ops.size (by omega) fun j hj hj2 hw => k2 j hj hj2 hw, contL_all i fun j hj hw => k1 j hj hw, hcur i s (by omega)] at h4
      have h3 := hrun W h.gx h4
      unfold Oper.wp
      generalize (execOp a.eval o).run P W = r at *
      cases r with
      | ok nx w' =>
        cases nx <;> simp only [writeUpon] at h3 <;> simp only [Oper.upon]
        case value u =>
          obtain ⟨rfl, hg, hc⟩ := h3
          exact ih _ _ _ (h.write hs hm hn hi ho hk hlt hwi hg hc) hoff' hu'
        case skip =>
          obtain ⟨rfl, hg, hc⟩ := h3
          exact ih _ _ _ (h.write hs hm hn hi ho hk hlt hwi hg hc) hoff' hu'
        case enter f args =>
          exact h3.mono fun e w'' ⟨he, hg, hc⟩ => by
            subst he
            exact ih _ _ _ (h.write hs hm hn hi ho hk hlt hwi hg hc) hoff' hu'
      | halt x w' => simp only [writeUpon] at h3

/-- the walk in the order of the text; it may stop where all that is left is forced -/
def Stop (P : Program) (ops : Array Oper) (Ss : List Slot) (W0 : World) (Q : Exit → Act → World → Prop) (rest : List Oper) (kl : List K) (a : Act) : Prop :=
  wrB ops kl = true ∧ tailB ops kl.length = true ∧ ∀ W, GX (Ss.map (·.B)) W0 W → (∀ s, s < Ss.length → holdsAt W Ss s (cur Ss kl s)) → wpList P ops Q rest a W
def WW (P : Program) (ops : Array Oper) (Ss : List Slot) (W0 : World) (Q : Exit → Act → World → Prop) : List Oper → List K → Act → Prop
  | [], kl, a => Stop P ops Ss W0 Q [] kl a
  | o :: rest, kl, a => Stop P ops Ss W0 Q (o :: rest) kl a ∨ ∃ k : K, Ob P ops Ss kl W0 o k a ∧ WW P ops Ss W0 Q rest (kl ++ [k]) (a.put o.dst k.val)

theorem finN_append (k2 : List K) : ∀ (n : Nat), n ≤ kl.length → finN ops (kl ++ k2) a0 n = finN ops kl a0 n := by
  intro n
  induction n with
  | zero => intro _; rfl
  | succ n ih =>
    intro h
    unfold finN
    rw [ih (by omega)]
    have : K.at (kl ++ k2) n = K.at kl n := by
      unfold K.at
      simp only [List.getD_eq_getElem?_getD]
      rw [List.getElem?_append_left (by omega)]
    rw [this]

theorem ww_sound {Q : Exit → Act → World → Prop} {full : List Oper} (hf : ops = full.toArray) : ∀ (l : List Oper) (kl : List K) (A : Act), l = full.drop kl.length → A = finN ops kl a0 kl.length → WW P ops Ss W0 Q l kl A →
    ∃ kl' : List K, (∃ more, kl' = kl ++ more) ∧ (∀ (i : Nat) (o : Oper), kl.length ≤ i → i < kl'.length → ops[i]? = some o → Ob P ops Ss (kl'.take i) W0 o (K.at kl' i) (finN ops kl' a0 i)) ∧
      Stop P ops Ss W0 Q (full.drop kl'.length) kl' (finN ops kl' a0 kl'.length) := by
  have stop : ∀ (l : List Oper) (kl : List K) (A : Act), l = full.drop kl.length → A = finN ops kl a0 kl.length → Stop P ops Ss W0 Q l kl A →
      ∃ kl' : List K, (∃ more, kl' = kl ++ more) ∧ (∀ (i : Nat) (o : Oper), kl.length ≤ i → i < kl'.length → ops[i]? = some o → Ob P ops Ss (kl'.take i) W0 o (K.at kl' i) (finN ops kl' a0 i)) ∧
        Stop P ops Ss W0 Q (full.drop kl'.length) kl' (finN ops kl' a0 kl'.length) := by
    intro l kl A hl hA h
    refine ⟨kl, ⟨[], by simp⟩, fun i o hi hi2 _ => by omega, ?_⟩
    rw [← hl, ← hA]
    exact h
  intro l
  induction l with
  | nil => intro kl A hl hA h; exact stop [] kl A hl hA h
  | cons o rest ih =>
    intro kl A hl hA h
    rcases h with h | ⟨k, hk, hr⟩
    · exact stop _ kl A hl hA h
    have h0 : ops[kl.length]? = some o := by
      rw [hf]
      have : (full.drop kl.length)[0]? = some o := by rw [← hl]; rfl
      simpa using this
    have hrest : rest = full.drop (kl ++ [k]).length := by
      simp only [List.length_append, List.length_cons, List.length_nil, Nat.zero_add]
      rw [← List.drop_drop, ← hl]
      rfl
    have hA' : A.put o.dst k.val = finN ops (kl ++ [k]) a0 (kl ++ [k]).length := by
      simp only [List.length_append, List.length_cons, List.length_nil, Nat.zero_add]
      unfold finN
      rw [finN_append [k] kl.length (Nat.le_refl _), hA]
      have e1 : dstOf ops kl.length = o.dst := by simp [dstOf, h0]
      have e2 : K.at (kl ++ [k]) kl.length = k := by simp [K.at]
      rw [e1, e2]
    obtain ⟨kl', ⟨more, rfl⟩, h2, h3⟩ := ih (kl ++ [k]) _ hrest hA' hr
    refine ⟨kl ++ [k] ++ more, ⟨k :: more, by simp⟩, ?_, h3⟩
    intro i o' hi hi2 ho'
    by_cases hik : i = kl.length
    · subst hik
      obtain rfl : o' = o := Option.some.inj (ho'.symm.trans h0)
      have e1 : K.at (kl ++ [k] ++ more) kl.length = k := by simp [K.at]
      rw [e1, List.append_assoc, finN_append _ kl.length (Nat.le_refl _), ← hA, List.take_append_of_le_length (Nat.le_refl _), List.take_length]
      exact hk
    · exact h2 i o' (by simp; omega) hi2 ho'

/-- one walk serves every order -/
theorem wp_region_wr {id m : Nat} {Q : Exit → Act → World → Prop} {l : List Oper} (Ss : List Slot) (hm : P.follows .mixedOrders = true) (hB : ssaB l.toArray m = true) (hsz : a0.tmps.size = m) (hn : (Ss.map (·.B)).Nodup)
    (h0 : ∀ s, s < Ss.length → holdsAt W0 Ss s (slotC Ss s)) (h : WW P l.toArray Ss W0 Q l [] a0) : (Code.region id l.toArray true).wp P Q a0 W0 := by
  have hs := ssa_of hB
  obtain ⟨kl, -, h2, h1, hT, h3⟩ := ww_sound (ops := l.toArray) (a0 := a0) (full := l) rfl l [] a0 rfl rfl h
  refine wp_region_any hm ?_
  have hno : ∀ i, (Array.replicate l.toArray.size false).getD i false = false := by
    intro i
    rw [Array.getD_eq_getD_getElem?, Array.getElem?_replicate]
    split <;> rfl
  have H := any_wr (P := P) (kl := kl) (a0 := a0) (W0 := W0) (Ss := Ss) (Q := Q) rfl hs hsz hn h1 hT rfl (fun i o hi ho => h2 i o (by simp) hi ho) h3
    kl.length (Array.replicate l.toArray.size false) a0 { W0 with drawn := W0.drawn + 1 } ?_ (fun t _ => hno t) (unl_none _ fun i _ => hno i)
  · have hnle : kl.length ≤ l.toArray.size := by
      unfold tailB at hT
      simp only [Bool.and_eq_true, decide_eq_true_eq] at hT
      exact hT.1.1
    have : kl.length + (l.toArray.size - kl.length) = l.toArray.size := by omega
    rw [this] at H
    exact H
  · refine ⟨by simp, ?_, rfl, rfl, ?_, fun _ _ => rfl, (GX.refl _ W0).drew, ?_⟩
    · intro i o _ hl; rw [hno] at hl; cases hl
    · intro i d _ hl; rw [hno] at hl; cases hl
    · intro s hs'
      rw [contL_none (i := 0) l.toArray.size (by omega) fun j _ _ _ => hno j]
      exact h0 s hs'

/-- a world that differs from W0 at the blocks S alone, and meets F -/
def Xf (S : List Nat) (W0 : World) (F : World → Prop) : Type := { W : World // GX S W0 W ∧ F W }
def Xf.w {S : List Nat} {W0 : World} {F : World → Prop} (x : Xf S W0 F) : World := x.1

/-! ### Steps for the walk -/
variable {Q : Exit → Act → World → Prop} {o : Oper} {rest : List Oper} {a : Act}
theorem ww_quiet (rs : List Nat) (F : World → Prop) (hr : (rs.all fun s => decide (s < Ss.length)) = true) (hF : ∀ W, (∀ s ∈ rs, holdsAt W Ss s (cur Ss kl s)) → F W)
    (h : ∃ v : Value, (if Region.wanted o (yielded ops a.tmps) then ∀ x : Xf (Ss.map (·.B)) W0 F, Oper.quietUpon P (fun w'' => Ext x.w w'') x.w v ((execOp a.eval o).run P x.w) else v = undef) ∧ WW P ops Ss W0 Q rest (kl ++ [.quiet v rs]) (a.put o.dst v)) :
    WW P ops Ss W0 Q (o :: rest) kl a := by
  obtain ⟨v, h1, h2⟩ := h
  refine .inr ⟨.quiet v rs, ?_, h2⟩
  simp only [Ob]
  split
  · rename_i hw
    rw [if_pos hw] at h1
    rw [List.all_eq_true] at hr
    exact ⟨fun s hs => of_decide_eq_true (hr s hs), fun W hg hs => h1 ⟨W, hg, hF W hs⟩⟩
  · rename_i hw
    rw [if_neg hw] at h1
    exact h1
theorem ww_store (s B : Nat) (t : TypeId) (c0 c1 : Array Value) (hw : Region.wanted o (yielded ops a.tmps) = true) (hs : s < Ss.length) (hB : slotB Ss s = B) (ht : slotT Ss s = t) (hc : cur Ss kl s = c0)
    (h1 : ∀ x : Xf (Ss.map (·.B)) W0 (fun W => W.heap[B]? = some (.cells c0 t (0, 0))), ∃ W', (execOp a.eval o).run P x.w = .ok .skip W' ∧ Fill x.w B t c1 W')
    (h2 : WW P ops Ss W0 Q rest (kl ++ [.write undef s c1]) (a.put o.dst undef)) : WW P ops Ss W0 Q (o :: rest) kl a := by
  refine .inr ⟨.write undef s c1, ⟨hw, hs, fun W hg hh => ?_⟩, h2⟩
  unfold holdsAt at hh ⊢
  rw [hc, hB, ht] at hh
  rw [hB, ht]
  obtain ⟨W', hr, hf⟩ := h1 ⟨W, hg, hh⟩
  simp only [Xf.w] at hr hf
  rw [hr]
  exact ⟨rfl, hf.grown, hf.blk⟩
theorem ww_call (v : Value) (s B : Nat) (t : TypeId) (c0 c1 : Array Value) (hw : Region.wanted o (yielded ops a.tmps) = true) (hs : s < Ss.length) (hB : slotB Ss s = B) (ht : slotT Ss s = t) (hc : cur Ss kl s = c0)
    (h1 : ∀ x : Xf (Ss.map (·.B)) W0 (fun W => W.heap[B]? = some (.cells c0 t (0, 0))), ∃ f args, (execOp a.eval o).run P x.w = .ok (.enter f args) x.w ∧
      Calls P f args x.w fun e w'' => e = .returned v ∧ x.w.grownBy w'' (some B) ∧ w''.heap[B]? = some (.cells c1 t (0, 0)))
    (h2 : WW P ops Ss W0 Q rest (kl ++ [.write v s c1]) (a.put o.dst v)) : WW P ops Ss W0 Q (o :: rest) kl a := by
  refine .inr ⟨.write v s c1, ⟨hw, hs, fun W hg hh => ?_⟩, h2⟩
  unfold holdsAt at hh ⊢
  rw [hc, hB, ht] at hh
  rw [hB, ht]
  obtain ⟨f, args, hr, hf⟩ := h1 ⟨W, hg, hh⟩
  simp only [Xf.w] at hr hf
  rw [hr]
  exact hf
theorem ww_read (s B : Nat) (t : TypeId) (c : Array Value) (hs : s < Ss.length) (hB : slotB Ss s = B) (ht : slotT Ss s = t) (hc : cur Ss kl s = c)
    (h : (∀ (x : Xf (Ss.map (·.B)) W0 (fun W => W.heap[B]? = some (.cells c t (0, 0)))) (k : Nat), x.w.cell? ⟨B, k, none⟩ = c[k]?) →
      ∃ v : Value, (if Region.wanted o (yielded ops a.tmps) then ∀ x : Xf (Ss.map (·.B)) W0 (fun W => W.heap[B]? = some (.cells c t (0, 0))), Oper.quietUpon P (fun w'' => Ext x.w w'') x.w v ((execOp a.eval o).run P x.w) else v = undef) ∧ WW P ops Ss W0 Q rest (kl ++ [.quiet v [s]]) (a.put o.dst v)) :
    WW P ops Ss W0 Q (o :: rest) kl a := by
  subst hB
  subst ht
  subst hc
  refine ww_quiet [s] _ (by simpa using hs) (fun W hh => hh s (by simp)) (h fun x k => cell_of_row _ _ _ _ _ _ x.2.2)
theorem ww_plain
    (h : ∃ v : Value, (if Region.wanted o (yielded ops a.tmps) then ∀ x : Xf (Ss.map (·.B)) W0 (fun _ => True), Oper.quietUpon P (fun w'' => Ext x.w w'') x.w v ((execOp a.eval o).run P x.w) else v = undef) ∧ WW P ops Ss W0 Q rest (kl ++ [.quiet v []]) (a.put o.dst v)) :
    WW P ops Ss W0 Q (o :: rest) kl a := ww_quiet [] _ rfl (fun _ _ => trivial) h
theorem ww_stop (h1 : wrB ops kl = true) (h2 : tailB ops kl.length = true) {l : List Oper} (h3 : ∀ W, GX (Ss.map (·.B)) W0 W → (∀ s, s < Ss.length → W.heap[slotB Ss s]? = some (.cells (cur Ss kl s) (slotT Ss s) (0, 0))) → wpList P ops Q l a W) : WW P ops Ss W0 Q l kl a := by
  cases l with
  | nil => exact ⟨h1, h2, h3⟩
  | cons o rest => exact .inl ⟨h1, h2, h3⟩
theorem ww_done (h1 : wrB ops kl = true) (h2 : tailB ops kl.length = true) (h3 : ∀ W, GX (Ss.map (·.B)) W0 W → (∀ s, s < Ss.length → W.heap[slotB Ss s]? = some (.cells (cur Ss kl s) (slotT Ss s) (0, 0))) → Q .normal a W) : WW P ops Ss W0 Q [] kl a := ⟨h1, h2, h3⟩
end
end Wr
end Go.Proofs.YtamiploliebplaaDoor
