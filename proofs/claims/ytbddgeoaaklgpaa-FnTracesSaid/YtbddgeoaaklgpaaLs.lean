/- Slices in general: append of a readable slice to one of the call's own. -/
import Derived.Test.YtbddgeoaaklgpaaRow
import Derived.Test.YtbddgeoaaklgpaaMade
import Derived.Laws.OwnMore
import Derived.Laws.AppendOwn
import Derived.Deep.AppendLies
import Derived.Maps.AppendAt
import Derived.Lib.AppendZeros
namespace Go.Proofs.Ytbddgeoaaklgpaa
open Go.RowKit
set_option linter.unusedVariables false
set_option linter.unusedSimpArgs false

/-- what is wanted of an element's type -/
structure Elt (P : Program) (lt e : TypeId) (k bytes : Nat) : Prop where
  ex : ∃ (i : TypeInfo) (z : Value), P.underlying lt = some (.slice e) ∧ P.info? e = some i ∧ i.zero = some z ∧ i.size = k ∧ i.bytes = bytes ∧ z.cells.size = k ∧ 0 < k ∧ bytes ≤ 1000
theorem elt_of {P : Program} {lt e : TypeId} {k bytes : Nat} {z : Value} (h1 : P.underlying lt = some (.slice e)) (h2 : (P.info? e).map (fun i => (i.zero, i.size, i.bytes)) = some (some z, k, bytes)) (h3 : z.cells.size = k) (h4 : 0 < k) (h5 : bytes ≤ 1000) : Elt P lt e k bytes := by
  cases hi : P.info? e with
  | none => rw [hi] at h2; cases h2
  | some i =>
    rw [hi] at h2
    simp only [Option.map_some, Option.some.injEq, Prod.mk.injEq] at h2
    exact ⟨i, z, h1, hi, h2.1, h2.2.1, h2.2.2, h3, h4, h5⟩

theorem il_append (xs ys : List Int) : IL (xs ++ ys) = IL xs ++ IL ys := by simp [IL]
theorem il_one {xs : List Int} : ∀ u ∈ IL xs, u.oneCell' = true := by
  intro u hu
  simp only [IL, List.mem_map] at hu
  obtain ⟨x, _, rfl⟩ := hu
  rfl

section
variable {P : Program} {w : World}
theorem run_append_none (base : Nat) (t ty e : TypeId) (i : TypeInfo) (size c : Nat) (ht : P.underlying t = some (.slice e)) (hi : P.info? e = some i)
    (v : Value) (n : Nat) (xs : List Value) (hown : w.ownsRow base e size v n xs) :
    (Builtin.append_ #[t, t] ty #[v, .slice none 0 c]).run P w = .ok v w := by
  rcases hown.2 with ⟨rfl, rfl⟩ | ⟨g, cap, cur, rfl, _, _, hnc, _⟩
  · simp [Builtin.append_, run_underlying ht, sizeOf, typeInfo, hi, Builtin.lenOf, Builtin.firstCells]
  · simp [Builtin.append_, run_underlying ht, sizeOf, typeInfo, hi, Builtin.lenOf, Builtin.firstCells, hnc, storeCells]

theorem run_append_rv {base : Nat} {lt e : TypeId} {k bytes : Nat} (E : Elt P lt e k bytes) (ty : TypeId) (v : Value) (n : Nat) (xs : List Int) (hown : w.ownsRow base e k v n (IL xs)) (v2 : Value) (m : Nat) (ys : List Int) (hr : RV w k v2 m ys)
    (h63 : n + m ≤ 8000000) (hbase : base ≤ w.heap.size) :
    ∃ v' w', (Builtin.append_ #[lt, lt] ty #[v, v2]).run P w = .ok v' w' ∧ w'.ownsRow base e k v' (n + m) (IL (xs ++ ys)) ∧ w.grownBy w' v.ownBlock ∧ (v' = .slice none 0 0 ↔ v = .slice none 0 0 ∧ m = 0) := by
  obtain ⟨i, z, ht, hi, hz, hs, hb, hzs, hk, hby⟩ := E.ex
  obtain ⟨hl, a, cap, rfl, h1, h2, H⟩ := hr
  have hmul : (n + m) * bytes ≤ 140737488355328 := Nat.le_trans (Nat.mul_le_mul h63 hby) (by decide)
  have hml : n + m ≤ maxLen := by simp only [maxLen]; omega
  cases a with
  | none =>
    have hm : m = 0 := by
      rcases Nat.eq_zero_or_pos m with h | h
      · exact h
      · obtain ⟨_, _, h3, _⟩ := H h; cases h3
    subst hm
    have hy : ys = [] := List.eq_nil_of_length_eq_zero (by omega)
    subst hy
    exact ⟨v, w, run_append_none base lt ty e i k cap ht hi v n _ hown, by simpa using hown, World.grownBy.refl _ _, by simp⟩
  | some ad =>
    have hnews : ∀ j u, (IL ys)[j]? = some u → w.cell? (ad.add j) = some u := by
      intro j u hu
      have hp : 0 < m := by
        rcases Nat.eq_zero_or_pos m with h | h
        · subst h
          have hy : ys = [] := List.eq_nil_of_length_eq_zero (by omega)
          subst hy
          simp [IL] at hu
        · exact h
      obtain ⟨b, off, h3, h4, h5⟩ := H hp
      simp only [Option.some.injEq] at h3
      subst h3
      rw [show (⟨b, off, none⟩ : Addr).add j = ⟨b, off + j, none⟩ by unfold Addr.add; split <;> simp_all]
      exact h5 j u hu
    rw [il_append]
    exact run_append_own (P := P) w base lt ty e i z k bytes ht hi hz hs hb hzs hk v n (IL xs) hown ad m cap (IL ys) (by rw [il_length]; exact hl) hnews il_one hml hmul hbase

theorem wp_append_rv {o : Oper} {a : Act} {K : Act → World → Prop} {Q : Exit → Act → World → Prop} {s x : Operand} {lt e : TypeId} {k bytes base : Nat} (E : Elt P lt e k bytes)
    (ho : o.op = .call { callee := .builtin .append, args := #[s, x], argTypes := #[lt, lt] })
    (v : Value) (n : Nat) (xs : List Int) (hs : a.eval s = v) (hown : w.ownsRow base e k v n (IL xs)) (v2 : Value) (m : Nat) (ys : List Int) (hx : a.eval x = v2) (hr : RV w k v2 m ys)
    (h63 : n + m ≤ 8000000) (hbase : base ≤ w.heap.size)
    (h : ∀ v' w', w'.ownsRow base e k v' (n + m) (IL (xs ++ ys)) → w.grownBy w' v.ownBlock → (v' = .slice none 0 0 ↔ v = .slice none 0 0 ∧ m = 0) → K (a.put o.dst v') w') : o.wp P a w K Q := by
  obtain ⟨v', w', hrun, h2, h3, h4⟩ := run_append_rv E o.type v n xs hown v2 m ys hr h63 hbase
  unfold Oper.wp execOp
  simp only [ho, resolve, invoke, builtin, Sem.run_bind, Sem.run_pure, Result.andThen_ok, List.map_toArray, List.map_cons, List.map_nil, hs, hx, hrun]
  exact h v' w' h2 h3 h4

theorem wpList_append_rv {ops : Array Oper} {rest : List Oper} {o : Oper} {a : Act} {Q : Exit → Act → World → Prop} (hgd : o.guard = none) {s x : Operand} {lt e : TypeId} {k bytes base : Nat} (E : Elt P lt e k bytes)
    (ho : o.op = .call { callee := .builtin .append, args := #[s, x], argTypes := #[lt, lt] })
    (v : Value) (n : Nat) (xs : List Int) (hs : a.eval s = v) (hown : w.ownsRow base e k v n (IL xs)) (v2 : Value) (m : Nat) (ys : List Int) (hx : a.eval x = v2) (hr : RV w k v2 m ys)
    (h63 : n + m ≤ 8000000) (hbase : base ≤ w.heap.size)
    (h : ∀ v' w', w'.ownsRow base e k v' (n + m) (IL (xs ++ ys)) → w.grownBy w' v.ownBlock → (v' = .slice none 0 0 ↔ v = .slice none 0 0 ∧ m = 0) → wpList P ops Q rest (a.put o.dst v') w') : wpList P ops Q (o :: rest) a w :=
  wpList_plain hgd fun _ hK => wp_append_rv E ho v n xs hs hown v2 m ys hx hr h63 hbase fun v' w' h2 h3 h4 => hK _ _ (h v' w' h2 h3 h4)

theorem step_append_rv {ops : Array Oper} {o : Oper} {a : Act} {K : Act → World → Prop} {Q : Exit → Act → World → Prop} {R : Prop} (hgd : o.guard = none) {s x : Operand} {lt e : TypeId} {k bytes base : Nat} (E : Elt P lt e k bytes)
    (ho : o.op = .call { callee := .builtin .append, args := #[s, x], argTypes := #[lt, lt] })
    (v : Value) (n : Nat) (xs : List Int) (hs : a.eval s = v) (hown : w.ownsRow base e k v n (IL xs)) (v2 : Value) (m : Nat) (ys : List Int) (hx : a.eval x = v2) (hr : RV w k v2 m ys)
    (h63 : n + m ≤ 8000000) (hbase : base ≤ w.heap.size)
    (h : ∀ v' w', w'.ownsRow base e k v' (n + m) (IL (xs ++ ys)) → w.grownBy w' v.ownBlock → (v' = .slice none 0 0 ↔ v = .slice none 0 0 ∧ m = 0) → K (a.put o.dst v') w') :
    if Region.wanted o (yielded ops a.tmps) = true then Oper.wp P o a w K Q else R := by
  have hw : Region.wanted o (yielded ops a.tmps) = true := by simp [Region.wanted, hgd]
  rw [if_pos hw]
  exact wp_append_rv E ho v n xs hs hown v2 m ys hx hr h63 hbase h
end

/-- a block known whole, as a slice -/
theorem rv_heap {w : World} {B k n cap : Nat} {t : TypeId} {cs : Array Value} {fr : Nat × Nat} {xs : List Int} (h : w.heap[B]? = some (.cells cs t fr)) (hc : cs.toList = IL xs) (hl : xs.length = n * k) (h1 : n ≤ cap) (h2 : cap ≤ maxLen) : RV w k (.slice (some ⟨B, 0, none⟩) n cap) n xs := by
  refine ⟨hl, _, cap, rfl, h1, h2, fun _ => ⟨B, 0, rfl, (Array.getElem?_eq_some_iff.1 h).1, fun j u hu => ?_⟩⟩
  rw [Nat.zero_add, cell_of_row _ _ _ _ _ _ h, ← Array.getElem?_toList, hc]
  exact hu
/-- what a readable slice's element holds -/
theorem RV.at {w w' : World} {k n : Nat} {a : Option Addr} {cap : Nat} {xs : List Int} (h : RV w k (.slice a n cap) n xs) (hn : 0 < n) : ∃ b off, a = some ⟨b, off, none⟩ ∧ b < w.heap.size := by
  obtain ⟨_, a', c', h1, _, _, H⟩ := h
  simp only [Value.slice.injEq] at h1
  obtain ⟨b, off, h2, h3, _⟩ := H hn
  exact ⟨b, off, h1.1.trans h2, h3⟩

theorem own_gxl {S : List Nat} {w w' : World} {base : Nat} {e : TypeId} {size : Nat} {v : Value} {n : Nat} {xs : List Value} (h : w.ownsRow base e size v n xs) (hg : GX S w w') (hS : ∀ k, k ∈ S → k < base ∨ w.heap.size ≤ k) : w'.ownsRow base e size v n xs := by
  refine ⟨h.1, ?_⟩
  rcases h.2 with hn | ⟨g, cap, cur, hv, hb, hh, r⟩
  · exact .inl hn
  · have hl := (Array.getElem?_eq_some_iff.1 hh).1
    exact .inr ⟨g, cap, cur, hv, hb, (hg.heap hl (fun hm => by have := hS g hm; omega)).trans hh, r⟩
/-- a block that is not the row's is as it was -/
theorem heap_grown {w w' : World} {row : Option Nat} {k : Nat} {o : Obj} (hg : w.grownBy w' row) (h : w.heap[k]? = some o) (hne : some k ≠ row) : w'.heap[k]? = some o :=
  (hg.block k (Array.getElem?_eq_some_iff.1 h).1 hne).trans h
/-- so is one below the row's base -/
theorem heap_grownB {w w' : World} {base : Nat} {e : TypeId} {size : Nat} {v : Value} {n k : Nat} {xs : List Value} {o : Obj} (hg : w.grownBy w' v.ownBlock) (ho : w.ownsRow base e size v n xs) (hk : k < base) (h : w.heap[k]? = some o) : w'.heap[k]? = some o :=
  heap_grown hg h (fun e => by have := (ho.lt k e.symm).1; omega)
theorem ext_grownB {w0 w w' : World} {base : Nat} {e : TypeId} {size : Nat} {v : Value} {n : Nat} {xs : List Value} (h0 : Ext w0 w) (hg : w.grownBy w' v.ownBlock) (ho : w.ownsRow base e size v n xs) (hk : w0.heap.size ≤ base) : Ext w0 w' :=
  Ext.grown h0 hg (fun k e => by have := (ho.lt k e).1; omega)


open Go.RowKit
set_option linter.unusedVariables false
set_option linter.unusedSimpArgs false

section
variable {P : Program} {w : World}
theorem run_append_rvt {base : Nat} {lt e : TypeId} {k bytes : Nat} (E : Elt P lt e k bytes) (ty : TypeId) (v : Value) (n : Nat) (xs : List Int) (hown : w.ownsRow base e k v n (IL xs)) (v2 : Value) (m : Nat) (ys : List Int) (hr : RV w k v2 m ys)
    (h63 : n + m ≤ 8000000) (hbase : base ≤ w.heap.size) :
    ∃ v' w', (Builtin.append_ #[lt, lt] ty #[v, v2]).run P w = .ok v' w' ∧ w'.ownsRow base e k v' (n + m) (IL (xs ++ ys)) ∧ w.grownBy w' v.ownBlock ∧ (v' = .slice none 0 0 ↔ v = .slice none 0 0 ∧ m = 0) ∧ (v'.ownBlock = v.ownBlock ∨ v'.ownBlock = some w.heap.size) := by
  obtain ⟨i, z, ht, hi, hz, hs, hb, hzs, hk, hby⟩ := E.ex
  obtain ⟨hl, a, cap, rfl, h1, h2, H⟩ := hr
  have hmul : (n + m) * bytes ≤ 140737488355328 := Nat.le_trans (Nat.mul_le_mul h63 hby) (by decide)
  have hml : n + m ≤ maxLen := by simp only [maxLen]; omega
  cases a with
  | none =>
    have hm : m = 0 := by
      rcases Nat.eq_zero_or_pos m with h | h
      · exact h
      · obtain ⟨_, _, h3, _⟩ := H h; cases h3
    subst hm
    have hy : ys = [] := List.eq_nil_of_length_eq_zero (by omega)
    subst hy
    exact ⟨v, w, run_append_none base lt ty e i k cap ht hi v n _ hown, by simpa using hown, World.grownBy.refl _ _, by simp, .inl rfl⟩
  | some ad =>
    have hnews : ∀ j u, (IL ys)[j]? = some u → w.cell? (ad.add j) = some u := by
      intro j u hu
      have hp : 0 < m := by
        rcases Nat.eq_zero_or_pos m with h | h
        · subst h
          have hy : ys = [] := List.eq_nil_of_length_eq_zero (by omega)
          subst hy
          simp [IL] at hu
        · exact h
      obtain ⟨b, off, h3, h4, h5⟩ := H hp
      simp only [Option.some.injEq] at h3
      subst h3
      rw [show (⟨b, off, none⟩ : Addr).add j = ⟨b, off + j, none⟩ by unfold Addr.add; split <;> simp_all]
      exact h5 j u hu
    rw [il_append]
    exact run_append_own_at (P := P) w base lt ty e i z k bytes ht hi hz hs hb hzs hk v n (IL xs) hown ad m cap (IL ys) (by rw [il_length]; exact hl) hnews il_one hml hmul hbase

theorem wp_append_rvt {o : Oper} {a : Act} {K : Act → World → Prop} {Q : Exit → Act → World → Prop} {s x : Operand} {lt e : TypeId} {k bytes base : Nat} (E : Elt P lt e k bytes)
    (ho : o.op = .call { callee := .builtin .append, args := #[s, x], argTypes := #[lt, lt] })
    (v : Value) (n : Nat) (xs : List Int) (hs : a.eval s = v) (hown : w.ownsRow base e k v n (IL xs)) (v2 : Value) (m : Nat) (ys : List Int) (hx : a.eval x = v2) (hr : RV w k v2 m ys)
    (h63 : n + m ≤ 8000000) (hbase : base ≤ w.heap.size)
    (h : ∀ v' w', w'.ownsRow base e k v' (n + m) (IL (xs ++ ys)) → w.grownBy w' v.ownBlock → (v' = .slice none 0 0 ↔ v = .slice none 0 0 ∧ m = 0) → (v'.ownBlock = v.ownBlock ∨ v'.ownBlock = some w.heap.size) → K (a.put o.dst v') w') : o.wp P a w K Q := by
  obtain ⟨v', w', hrun, h2, h3, h4, h5⟩ := run_append_rvt E o.type v n xs hown v2 m ys hr h63 hbase
  unfold Oper.wp execOp
  simp only [ho, resolve, invoke, builtin, Sem.run_bind, Sem.run_pure, Result.andThen_ok, List.map_toArray, List.map_cons, List.map_nil, hs, hx, hrun]
  exact h v' w' h2 h3 h4 h5

theorem wpList_append_rvt {ops : Array Oper} {rest : List Oper} {o : Oper} {a : Act} {Q : Exit → Act → World → Prop} (hgd : o.guard = none) {s x : Operand} {lt e : TypeId} {k bytes base : Nat} (E : Elt P lt e k bytes)
    (ho : o.op = .call { callee := .builtin .append, args := #[s, x], argTypes := #[lt, lt] })
    (v : Value) (n : Nat) (xs : List Int) (hs : a.eval s = v) (hown : w.ownsRow base e k v n (IL xs)) (v2 : Value) (m : Nat) (ys : List Int) (hx : a.eval x = v2) (hr : RV w k v2 m ys)
    (h63 : n + m ≤ 8000000) (hbase : base ≤ w.heap.size)
    (h : ∀ v' w', w'.ownsRow base e k v' (n + m) (IL (xs ++ ys)) → w.grownBy w' v.ownBlock → (v' = .slice none 0 0 ↔ v = .slice none 0 0 ∧ m = 0) → (v'.ownBlock = v.ownBlock ∨ v'.ownBlock = some w.heap.size) → wpList P ops Q rest (a.put o.dst v') w') : wpList P ops Q (o :: rest) a w :=
  wpList_plain hgd fun _ hK => wp_append_rvt E ho v n xs hs hown v2 m ys hx hr h63 hbase fun v' w' h2 h3 h4 h5 => hK _ _ (h v' w' h2 h3 h4 h5)

theorem step_append_rvt {ops : Array Oper} {o : Oper} {a : Act} {K : Act → World → Prop} {Q : Exit → Act → World → Prop} {R : Prop} (hgd : o.guard = none) {s x : Operand} {lt e : TypeId} {k bytes base : Nat} (E : Elt P lt e k bytes)
    (ho : o.op = .call { callee := .builtin .append, args := #[s, x], argTypes := #[lt, lt] })
    (v : Value) (n : Nat) (xs : List Int) (hs : a.eval s = v) (hown : w.ownsRow base e k v n (IL xs)) (v2 : Value) (m : Nat) (ys : List Int) (hx : a.eval x = v2) (hr : RV w k v2 m ys)
    (h63 : n + m ≤ 8000000) (hbase : base ≤ w.heap.size)
    (h : ∀ v' w', w'.ownsRow base e k v' (n + m) (IL (xs ++ ys)) → w.grownBy w' v.ownBlock → (v' = .slice none 0 0 ↔ v = .slice none 0 0 ∧ m = 0) → (v'.ownBlock = v.ownBlock ∨ v'.ownBlock = some w.heap.size) → K (a.put o.dst v') w') :
    if Region.wanted o (yielded ops a.tmps) = true then Oper.wp P o a w K Q else R := by
  have hw : Region.wanted o (yielded ops a.tmps) = true := by simp [Region.wanted, hgd]
  rw [if_pos hw]
  exact wp_append_rvt E ho v n xs hs hown v2 m ys hx hr h63 hbase h
end



open Go.RowKit
set_option linter.unusedVariables false
set_option linter.unusedSimpArgs false

/-- v is a slice of m elements of k cells, which hold ys -/
def RVV (w : World) (k : Nat) (v : Value) (m : Nat) (ys : List Value) : Prop :=
  ys.length = m * k ∧ (∀ u ∈ ys, u.oneCell' = true) ∧ ∃ (a : Option Addr) (cap : Nat), v = .slice a m cap ∧ (0 < m → ∃ b off, a = some ⟨b, off, none⟩ ∧ ∀ j u, ys[j]? = some u → w.cell? ⟨b, off + j, none⟩ = some u)
theorem RVV.ofOwn {w : World} {base : Nat} {e : TypeId} {k : Nat} {v : Value} {m : Nat} {ys : List Value} (h : w.ownsRow base e k v m ys) (hl : ys.length = m * k) (h1 : ∀ u ∈ ys, u.oneCell' = true) : RVV w k v m ys := by
  obtain ⟨a, cap, rfl, _, _, H⟩ := own_shape h
  refine ⟨hl, h1, a, cap, rfl, fun hp => ?_⟩
  obtain ⟨g, e1, _, _, e3, _⟩ := H hp
  exact ⟨g, 0, e1, fun j u hu => by rw [Nat.zero_add]; exact e3 j u hu⟩
theorem RVV.ofHeap {w : World} {B k m cap : Nat} {t : TypeId} {cs : Array Value} {fr : Nat × Nat} {ys : List Value} (h : w.heap[B]? = some (.cells cs t fr)) (hc : cs.toList = ys) (hl : ys.length = m * k) (h1 : ∀ u ∈ ys, u.oneCell' = true) : RVV w k (.slice (some ⟨B, 0, none⟩) m cap) m ys := by
  refine ⟨hl, h1, _, cap, rfl, fun _ => ⟨B, 0, rfl, fun j u hu => ?_⟩⟩
  rw [Nat.zero_add, cell_of_row _ _ _ _ _ _ h, ← Array.getElem?_toList, hc]
  exact hu

section
variable {P : Program} {w : World}
theorem run_append_val {base : Nat} {lt e : TypeId} {k bytes : Nat} (E : Elt P lt e k bytes) (ty : TypeId) (v : Value) (n : Nat) (xs : List Value) (hown : w.ownsRow base e k v n xs) (v2 : Value) (m : Nat) (ys : List Value) (hr : RVV w k v2 m ys)
    (h63 : n + m ≤ 8000000) (hbase : base ≤ w.heap.size) :
    ∃ v' w', (Builtin.append_ #[lt, lt] ty #[v, v2]).run P w = .ok v' w' ∧ w'.ownsRow base e k v' (n + m) (xs ++ ys) ∧ w.grownBy w' v.ownBlock ∧ (v' = .slice none 0 0 ↔ v = .slice none 0 0 ∧ m = 0) ∧ (v'.ownBlock = v.ownBlock ∨ v'.ownBlock = some w.heap.size) := by
  obtain ⟨i, z, ht, hi, hz, hs, hb, hzs, hk, hby⟩ := E.ex
  obtain ⟨hl, h1c, a, cap, rfl, H⟩ := hr
  have hmul : (n + m) * bytes ≤ 140737488355328 := Nat.le_trans (Nat.mul_le_mul h63 hby) (by decide)
  have hml : n + m ≤ maxLen := by simp only [maxLen]; omega
  cases a with
  | none =>
    have hm : m = 0 := by
      rcases Nat.eq_zero_or_pos m with h | h
      · exact h
      · obtain ⟨_, _, h3, _⟩ := H h; cases h3
    subst hm
    have hy : ys = [] := List.eq_nil_of_length_eq_zero (by omega)
    subst hy
    exact ⟨v, w, run_append_none base lt ty e i k cap ht hi v n _ hown, by simpa using hown, World.grownBy.refl _ _, by simp, .inl rfl⟩
  | some ad =>
    have hnews : ∀ j u, ys[j]? = some u → w.cell? (ad.add j) = some u := by
      intro j u hu
      have hp : 0 < m := by
        rcases Nat.eq_zero_or_pos m with h | h
        · subst h
          have hy : ys = [] := List.eq_nil_of_length_eq_zero (by omega)
          subst hy
          simp at hu
        · exact h
      obtain ⟨b, off, h3, h5⟩ := H hp
      simp only [Option.some.injEq] at h3
      subst h3
      rw [show (⟨b, off, none⟩ : Addr).add j = ⟨b, off + j, none⟩ by unfold Addr.add; split <;> simp_all]
      exact h5 j u hu
    exact run_append_own_at (P := P) w base lt ty e i z k bytes ht hi hz hs hb hzs hk v n xs hown ad m cap ys hl hnews h1c hml hmul hbase

theorem wp_append_val {o : Oper} {a : Act} {K : Act → World → Prop} {Q : Exit → Act → World → Prop} {s x : Operand} {lt e : TypeId} {k bytes base : Nat} (E : Elt P lt e k bytes)
    (ho : o.op = .call { callee := .builtin .append, args := #[s, x], argTypes := #[lt, lt] })
    (v : Value) (n : Nat) (xs : List Value) (hs : a.eval s = v) (hown : w.ownsRow base e k v n xs) (v2 : Value) (m : Nat) (ys : List Value) (hx : a.eval x = v2) (hr : RVV w k v2 m ys)
    (h63 : n + m ≤ 8000000) (hbase : base ≤ w.heap.size)
    (h : ∀ v' w', w'.ownsRow base e k v' (n + m) (xs ++ ys) → w.grownBy w' v.ownBlock → (v' = .slice none 0 0 ↔ v = .slice none 0 0 ∧ m = 0) → (v'.ownBlock = v.ownBlock ∨ v'.ownBlock = some w.heap.size) → K (a.put o.dst v') w') : o.wp P a w K Q := by
  obtain ⟨v', w', hrun, h2, h3, h4, h5⟩ := run_append_val E o.type v n xs hown v2 m ys hr h63 hbase
  unfold Oper.wp execOp
  simp only [ho, resolve, invoke, builtin, Sem.run_bind, Sem.run_pure, Result.andThen_ok, List.map_toArray, List.map_cons, List.map_nil, hs, hx, hrun]
  exact h v' w' h2 h3 h4 h5

theorem wpList_append_val {ops : Array Oper} {rest : List Oper} {o : Oper} {a : Act} {Q : Exit → Act → World → Prop} (hgd : o.guard = none) {s x : Operand} {lt e : TypeId} {k bytes base : Nat} (E : Elt P lt e k bytes)
    (ho : o.op = .call { callee := .builtin .append, args := #[s, x], argTypes := #[lt, lt] })
    (v : Value) (n : Nat) (xs : List Value) (hs : a.eval s = v) (hown : w.ownsRow base e k v n xs) (v2 : Value) (m : Nat) (ys : List Value) (hx : a.eval x = v2) (hr : RVV w k v2 m ys)
    (h63 : n + m ≤ 8000000) (hbase : base ≤ w.heap.size)
    (h : ∀ v' w', w'.ownsRow base e k v' (n + m) (xs ++ ys) → w.grownBy w' v.ownBlock → (v' = .slice none 0 0 ↔ v = .slice none 0 0 ∧ m = 0) → (v'.ownBlock = v.ownBlock ∨ v'.ownBlock = some w.heap.size) → wpList P ops Q rest (a.put o.dst v') w') : wpList P ops Q (o :: rest) a w :=
  wpList_plain hgd fun _ hK => wp_append_val E ho v n xs hs hown v2 m ys hx hr h63 hbase fun v' w' h2 h3 h4 h5 => hK _ _ (h v' w' h2 h3 h4 h5)
theorem step_append_val {ops : Array Oper} {o : Oper} {a : Act} {K : Act → World → Prop} {Q : Exit → Act → World → Prop} {R : Prop} (hgd : o.guard = none) {s x : Operand} {lt e : TypeId} {k bytes base : Nat} (E : Elt P lt e k bytes)
    (ho : o.op = .call { callee := .builtin .append, args := #[s, x], argTypes := #[lt, lt] })
    (v : Value) (n : Nat) (xs : List Value) (hs : a.eval s = v) (hown : w.ownsRow base e k v n xs) (v2 : Value) (m : Nat) (ys : List Value) (hx : a.eval x = v2) (hr : RVV w k v2 m ys)
    (h63 : n + m ≤ 8000000) (hbase : base ≤ w.heap.size)
    (h : ∀ v' w', w'.ownsRow base e k v' (n + m) (xs ++ ys) → w.grownBy w' v.ownBlock → (v' = .slice none 0 0 ↔ v = .slice none 0 0 ∧ m = 0) → (v'.ownBlock = v.ownBlock ∨ v'.ownBlock = some w.heap.size) → K (a.put o.dst v') w') :
    if Region.wanted o (yielded ops a.tmps) = true then Oper.wp P o a w K Q else R := by
  have hw : Region.wanted o (yielded ops a.tmps) = true := by simp [Region.wanted, hgd]
  rw [if_pos hw]
  exact wp_append_val E ho v n xs hs hown v2 m ys hx hr h63 hbase h
end


open Go.RowKit Go.Lib
set_option linter.unusedVariables false
set_option linter.unusedSimpArgs false

/-- sums and joins of the first -/
def sumN (N : Nat → Nat) : Nat → Nat
  | 0 => 0
  | n + 1 => sumN N n + N n
def catX (X : Nat → List Int) : Nat → List Int
  | 0 => []
  | n + 1 => catX X n ++ X n
theorem sumN_le {N : Nat → Nat} {c : Nat} : ∀ {n : Nat}, (∀ i, i < n → N i ≤ c) → sumN N n ≤ n * c
  | 0, _ => by simp [sumN]
  | n + 1, h => by
    have h1 := sumN_le (n := n) (fun i hi => h i (by omega))
    have h2 := h n (by omega)
    unfold sumN
    rw [Nat.succ_mul]
    omega

theorem elt_CG : Elt Try.prog 23 47 3 24 := elt_of (z := .agg #[.int .i64 0, .int .i64 0, .int .i64 0]) Try.underlying23 (by kernel_rfl) rfl (by decide) (by decide)

theorem own_room {w : World} {e : TypeId} {k cap : Nat} {cs : Array Value} (hm : cap ≤ maxLen) (hs : cs.size = cap * k) : (w.alloc (.cells cs e)).ownsRow w.heap.size e k (.slice (some ⟨w.heap.size, 0, none⟩) 0 cap) 0 [] :=
  ⟨by simp, .inr ⟨w.heap.size, cap, cs, rfl, Nat.le_refl _, heap_alloc_new w _, Nat.zero_le _, hm, hs, by simp⟩⟩

end Go.Proofs.Ytbddgeoaaklgpaa
