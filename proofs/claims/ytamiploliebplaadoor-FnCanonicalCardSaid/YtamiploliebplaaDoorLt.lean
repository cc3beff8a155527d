/- Slices in general: append, and where the result lies. -/
import Derived.Test.YtamiploliebplaaDoorLs
import Derived.Maps.AppendAt
namespace Go.Proofs.YtamiploliebplaaDoor
open Go.RowKit
set_option linter.unusedVariables false
set_option linter.unusedSimpArgs false

section
variable {P : Program} {w : World}
theorem run_append_rvt {base : Nat} {lt e : TypeId} {k bytes : Nat} (E : Elt P lt e k bytes) (ty : TypeId) (v : Value) (n : Nat) (xs : List Int) (hown : w.ownsRow base e k v n (IL xs)) (v2 : Value) (m : Nat) (ys : List Int) (hr : RV w k v2 m ys)
    (h63 : n + m ≤ 8000000) (hbase : base ≤ w.heap.size) :
    ∃ v' w', (Builtin.append_ #[lt, lt] ty #[v, v2]).run P w = .ok v' w' ∧ w'.ownsRow base e k v' (n + m) (IL (xs ++ ys)) ∧ w.grownBy w' v.ownBlock ∧ (v' = .slice none 0 0 ↔ v = .slice none 0 0 ∧ m = 0) ∧ (v'.ownBlock = v.ownBlock ∨ v'.ownBlock = some w.heap.size) := by
  obtain ⟨i, z, ht, hi, hz, hs, hb, hzs, hk, hby⟩ := E.ex
  obtain ⟨hl, a, cap, rfl, h1, h2, H⟩ := hr
  have hmul : (n + m) * bytes ≤ 140737488355328 := Nat.le_trans (Nat.mul_le_mul h63 hby) (by decide)
  have hml : n + m ≤ maxLen := by simp only [maxLen]; omega
  cases a with
  | none =>
    have hm : m = 0 := by
      rcases Nat.eq_zero_or_pos m with h | h
      · exact h
      · obtain ⟨_, _, h3, _⟩ := H h; cases h3
    subst hm
    have hy : ys = [] := List.eq_nil_of_length_eq_zero (by omega)
    subst hy
    exact ⟨v, w, run_append_none base lt ty e i k cap ht hi v n _ hown, by simpa using hown, World.grownBy.refl _ _, by simp, .inl rfl⟩
  | some ad =>
    have hnews : ∀ j u, (IL ys)[j]? = some u → w.cell? (ad.add j) = some u := by
      intro j u hu
      have hp : 0 < m := by
        rcases Nat.eq_zero_or_pos m with h | h
        · subst h
          have hy : ys = [] := List.eq_nil_of_length_eq_zero (by omega)
          subst hy
          simp [IL] at hu
        · exact h
      obtain ⟨b, off, h3, h4, h5⟩ := H hp
      simp only [Option.some.injEq] at h3
      subst h3
      rw [show (⟨b, off, none⟩ : Addr).add j = ⟨b, off + j, none⟩ by unfold Addr.add; split <;> simp_all]
      exact h5 j u hu
    rw [il_append]
    exact run_append_own_at (P := P) w base lt ty e i z k bytes ht hi hz hs hb hzs hk v n (IL xs) hown ad m cap (IL ys) (by rw [il_length]; exact hl) hnews il_one hml hmul hbase

theorem wp_append_rvt {o : Oper} {a : Act} {K : Act → World → Prop} {Q : Exit → Act → World → Prop} {s x : Operand} {lt e : TypeId} {k bytes base : Nat} (E : Elt P lt e k bytes)
    (ho : o.op = .call { callee := .builtin .append, args := #[s, x], argTypes := #[lt, lt] })
    (v : Value) (n : Nat) (xs : List Int) (hs : a.eval s = v) (hown : w.ownsRow base e k v n (IL xs)) (v2 : Value) (m : Nat) (ys : List Int) (hx : a.eval x = v2) (hr : RV w k v2 m ys)
    (h63 : n + m ≤ 8000000) (hbase : base ≤ w.heap.size)
    (h : ∀ v' w', w'.ownsRow base e k v' (n + m) (IL (xs ++ ys)) → w.grownBy w' v.ownBlock → (v' = .slice none 0 0 ↔ v = .slice none 0 0 ∧ m = 0) → (v'.ownBlock = v.ownBlock ∨ v'.ownBlock = some w.heap.size) → K (a.put o.dst v') w') : o.wp P a w K Q := by
  obtain ⟨v', w', hrun, h2, h3, h4, h5⟩ := run_append_rvt E o.type v n xs hown v2 m ys hr h63 hbase
  unfold Oper.wp execOp
  simp only [ho, resolve, invoke, builtin, Sem.run_bind, Sem.run_pure, Result.andThen_ok, List.map_toArray, List.map_cons, List.map_nil, hs, hx, hrun]
  exact h v' w' h2 h3 h4 h5

theorem wpList_append_rvt {ops : Array Oper} {rest : List Oper} {o : Oper} {a : Act} {Q : Exit → Act → World → Prop} (hgd : o.guard = none) {s x : Operand} {lt e : TypeId} {k bytes base : Nat} (E : Elt P lt e k bytes)
    (ho : o.op = .call { callee := .builtin .append, args := #[s, x], argTypes := #[lt, lt] })
    (v : Value) (n : Nat) (xs : List Int) (hs : a.eval s = v) (hown : w.ownsRow base e k v n (IL xs)) (v2 : Value) (m : Nat) (ys : List Int) (hx : a.eval x = v2) (hr : RV w k v2 m ys)
    (h63 : n + m ≤ 8000000) (hbase : base ≤ w.heap.size)
    (h : ∀ v' w', w'.ownsRow base e k v' (n + m) (IL (xs ++ ys)) → w.grownBy w' v.ownBlock → (v' = .slice none 0 0 ↔ v = .slice none 0 0 ∧ m = 0) → (v'.ownBlock = v.ownBlock ∨ v'.ownBlock = some w.heap.size) → wpList P ops Q rest (a.put o.dst v') w') : wpList P ops Q (o :: rest) a w :=
  wpList_plain hgd fun _ hK => wp_append_rvt E ho v n xs hs hown v2 m ys hx hr h63 hbase fun v' w' h2 h3 h4 h5 => hK _ _ (h v' w' h2 h3 h4 h5)

theorem step_append_rvt {ops : Array Oper} {o : Oper} {a : Act} {K : Act → World → Prop} {Q : Exit → Act → World → Prop} {R : Prop} (hgd : o.guard = none) {s x : Operand} {lt e : TypeId} {k bytes base : Nat} (E : Elt P lt e k bytes)
    (ho : o.op = .call { callee := .builtin .append, args := #[s, x], argTypes := #[lt, lt] })
    (v : Value) (n : Nat) (xs : List Int) (hs : a.eval s = v) (hown : w.ownsRow base e k v n (IL xs)) (v2 : Value) (m : Nat) (ys : List Int) (hx : a.eval x = v2) (hr : RV w k v2 m ys)
    (h63 : n + m ≤ 8000000) (hbase : base ≤ w.heap.size)
    (h : ∀ v' w', w'.ownsRow base e k v' (n + m) (IL (xs ++ ys)) → w.grownBy w' v.ownBlock → (v' = .slice none 0 0 ↔ v = .slice none 0 0 ∧ m = 0) → (v'.ownBlock = v.ownBlock ∨ v'.ownBlock = some w.heap.size) → K (a.put o.dst v') w') :
    if Region.wanted o (yielded ops a.tmps) = true then Oper.wp P o a w K Q else R := by
  have hw : Region.wanted o (yielded ops a.tmps) = true := by simp [Region.wanted, hgd]
  rw [if_pos hw]
  exact wp_append_rvt E ho v n xs hs hown v2 m ys hx hr h63 hbase h
end



open Go.RowKit
set_option linter.unusedVariables false
set_option linter.unusedSimpArgs false

/-- v is a slice of m elements of k cells, which hold ys -/
def RVV (w : World) (k : Nat) (v : Value) (m : Nat) (ys : List Value) : Prop :=
  ys.length = m * k ∧ (∀ u ∈ ys, u.oneCell' = true) ∧ ∃ (a : Option Addr) (cap : Nat), v = .slice a m cap ∧ (0 < m → ∃ b off, a = some ⟨b, off, none⟩ ∧ ∀ j u, ys[j]? = some u → w.cell? ⟨b, off + j, none⟩ = some u)
theorem RVV.ofOwn {w : World} {base : Nat} {e : TypeId} {k : Nat} {v : Value} {m : Nat} {ys : List Value} (h : w.ownsRow base e k v m ys) (hl : ys.length = m * k) (h1 : ∀ u ∈ ys, u.oneCell' = true) : RVV w k v m ys := by
  obtain ⟨a, cap, rfl, _, _, H⟩ := own_shape h
  refine ⟨hl, h1, a, cap, rfl, fun hp => ?_⟩
  obtain ⟨g, e1, _, _, e3, _⟩ := H hp
  exact ⟨g, 0, e1, fun j u hu => by rw [Nat.zero_add]; exact e3 j u hu⟩
theorem RVV.ofHeap {w : World} {B k m cap : Nat} {t : TypeId} {cs : Array Value} {fr : Nat × Nat} {ys : List Value} (h : w.heap[B]? = some (.cells cs t fr)) (hc : cs.toList = ys) (hl : ys.length = m * k) (h1 : ∀ u ∈ ys, u.oneCell' = true) : RVV w k (.slice (some ⟨B, 0, none⟩) m cap) m ys := by
  refine ⟨hl, h1, _, cap, rfl, fun _ => ⟨B, 0, rfl, fun j u hu => ?_⟩⟩
  rw [Nat.zero_add, cell_of_row _ _ _ _ _ _ h, ← Array.getElem?_toList, hc]
  exact hu

section
variable {P : Program} {w : World}
theorem run_append_val {base : Nat} {lt e : TypeId} {k bytes : Nat} (E : Elt P lt e k bytes) (ty : TypeId) (v : Value) (n : Nat) (xs : List Value) (hown : w.ownsRow base e k v n xs) (v2 : Value) (m : Nat) (ys : List Value) (hr : RVV w k v2 m ys)
    (h63 : n + m ≤ 8000000) (hbase : base ≤ w.heap.size) :
    ∃ v' w', (Builtin.append_ #[lt, lt] ty #[v, v2]).run P w = .ok v' w' ∧ w'.ownsRow base e k v' (n + m) (xs ++ ys) ∧ w.grownBy w' v.ownBlock ∧ (v' = .slice none 0 0 ↔ v = .slice none 0 0 ∧ m = 0) ∧ (v'.ownBlock = v.ownBlock ∨ v'.ownBlock = some w.heap.size) := by
  obtain ⟨i, z, ht, hi, hz, hs, hb, hzs, hk, hby⟩ := E.ex
  obtain ⟨hl, h1c, a, cap, rfl, H⟩ := hr
  have hmul : (n + m) * bytes ≤ 140737488355328 := Nat.le_trans (Nat.mul_le_mul h63 hby) (by decide)
  have hml : n + m ≤ maxLen := by simp only [maxLen]; omega
  cases a with
  | none =>
    have hm : m = 0 := by
      rcases Nat.eq_zero_or_pos m with h | h
      · exact h
      · obtain ⟨_, _, h3, _⟩ := H h; cases h3
    subst hm
    have hy : ys = [] := List.eq_nil_of_length_eq_zero (by omega)
    subst hy
    exact ⟨v, w, run_append_none base lt ty e i k cap ht hi v n _ hown, by simpa using hown, World.grownBy.refl _ _, by simp, .inl rfl⟩
  | some ad =>
    have hnews : ∀ j u, ys[j]? = some u → w.cell? (ad.add j) = some u := by
      intro j u hu
      have hp : 0 < m := by
        rcases Nat.eq_zero_or_pos m with h | h
        · subst h
          have hy : ys = [] := List.eq_nil_of_length_eq_zero (by omega)
          subst hy
          simp at hu
        · exact h
      obtain ⟨b, off, h3, h5⟩ := H hp
      simp only [Option.some.injEq] at h3
      subst h3
      rw [show (⟨b, off, none⟩ : Addr).add j = ⟨b, off + j, none⟩ by unfold Addr.add; split <;> simp_all]
      exact h5 j u hu
    exact run_append_own_at (P := P) w base lt ty e i z k bytes ht hi hz hs hb hzs hk v n xs hown ad m cap ys hl hnews h1c hml hmul hbase

theorem wp_append_val {o : Oper} {a : Act} {K : Act → World → Prop} {Q : Exit → Act → World → Prop} {s x : Operand} {lt e : TypeId} {k bytes base : Nat} (E : Elt P lt e k bytes)
    (ho : o.op = .call { callee := .builtin .append, args := #[s, x], argTypes := #[lt, lt] })
    (v : Value) (n : Nat) (xs : List Value) (hs : a.eval s = v) (hown : w.ownsRow base e k v n xs) (v2 : Value) (m : Nat) (ys : List Value) (hx : a.eval x = v2) (hr : RVV w k v2 m ys)
    (h63 : n + m ≤ 8000000) (hbase : base ≤ w.heap.size)
    (h : ∀ v' w', w'.ownsRow base e k v' (n + m) (xs ++ ys) → w.grownBy w' v.ownBlock → (v' = .slice none 0 0 ↔ v = .slice none 0 0 ∧ m = 0) → (v'.ownBlock = v.ownBlock ∨ v'.ownBlock = some w.heap.size) → K (a.put o.dst v') w') : o.wp P a w K Q := by
  obtain ⟨v', w', hrun, h2, h3, h4, h5⟩ := run_append_val E o.type v n xs hown v2 m ys hr h63 hbase
  unfold Oper.wp execOp
  simp only [ho, resolve, invoke, builtin, Sem.run_bind, Sem.run_pure, Result.andThen_ok, List.map_toArray, List.map_cons, List.map_nil, hs, hx, hrun]
  exact h v' w' h2 h3 h4 h5

theorem wpList_append_val {ops : Array Oper} {rest : List Oper} {o : Oper} {a : Act} {Q : Exit → Act → World → Prop} (hgd : o.guard = none) {s x : Operand} {lt e : TypeId} {k bytes base : Nat} (E : Elt P lt e k bytes)
    (ho : o.op = .call { callee := .builtin .append, args := #[s, x], argTypes := #[lt, lt] })
    (v : Value) (n : Nat) (xs : List Value) (hs : a.eval s = v) (hown : w.ownsRow base e k v n xs) (v2 : Value) (m : Nat) (ys : List Value) (hx : a.eval x = v2) (hr : RVV w k v2 m ys)
    (h63 : n + m ≤ 8000000) (hbase : base ≤ w.heap.size)
    (h : ∀ v' w', w'.ownsRow base e k v' (n + m) (xs ++ ys) → w.grownBy w' v.ownBlock → (v' = .slice none 0 0 ↔ v = .slice none 0 0 ∧ m = 0) → (v'.ownBlock = v.ownBlock ∨ v'.ownBlock = some w.heap.size) → wpList P ops Q rest (a.put o.dst v') w') : wpList P ops Q (o :: rest) a w :=
  wpList_plain hgd fun _ hK => wp_append_val E ho v n xs hs hown v2 m ys hx hr h63 hbase fun v' w' h2 h3 h4 h5 => hK _ _ (h v' w' h2 h3 h4 h5)
theorem step_append_val {ops : Array Oper} {o : Oper} {a : Act} {K : Act → World → Prop} {Q : Exit → Act → World → Prop} {R : Prop} (hgd : o.guard = none) {s x : Operand} {lt e : TypeId} {k bytes base : Nat} (E : Elt P lt e k bytes)
    (ho : o.op = .call { callee := .builtin .append, args := #[s, x], argTypes := #[lt, lt] })
    (v : Value) (n : Nat) (xs : List Value) (hs : a.eval s = v) (hown : w.ownsRow base e k v n xs) (v2 : Value) (m : Nat) (ys : List Value) (hx : a.eval x = v2) (hr : RVV w k v2 m ys)
    (h63 : n + m ≤ 8000000) (hbase : base ≤ w.heap.size)
    (h : ∀ v' w', w'.ownsRow base e k v' (n + m) (xs ++ ys) → w.grownBy w' v.ownBlock → (v' = .slice none 0 0 ↔ v = .slice none 0 0 ∧ m = 0) → (v'.ownBlock = v.ownBlock ∨ v'.ownBlock = some w.heap.size) → K (a.put o.dst v') w') :
    if Region.wanted o (yielded ops a.tmps) = true then Oper.wp P o a w K Q else R := by
  have hw : Region.wanted o (yielded ops a.tmps) = true := by simp [Region.wanted, hgd]
  rw [if_pos hw]
  exact wp_append_val E ho v n xs hs hown v2 m ys hx hr h63 hbase h
end

end Go.Proofs.YtamiploliebplaaDoor
