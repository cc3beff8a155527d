/- Steps for regions with values not known ahead: new blocks; appends to an empty slice of the region's own; calls that yield slices. -/
import Derived.Test.YtbddgeoaaklgpaaEx
import Derived.Test.YtbddgeoaaklgpaaLs
namespace Go.Proofs.Ytbddgeoaaklgpaa
open Go.RowKit
set_option linter.unusedVariables false
set_option linter.unusedSimpArgs false

section
variable {P : Program} {w : World}
/-- append to an empty slice that has no room -/
theorem run_append_fresh {base b : Nat} {lt e : TypeId} {k bytes : Nat} (E : Elt P lt e k bytes) (ty : TypeId) (hb : w.heap[b]? = some (.cells #[] e (0, 0))) (hbase : base ≤ b) (v2 : Value) (m : Nat) (ys : List Int) (hr : RV w k v2 m ys) (h63 : m ≤ 8000000) :
    ∃ v' w', (Builtin.append_ #[lt, lt] ty #[.slice (some ⟨b, 0, none⟩) 0 0, v2]).run P w = .ok v' w' ∧ w'.ownsRow base e k v' m (IL ys) ∧ Ext w w' ∧ v' ≠ .slice none 0 0 ∧ (∀ c, v'.ownBlock = some c → c = b ∨ w.heap.size ≤ c) := by
  have hlt := (Array.getElem?_eq_some_iff.1 hb).1
  have hown : w.ownsRow base e k (.slice (some ⟨b, 0, none⟩) 0 0) 0 (IL []) := ⟨by simp [IL], .inr ⟨b, 0, #[], rfl, hbase, hb, Nat.le_refl _, by decide, by simp, by simp [IL]⟩⟩
  obtain ⟨v', w', h1, h2, h3, h4, h5⟩ := run_append_rvt E ty _ 0 [] hown v2 m ys hr (by omega) (by omega)
  refine ⟨v', w', h1, by simpa using h2, ?_, (fun e => by have h6 := (h4.1 e).1; cases h6), fun c hc => ?_⟩
  · obtain ⟨i, z, ht, hi, hz, hs, hby, hzs, hk, hbb⟩ := E.ex
    obtain ⟨hl, a, cap, rfl, c1, c2, H⟩ := hr
    cases a with
    | none =>
      have hm0 : m = 0 := by
        rcases Nat.eq_zero_or_pos m with h | h
        · exact h
        · obtain ⟨_, _, h6, _⟩ := H h; cases h6
      subst hm0
      rw [run_append_none base lt ty e i k cap ht hi _ 0 _ hown] at h1
      injection h1 with e1 e2
      rw [← e2]
      exact Ext.refl _
    | some ad =>
      have hnews : ∀ j u, (IL ys)[j]? = some u → w.cell? (ad.add j) = some u := by
        intro j u hu
        have hp : 0 < m := by
          rcases Nat.eq_zero_or_pos m with h | h
          · subst h
            have hy : ys = [] := List.eq_nil_of_length_eq_zero (by omega)
            subst hy
            simp [IL] at hu
          · exact h
        obtain ⟨b', off, h6, h7, h8⟩ := H hp
        simp only [Option.some.injEq] at h6
        subst h6
        rw [show (⟨b', off, none⟩ : Addr).add j = ⟨b', off + j, none⟩ by unfold Addr.add; split <;> simp_all]
        exact h8 j u hu
      have hlen : (IL ys).length = m * i.size := by rw [il_length, hs]; exact hl
      rcases Nat.eq_zero_or_pos m with hm | hm
      · subst hm
        have hy : ys = [] := List.eq_nil_of_length_eq_zero (by omega)
        subst hy
        have hrun := run_append_room (P := P) w lt ty e i ht hi b 0 0 #[] hb ad 0 cap (IL []) hlen hnews (by simp [IL]) (by omega) (by simp [IL])
        rw [hrun] at h1
        injection h1 with e1 e2
        rw [← e2]
        refine ⟨rfl, rfl, rfl, by simp [World.setRow], fun j hj => ?_⟩
        by_cases e3 : j = b
        · subst e3
          rw [setRow_heap w j #[] _ e _ hb, hb]
          simp [IL]
        · exact setRow_other w b j _ e3
      · have hrun := run_append_grow (P := P) w lt ty e i z ht hi hz ⟨b, 0, none⟩ 0 0 [] (by simp) (by simp) ad m cap (IL ys) hlen hnews (by omega) (by omega) (growslice_fits (by omega) (by
          rw [hby, Nat.zero_add]
          exact Nat.le_trans (Nat.mul_le_mul h63 hbb) (by decide)))
        rw [hrun] at h1
        injection h1 with e1 e2
        rw [← e2]
        exact ((Ext.refl w).drew).alloc _
  · rcases h5 with h5 | h5
    · rw [h5] at hc
      simp [Value.ownBlock] at hc
      exact .inl hc.symm
    · rw [h5] at hc
      simp at hc
      exact .inr (by omega)
end

theorem blk_own {v : Value} {w : World} {base : Nat} {e : TypeId} {k n : Nat} {xs : List Value} (h : w.ownsRow base e k v n xs) (b : Nat) (hb : Ex.blk v = some b) : v.ownBlock = some b := by
  rcases h.2 with ⟨rfl, -⟩ | ⟨g, cap, cur, rfl, -⟩
  · simp [Ex.blk] at hb
  · simpa [Ex.blk, Value.ownBlock] using hb
theorem own_blk {v : Value} {w : World} {base : Nat} {e : TypeId} {k n : Nat} {xs : List Value} (h : w.ownsRow base e k v n xs) (b : Nat) (hb : v.ownBlock = some b) : Ex.blk v = some b := by
  rcases h.2 with ⟨rfl, -⟩ | ⟨g, cap, cur, rfl, -⟩
  · simp [Value.ownBlock] at hb
  · simpa [Ex.blk, Value.ownBlock] using hb

namespace Ex
/-- a new block: mk of its number; it holds c -/
def PhN (W0 : World) (mk : Nat → Value) (t : TypeId) (c : Array Value) : Value → World → Prop := fun v W => ∃ b, v = mk b ∧ W0.heap.size ≤ b ∧ W.heap[b]? = some (.cells c t (0, 0))
/-- a slice of the region's own -/
def PhS (W0 : World) (e : TypeId) (k m : Nat) (ys : List Int) : Value → World → Prop := fun v W => W.ownsRow W0.heap.size e k v m (IL ys)
theorem phN_mono (W0 : World) (mk : Nat → Value) (t : TypeId) (c : Array Value) : ∀ v W W', PhN W0 mk t c v W → Ext W W' → PhN W0 mk t c v W' := fun v W W' ⟨b, h1, h2, h3⟩ hx => ⟨b, h1, h2, (hx.heap (Array.getElem?_eq_some_iff.1 h3).1).trans h3⟩
theorem phS_mono (W0 : World) (e : TypeId) (k m : Nat) (ys : List Int) : ∀ v W W', PhS W0 e k m ys v W → Ext W W' → PhS W0 e k m ys v W' := fun v W W' h hx => own_ext h hx

section
variable {P : Program} {ops : Array Oper} {kl : List EK} {a0 : Act} {W0 : World} {σ : Nat → Value} {Q : Exit → Act → World → Prop} {ks : List EK} {o : Oper} {l : List Oper} {i : Nat} {a : Act}
theorem we_new {mk : Nat → Value} {t : TypeId} {c : Array Value} {g : Nat} (hg : o.guard = none) (hmk : ∀ n, blk (mk n) = some n) (h : ∀ x : Xt W0, (execOp a.eval o).run P x.w = .ok (.value (mk x.w.heap.size)) (x.w.alloc (.cells c t)))
    (h2 : WE P ops kl W0 σ Q ks l (i + 1) (a.put o.dst (σ i))) : WE P ops kl W0 σ Q (.ex (PhN W0 mk t c) g [] :: ks) (o :: l) i a := by
  refine we_ex hg (fun W hx _ => ?_) h2
  have hrun := h ⟨W, hx⟩
  simp only [Xt.w] at hrun
  rw [hrun]
  refine ⟨(Ext.refl W).alloc _, ⟨_, rfl, hx.size, by simpa using heap_alloc_new W _⟩, fun _ b hb => ?_⟩
  have hb' : b = W.heap.size := by
    have e : blk (mk W.heap.size) = some b := hb
    rw [hmk] at e
    exact (Option.some.inj e).symm
  refine ⟨?_, .inl (by rw [hb']; exact Nat.le_refl _)⟩
  show b < (W.alloc (.cells c t)).heap.size
  rw [hb']
  simp
theorem we_append {lt e : TypeId} {k bytes g j : Nat} (E : Elt P lt e k bytes) (hg : o.guard = none) {s x : Operand} (ho : o.op = .call { callee := .builtin .append, args := #[s, x], argTypes := #[lt, lt] })
    (hs : a.eval s = σ j) (v2 : Value) (m : Nat) (ys : List Int) (hx : a.eval x = v2) (hr : ∀ W, Ext W0 W → RV W k v2 m ys) (h63 : m ≤ 8000000)
    (hj : EK.at kl j = .ex (PhN W0 (fun n => .slice (some ⟨n, 0, none⟩) 0 0) e #[]) g [])
    (h2 : WE P ops kl W0 σ Q ks l (i + 1) (a.put o.dst (σ i))) : WE P ops kl W0 σ Q (.ex (PhS W0 e k m ys) g [j] :: ks) (o :: l) i a := by
  refine we_ex hg (fun W hxW hF => ?_) h2
  have hphi := hF.phi j (by simp)
  rw [hj] at hphi
  obtain ⟨b, hv, hb1, hb2⟩ := hphi
  obtain ⟨v', w', h1, h3, h4, h5, h6⟩ := run_append_fresh E o.type hb2 hb1 v2 m ys (hr W hxW) h63
  have hrun : (execOp a.eval o).run P W = .ok (.value v') w' := by
    unfold execOp
    simp only [ho, resolve, invoke, builtin, Sem.run_bind, Sem.run_pure, Result.andThen_ok, List.map_toArray, List.map_cons, List.map_nil, hs, hx, hv, h1]
  rw [hrun]
  refine ⟨h4, h3, fun hg0 c hc => ?_⟩
  have hc' := blk_own h3 c hc
  refine ⟨(h3.lt c hc').2, ?_⟩
  rcases h6 c hc' with h7 | h7
  · refine .inr ⟨j, by simp, by rw [hj]; rfl, ?_⟩
    rw [hv, h7]
    rfl
  · exact .inl h7
/-- a call that yields a slice of its own -/
theorem we_callS {f : FuncId} {args : Array Value} {e : TypeId} {k m g : Nat} {ys : List Int} (hg : o.guard = none) (h : ∀ x : Xt W0, (execOp a.eval o).run P x.w = .ok (.enter f args) x.w)
    (hc : ∀ W, Ext W0 W → Calls P f args W fun en w' => ∃ v, en = .returned v ∧ w'.ownsRow W.heap.size e k v m (IL ys) ∧ Ext W w')
    (h2 : WE P ops kl W0 σ Q ks l (i + 1) (a.put o.dst (σ i))) : WE P ops kl W0 σ Q (.ex (PhS W0 e k m ys) g [] :: ks) (o :: l) i a := by
  refine we_ex hg (fun W hx _ => ?_) h2
  have hrun := h ⟨W, hx⟩
  simp only [Xt.w] at hrun
  rw [hrun]
  refine (hc W hx).mono ?_
  rintro en w' ⟨v, rfl, ho, hx'⟩
  refine ⟨v, rfl, hx', own_base ho hx.size, fun _ b hb => ?_⟩
  have hb' := blk_own ho b hb
  exact ⟨(ho.lt b hb').2, .inl (ho.lt b hb').1⟩
end
end Ex
end Go.Proofs.Ytbddgeoaaklgpaa
