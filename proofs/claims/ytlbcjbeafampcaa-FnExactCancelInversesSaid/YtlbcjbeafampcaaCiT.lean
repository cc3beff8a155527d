/- Inverses that cancel: the state behind some steps. -/
import Derived.Test.YtlbcjbeafampcaaCiL
import Derived.Test.YtlbcjbeafampcaaCgS
import Derived.Test.YtlbcjbeafampcaaCgK
namespace Go.Proofs.Ytlbcjbeafampcaa
open Go.RowKit Go.Lib
set_option linter.unusedVariables false
set_option linter.unusedSimpArgs false

theorem rsp_one {w w3 : World} {lo hi : Nat} {S : Nat → Prop} {v v' va vb : Value} {j : Nat} {R : Nat → Rp} {zs : List Value} (ho : w.ownsRow lo 45 3 v j zs) (hl : zs.length = j * 3) (hin : InS S v zs) (hd : DBx v zs) (he : ∀ i, i < j → ELz w lo zs i (R i))
    (hS : ∀ b, S b → b < hi) (hlo : lo ≤ hi) (hsz : hi ≤ w.heap.size) (o1 : w.ownsRow hi 73 3 va (R j).m1 (IL (R j).xs)) (o2 : w.ownsRow hi 73 3 vb (R j).m2 (IL (R j).ys)) (hne : ∀ k, va.ownBlock = some k → vb.ownBlock = some k → False)
    (ho3 : w3.ownsRow lo 45 3 v' (j + 1) (zs ++ [.int .i64 (R j).t, va, vb])) (hg : w.grownBy w3 v.ownBlock) (hat : v'.ownBlock = v.ownBlock ∨ v'.ownBlock = some w.heap.size) :
    RSP w3 lo (fun b => S b ∨ (va.ownBlock = some b ∨ vb.ownBlock = some b) ∨ v'.ownBlock = some b) v' (j + 1) R := by
  have hys : ∀ (p : Nat) (x : Value), ([.int .i64 (R j).t, va, vb] : List Value)[p]? = some x → (p = 0 ∧ x = .int .i64 (R j).t) ∨ (p = 1 ∧ x = va) ∨ (p = 2 ∧ x = vb) := by
    intro p x hp
    match p, hp with
    | 0, hp => exact .inl ⟨rfl, (Option.some.inj hp).symm⟩
    | 1, hp => exact .inr (.inl ⟨rfl, (Option.some.inj hp).symm⟩)
    | 2, hp => exact .inr (.inr ⟨rfl, (Option.some.inj hp).symm⟩)
    | p + 3, hp => simp at hp
  have h := rsp_append (w3 := w3) (R2 := fun _ => R j) (m := 1) (ys := [.int .i64 (R j).t, va, vb]) (v2 := .slice none 0 0) (T := fun b => va.ownBlock = some b ∨ vb.ownBlock = some b) (lo2 := hi) ho hl hin hd he rfl
    ⟨fun k hk => by simp [Value.ownBlock] at hk, fun p x k hp hk => ?_⟩ ⟨fun p x k hp hk hk2 => by simp [Value.ownBlock] at hk2, fun p q x y k hpq hp hq hk hk2 => ?_⟩ (fun i hi' => ?_) hlo (fun k h1 h2 => ?_) (fun k hk => by have := hS k hk; omega) (fun k hk => ?_) ho3 hg hat
  · refine h.congr fun i hi' => ?_
    unfold appR
    by_cases e : i < j
    · rw [if_pos e]
    · rw [if_neg e]
      obtain rfl : i = j := by omega
      rfl
  · rcases hys p x hp with ⟨_, rfl⟩ | ⟨_, rfl⟩ | ⟨_, rfl⟩
    · simp [Value.ownBlock] at hk
    · exact .inl hk
    · exact .inr hk
  · rcases hys p x hp with ⟨e, rfl⟩ | ⟨e, rfl⟩ | ⟨e, rfl⟩
    · simp [Value.ownBlock] at hk
    · rcases hys q y hq with ⟨f, rfl⟩ | ⟨f, rfl⟩ | ⟨f, rfl⟩
      · omega
      · omega
      · exact hne k hk hk2
    · rcases hys q y hq with ⟨f, rfl⟩ | ⟨f, rfl⟩ | ⟨f, rfl⟩ <;> omega
  · obtain rfl : i = 0 := by omega
    exact ⟨va, vb, rfl, rfl, rfl, o1, o2⟩
  · have := hS k h1
    rcases h2 with h2 | h2
    · have := (o1.lt k h2).1; omega
    · have := (o2.lt k h2).1; omega
  · rcases hk with hk | hk
    · exact (o1.lt k hk).2
    · exact (o2.lt k hk).2

/-- the state behind k steps: the circuit, and the steps in blocks from lo on -/
def CiSt (w : World) (e0 lo : Nat) (D : Nat → Prop) (xs : List Int) (n k : Nat) (vs vA : Value) : Prop :=
  w.ownsRow e0 73 3 vA (cu xs n k).1 (IL (cu xs n k).2) ∧ (∀ j, vA.ownBlock = some j → ¬ D j) ∧ ∃ S : Nat → Prop, RSP w lo S vs k (cRk xs n) ∧ ∀ j, S j → (lo ≤ j ∧ j < w.heap.size) ∧ vA.ownBlock ≠ some j
theorem rsp_none (w : World) (lo : Nat) (R : Nat → Rp) : RSP w lo (fun _ => False) (.slice none 0 0) 0 R :=
  ⟨[], own_nil _ _ _ _, rfl, ⟨fun k hk => by simp [Value.ownBlock] at hk, fun p x k hp => by simp at hp⟩, ⟨fun p x k hp => by simp at hp, fun p q x y k _ hp => by simp at hp⟩, fun i hi => absurd hi (by omega)⟩
theorem RSP.shape {w : World} {lo : Nat} {S : Nat → Prop} {v : Value} {n : Nat} {R : Nat → Rp} (h : RSP w lo S v n R) : ∃ (a : Option Addr) (c : Nat), v = .slice a n c := by
  obtain ⟨zs, ho, _⟩ := h
  obtain ⟨a, c, e, _⟩ := own_shape ho
  exact ⟨a, c, e⟩
theorem row_list (v : Value) : ∃ Sl : List Nat, (∀ W W' : World, W.grownBy W' v.ownBlock → GX Sl W W') ∧ ∀ b ∈ Sl, v.ownBlock = some b := by
  cases h : v.ownBlock with
  | none => exact ⟨[], fun W W' hg => GX.ofExt (Ext.grown (Ext.refl W) hg (fun k hk => by cases hk)), fun b hb => by cases hb⟩
  | some g => exact ⟨[g], fun W W' hg => GX.ofGrown hg, fun b hb => by simp at hb; rw [hb]⟩
theorem grown_cells {w w' : World} {row : Option Nat} {b : Nat} (hg : w.grownBy w' row) (hb : b < w.heap.size) (hne : row ≠ some b) : (∀ o, w'.cell? ⟨b, o, none⟩ = w.cell? ⟨b, o, none⟩) ∧ (∀ o, w'.frozen? ⟨b, o, none⟩ = w.frozen? ⟨b, o, none⟩) := by
  have h := hg.block b hb (fun e => hne e.symm)
  constructor
  · intro o
    unfold World.cell?
    simp only [h]
  · intro o
    unfold World.frozen?
    simp only [h]
theorem own_setc {w : World} {base : Nat} {e : TypeId} {size : Nat} {v : Value} {n : Nat} {xs : List Value} (h : w.ownsRow base e size v n xs) {p : Addr} (hp : ∀ k, v.ownBlock = some k → k ≠ p.block) (u : Value) : (w.setCell p u).ownsRow base e size v n xs := by
  refine ⟨h.1, ?_⟩
  rcases h.2 with hn | ⟨g, cap, cur, hv, hb, hg, r⟩
  · exact .inl hn
  · have : g ≠ p.block := hp g (by rw [hv]; rfl)
    exact .inr ⟨g, cap, cur, hv, hb, by rw [Below.heap_setCell _ _ _ _ this]; exact hg, r⟩
theorem own_gxs {S : List Nat} {w w' : World} {base : Nat} {e : TypeId} {size : Nat} {v : Value} {n : Nat} {xs : List Value} (h : w.ownsRow base e size v n xs) (hg : GX S w w') (hS : ∀ k, v.ownBlock = some k → k ∉ S) : w'.ownsRow base e size v n xs := by
  refine ⟨h.1, ?_⟩
  rcases h.2 with hn | ⟨g, cap, cur, hv, hb, hh, r⟩
  · exact .inl hn
  · have hl := (Array.getElem?_eq_some_iff.1 hh).1
    exact .inr ⟨g, cap, cur, hv, hb, (hg.heap hl (hS g (by rw [hv]; rfl))).trans hh, r⟩

/-- the certificate's contents, the circuit being valid -/
def cCv (q : Int) (xs : List Int) (n : Nat) : Cv := ⟨q, n, xs, cK xs n, cRk xs n, q, (cu xs n (cK xs n)).1, (cu xs n (cK xs n)).2⟩
theorem ci_none (w : World) (lo hi : Nat) : CZ w lo hi (.slice none 0 0) (.slice none 0 0) (.slice none 0 0) ⟨0, 0, [], 0, fun _ => noP, 0, 0, []⟩ :=
  ⟨own_nil _ _ _ _, own_nil _ _ _ _, fun k hk => by simp [Value.ownBlock] at hk, fun k hk => by simp [Value.ownBlock] at hk, fun k hk => by simp [Value.ownBlock] at hk, fun _ => False,
    ⟨[], own_nil _ _ _ _, rfl, ⟨fun k hk => by simp [Value.ownBlock] at hk, fun p x k hp => by simp at hp⟩, ⟨fun p x k hp => by simp at hp, fun p q x y k _ hp => by simp at hp⟩, fun i hi => absurd hi (by simp)⟩, fun k hk => hk.elim⟩

end Go.Proofs.Ytlbcjbeafampcaa
