/- The folding pass: what is returned. -/
import Derived.Test.YtchaanppoklapaaFpV
import Derived.Test.YtchaanppoklapaaFpR
import Derived.Test.YtchaanppoklapaaCgQ
import Derived.Test.YtchaanppoklapaaCgS
namespace Go.Proofs.Ytchaanppoklapaa
open Go.RowKit Go.Lib
set_option linter.unusedVariables false
set_option linter.unusedSimpArgs false

/-- is the folded circuit the same -/
def psE (q : Int) (xs : List Int) (n : Nat) : Bool := eqC q n xs (fQ q xs n) (fN q xs n) (fL q xs n)
def psS (q : Int) (xs : List Int) (n : Nat) : Bool := decide (n ≤ 40) && decide (fN q xs n ≤ 40)
def psOk (q : Int) (xs : List Int) (n : Nat) : Bool := fOk q xs n && (psE q xs n || psS q xs n)
def psR (q : Int) (xs : List Int) (n : Nat) : Nat → Rp := fun _ => ⟨0, n, xs, fN q xs n, fL q xs n⟩
def psC (q : Int) (xs : List Int) (n : Nat) : Cv :=
  if psOk q xs n then (if psE q xs n then ⟨q, n, xs, 0, psR q xs n, fQ q xs n, fN q xs n, fL q xs n⟩ else ⟨q, n, xs, 1, psR q xs n, fQ q xs n, fN q xs n, fL q xs n⟩)
  else ⟨0, 0, [], 0, psR q xs n, 0, 0, []⟩
theorem psC_facts {q : Int} {xs : List Int} {n : Nat} (hl : xs.length = n * 3) : (psC q xs n).Ok ∧ (psC q xs n).tot ≤ 1048576 := by
  have h1 := fL_len q xs n
  have h2 := fN_le q xs n
  unfold psC
  split
  · rename_i hok
    have hn : n ≤ 400 := by
      unfold psOk fOk mOk cOk at hok
      simp only [Bool.and_eq_true, decide_eq_true_eq] at hok
      exact hok.1.1.1.2.1
    split
    · exact ⟨⟨hl, h1, fun j hj => absurd hj (Nat.not_lt_zero _)⟩, by show n + (0 + 0) + fN q xs n ≤ _; omega⟩
    · exact ⟨⟨hl, h1, fun j hj => ⟨hl, h1⟩⟩, by show n + (1 + (0 + (n + fN q xs n))) + fN q xs n ≤ _; omega⟩
  · exact ⟨⟨rfl, rfl, fun j hj => absurd hj (Nat.not_lt_zero _)⟩, by show 0 + (0 + 0) + 0 ≤ _; omega⟩
theorem rsp_none (w : World) (lo : Nat) (S : Nat → Prop) (R : Nat → Rp) : RSP w lo S (.slice none 0 0) 0 R :=
  ⟨[], own_nil _ _ _ _, rfl, ⟨(fun k h => by cases h), (fun p x k h => by simp at h)⟩, ⟨(fun p x k h => by simp at h), (fun p q x y k _ h => by simp at h)⟩, fun j hj => absurd hj (Nat.not_lt_zero _)⟩
theorem rsp_lit {w : World} {lo B : Nat} {s1 s2 : Value} {R : Nat → Rp} {S : Nat → Prop} (hB : w.heap[B]? = some (.cells #[.int .i64 (R 0).t, s1, s2] 81 (0, 0))) (hlo : lo ≤ B) (o1 : w.ownsRow lo 72 3 s1 (R 0).m1 (IL (R 0).xs)) (o2 : w.ownsRow lo 72 3 s2 (R 0).m2 (IL (R 0).ys))
    (hne : ∀ k, s1.ownBlock = some k → s2.ownBlock = some k → False) (h1 : ∀ k, s1.ownBlock = some k → k ≠ B ∧ S k) (h2 : ∀ k, s2.ownBlock = some k → k ≠ B ∧ S k) (hS : S B) : RSP w lo S (.slice (some ⟨B, 0, none⟩) 1 1) 1 R := by
  have hp : ∀ (p : Nat) (x : Value) (k : Nat), ([.int .i64 (R 0).t, s1, s2] : List Value)[p]? = some x → x.ownBlock = some k → (p = 1 ∧ x = s1) ∨ (p = 2 ∧ x = s2) := by
    intro p x k h hk
    rcases p with _ | _ | _ | p
    · simp at h; subst h; cases hk
    · simp at h; exact .inl ⟨rfl, h.symm⟩
    · simp at h; exact .inr ⟨rfl, h.symm⟩
    · simp at h
  refine ⟨[.int .i64 (R 0).t, s1, s2], ⟨rfl, .inr ⟨B, 1, _, rfl, hlo, hB, Nat.le_refl _, by decide, rfl, rfl⟩⟩, rfl, ⟨(fun k hk => by cases hk; exact hS), fun p x k h hk => ?_⟩, ⟨fun p x k h hk hv => ?_, fun p q x y k hpq h h' hk hk' => ?_⟩, fun j hj => ?_⟩
  · rcases hp p x k h hk with ⟨_, rfl⟩ | ⟨_, rfl⟩
    · exact (h1 k hk).2
    · exact (h2 k hk).2
  · have hBk : B = k := by cases hv; rfl
    rcases hp p x k h hk with ⟨_, rfl⟩ | ⟨_, rfl⟩
    · exact (h1 k hk).1 hBk.symm
    · exact (h2 k hk).1 hBk.symm
  · rcases hp p x k h hk with ⟨e1, rfl⟩ | ⟨e1, rfl⟩
    · rcases hp q y k h' hk' with ⟨e2, rfl⟩ | ⟨e2, rfl⟩
      · omega
      · exact hne k hk hk'
    · rcases hp q y k h' hk' with ⟨e2, rfl⟩ | ⟨e2, rfl⟩
      · omega
      · omega
  · obtain rfl : j = 0 := by omega
    exact ⟨s1, s2, rfl, rfl, rfl, o1, o2⟩

theorem cz_zero (w : World) (lo hi : Nat) (R : Nat → Rp) : CZ w lo hi (.slice none 0 0) (.slice none 0 0) (.slice none 0 0) ⟨0, 0, [], 0, R, 0, 0, []⟩ :=
  ⟨own_nil _ _ _ _, own_nil _ _ _ _, (fun k h => by cases h), (fun k h => by cases h), (fun k h => by cases h), fun _ => False, rsp_none _ _ _ _, fun k h => h.elim⟩
theorem psC_no {q : Int} {xs : List Int} {n : Nat} (h : psOk q xs n = false) : psC q xs n = ⟨0, 0, [], 0, psR q xs n, 0, 0, []⟩ := by unfold psC; rw [h]; rfl
theorem psC_eq {q : Int} {xs : List Int} {n : Nat} (h : psOk q xs n = true) (h2 : psE q xs n = true) : psC q xs n = ⟨q, n, xs, 0, psR q xs n, fQ q xs n, fN q xs n, fL q xs n⟩ := by unfold psC; rw [h, h2]; rfl
theorem psC_ne {q : Int} {xs : List Int} {n : Nat} (h : psOk q xs n = true) (h2 : psE q xs n = false) : psC q xs n = ⟨q, n, xs, 1, psR q xs n, fQ q xs n, fN q xs n, fL q xs n⟩ := by unfold psC; rw [h, h2]; rfl

set_option maxRecDepth 20000 in
set_option maxHeartbeats 1000000 in
theorem clonePs_any {n : Nat} {v : Value} {xs : List Int} (hn : n ≤ 2000000) (w : World) (h : RV w 3 v n xs) :
    Calls Try.prog 42 #[v] w fun e w' => ∃ v', e = .returned v' ∧ w'.ownsRow w.heap.size 72 3 v' n (IL xs) ∧ Ext w w' := by
  have HR := Lib.hid (h.ext ((Ext.refl w).alloc (.cells #[] 72 (0, 0))))
  obtain ⟨hl, a, cap, rfl, c1, c2, H⟩ := h
  cases a with
  | none =>
    have hn0 : n = 0 := by
      rcases Nat.eq_zero_or_pos n with h | h
      · exact h
      · obtain ⟨_, _, h3, _⟩ := H h; cases h3
    subst hn0
    have hx : xs = [] := List.eq_nil_of_length_eq_zero (by omega)
    subst hx
    have heq : ∀ w, (binOp .eql 29 (.slice none 0 cap) (.slice none 0 0)).run Try.prog w = .ok (.bool true) w := fun w => by simpa using run_eql_slice_nil w 29 72 none 0 cap 0 0 Try.underlying29
    clear H HR
    go_enter Try.func42, Try.ntmps42
    go_wp2
    go_ret
    exact ⟨_, rfl, own_nil _ _ _ _, (by repeat (first | exact Ext.refl _ | assumption | refine Ext.alloc ?_ _ | refine Ext.drew ?_ | refine Ext.drewN ?_ _ | refine Ext.setCell ?_ (by first | omega | (dsimp only; omega) | (simp; done) | (simp; omega)) _ | refine Ext.trans ?_ (by assumption)))⟩
  | some ad =>
    have heq : ∀ w, (binOp .eql 29 (.slice (some ad) n cap) (.slice none 0 0)).run Try.prog w = .ok (.bool false) w := fun w => by simpa using run_eql_slice_nil w 29 72 (some ad) n cap 0 0 Try.underlying29
    clear H
    have HO : Hid ((w.alloc (.cells #[] 72)).ownsRow w.heap.size 72 3 (.slice (some ⟨w.heap.size, 0, none⟩) 0 0) 0 (IL [])) := World.ownsRow_lit _ _ 0 (Nat.le_refl _) (by decide) rfl
    go_enter Try.func42, Try.ntmps42
    go_wp2_with (at_builtin; go_loud (refine wpList_append_rv rfl elt_FG rfl _ 0 [] rfl HO.out _ n xs rfl HR.out (by omega) (by simp) ?_); intro v4 w4 hown4 hgrow4 hiff4)
    go_ret
    exact ⟨_, rfl, by simpa using hown4, ext_grownB ((Ext.refl w).alloc _) hgrow4 HO.out (Nat.le_refl _)⟩

end Go.Proofs.Ytchaanppoklapaa
