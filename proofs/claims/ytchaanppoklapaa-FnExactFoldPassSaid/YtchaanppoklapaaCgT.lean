/- Certificates: copies, with the zones of their blocks. -/
import Derived.Test.YtchaanppoklapaaCgL
import Derived.Test.YtchaanppoklapaaCertT
namespace Go.Proofs.Ytchaanppoklapaa
open Go.RowKit Go.Lib
set_option linter.unusedVariables false
set_option linter.unusedSimpArgs false

theorem ELz.ext {w w' : World} {lo : Nat} {zs : List Value} {j : Nat} {r : Rp} (h : ELz w lo zs j r) (hx : Ext w w') : ELz w' lo zs j r := by
  obtain ⟨va, vb, z0, z1, z2, r1, r2⟩ := h
  exact ⟨va, vb, z0, z1, z2, own_ext r1 hx, own_ext r2 hx⟩
theorem ELz.set {w : World} {lo : Nat} {zs : List Value} {j : Nat} {r : Rp} (h : ELz w lo zs j r) {p : Addr} (hp : p.block < lo) (u : Value) : ELz (w.setCell p u) lo zs j r := by
  obtain ⟨va, vb, z0, z1, z2, r1, r2⟩ := h
  exact ⟨va, vb, z0, z1, z2, own_set r1 hp u, own_set r2 hp u⟩
/-- the first j steps are laid; their blocks lie from lo up to hi and differ -/
def DZ (w : World) (lo hi : Nat) (zs : List Value) (j : Nat) (R : Nat → Rp) : Prop :=
  (∀ i, i < j → ELz w lo zs i (R i)) ∧ (∀ (p : Nat) (x : Value) (k : Nat), p < j * 3 → zs[p]? = some x → x.ownBlock = some k → lo ≤ k ∧ k < hi) ∧
    ∀ (p q : Nat) (x y : Value) (k : Nat), p < q → q < j * 3 → zs[p]? = some x → zs[q]? = some y → x.ownBlock = some k → y.ownBlock = some k → False
theorem DZ.ext {w w' : World} {lo hi : Nat} {zs : List Value} {j : Nat} {R : Nat → Rp} (h : DZ w lo hi zs j R) (hx : Ext w w') : DZ w' lo hi zs j R := ⟨fun i hi => (h.1 i hi).ext hx, h.2⟩
theorem DZ.set {w : World} {lo hi : Nat} {zs : List Value} {j : Nat} {R : Nat → Rp} (h : DZ w lo hi zs j R) {p : Addr} (hp : p.block < lo) (u : Value) : DZ (w.setCell p u) lo hi zs j R := ⟨fun i hi => (h.1 i hi).set hp u, h.2⟩
theorem DZ.none {w : World} {lo hi : Nat} {zs : List Value} {R : Nat → Rp} : DZ w lo hi zs 0 R := ⟨fun i hi => absurd hi (by omega), fun p x k hp => absurd hp (by omega), fun p q x y k _ hq => absurd hq (by omega)⟩
theorem DZ.snoc {w : World} {lo hi hi' : Nat} {zs zs' : List Value} {j : Nat} {R : Nat → Rp} {va vb : Value} (h : DZ w lo hi zs j R) (hz : ∀ p, p < j * 3 → zs'[p]? = zs[p]?)
    (z0 : zs'[j * 3]? = some (.int .i64 (R j).t)) (z1 : zs'[j * 3 + 1]? = some va) (z2 : zs'[j * 3 + 2]? = some vb) (o1 : w.ownsRow hi 72 3 va (R j).m1 (IL (R j).xs)) (o2 : w.ownsRow hi 72 3 vb (R j).m2 (IL (R j).ys))
    (l1 : ∀ k, va.ownBlock = some k → k < hi') (l2 : ∀ k, vb.ownBlock = some k → k < hi') (hne : ∀ k, va.ownBlock = some k → vb.ownBlock = some k → False) (hl : lo ≤ hi) (hh : hi ≤ hi') : DZ w lo hi' zs' (j + 1) R := by
  have at_ : ∀ (p : Nat) (x : Value) (k : Nat), p < (j + 1) * 3 → zs'[p]? = some x → x.ownBlock = some k → (p < j * 3 ∧ zs[p]? = some x) ∨ (p = j * 3 + 1 ∧ va.ownBlock = some k) ∨ (p = j * 3 + 2 ∧ vb.ownBlock = some k) := by
    intro p x k hp hx hk
    by_cases h1 : p < j * 3
    · exact .inl ⟨h1, (hz p h1).symm.trans hx⟩
    by_cases h2 : p = j * 3
    · subst h2
      rw [z0] at hx
      obtain rfl := Option.some.inj hx
      simp [Value.ownBlock] at hk
    by_cases h3 : p = j * 3 + 1
    · subst h3
      rw [z1] at hx
      obtain rfl := Option.some.inj hx
      exact .inr (.inl ⟨rfl, hk⟩)
    obtain rfl : p = j * 3 + 2 := by omega
    rw [z2] at hx
    obtain rfl := Option.some.inj hx
    exact .inr (.inr ⟨rfl, hk⟩)
  refine ⟨fun i hi => ?_, fun p x k hp hx hk => ?_, fun p q x y k hpq hq hx hy hk hk2 => ?_⟩
  · by_cases e : i = j
    · subst e
      exact ⟨va, vb, z0, z1, z2, own_base o1 hl, own_base o2 hl⟩
    · obtain ⟨ua, ub, y0, y1, y2, r1, r2⟩ := h.1 i (by omega)
      exact ⟨ua, ub, (hz _ (by omega)).trans y0, (hz _ (by omega)).trans y1, (hz _ (by omega)).trans y2, r1, r2⟩
  · rcases at_ p x k hp hx hk with ⟨h1, h2⟩ | ⟨_, h2⟩ | ⟨_, h2⟩
    · have := h.2.1 p x k h1 h2 hk; omega
    · have := l1 k h2; have := (o1.lt k h2).1; omega
    · have := l2 k h2; have := (o2.lt k h2).1; omega
  · rcases at_ p x k (by omega) hx hk with ⟨h1, h2⟩ | ⟨e1, h2⟩ | ⟨e1, h2⟩
    · rcases at_ q y k hq hy hk2 with ⟨h3, h4⟩ | ⟨_, h4⟩ | ⟨_, h4⟩
      · exact h.2.2 p q x y k hpq h3 h2 h4 hk hk2
      · have := h.2.1 p x k h1 h2 hk; have := (o1.lt k h4).1; omega
      · have := h.2.1 p x k h1 h2 hk; have := (o2.lt k h4).1; omega
    · rcases at_ q y k hq hy hk2 with ⟨h3, h4⟩ | ⟨_, h4⟩ | ⟨_, h4⟩
      · omega
      · omega
      · exact hne k h2 h4
    · rcases at_ q y k hq hy hk2 with ⟨h3, h4⟩ | ⟨_, h4⟩ | ⟨_, h4⟩
      · omega
      · omega
      · omega
/-- all steps are laid, in a row whose block is not among theirs -/
theorem DZ.rsp {w : World} {lo hi lo' : Nat} {zs : List Value} {n : Nat} {R : Nat → Rp} {v : Value} {S : Nat → Prop} (h : DZ w lo hi zs n R) (ho : w.ownsRow lo' 81 3 v n zs) (hl : zs.length = n * 3) (hlo : lo' ≤ lo)
    (hv : ∀ k, v.ownBlock = some k → (k < lo ∨ hi ≤ k) ∧ S k) (hS : ∀ k, lo ≤ k → k < hi → S k) : RSP w lo' S v n R := by
  refine ⟨zs, ho, hl, ⟨fun k hk => (hv k hk).2, fun p x k hx hk => ?_⟩, ⟨fun p x k hx hk hk2 => ?_, fun p q x y k hpq hx hy => ?_⟩, fun j hj => ?_⟩
  · have hp : p < zs.length := (List.getElem?_eq_some_iff.1 hx).1
    have := h.2.1 p x k (by omega) hx hk
    exact hS k this.1 this.2
  · have hp : p < zs.length := (List.getElem?_eq_some_iff.1 hx).1
    have := h.2.1 p x k (by omega) hx hk
    have := (hv k hk2).1
    omega
  · have hq : q < zs.length := (List.getElem?_eq_some_iff.1 hy).1
    exact h.2.2 p q x y k hpq (by omega) hx hy
  · obtain ⟨ua, ub, y0, y1, y2, r1, r2⟩ := h.1 j hj
    exact ⟨ua, ub, y0, y1, y2, own_base r1 hlo, own_base r2 hlo⟩

theorem S3_lt {zs : List Value} {j p : Nat} {u0 u1 u2 : Value} (h : p < j * 3) : (S3 zs j u0 u1 u2)[p]? = zs[p]? := by
  unfold S3
  rw [List.getElem?_set_ne (by omega), List.getElem?_set_ne (by omega), List.getElem?_set_ne (by omega)]

end Go.Proofs.Ytchaanppoklapaa
