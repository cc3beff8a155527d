/- Certificates: steps that are appended. -/
import Derived.Test.YtchaanppoklapaaCgT
import Derived.Test.YtchaanppoklapaaVal
namespace Go.Proofs.Ytchaanppoklapaa
open Go.RowKit Go.Lib
set_option linter.unusedVariables false
set_option linter.unusedSimpArgs false

theorem elt_RP : Elt Try.prog 40 81 3 56 := elt_of (z := .agg #[.int .i64 0, .slice none 0 0, .slice none 0 0]) Try.underlying40 (by kernel_rfl) rfl (by decide) (by decide)

theorem el_get {zs : List Value} {n : Nat} {w : World} {lo : Nat} {R : Nat → Rp} (hl : zs.length = n * 3) (he : ∀ j, j < n → ELz w lo zs j (R j)) : ∀ u ∈ zs, u.oneCell' = true := by
  intro u hu
  obtain ⟨p, hp, rfl⟩ := List.getElem_of_mem hu
  have hj : p / 3 < n := by omega
  obtain ⟨va, vb, z0, z1, z2, r1, r2⟩ := he _ hj
  have hm : p % 3 = 0 ∨ p % 3 = 1 ∨ p % 3 = 2 := by omega
  rcases hm with h | h | h
  · have : zs[p] = .int .i64 (R (p / 3)).t := by
      have h2 := List.getElem?_eq_getElem hp
      rw [show zs[p]? = zs[p / 3 * 3]? by congr 1; omega, z0] at h2
      exact (Option.some.inj h2).symm
    rw [this]; rfl
  · have : zs[p] = va := by
      have h2 := List.getElem?_eq_getElem hp
      rw [show zs[p]? = zs[p / 3 * 3 + 1]? by congr 1; omega, z1] at h2
      exact (Option.some.inj h2).symm
    rw [this]
    obtain ⟨a, c, rfl, _, _, _⟩ := own_shape r1
    rfl
  · have : zs[p] = vb := by
      have h2 := List.getElem?_eq_getElem hp
      rw [show zs[p]? = zs[p / 3 * 3 + 2]? by congr 1; omega, z2] at h2
      exact (Option.some.inj h2).symm
    rw [this]
    obtain ⟨a, c, rfl, _, _, _⟩ := own_shape r2
    rfl

theorem app_left {zs ys : List Value} {p : Nat} (h : p < zs.length) : (zs ++ ys)[p]? = zs[p]? := List.getElem?_append_left h
theorem app_right {zs ys : List Value} {p q : Nat} (h : p = zs.length + q) : (zs ++ ys)[p]? = ys[q]? := by
  rw [List.getElem?_append_right (by omega)]
  congr 1
  omega
/-- one more step -/
theorem rsp_snoc {w w2 w3 : World} {lo : Nat} {v v' va vb : Value} {j : Nat} {R : Nat → Rp} {zs : List Value} (ho : w.ownsRow lo 81 3 v j zs) (hl : zs.length = j * 3) (hin : InS (fun k => lo ≤ k ∧ k < w.heap.size) v zs) (hd : DBx v zs)
    (he : ∀ i, i < j → ELz w lo zs i (R i)) (hlo : lo ≤ w.heap.size) (hx : Ext w w2) (o1 : w2.ownsRow w.heap.size 72 3 va (R j).m1 (IL (R j).xs)) (o2 : w2.ownsRow w.heap.size 72 3 vb (R j).m2 (IL (R j).ys)) (hne : ∀ k, va.ownBlock = some k → vb.ownBlock = some k → False)
    (ho3 : w3.ownsRow lo 81 3 v' (j + 1) (zs ++ [.int .i64 (R j).t, va, vb])) (hg : w2.grownBy w3 v.ownBlock) (hat : v'.ownBlock = v.ownBlock ∨ v'.ownBlock = some w2.heap.size) :
    RSP w3 lo (fun k => lo ≤ k ∧ k < w3.heap.size) v' (j + 1) R := by
  have hv : ∀ k, v.ownBlock = some k → k < w.heap.size := fun k hk => (hin.1 k hk).2
  have s2 := hx.size
  have hD : DZ w lo w.heap.size zs j R := ⟨he, fun p x k hp hz hk => hin.2 p x k hz hk, fun p q x y k hpq hq => hd.2 p q x y k hpq⟩
  have far : ∀ {x : Value} {l : Nat} {ys : List Value} {b : Nat}, w2.ownsRow b 72 3 x l ys → (∀ k, x.ownBlock = some k → v.ownBlock = some k → False) → w3.ownsRow b 72 3 x l ys := fun {x l ys b} h hx => own_far h hg (fun q hq k hk e => hx k hk (by rw [hq, e]))
  have g3 : ∀ p, p < j * 3 → (zs ++ [.int .i64 (R j).t, va, vb])[p]? = zs[p]? := fun p hp => app_left (by omega)
  have hD3 : DZ w3 lo w.heap.size zs j R := by
    refine ⟨fun i hi => ?_, hD.2⟩
    obtain ⟨ua, ub, y0, y1, y2, r1, r2⟩ := he i hi
    exact ⟨ua, ub, y0, y1, y2, far (own_ext r1 hx) (fun k h1 h2 => hd.1 _ _ k y1 h1 h2), far (own_ext r2 hx) (fun k h1 h2 => hd.1 _ _ k y2 h1 h2)⟩
  have s3 := hg.size
  have hDn : DZ w3 lo w2.heap.size (zs ++ [.int .i64 (R j).t, va, vb]) (j + 1) R :=
    hD3.snoc g3 (by rw [app_right (q := 0) (by omega)]; rfl) (by rw [app_right (q := 1) (by omega)]; rfl) (by rw [app_right (q := 2) (by omega)]; rfl)
      (far o1 (fun k h1 h2 => by have := (o1.lt k h1).1; have := hv k h2; omega)) (far o2 (fun k h1 h2 => by have := (o2.lt k h1).1; have := hv k h2; omega)) (fun k hk => (o1.lt k hk).2) (fun k hk => (o2.lt k hk).2) hne hlo s2
  refine ⟨_, ho3, by simp; omega, ⟨fun k hk => ho3.lt k hk, fun p x k hz hk => ?_⟩, ⟨fun p x k hz hk hk2 => ?_, fun p q x y k hpq hz hy => ?_⟩, fun i hi => ?_⟩
  · have hp : p < (zs ++ [.int .i64 (R j).t, va, vb]).length := (List.getElem?_eq_some_iff.1 hz).1
    have hp2 : p < (j + 1) * 3 := by simp at hp; omega
    have := hDn.2.1 p x k hp2 hz hk
    omega
  · have hp : p < (zs ++ [.int .i64 (R j).t, va, vb]).length := (List.getElem?_eq_some_iff.1 hz).1
    have hp2 : p < (j + 1) * 3 := by simp at hp; omega
    have h1 := hDn.2.1 p x k hp2 hz hk
    rcases hat with h | h
    · rw [h] at hk2
      by_cases e : p < j * 3
      · exact hd.1 p x k ((g3 p e).symm.trans hz) hk hk2
      · have hvk := hv k hk2
        have hx2 : x = .int .i64 (R j).t ∨ x = va ∨ x = vb := by
          have : p = j * 3 ∨ p = j * 3 + 1 ∨ p = j * 3 + 2 := by omega
          rcases this with e | e | e
          · rw [app_right (q := 0) (by omega)] at hz; exact .inl (Option.some.inj hz).symm
          · rw [app_right (q := 1) (by omega)] at hz; exact .inr (.inl (Option.some.inj hz).symm)
          · rw [app_right (q := 2) (by omega)] at hz; exact .inr (.inr (Option.some.inj hz).symm)
        rcases hx2 with rfl | rfl | rfl
        · simp [Value.ownBlock] at hk
        · have := (o1.lt k hk).1; omega
        · have := (o2.lt k hk).1; omega
    · rw [h] at hk2
      have := Option.some.inj hk2
      omega
  · have hq : q < (zs ++ [.int .i64 (R j).t, va, vb]).length := (List.getElem?_eq_some_iff.1 hy).1
    exact hDn.2.2 p q x y k hpq (by simp at hq; omega) hz hy
  · obtain ⟨ua, ub, y0, y1, y2, r1, r2⟩ := hDn.1 i hi
    exact ⟨ua, ub, y0, y1, y2, r1, r2⟩
/-- steps behind steps -/
def appR (n : Nat) (R R2 : Nat → Rp) (j : Nat) : Rp := if j < n then R j else R2 (j - n)
theorem rsp_append {w w3 : World} {lo lo2 : Nat} {S T : Nat → Prop} {v v2 v' : Value} {n m : Nat} {R R2 : Nat → Rp} {zs ys : List Value} (ho : w.ownsRow lo 81 3 v n zs) (hl : zs.length = n * 3) (hin : InS S v zs) (hd : DBx v zs) (he : ∀ i, i < n → ELz w lo zs i (R i))
    (hl2 : ys.length = m * 3) (hin2 : InS T v2 ys) (hd2 : DBx v2 ys) (he2 : ∀ i, i < m → ELz w lo2 ys i (R2 i)) (hlo : lo ≤ lo2) (hST : ∀ k, S k → T k → False) (hS : ∀ k, S k → k < w.heap.size) (hT : ∀ k, T k → k < w.heap.size)
    (ho3 : w3.ownsRow lo 81 3 v' (n + m) (zs ++ ys)) (hg : w.grownBy w3 v.ownBlock) (hat : v'.ownBlock = v.ownBlock ∨ v'.ownBlock = some w.heap.size) :
    RSP w3 lo (fun k => S k ∨ T k ∨ v'.ownBlock = some k) v' (n + m) (appR n R R2) := by
  have far : ∀ {x : Value} {l : Nat} {ys : List Value} {b : Nat}, w.ownsRow b 72 3 x l ys → (∀ k, x.ownBlock = some k → v.ownBlock = some k → False) → w3.ownsRow b 72 3 x l ys := fun {x l ys b} h hx => own_far h hg (fun q hq k hk e => hx k hk (by rw [hq, e]))
  have cases_ : ∀ {p : Nat} {x : Value}, (zs ++ ys)[p]? = some x → (p < n * 3 ∧ zs[p]? = some x) ∨ (n * 3 ≤ p ∧ ys[p - n * 3]? = some x) := by
    intro p x hz
    by_cases e : p < n * 3
    · exact .inl ⟨e, (app_left (by omega)).symm.trans hz⟩
    · exact .inr ⟨by omega, by rw [app_right (q := p - n * 3) (by omega)] at hz; exact hz⟩
  refine ⟨_, ho3, by simp; omega, ⟨fun k hk => .inr (.inr hk), fun p x k hz hk => ?_⟩, ⟨fun p x k hz hk hk2 => ?_, fun p q x y k hpq hz hy hk hk2 => ?_⟩, fun i hi => ?_⟩
  · rcases cases_ hz with ⟨_, h⟩ | ⟨_, h⟩
    · exact .inl (hin.2 _ _ k h hk)
    · exact .inr (.inl (hin2.2 _ _ k h hk))
  · rcases hat with h | h
    · rw [h] at hk2
      rcases cases_ hz with ⟨_, h⟩ | ⟨_, h⟩
      · exact hd.1 _ _ k h hk hk2
      · exact hST k (hin.1 k hk2) (hin2.2 _ _ k h hk)
    · rw [h] at hk2
      have e := Option.some.inj hk2
      rcases cases_ hz with ⟨_, h⟩ | ⟨_, h⟩
      · have := hS k (hin.2 _ _ k h hk); omega
      · have := hT k (hin2.2 _ _ k h hk); omega
  · rcases cases_ hz with ⟨a, h⟩ | ⟨a, h⟩
    · rcases cases_ hy with ⟨b, h2⟩ | ⟨b, h2⟩
      · exact hd.2 p q x y k hpq h h2 hk hk2
      · exact hST k (hin.2 _ _ k h hk) (hin2.2 _ _ k h2 hk2)
    · rcases cases_ hy with ⟨b, h2⟩ | ⟨b, h2⟩
      · omega
      · exact hd2.2 (p - n * 3) (q - n * 3) x y k (by omega) h h2 hk hk2
  · by_cases e : i < n
    · obtain ⟨ua, ub, y0, y1, y2, r1, r2⟩ := he i e
      rw [appR, if_pos e]
      exact ⟨ua, ub, (app_left (by omega)).trans y0, (app_left (by omega)).trans y1, (app_left (by omega)).trans y2, far r1 (fun k h1 h2 => hd.1 _ _ k y1 h1 h2), far r2 (fun k h1 h2 => hd.1 _ _ k y2 h1 h2)⟩
    · obtain ⟨ua, ub, y0, y1, y2, r1, r2⟩ := he2 (i - n) (by omega)
      rw [appR, if_neg e]
      exact ⟨ua, ub, (app_right (by omega)).trans y0, (app_right (by omega)).trans y1, (app_right (by omega)).trans y2, own_base (far r1 (fun k h1 h2 => hST k (hin.1 k h2) (hin2.2 _ _ k y1 h1))) hlo, own_base (far r2 (fun k h1 h2 => hST k (hin.1 k h2) (hin2.2 _ _ k y2 h1))) hlo⟩

end Go.Proofs.Ytchaanppoklapaa
