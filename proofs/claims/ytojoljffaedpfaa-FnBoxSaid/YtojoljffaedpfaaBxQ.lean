/- Boxes: the reference's BoxPoints. -/
import Derived.Test.YtojoljffaedpfaaBxS
namespace Go.Proofs.Ytojoljffaedpfaa
open Go.RowKit Go.Lib
set_option linter.unusedVariables false
set_option linter.unusedSimpArgs false

theorem own_farB {w w' : World} {base : Nat} {e : TypeId} {size : Nat} {v : Value} {n : Nat} {xs : List Value} {row : Option Nat} (h : w.ownsRow base e size v n xs) (hg : w.grownBy w' row) (hne : ∀ j, row = some j → ∀ k, v.ownBlock = some k → j ≠ k) : w'.ownsRow base e size v n xs := by
  refine h.kept hg ?_
  cases hv : v.ownBlock with
  | none => exact .inl rfl
  | some k => exact .inr fun he => hne k he.symm k hv rfl
/-- L holds just those of S that D has reached -/
def InvX (S D : Int × Int → Prop) (L : List (Int × Int)) (K : Int) : Prop := (∀ x, x ∈ L ↔ S x ∧ D x) ∧ L.Nodup ∧ (L.length : Int) ≤ K
def DX (p : Int) (x : Int × Int) : Prop := x.1 < p
def DY (p q : Int) (x : Int × Int) : Prop := x.1 < p ∨ (x.1 = p ∧ x.2 < q)
theorem InvX.mono {S D D' : Int × Int → Prop} {L : List (Int × Int)} {K K' : Int} (h : InvX S D L K) (hD : ∀ x, S x → (D x ↔ D' x)) (hK : K ≤ K') : InvX S D' L K' :=
  ⟨fun x => (h.1 x).trans ⟨fun k => ⟨k.1, (hD x k.1).1 k.2⟩, fun k => ⟨k.1, (hD x k.1).2 k.2⟩⟩, h.2.1, Int.le_trans h.2.2 hK⟩
theorem invX_start {S : Int × Int → Prop} (h : ∀ x, S x → Bn2 x) : InvX S (DX (-110)) [] 0 :=
  ⟨fun x => by simp only [List.not_mem_nil, false_iff, DX]; rintro ⟨h1, h2⟩; have := h x h1; unfold Bn2 at this; omega, List.nodup_nil, by simp⟩
theorem invX_in {S : Int × Int → Prop} {p K : Int} {L : List (Int × Int)} (hb : ∀ x, S x → Bn2 x) (h : InvX S (DX p) L K) : InvX S (DY p (-300)) L K :=
  h.mono (fun x hx => by have := hb x hx; unfold Bn2 at this; unfold DX DY; omega) (Int.le_refl _)
theorem invX_out {S : Int × Int → Prop} {p q K K' : Int} {L : List (Int × Int)} (hb : ∀ x, S x → Bn2 x) (h : InvX S (DY p q) L K) (hq : 300 < q) (hK : K ≤ K') : InvX S (DX (p + 1)) L K' :=
  h.mono (fun x hx => by have := hb x hx; unfold Bn2 at this; unfold DX DY; omega) hK
theorem invX_end {S : Int × Int → Prop} {p K : Int} {L : List (Int × Int)} (hb : ∀ x, S x → Bn2 x) (h : InvX S (DX p) L K) (hp : 110 < p) : L.Nodup ∧ ∀ x, x ∈ L ↔ S x :=
  ⟨h.2.1, fun x => (h.1 x).trans ⟨fun k => k.1, fun k => ⟨k, by have := hb x k; unfold Bn2 at this; unfold DX; omega⟩⟩⟩
theorem invX_no {S : Int × Int → Prop} {q p K K' : Int} {L : List (Int × Int)} (h : InvX S (DY p q) L K) (hn : ¬ S (p, q)) (hK : K ≤ K') : InvX S (DY p (q + 1)) L K' :=
  h.mono (fun x hx => by
    unfold DY
    constructor
    · rintro (k | ⟨k1, k2⟩)
      · exact .inl k
      · exact .inr ⟨k1, by omega⟩
    · rintro (k | ⟨k1, k2⟩)
      · exact .inl k
      · rcases Int.lt_or_le x.2 q with k3 | k3
        · exact .inr ⟨k1, k3⟩
        · have e : x = (p, q) := Prod.ext k1 (by simp; omega)
          exact absurd (e ▸ hx) hn) hK
theorem invX_yes {S : Int × Int → Prop} {q p K K' : Int} {L : List (Int × Int)} (h : InvX S (DY p q) L K) (hy : S (p, q)) (hK : K + 1 ≤ K') : InvX S (DY p (q + 1)) (L ++ [(p, q)]) K' := by
  have hn : (p, q) ∉ L := fun hm => by
    have := ((h.1 _).1 hm).2
    unfold DY at this
    simp only at this
    omega
  refine ⟨fun x => ?_, ?_, ?_⟩
  · rw [List.mem_append, h.1 x, List.mem_singleton]
    unfold DY
    constructor
    · rintro (⟨k1, k2 | ⟨k2, k3⟩⟩ | rfl)
      · exact ⟨k1, .inl k2⟩
      · exact ⟨k1, .inr ⟨k2, by omega⟩⟩
      · exact ⟨hy, .inr ⟨rfl, by simp; omega⟩⟩
    · rintro ⟨k1, k2 | ⟨k2, k3⟩⟩
      · exact .inl ⟨k1, .inl k2⟩
      · rcases Int.lt_or_le x.2 q with k4 | k4
        · exact .inl ⟨k1, .inr ⟨k2, k4⟩⟩
        · exact .inr (Prod.ext k2 (by simp; omega))
  · rw [List.nodup_append]
    refine ⟨h.2.1, by simp, ?_⟩
    intro a ha b hb e
    rw [List.mem_singleton] at hb
    exact hn (by rw [← hb, ← e]; exact ha)
  · have := h.2.2
    rw [List.length_append]
    simp only [List.length_cons, List.length_nil]
    omega
theorem put_permR {L M : List Q4} {x : Q4} (h : PutR L x M) : M.Perm (L ++ [x]) := by
  obtain ⟨k, -, rfl, -⟩ := h
  have h1 : (L.take k ++ x :: L.drop k).Perm (x :: (L.take k ++ L.drop k)) := List.perm_middle
  rw [List.take_append_drop] at h1
  exact h1.trans (List.perm_append_singleton x L).symm
theorem put_sortedR {L M : List Q4} {x : Q4} (h : PutR L x M) (hs : L.Pairwise fun x y => ¬ kyR y < kyR x) : M.Pairwise fun x y => ¬ kyR y < kyR x := by
  obtain ⟨k, hk, rfl, h1, h2⟩ := h
  refine pw_insert (by rw [List.take_append_drop]; exact hs) (fun y hy => ?_) (fun y hy => by have := h1 y hy; omega)
  rcases h2 with rfl | ⟨hl, h3⟩
  · simp at hy
  · have hle : kyR y ≤ kyR L[k - 1] := by
      obtain ⟨i, hi, rfl⟩ := List.getElem_of_mem hy
      rw [List.length_take] at hi
      rw [List.getElem_take]
      rcases Nat.lt_or_ge i (k - 1) with h4 | h4
      · have := List.pairwise_iff_getElem.1 hs i (k - 1) (by omega) hl h4
        omega
      · obtain rfl : i = k - 1 := by omega
        omega
    show ¬ kyR x < kyR y
    omega
theorem bxL_bn {M N : List (Int × Int)} (h1 : ∀ x ∈ M, Bn2 x) (h2 : ∀ x ∈ N, Bn2 x) : ∀ z ∈ bxL M N, Bn4 z := fun z hz =>
  solR_bn (S1 := fun x => x ∈ M) (S2 := fun x => x ∈ N) h1 h2 z ((bxL_mem (fun _ => Iff.rfl) (fun _ => Iff.rfl) z).1 hz)
theorem bxI_bn {x : Int × Int} {N : List (Int × Int)} (h1 : Bn2 x) (h2 : ∀ x ∈ N, Bn2 x) : ∀ z ∈ bxI x N, Bn4 z := fun z hz =>
  bxL_bn (M := [x]) (by intro y hy; rw [List.mem_singleton] at hy; exact hy ▸ h1) h2 z (by unfold bxL; simp; exact hz)
theorem fl2_atQ {M : List (Int × Int)} {j : Nat} (h : j < M.length) : M[j] = (at3 (fl2 M) (j * 2), at3 (fl2 M) (j * 2 + 1)) := by
  rw [(at3_fl2 M j h).1, (at3_fl2 M j h).2]
theorem evn_yesQ {p q r s : Int} (h : (q + s).tmod 2 = 0) : evn (p, q) (r, s) = true := by unfold evn; rw [decide_eq_true_eq]; exact h
theorem evn_noQ {p q r s : Int} (h : ¬ (q + s).tmod 2 = 0) : evn (p, q) (r, s) = false := by unfold evn; rw [decide_eq_false_iff_not]; exact h

set_option maxRecDepth 20000 in
set_option maxHeartbeats 8000000 in
theorem s_boxPoints_any (a1 a2 a3 b1 b2 b3 c1 c2 c3 d1 d2 d3 : Int) (w : World) :
    Calls Try.prog 18 #[.agg #[.int .i64 a1, .int .i64 a2, .int .i64 a3], .agg #[.int .i64 b1, .int .i64 b2, .int .i64 b3], .agg #[.int .i64 c1, .int .i64 c2, .int .i64 c3], .agg #[.int .i64 d1, .int .i64 d2, .int .i64 d3]] w fun e w' => ∃ v, e = .returned (.tuple #[v, .bool (brOk a1 a2 a3 b1 b2 b3 c1 c2 c3 d1 d2 d3)]) ∧
      w'.ownsRow w.heap.size 51 4 v (brV a1 a2 a3 b1 b2 b3 c1 c2 c3 d1 d2 d3).length (IL (fl4 (brV a1 a2 a3 b1 b2 b3 c1 c2 c3 d1 d2 d3))) ∧ Ext w w' := by
  have HNO : Hid (brOk a1 a2 a3 b1 b2 b3 c1 c2 c3 d1 d2 d3 = false → brV a1 a2 a3 b1 b2 b3 c1 c2 c3 d1 d2 d3 = []) := brV_no
  cases g1 : Sid a1 a2 a3
  · have HN : Hid (brOk a1 a2 a3 b1 b2 b3 c1 c2 c3 d1 d2 d3 = false) := by unfold Hid brOk; rw [g1]; simp
    have HN2 := Lib.hid (HNO.out HN.out)
    have HV1 := fun w => Lib.hid (l25Side_any a1 a2 a3 w)
    rw [g1] at HV1
    clear HNO g1
    go_enter Try.func18, Try.ntmps18
    go_wp2_with fail
    refine ((HV1 _).out).mono ?_
    rintro e w1 ⟨rfl, hx1⟩
    obtain ⟨hc1, hf1⟩ := hx1.cells
    have hz1 := hx1.size
    try simp at hz1
    have hs1_0 := sz4 (a := w.heap.size) (b := w1.heap.size) (by omega)
    go_wp2
    go_ret2
    rw [HN.out, HN2.out]
    exact ⟨_, rfl, own_nil _ _ _ _, (by repeat (first | (with_reducible refine Ext.setCell ?_ (by first | (simp; done) | (simp; omega)) _) | with_reducible refine Ext.alloc ?_ _ | with_reducible refine Ext.drew ?_ | with_reducible refine Ext.drewN ?_ _ | with_reducible assumption | with_reducible exact Ext.refl _ | with_reducible refine Ext.trans ?_ (by with_reducible assumption)))⟩
  cases g2 : Sid b1 b2 b3
  · have HN : Hid (brOk a1 a2 a3 b1 b2 b3 c1 c2 c3 d1 d2 d3 = false) := by unfold Hid brOk; rw [g1, g2]; simp
    have HN2 := Lib.hid (HNO.out HN.out)
    have HV1 := fun w => Lib.hid (l25Side_any a1 a2 a3 w)
    rw [g1] at HV1
    have HV2 := fun w => Lib.hid (l25Side_any b1 b2 b3 w)
    rw [g2] at HV2
    clear HNO g1 g2
    go_enter Try.func18, Try.ntmps18
    go_wp2_with fail
    refine ((HV1 _).out).mono ?_
    rintro e w1 ⟨rfl, hx1⟩
    obtain ⟨hc1, hf1⟩ := hx1.cells
    have hz1 := hx1.size
    try simp at hz1
    have hs1_0 := sz4 (a := w.heap.size) (b := w1.heap.size) (by omega)
    go_wp2_with fail
    refine ((HV2 _).out).mono ?_
    rintro e w2 ⟨rfl, hx2⟩
    obtain ⟨hc2, hf2⟩ := hx2.cells
    have hz2 := hx2.size
    try simp at hz2
    have hs2_0 := sz4 (a := w.heap.size) (b := w2.heap.size) (by omega)
    go_wp2
    go_ret2
    rw [HN.out, HN2.out]
    exact ⟨_, rfl, own_nil _ _ _ _, (by repeat (first | (with_reducible refine Ext.setCell ?_ (by first | (simp; done) | (simp; omega)) _) | with_reducible refine Ext.alloc ?_ _ | with_reducible refine Ext.drew ?_ | with_reducible refine Ext.drewN ?_ _ | with_reducible assumption | with_reducible exact Ext.refl _ | with_reducible refine Ext.trans ?_ (by with_reducible assumption)))⟩
  cases g3 : Sid c1 c2 c3
  · have HN : Hid (brOk a1 a2 a3 b1 b2 b3 c1 c2 c3 d1 d2 d3 = false) := by unfold Hid brOk; rw [g1, g2, g3]; simp
    have HN2 := Lib.hid (HNO.out HN.out)
    have HV1 := fun w => Lib.hid (l25Side_any a1 a2 a3 w)
    rw [g1] at HV1
    have HV2 := fun w => Lib.hid (l25Side_any b1 b2 b3 w)
    rw [g2] at HV2
    have HV3 := fun w => Lib.hid (l25Side_any c1 c2 c3 w)
    rw [g3] at HV3
    clear HNO g1 g2 g3
    go_enter Try.func18, Try.ntmps18
    go_wp2_with fail
    refine ((HV1 _).out).mono ?_
    rintro e w1 ⟨rfl, hx1⟩
    obtain ⟨hc1, hf1⟩ := hx1.cells
    have hz1 := hx1.size
    try simp at hz1
    have hs1_0 := sz4 (a := w.heap.size) (b := w1.heap.size) (by omega)
    go_wp2_with fail
    refine ((HV2 _).out).mono ?_
    rintro e w2 ⟨rfl, hx2⟩
    obtain ⟨hc2, hf2⟩ := hx2.cells
    have hz2 := hx2.size
    try simp at hz2
    have hs2_0 := sz4 (a := w.heap.size) (b := w2.heap.size) (by omega)
    go_wp2_with fail
    refine ((HV3 _).out).mono ?_
    rintro e w3 ⟨rfl, hx3⟩
    obtain ⟨hc3, hf3⟩ := hx3.cells
    have hz3 := hx3.size
    try simp at hz3
    have hs3_0 := sz4 (a := w.heap.size) (b := w3.heap.size) (by omega)
    go_wp2
    go_ret2
    rw [HN.out, HN2.out]
    exact ⟨_, rfl, own_nil _ _ _ _, (by repeat (first | (with_reducible refine Ext.setCell ?_ (by first | (simp; done) | (simp; omega)) _) | with_reducible refine Ext.alloc ?_ _ | with_reducible refine Ext.drew ?_ | with_reducible refine Ext.drewN ?_ _ | with_reducible assumption | with_reducible exact Ext.refl _ | with_reducible refine Ext.trans ?_ (by with_reducible assumption)))⟩
  cases g4 : Sid d1 d2 d3
  · have HN : Hid (brOk a1 a2 a3 b1 b2 b3 c1 c2 c3 d1 d2 d3 = false) := by unfold Hid brOk; rw [g1, g2, g3, g4]; simp
    have HN2 := Lib.hid (HNO.out HN.out)
    have HV1 := fun w => Lib.hid (l25Side_any a1 a2 a3 w)
    rw [g1] at HV1
    have HV2 := fun w => Lib.hid (l25Side_any b1 b2 b3 w)
    rw [g2] at HV2
    have HV3 := fun w => Lib.hid (l25Side_any c1 c2 c3 w)
    rw [g3] at HV3
    have HV4 := fun w => Lib.hid (l25Side_any d1 d2 d3 w)
    rw [g4] at HV4
    clear HNO g1 g2 g3 g4
    go_enter Try.func18, Try.ntmps18
    go_wp2_with fail
    refine ((HV1 _).out).mono ?_
    rintro e w1 ⟨rfl, hx1⟩
    obtain ⟨hc1, hf1⟩ := hx1.cells
    have hz1 := hx1.size
    try simp at hz1
    have hs1_0 := sz4 (a := w.heap.size) (b := w1.heap.size) (by omega)
    go_wp2_with fail
    refine ((HV2 _).out).mono ?_
    rintro e w2 ⟨rfl, hx2⟩
    obtain ⟨hc2, hf2⟩ := hx2.cells
    have hz2 := hx2.size
    try simp at hz2
    have hs2_0 := sz4 (a := w.heap.size) (b := w2.heap.size) (by omega)
    go_wp2_with fail
    refine ((HV3 _).out).mono ?_
    rintro e w3 ⟨rfl, hx3⟩
    obtain ⟨hc3, hf3⟩ := hx3.cells
    have hz3 := hx3.size
    try simp at hz3
    have hs3_0 := sz4 (a := w.heap.size) (b := w3.heap.size) (by omega)
    go_wp2_with fail
    refine ((HV4 _).out).mono ?_
    rintro e w4 ⟨rfl, hx4⟩
    obtain ⟨hc4, hf4⟩ := hx4.cells
    have hz4 := hx4.size
    try simp at hz4
    have hs4_0 := sz4 (a := w.heap.size) (b := w4.heap.size) (by omega)
    go_wp2
    go_ret2
    rw [HN.out, HN2.out]
    exact ⟨_, rfl, own_nil _ _ _ _, (by repeat (first | (with_reducible refine Ext.setCell ?_ (by first | (simp; done) | (simp; omega)) _) | with_reducible refine Ext.alloc ?_ _ | with_reducible refine Ext.drew ?_ | with_reducible refine Ext.drewN ?_ _ | with_reducible assumption | with_reducible exact Ext.refl _ | with_reducible refine Ext.trans ?_ (by with_reducible assumption)))⟩
  have HYO : Hid (brOk a1 a2 a3 b1 b2 b3 c1 c2 c3 d1 d2 d3 = true) := by unfold Hid brOk; rw [g1, g2, g3, g4]; rfl
  have HYV := Lib.hid (brV_yes HYO.out)
  have HBY := fun {M N : List (Int × Int)} {L : List Q4} m1 m2 n1 n2 hp (hs : SrtR L) => Lib.hid (brL_by (M := M) (N := N) (L := L) HYO.out m1 m2 n1 n2 hp hs)
  have HVL : Hid ((brV a1 a2 a3 b1 b2 b3 c1 c2 c3 d1 d2 d3).length ≤ 180625) := brV_len
  have HV1 := fun w => Lib.hid (l25Side_any a1 a2 a3 w)
  have HV2 := fun w => Lib.hid (l25Side_any b1 b2 b3 w)
  have HV3 := fun w => Lib.hid (l25Side_any c1 c2 c3 w)
  have HV4 := fun w => Lib.hid (l25Side_any d1 d2 d3 w)
  have HLM := Lib.hid (fun (L : List (Int × Int)) hn hm => pts_len (L := L) g1 g2 hn hm)
  have HLN := Lib.hid (fun (L : List (Int × Int)) hn hm => pts_len (L := L) g3 g4 hn hm)
  have HB1 := Lib.hid (fun x (hx : Sol 2 a1 a2 a3 b1 b2 b3 x) => sol2_bn g1 g2 hx)
  have HB2 := Lib.hid (fun x (hx : Sol 2 c1 c2 c3 d1 d2 d3 x) => sol2_bn g3 g4 hx)
  have HIa := fun p q hp hq w => Lib.hid (l25Half_any p q a1 a2 a3 g1 hp hq w)
  have HIb := fun p q hp hq w => Lib.hid (l25Half_any p q b1 b2 b3 g2 hp hq w)
  have HIc := fun p q hp hq w => Lib.hid (l25Half_any p q c1 c2 c3 g3 hp hq w)
  have HId := fun p q hp hq w => Lib.hid (l25Half_any p q d1 d2 d3 g4 hp hq w)
  rw [g1] at HV1
  rw [g2] at HV2
  rw [g3] at HV3
  rw [g4] at HV4
  clear g1 g2 g3 g4 HNO
  go_enter Try.func18, Try.ntmps18
  go_wp2_with fail
  refine ((HV1 _).out).mono ?_
  rintro e w1 ⟨rfl, hx1⟩
  obtain ⟨hc1, hf1⟩ := hx1.cells
  have hz1 := hx1.size
  try simp at hz1
  have hs1_0 := sz4 (a := w.heap.size) (b := w1.heap.size) (by omega)
  go_wp2_with fail
  refine ((HV2 _).out).mono ?_
  rintro e w2 ⟨rfl, hx2⟩
  obtain ⟨hc2, hf2⟩ := hx2.cells
  have hz2 := hx2.size
  try simp at hz2
  have hs2_0 := sz4 (a := w.heap.size) (b := w2.heap.size) (by omega)
  go_wp2_with fail
  refine ((HV3 _).out).mono ?_
  rintro e w3 ⟨rfl, hx3⟩
  obtain ⟨hc3, hf3⟩ := hx3.cells
  have hz3 := hx3.size
  try simp at hz3
  have hs3_0 := sz4 (a := w.heap.size) (b := w3.heap.size) (by omega)
  go_wp2_with fail
  refine ((HV4 _).out).mono ?_
  rintro e w4 ⟨rfl, hx4⟩
  obtain ⟨hc4, hf4⟩ := hx4.cells
  have hz4 := hx4.size
  try simp at hz4
  have hs4_0 := sz4 (a := w.heap.size) (b := w4.heap.size) (by omega)
  have hE4 : Ext w w4 := (by repeat (first | (with_reducible refine Ext.setCell ?_ (by first | (simp; done) | (simp; omega)) _) | with_reducible refine Ext.alloc ?_ _ | with_reducible refine Ext.drew ?_ | with_reducible refine Ext.drewN ?_ _ | with_reducible assumption | with_reducible exact Ext.refl _ | with_reducible refine Ext.trans ?_ (by with_reducible assumption)))
  have hs4 : w.heap.size + 4 ≤ w4.heap.size := by have := hx1.size; have := hx2.size; have := hx3.size; have := hx4.size; simp at *; omega
  have hA4 : Hid (w4.heap[w.heap.size]? = some (.cells #[.int .i64 a1, .int .i64 a2, .int .i64 a3] 27 (0, 0))) := (hx4.heap (by omega)).trans ((hx3.heap (by omega)).trans ((hx2.heap (by omega)).trans ((hx1.heap (by simp; try omega)).trans (heap_alloc_lt (heap_alloc_lt (heap_alloc_lt (heap_alloc_new _ _)))))))
  have hB4 : Hid (w4.heap[w.heap.size + 1]? = some (.cells #[.int .i64 b1, .int .i64 b2, .int .i64 b3] 27 (0, 0))) := (hx4.heap (by omega)).trans ((hx3.heap (by omega)).trans ((hx2.heap (by omega)).trans ((hx1.heap (by simp; try omega)).trans (heap_alloc_lt (heap_alloc_lt (heap_alloc_at _ _ _ (by simp)))))))
  have hC4 : Hid (w4.heap[w.heap.size + 2]? = some (.cells #[.int .i64 c1, .int .i64 c2, .int .i64 c3] 27 (0, 0))) := (hx4.heap (by omega)).trans ((hx3.heap (by omega)).trans ((hx2.heap (by omega)).trans ((hx1.heap (by simp; try omega)).trans (heap_alloc_lt (heap_alloc_at _ _ _ (by simp))))))
  have hD4 : Hid (w4.heap[w.heap.size + 3]? = some (.cells #[.int .i64 d1, .int .i64 d2, .int .i64 d3] 27 (0, 0))) := (hx4.heap (by omega)).trans ((hx3.heap (by omega)).trans ((hx2.heap (by omega)).trans ((hx1.heap (by simp; try omega)).trans (heap_alloc_at _ _ _ (by simp)))))
  have HE4 := Lib.hid hE4
  clear hx1 hx2 hx3 hx4 hc1 hc2 hc3 hc4 hf1 hf2 hf3 hf4 hz1 hz2 hz3 hz4 hs1_0 hs2_0 hs3_0 hs4_0 hE4 HV1 HV2 HV3 HV4
  go_wp2
  go_loopw [10, 11, 12, 13] (fun s10 s11 i _ wr => ∃ (x : Int) (vr vi : Value) (M N : List (Int × Int)), -110 ≤ x ∧ x ≤ 111 ∧ i = .int .i64 x ∧ vr = s10 ∧ vi = s11 ∧ Hid (wr.ownsRow w4.heap.size 34 2 vr M.length (IL (fl2 M))) ∧ Hid (wr.ownsRow w4.heap.size 34 2 vi N.length (IL (fl2 N))) ∧ Hid (∀ k, vr.ownBlock = some k → ∀ l, vi.ownBlock = some l → k ≠ l) ∧ Hid (InvX (Sol 2 a1 a2 a3 b1 b2 b3) (DX x) M ((x + 110) * 601)) ∧ Hid (InvX (Sol 2 c1 c2 c3 d1 d2 d3) (DX x) N ((x + 110) * 601)) ∧ Ext w4 wr) (fun _ _ i _ _ => (111 - intOf i).toNat)
  case atStart => exact ⟨-110, _, _, [], [], by omega, by omega, rfl, rfl, rfl, own_nil _ _ _ _, own_nil _ _ _ _, fun k hk => by (first | cases hk | (simp [Value.ownBlock] at hk)), invX_start HB1.out, invX_start HB2.out, Ext.refl _⟩
  case round =>
    obtain ⟨x, vr, vi, M, N, hx1, hx2, rfl, rfl, rfl, HOM, HON, HDJ, HIM, HIN, hE⟩ := hrel
    by_cases hlt : x ≤ 110
    case neg =>
      obtain ⟨m1, m2⟩ := invX_end HB1.out HIM.out (by omega)
      obtain ⟨n1, n2⟩ := invX_end HB2.out HIN.out (by omega)
      have lM := HLM.out M m1 m2
      have lN := HLN.out N n1 n2
      have HM1 := Lib.hid m1
      have HM2 := Lib.hid m2
      have HN1 := Lib.hid n1
      have HN2 := Lib.hid n2
      have HBM : Hid (∀ x ∈ M, Bn2 x) := fun x hx => HB1.out x ((m2 x).1 hx)
      have HBN : Hid (∀ x ∈ N, Bn2 x) := fun x hx => HB2.out x ((n2 x).1 hx)
      have hlfM := fl2_len M
      have hlfN := fl2_len N
      obtain ⟨_, aM, cM, rfl, cm1, cm2, HHM⟩ := RV.own HOM.out hlfM
      obtain ⟨_, aN, cN, rfl, cn1, cn2, HHN⟩ := RV.own HON.out hlfN
      have HH := Lib.hid HHM
      have HH2 := Lib.hid HHN
      have HLf := Lib.hid hlfM
      have HLf2 := Lib.hid hlfN
      have HEw := Lib.hid (HE4.out.trans hE)
      have hs5 : w.heap.size ≤ wr.heap.size := HEw.out.size
      clear HIM HIN hE HDJ m1 m2 n1 n2 HHM HHN hlfM hlfN HOM HON HLM HLN HIa HIb HIc HId
      generalize hnm : M.length = m at *
      generalize hnn : N.length = n at *
      have HNM := Lib.hid hnm
      have HNN := Lib.hid hnn
      clear hnm hnn
      obtain ⟨w5, rfl⟩ : ∃ w5 : World, w5 = wr := ⟨_, rfl⟩
      go_wp2
      go_loopw [14, 81] (fun s i wr => ∃ (j : Nat) (v : Value) (L : List Q4), j ≤ m ∧ i = .int .i64 j ∧ v = s ∧ Hid (wr.ownsRow w5.heap.size 51 4 v L.length (IL (fl4 L))) ∧ Hid (L.Perm (bxL (M.take j) N)) ∧ Hid (SrtR L) ∧ Ext w5 wr) (fun _ i _ => m - (intOf i).toNat)
      case atStart => exact ⟨0, _, [], by omega, rfl, rfl, own_nil _ _ _ _, by unfold Hid; simp [bxL], List.Pairwise.nil, Ext.refl _⟩
      case round =>
        obtain ⟨j, v, L, hj, rfl, rfl, HO, HPm, HSt, hE⟩ := hrel
        by_cases hlt3 : j < m
        case neg =>
          obtain rfl : j = m := by omega
          have hL := (HBY (L := L) HM1.out HM2.out HN1.out HN2.out (by have := HPm.out; rwa [List.take_of_length_le (by rw [HNM.out]; exact Nat.le_refl _)] at this) HSt.out).out
          go_wp2
          go_ret2
          rw [HYO.out, HYV.out, ← hL]
          exact ⟨_, rfl, own_base HO.out hs5, HEw.out.trans hE⟩
        have hlt3' : (j : Int) < m := by omega
        have hjM : j < M.length := by have := HNM.out; omega
        have hxe := fl2_atQ hjM
        have hbx := HBM.out _ (List.getElem_mem hjM)
        rw [hxe] at hbx
        have HBX := Lib.hid hbx
        have HSN := Lib.hid (bxL_snoc M N j hjM)
        rw [hxe] at HSN
        have HLE : Hid ((bxL (M.take j) N).length ≤ 180625) := by
          unfold Hid
          have k1 := bxL_len N (M.take j)
          have k2 := Nat.mul_le_mul (show (M.take j).length ≤ 425 by rw [List.length_take]; omega) (show N.length ≤ 425 by rw [HNN.out]; omega)
          omega
        have HBL : Hid (∀ z ∈ bxL (M.take j) N, Bn4 z) := bxL_bn (fun x hx => HBM.out x (List.mem_of_mem_take hx)) HBN.out
        clear hxe
        obtain ⟨b, off, rfl, hbk, hcell⟩ := HH.out (by omega)
        have hbr : b < wr.heap.size := by have := hE.size; omega
        have z0 : wr.cell? ⟨b, off + j * 2, none⟩ = some (.int .i64 (at3 (fl2 M) (j * 2))) := (hE.cells.1 b (off + (j * 2)) hbk).trans (hcell _ _ (at3_get (by have := HLf.out; omega)))
        have z1 : wr.cell? ⟨b, off + j * 2 + 1, none⟩ = some (.int .i64 (at3 (fl2 M) (j * 2 + 1))) := (hE.cells.1 b (off + (j * 2 + 1)) hbk).trans (hcell _ _ (at3_get (by have := HLf.out; omega)))
        clear hcell
        generalize at3 (fl2 M) (j * 2) = px at *
        generalize at3 (fl2 M) (j * 2 + 1) = qx at *
        obtain ⟨⟨bx1, bx2⟩, bx3, bx4⟩ := hbx
        simp only at bx1 bx2 bx3 bx4
        go_wp2
        obtain ⟨wo, rfl⟩ : ∃ wo : World, wo = wr := ⟨_, rfl⟩
        have HXB := Lib.hid (heap_alloc_new wo (.cells #[.int .i64 px, .int .i64 qx] 34 (0, 0)))
        have HEo := Lib.hid (hE.alloc (.cells #[.int .i64 px, .int .i64 qx] 34 (0, 0)))
        clear hE
        go_loopw [14, 87] (fun s i wr => ∃ (jj : Nat) (v : Value) (L2 : List Q4), jj ≤ n ∧ i = .int .i64 jj ∧ v = s ∧ Hid (wr.ownsRow w5.heap.size 51 4 v L2.length (IL (fl4 L2))) ∧ Hid (L2.Perm (bxL (M.take j) N ++ bxI (px, qx) (N.take jj))) ∧ Hid (SrtR L2) ∧ Ext (wo.alloc (.cells #[.int .i64 px, .int .i64 qx] 34 (0, 0))) wr) (fun _ i _ => n - (intOf i).toNat)
        case atStart => exact ⟨0, v, L, by omega, rfl, rfl, own_ext HO.out ((Ext.refl wo).alloc _), by unfold Hid; simpa [bxI] using HPm.out, HSt, Ext.refl _⟩
        case round =>
          obtain ⟨jj, v2, L2, hjj, rfl, rfl, HO2, HPm2, HSt2, hE2⟩ := hrel
          have hbX := (hE2.heap (k := wo.heap.size) (by simp)).trans HXB.out
          have zX := fun k => cell_of_row _ _ k _ _ _ hbX
          have lX : wo.heap.size < wr.heap.size := (Array.getElem?_eq_some_iff.1 hbX).1
          clear hbX
          by_cases hlt2 : jj < n
          case neg =>
            obtain rfl : jj = n := by omega
            have HRL : Hid (L2.Perm (bxL (M.take (j + 1)) N)) := by
              have := HPm2.out
              rw [List.take_of_length_le (l := N) (by rw [HNN.out]; exact Nat.le_refl _)] at this
              unfold Hid
              rw [HSN.out]
              exact this
            go_wp2
            go_roundw
            case rel => exact ⟨j + 1, v2, L2, by omega, by go_num, rfl, HO2, HRL, HSt2, (HEo.out.trans hE2)⟩
            case measure => simp [intOf]; omega
          have hlt2' : (jj : Int) < n := by omega
          have hjN : jj < N.length := by have := HNN.out; omega
          have hye := fl2_atQ hjN
          have hby := HBN.out _ (List.getElem_mem hjN)
          rw [hye] at hby
          have HBY2 := Lib.hid hby
          have HSI := Lib.hid (bxI_snoc (px, qx) N jj hjN)
          rw [hye] at HSI
          clear hye
          obtain ⟨bv, offv, rfl, hbkv, hcellv⟩ := HH2.out (by omega)
          have hbrv : bv < wr.heap.size := by have := (HEo.out.trans hE2).size; omega
          have zv0 : wr.cell? ⟨bv, offv + jj * 2, none⟩ = some (.int .i64 (at3 (fl2 N) (jj * 2))) := ((HEo.out.trans hE2).cells.1 bv (offv + (jj * 2)) hbkv).trans (hcellv _ _ (at3_get (by have := HLf2.out; omega)))
          have zv1 : wr.cell? ⟨bv, offv + jj * 2 + 1, none⟩ = some (.int .i64 (at3 (fl2 N) (jj * 2 + 1))) := ((HEo.out.trans hE2).cells.1 bv (offv + (jj * 2 + 1)) hbkv).trans (hcellv _ _ (at3_get (by have := HLf2.out; omega)))
          clear hcellv
          generalize at3 (fl2 N) (jj * 2) = py at *
          generalize at3 (fl2 N) (jj * 2 + 1) = qy at *
          obtain ⟨⟨yb1, yb2⟩, yb3, yb4⟩ := hby
          simp only at yb1 yb2 yb3 yb4
          by_cases he : (qx + qy).tmod 2 = 0
          case neg =>
            have HS3 : Hid (bxI (px, qx) (N.take (jj + 1)) = bxI (px, qx) (N.take jj)) := by unfold Hid; rw [HSI.out, evn_noQ he]; simp
            go_wp2
            go_roundw
            case rel => exact ⟨jj + 1, v2, L2, by omega, by go_num, rfl, own_ext HO2.out ((Ext.refl wr).alloc _), (by unfold Hid; rw [HS3.out]; exact HPm2.out), HSt2, hE2.alloc _⟩
            case measure => simp [intOf]; omega
          case pos =>
            have HS3 : Hid (bxI (px, qx) (N.take (jj + 1)) = bxI (px, qx) (N.take jj) ++ [mkR (px, qx) (py, qy)]) := by unfold Hid; rw [HSI.out, evn_yesQ he]; simp
            have HLN : L2.length ≤ 200000 := by
              have k1 := HLE.out
              have k3 := bxI_len (px, qx) (N.take jj)
              rw [List.length_take] at k3
              rw [HPm2.out.length_eq, List.length_append]
              omega
            have hb4 : ∀ z ∈ L2, Bn4 z := fun z hz => by
              rcases List.mem_append.1 ((HPm2.out.mem_iff).1 hz) with h | h
              · exact HBL.out z h
              · exact bxI_bn HBX.out (fun x hx => HBN.out x (List.mem_of_mem_take hx)) z h
            have hev := evn_half (evn_yesQ (p := px) (r := py) he)
            simp only at hev
            have HMK : Hid (mkR (px, qx) (py, qy) = (px, (qx + qy).tdiv 2, py, (qy - qx).tdiv 2)) := by unfold Hid mkR; rw [Int.add_comm qx qy]
            have hbn : Bn4 (px, (qx + qy).tdiv 2, py, (qy - qx).tdiv 2) := by
              rw [Int.add_comm qx qy]
              unfold Bn4
              simp only
              omega
            have HPU := Lib.hid (l25Ring_any (L := L2) rfl (by omega) hb4 px ((qx + qy).tdiv 2) py ((qy - qx).tdiv 2) hbn (wr.alloc (.cells #[.int .i64 py, .int .i64 qy] 34 (0, 0))) (RVt.own (own_ext HO2.out ((Ext.refl wr).alloc _)) (fl4_len L2)))
            have hsW : w5.heap.size ≤ wr.heap.size := (HEo.out.trans hE2).size
            clear hb4 hbn hev
            go_wp2_with fail
            refine HPU.out.mono ?_
            rintro e w6 ⟨v5, rfl, M5, k1, k2, k3, hx6⟩
            have K1 := Lib.hid k1
            have K2 := Lib.hid k2
            have K3 := Lib.hid k3
            have hX6 := (hE2.alloc _).trans hx6
            clear k1 k2 k3
            go_wp2
            go_roundw
            case rel =>
              refine ⟨jj + 1, _, M5, by omega, by go_num, rfl, ?_, ?_, put_sortedR K2.out HSt2.out, hX6⟩
              · unfold Hid
                rw [K1.out]
                exact own_base K3.out (by simp; omega)
              · unfold Hid
                rw [HS3.out, HMK.out, ← List.append_assoc]
                exact (put_permR K2.out).trans (HPm2.out.append_right _)
            case measure => simp [intOf]; omega
    go_wp2
    have HEo := Lib.hid hE
    clear hE
    go_loopw [10, 11, 13] (fun s10 s11 i wr => ∃ (y : Int) (vr vi : Value) (M N : List (Int × Int)), -300 ≤ y ∧ y ≤ 301 ∧ i = .int .i64 y ∧ vr = s10 ∧ vi = s11 ∧ Hid (wr.ownsRow w4.heap.size 34 2 vr M.length (IL (fl2 M))) ∧ Hid (wr.ownsRow w4.heap.size 34 2 vi N.length (IL (fl2 N))) ∧ Hid (∀ k, vr.ownBlock = some k → ∀ l, vi.ownBlock = some l → k ≠ l) ∧ Hid (InvX (Sol 2 a1 a2 a3 b1 b2 b3) (DY x y) M ((x + 110) * 601 + (y + 300))) ∧ Hid (InvX (Sol 2 c1 c2 c3 d1 d2 d3) (DY x y) N ((x + 110) * 601 + (y + 300))) ∧ Ext w4 wr) (fun _ _ i _ => (301 - intOf i).toNat)
    case atStart => exact ⟨-300, _, _, M, N, by omega, by omega, rfl, rfl, rfl, HOM, HON, HDJ, (invX_in HB1.out HIM.out).mono (fun _ _ => Iff.rfl) (by omega), (invX_in HB2.out HIN.out).mono (fun _ _ => Iff.rfl) (by omega), HEo.out⟩
    case round =>
      obtain ⟨y, vr, vi, M, N, hy1, hy2, rfl, rfl, rfl, HOM, HON, HDJ, HIM, HIN, hE⟩ := hrel
      by_cases hlt2 : y ≤ 300
      case neg =>
        go_wp2
        go_roundw
        case rel => exact ⟨x + 1, _, _, M, N, by omega, by omega, by go_num, rfl, rfl, HOM, HON, HDJ, invX_out HB1.out HIM.out (by omega) (by omega), invX_out HB2.out HIN.out (by omega) (by omega), hE⟩
        case measure => simp [intOf]; omega
      have hIa := HIa x y (by omega) (by omega)
      have hIb := HIb x (-y) (by omega) (by omega)
      have hIc := HIc x y (by omega) (by omega)
      have hId := HId x (-y) (by omega) (by omega)
      have HS1 : Hid (Sol 2 a1 a2 a3 b1 b2 b3 (x, y) ↔ Lies (2 * x) y 2 a1 a2 a3 = true ∧ Lies (2 * x) (-y) 2 b1 b2 b3 = true) := by
        unfold Hid Sol
        exact ⟨fun k => k.2.2, fun k => ⟨⟨by show -4000000 ≤ 2 * x; omega, by show 2 * x ≤ 4000000; omega⟩, ⟨by show -1000000 ≤ y; omega, by show y ≤ 1000000; omega⟩, k⟩⟩
      have HS2 : Hid (Sol 2 c1 c2 c3 d1 d2 d3 (x, y) ↔ Lies (2 * x) y 2 c1 c2 c3 = true ∧ Lies (2 * x) (-y) 2 d1 d2 d3 = true) := by
        unfold Hid Sol
        exact ⟨fun k => k.2.2, fun k => ⟨⟨by show -4000000 ≤ 2 * x; omega, by show 2 * x ≤ 4000000; omega⟩, ⟨by show -1000000 ≤ y; omega, by show y ≤ 1000000; omega⟩, k⟩⟩
      have lM : M.length ≤ 200000 := by have := HIM.out.2.2; omega
      have lN : N.length ≤ 200000 := by have := HIN.out.2.2; omega
      generalize Lies (2 * x) y 2 a1 a2 a3 = u1 at *
      generalize Lies (2 * x) (-y) 2 b1 b2 b3 = u2 at *
      generalize Lies (2 * x) y 2 c1 c2 c3 = u3 at *
      generalize Lies (2 * x) (-y) 2 d1 d2 d3 = u4 at *
      have HK := Lib.hid (show (x + 110) * 601 + (y + 300) + 1 ≤ (x + 110) * 601 + (y + 1 + 300) by omega)
      cases u1
      · have hno1 : Hid (¬ Sol 2 a1 a2 a3 b1 b2 b3 (x, y)) := fun k => by have := HS1.out.1 k; simp at this
        cases u3
        · have hno2 : Hid (¬ Sol 2 c1 c2 c3 d1 d2 d3 (x, y)) := fun k => by have := HS2.out.1 k; simp at this
          have hb := (hE.heap (by omega)).trans hA4.out
          have zz := fun k => cell_of_row _ _ k _ _ _ hb
          have ll := (Array.getElem?_eq_some_iff.1 hb).1
          clear hb
          go_wp2_with fail
          refine (hIa _).out.mono ?_
          rintro e v1 ⟨rfl, hx1⟩
          clear zz ll
          have hE1 := hE.trans hx1
          have oM1 := Lib.hid (own_ext HOM.out hx1)
          have oN1 := Lib.hid (own_ext HON.out hx1)
          clear hx1
          have hb := (hE1.heap (by omega)).trans hC4.out
          have zz := fun k => cell_of_row _ _ k _ _ _ hb
          have ll := (Array.getElem?_eq_some_iff.1 hb).1
          clear hb
          go_wp2_with fail
          refine (hIc _).out.mono ?_
          rintro e v2 ⟨rfl, hx2⟩
          clear zz ll
          have hE2 := hE1.trans hx2
          have oM2 := Lib.hid (own_ext oM1.out hx2)
          have oN2 := Lib.hid (own_ext oN1.out hx2)
          clear hx2
          go_wp2
          go_roundw
          case rel => exact ⟨y + 1, _, _, M, N, by omega, by omega, by go_num, rfl, rfl, oM2, oN2, HDJ, invX_no HIM.out hno1.out (by omega), invX_no HIN.out hno2.out (by omega), hE2⟩
          case measure => simp [intOf]; omega
        cases u4
        · have hno2 : Hid (¬ Sol 2 c1 c2 c3 d1 d2 d3 (x, y)) := fun k => by have := HS2.out.1 k; simp at this
          have hb := (hE.heap (by omega)).trans hA4.out
          have zz := fun k => cell_of_row _ _ k _ _ _ hb
          have ll := (Array.getElem?_eq_some_iff.1 hb).1
          clear hb
          go_wp2_with fail
          refine (hIa _).out.mono ?_
          rintro e v1 ⟨rfl, hx1⟩
          clear zz ll
          have hE1 := hE.trans hx1
          have oM1 := Lib.hid (own_ext HOM.out hx1)
          have oN1 := Lib.hid (own_ext HON.out hx1)
          clear hx1
          have hb := (hE1.heap (by omega)).trans hC4.out
          have zz := fun k => cell_of_row _ _ k _ _ _ hb
          have ll := (Array.getElem?_eq_some_iff.1 hb).1
          clear hb
          go_wp2_with fail
          refine (hIc _).out.mono ?_
          rintro e v2 ⟨rfl, hx2⟩
          clear zz ll
          have hE2 := hE1.trans hx2
          have oM2 := Lib.hid (own_ext oM1.out hx2)
          have oN2 := Lib.hid (own_ext oN1.out hx2)
          clear hx2
          have hb := (hE2.heap (by omega)).trans hD4.out
          have zz := fun k => cell_of_row _ _ k _ _ _ hb
          have ll := (Array.getElem?_eq_some_iff.1 hb).1
          clear hb
          go_wp2_with fail
          refine (hId _).out.mono ?_
          rintro e v3 ⟨rfl, hx3⟩
          clear zz ll
          have hE3 := hE2.trans hx3
          have oM3 := Lib.hid (own_ext oM2.out hx3)
          have oN3 := Lib.hid (own_ext oN2.out hx3)
          clear hx3
          go_wp2
          go_roundw
          case rel => exact ⟨y + 1, _, _, M, N, by omega, by omega, by go_num, rfl, rfl, oM3, oN3, HDJ, invX_no HIM.out hno1.out (by omega), invX_no HIN.out hno2.out (by omega), hE3⟩
          case measure => simp [intOf]; omega
        · have hyes2 : Hid (Sol 2 c1 c2 c3 d1 d2 d3 (x, y)) := HS2.out.2 (by simp)
          have hb := (hE.heap (by omega)).trans hA4.out
          have zz := fun k => cell_of_row _ _ k _ _ _ hb
          have ll := (Array.getElem?_eq_some_iff.1 hb).1
          clear hb
          go_wp2_with fail
          refine (hIa _).out.mono ?_
          rintro e v1 ⟨rfl, hx1⟩
          clear zz ll
          have hE1 := hE.trans hx1
          have oM1 := Lib.hid (own_ext HOM.out hx1)
          have oN1 := Lib.hid (own_ext HON.out hx1)
          clear hx1
          have hb := (hE1.heap (by omega)).trans hC4.out
          have zz := fun k => cell_of_row _ _ k _ _ _ hb
          have ll := (Array.getElem?_eq_some_iff.1 hb).1
          clear hb
          go_wp2_with fail
          refine (hIc _).out.mono ?_
          rintro e v2 ⟨rfl, hx2⟩
          clear zz ll
          have hE2 := hE1.trans hx2
          have oM2 := Lib.hid (own_ext oM1.out hx2)
          have oN2 := Lib.hid (own_ext oN1.out hx2)
          clear hx2
          have hb := (hE2.heap (by omega)).trans hD4.out
          have zz := fun k => cell_of_row _ _ k _ _ _ hb
          have ll := (Array.getElem?_eq_some_iff.1 hb).1
          clear hb
          go_wp2_with fail
          refine (hId _).out.mono ?_
          rintro e v3 ⟨rfl, hx3⟩
          clear zz ll
          have hE3 := hE2.trans hx3
          have oM3 := Lib.hid (own_ext oM2.out hx3)
          have oN3 := Lib.hid (own_ext oN2.out hx3)
          clear hx3
          have oA4 := Lib.hid (own_ext oN3.out ((Ext.refl v3).alloc (.cells #[.int .i64 x, .int .i64 y] 34 (0, 0))))
          have oB4 := Lib.hid (own_ext oM3.out ((Ext.refl v3).alloc (.cells #[.int .i64 x, .int .i64 y] 34 (0, 0))))
          have hM4 := Lib.hid (heap_alloc_new v3 (.cells #[.int .i64 x, .int .i64 y] 34 (0, 0)))
          have hsz4 := hE3.size
          go_upto_region 9 with (at_builtin; go_loud (refine wpList_append_rvt (base := w4.heap.size) rfl elt_r2 rfl _ N.length (fl2 N) rfl oA4.out _ 1 [x, y] rfl (rv_heap hM4.out rfl rfl (by omega) (by decide)) (by omega) (by simp; omega) ?_); intro va4 v4 hown4 hgrow4 hiff4 hloc4)
          have hE4 := ext_grownB (hE3.alloc _) hgrow4 oA4.out (Nat.le_refl _)
          have oN4 : Hid (v4.ownsRow w4.heap.size 34 2 va4 (N ++ [(x, y)]).length (IL (fl2 (N ++ [(x, y)])))) := by unfold Hid; rw [List.length_append, fl2_append]; exact hown4
          have oM4 := Lib.hid (own_farB oB4.out hgrow4 (fun j hj k hk => (HDJ.out k hk j hj).symm))
          have hlt4 : ∀ l, vr.ownBlock = some l → l < v3.heap.size := fun l hl => (oM3.out.lt l hl).2
          have hD4 : Hid (∀ k, vr.ownBlock = some k → ∀ l, va4.ownBlock = some l → k ≠ l) := fun k hk l hl => by rcases hloc4 with h | h; exact HDJ.out k hk l (h ▸ hl); rw [h] at hl; have := hlt4 k hk; simp at hl; omega
          clear hown4 hgrow4 hiff4 hloc4 hlt4
          go_wp2
          go_roundw
          case rel => exact ⟨y + 1, _, _, M, N ++ [(x, y)], by omega, by omega, by go_num, rfl, rfl, oM4, oN4, hD4, invX_no HIM.out hno1.out (by omega), invX_yes HIN.out hyes2.out HK.out, hE4⟩
          case measure => simp [intOf]; omega
      cases u2
      · have hno1 : Hid (¬ Sol 2 a1 a2 a3 b1 b2 b3 (x, y)) := fun k => by have := HS1.out.1 k; simp at this
        cases u3
        · have hno2 : Hid (¬ Sol 2 c1 c2 c3 d1 d2 d3 (x, y)) := fun k => by have := HS2.out.1 k; simp at this
          have hb := (hE.heap (by omega)).trans hA4.out
          have zz := fun k => cell_of_row _ _ k _ _ _ hb
          have ll := (Array.getElem?_eq_some_iff.1 hb).1
          clear hb
          go_wp2_with fail
          refine (hIa _).out.mono ?_
          rintro e v1 ⟨rfl, hx1⟩
          clear zz ll
          have hE1 := hE.trans hx1
          have oM1 := Lib.hid (own_ext HOM.out hx1)
          have oN1 := Lib.hid (own_ext HON.out hx1)
          clear hx1
          have hb := (hE1.heap (by omega)).trans hB4.out
          have zz := fun k => cell_of_row _ _ k _ _ _ hb
          have ll := (Array.getElem?_eq_some_iff.1 hb).1
          clear hb
          go_wp2_with fail
          refine (hIb _).out.mono ?_
          rintro e v2 ⟨rfl, hx2⟩
          clear zz ll
          have hE2 := hE1.trans hx2
          have oM2 := Lib.hid (own_ext oM1.out hx2)
          have oN2 := Lib.hid (own_ext oN1.out hx2)
          clear hx2
          have hb := (hE2.heap (by omega)).trans hC4.out
          have zz := fun k => cell_of_row _ _ k _ _ _ hb
          have ll := (Array.getElem?_eq_some_iff.1 hb).1
          clear hb
          go_wp2_with fail
          refine (hIc _).out.mono ?_
          rintro e v3 ⟨rfl, hx3⟩
          clear zz ll
          have hE3 := hE2.trans hx3
          have oM3 := Lib.hid (own_ext oM2.out hx3)
          have oN3 := Lib.hid (own_ext oN2.out hx3)
          clear hx3
          go_wp2
          go_roundw
          case rel => exact ⟨y + 1, _, _, M, N, by omega, by omega, by go_num, rfl, rfl, oM3, oN3, HDJ, invX_no HIM.out hno1.out (by omega), invX_no HIN.out hno2.out (by omega), hE3⟩
          case measure => simp [intOf]; omega
        cases u4
        · have hno2 : Hid (¬ Sol 2 c1 c2 c3 d1 d2 d3 (x, y)) := fun k => by have := HS2.out.1 k; simp at this
          have hb := (hE.heap (by omega)).trans hA4.out
          have zz := fun k => cell_of_row _ _ k _ _ _ hb
          have ll := (Array.getElem?_eq_some_iff.1 hb).1
          clear hb
          go_wp2_with fail
          refine (hIa _).out.mono ?_
          rintro e v1 ⟨rfl, hx1⟩
          clear zz ll
          have hE1 := hE.trans hx1
          have oM1 := Lib.hid (own_ext HOM.out hx1)
          have oN1 := Lib.hid (own_ext HON.out hx1)
          clear hx1
          have hb := (hE1.heap (by omega)).trans hB4.out
          have zz := fun k => cell_of_row _ _ k _ _ _ hb
          have ll := (Array.getElem?_eq_some_iff.1 hb).1
          clear hb
          go_wp2_with fail
          refine (hIb _).out.mono ?_
          rintro e v2 ⟨rfl, hx2⟩
          clear zz ll
          have hE2 := hE1.trans hx2
          have oM2 := Lib.hid (own_ext oM1.out hx2)
          have oN2 := Lib.hid (own_ext oN1.out hx2)
          clear hx2
          have hb := (hE2.heap (by omega)).trans hC4.out
          have zz := fun k => cell_of_row _ _ k _ _ _ hb
          have ll := (Array.getElem?_eq_some_iff.1 hb).1
          clear hb
          go_wp2_with fail
          refine (hIc _).out.mono ?_
          rintro e v3 ⟨rfl, hx3⟩
          clear zz ll
          have hE3 := hE2.trans hx3
          have oM3 := Lib.hid (own_ext oM2.out hx3)
          have oN3 := Lib.hid (own_ext oN2.out hx3)
          clear hx3
          have hb := (hE3.heap (by omega)).trans hD4.out
          have zz := fun k => cell_of_row _ _ k _ _ _ hb
          have ll := (Array.getElem?_eq_some_iff.1 hb).1
          clear hb
          go_wp2_with fail
          refine (hId _).out.mono ?_
          rintro e v4 ⟨rfl, hx4⟩
          clear zz ll
          have hE4 := hE3.trans hx4
          have oM4 := Lib.hid (own_ext oM3.out hx4)
          have oN4 := Lib.hid (own_ext oN3.out hx4)
          clear hx4
          go_wp2
          go_roundw
          case rel => exact ⟨y + 1, _, _, M, N, by omega, by omega, by go_num, rfl, rfl, oM4, oN4, HDJ, invX_no HIM.out hno1.out (by omega), invX_no HIN.out hno2.out (by omega), hE4⟩
          case measure => simp [intOf]; omega
        · have hyes2 : Hid (Sol 2 c1 c2 c3 d1 d2 d3 (x, y)) := HS2.out.2 (by simp)
          have hb := (hE.heap (by omega)).trans hA4.out
          have zz := fun k => cell_of_row _ _ k _ _ _ hb
          have ll := (Array.getElem?_eq_some_iff.1 hb).1
          clear hb
          go_wp2_with fail
          refine (hIa _).out.mono ?_
          rintro e v1 ⟨rfl, hx1⟩
          clear zz ll
          have hE1 := hE.trans hx1
          have oM1 := Lib.hid (own_ext HOM.out hx1)
          have oN1 := Lib.hid (own_ext HON.out hx1)
          clear hx1
          have hb := (hE1.heap (by omega)).trans hB4.out
          have zz := fun k => cell_of_row _ _ k _ _ _ hb
          have ll := (Array.getElem?_eq_some_iff.1 hb).1
          clear hb
          go_wp2_with fail
          refine (hIb _).out.mono ?_
          rintro e v2 ⟨rfl, hx2⟩
          clear zz ll
          have hE2 := hE1.trans hx2
          have oM2 := Lib.hid (own_ext oM1.out hx2)
          have oN2 := Lib.hid (own_ext oN1.out hx2)
          clear hx2
          have hb := (hE2.heap (by omega)).trans hC4.out
          have zz := fun k => cell_of_row _ _ k _ _ _ hb
          have ll := (Array.getElem?_eq_some_iff.1 hb).1
          clear hb
          go_wp2_with fail
          refine (hIc _).out.mono ?_
          rintro e v3 ⟨rfl, hx3⟩
          clear zz ll
          have hE3 := hE2.trans hx3
          have oM3 := Lib.hid (own_ext oM2.out hx3)
          have oN3 := Lib.hid (own_ext oN2.out hx3)
          clear hx3
          have hb := (hE3.heap (by omega)).trans hD4.out
          have zz := fun k => cell_of_row _ _ k _ _ _ hb
          have ll := (Array.getElem?_eq_some_iff.1 hb).1
          clear hb
          go_wp2_with fail
          refine (hId _).out.mono ?_
          rintro e v4 ⟨rfl, hx4⟩
          clear zz ll
          have hE4 := hE3.trans hx4
          have oM4 := Lib.hid (own_ext oM3.out hx4)
          have oN4 := Lib.hid (own_ext oN3.out hx4)
          clear hx4
          have oA5 := Lib.hid (own_ext oN4.out ((Ext.refl v4).alloc (.cells #[.int .i64 x, .int .i64 y] 34 (0, 0))))
          have oB5 := Lib.hid (own_ext oM4.out ((Ext.refl v4).alloc (.cells #[.int .i64 x, .int .i64 y] 34 (0, 0))))
          have hM5 := Lib.hid (heap_alloc_new v4 (.cells #[.int .i64 x, .int .i64 y] 34 (0, 0)))
          have hsz5 := hE4.size
          go_upto_region 9 with (at_builtin; go_loud (refine wpList_append_rvt (base := w4.heap.size) rfl elt_r2 rfl _ N.length (fl2 N) rfl oA5.out _ 1 [x, y] rfl (rv_heap hM5.out rfl rfl (by omega) (by decide)) (by omega) (by simp; omega) ?_); intro va5 v5 hown5 hgrow5 hiff5 hloc5)
          have hE5 := ext_grownB (hE4.alloc _) hgrow5 oA5.out (Nat.le_refl _)
          have oN5 : Hid (v5.ownsRow w4.heap.size 34 2 va5 (N ++ [(x, y)]).length (IL (fl2 (N ++ [(x, y)])))) := by unfold Hid; rw [List.length_append, fl2_append]; exact hown5
          have oM5 := Lib.hid (own_farB oB5.out hgrow5 (fun j hj k hk => (HDJ.out k hk j hj).symm))
          have hlt5 : ∀ l, vr.ownBlock = some l → l < v4.heap.size := fun l hl => (oM4.out.lt l hl).2
          have hD5 : Hid (∀ k, vr.ownBlock = some k → ∀ l, va5.ownBlock = some l → k ≠ l) := fun k hk l hl => by rcases hloc5 with h | h; exact HDJ.out k hk l (h ▸ hl); rw [h] at hl; have := hlt5 k hk; simp at hl; omega
          clear hown5 hgrow5 hiff5 hloc5 hlt5
          go_wp2
          go_roundw
          case rel => exact ⟨y + 1, _, _, M, N ++ [(x, y)], by omega, by omega, by go_num, rfl, rfl, oM5, oN5, hD5, invX_no HIM.out hno1.out (by omega), invX_yes HIN.out hyes2.out HK.out, hE5⟩
          case measure => simp [intOf]; omega
      · have hyes1 : Hid (Sol 2 a1 a2 a3 b1 b2 b3 (x, y)) := HS1.out.2 (by simp)
        cases u3
        · have hno2 : Hid (¬ Sol 2 c1 c2 c3 d1 d2 d3 (x, y)) := fun k => by have := HS2.out.1 k; simp at this
          have hb := (hE.heap (by omega)).trans hA4.out
          have zz := fun k => cell_of_row _ _ k _ _ _ hb
          have ll := (Array.getElem?_eq_some_iff.1 hb).1
          clear hb
          go_wp2_with fail
          refine (hIa _).out.mono ?_
          rintro e v1 ⟨rfl, hx1⟩
          clear zz ll
          have hE1 := hE.trans hx1
          have oM1 := Lib.hid (own_ext HOM.out hx1)
          have oN1 := Lib.hid (own_ext HON.out hx1)
          clear hx1
          have hb := (hE1.heap (by omega)).trans hB4.out
          have zz := fun k => cell_of_row _ _ k _ _ _ hb
          have ll := (Array.getElem?_eq_some_iff.1 hb).1
          clear hb
          go_wp2_with fail
          refine (hIb _).out.mono ?_
          rintro e v2 ⟨rfl, hx2⟩
          clear zz ll
          have hE2 := hE1.trans hx2
          have oM2 := Lib.hid (own_ext oM1.out hx2)
          have oN2 := Lib.hid (own_ext oN1.out hx2)
          clear hx2
          have oA3 := Lib.hid (own_ext oM2.out ((Ext.refl v2).alloc (.cells #[.int .i64 x, .int .i64 y] 34 (0, 0))))
          have oB3 := Lib.hid (own_ext oN2.out ((Ext.refl v2).alloc (.cells #[.int .i64 x, .int .i64 y] 34 (0, 0))))
          have hM3 := Lib.hid (heap_alloc_new v2 (.cells #[.int .i64 x, .int .i64 y] 34 (0, 0)))
          have hsz3 := hE2.size
          go_upto_region 12 with (at_builtin; go_loud (refine wpList_append_rvt (base := w4.heap.size) rfl elt_r2 rfl _ M.length (fl2 M) rfl oA3.out _ 1 [x, y] rfl (rv_heap hM3.out rfl rfl (by omega) (by decide)) (by omega) (by simp; omega) ?_); intro va3 v3 hown3 hgrow3 hiff3 hloc3)
          have hE3 := ext_grownB (hE2.alloc _) hgrow3 oA3.out (Nat.le_refl _)
          have oM3 : Hid (v3.ownsRow w4.heap.size 34 2 va3 (M ++ [(x, y)]).length (IL (fl2 (M ++ [(x, y)])))) := by unfold Hid; rw [List.length_append, fl2_append]; exact hown3
          have oN3 := Lib.hid (own_farB oB3.out hgrow3 (HDJ.out))
          have hlt3 : ∀ l, vi.ownBlock = some l → l < v2.heap.size := fun l hl => (oN2.out.lt l hl).2
          have hD3 : Hid (∀ k, va3.ownBlock = some k → ∀ l, vi.ownBlock = some l → k ≠ l) := fun k hk l hl => by rcases hloc3 with h | h; exact HDJ.out k (h ▸ hk) l hl; rw [h] at hk; have := hlt3 l hl; simp at hk; omega
          clear hown3 hgrow3 hiff3 hloc3 hlt3
          have hb := (hE3.heap (by omega)).trans hC4.out
          have zz := fun k => cell_of_row _ _ k _ _ _ hb
          have ll := (Array.getElem?_eq_some_iff.1 hb).1
          clear hb
          go_wp2_with fail
          refine (hIc _).out.mono ?_
          rintro e v4 ⟨rfl, hx4⟩
          clear zz ll
          have hE4 := hE3.trans hx4
          have oM4 := Lib.hid (own_ext oM3.out hx4)
          have oN4 := Lib.hid (own_ext oN3.out hx4)
          clear hx4
          go_wp2
          go_roundw
          case rel => exact ⟨y + 1, _, _, M ++ [(x, y)], N, by omega, by omega, by go_num, rfl, rfl, oM4, oN4, hD3, invX_yes HIM.out hyes1.out HK.out, invX_no HIN.out hno2.out (by omega), hE4⟩
          case measure => simp [intOf]; omega
        cases u4
        · have hno2 : Hid (¬ Sol 2 c1 c2 c3 d1 d2 d3 (x, y)) := fun k => by have := HS2.out.1 k; simp at this
          have hb := (hE.heap (by omega)).trans hA4.out
          have zz := fun k => cell_of_row _ _ k _ _ _ hb
          have ll := (Array.getElem?_eq_some_iff.1 hb).1
          clear hb
          go_wp2_with fail
          refine (hIa _).out.mono ?_
          rintro e v1 ⟨rfl, hx1⟩
          clear zz ll
          have hE1 := hE.trans hx1
          have oM1 := Lib.hid (own_ext HOM.out hx1)
          have oN1 := Lib.hid (own_ext HON.out hx1)
          clear hx1
          have hb := (hE1.heap (by omega)).trans hB4.out
          have zz := fun k => cell_of_row _ _ k _ _ _ hb
          have ll := (Array.getElem?_eq_some_iff.1 hb).1
          clear hb
          go_wp2_with fail
          refine (hIb _).out.mono ?_
          rintro e v2 ⟨rfl, hx2⟩
          clear zz ll
          have hE2 := hE1.trans hx2
          have oM2 := Lib.hid (own_ext oM1.out hx2)
          have oN2 := Lib.hid (own_ext oN1.out hx2)
          clear hx2
          have oA3 := Lib.hid (own_ext oM2.out ((Ext.refl v2).alloc (.cells #[.int .i64 x, .int .i64 y] 34 (0, 0))))
          have oB3 := Lib.hid (own_ext oN2.out ((Ext.refl v2).alloc (.cells #[.int .i64 x, .int .i64 y] 34 (0, 0))))
          have hM3 := Lib.hid (heap_alloc_new v2 (.cells #[.int .i64 x, .int .i64 y] 34 (0, 0)))
          have hsz3 := hE2.size
          go_upto_region 12 with (at_builtin; go_loud (refine wpList_append_rvt (base := w4.heap.size) rfl elt_r2 rfl _ M.length (fl2 M) rfl oA3.out _ 1 [x, y] rfl (rv_heap hM3.out rfl rfl (by omega) (by decide)) (by omega) (by simp; omega) ?_); intro va3 v3 hown3 hgrow3 hiff3 hloc3)
          have hE3 := ext_grownB (hE2.alloc _) hgrow3 oA3.out (Nat.le_refl _)
          have oM3 : Hid (v3.ownsRow w4.heap.size 34 2 va3 (M ++ [(x, y)]).length (IL (fl2 (M ++ [(x, y)])))) := by unfold Hid; rw [List.length_append, fl2_append]; exact hown3
          have oN3 := Lib.hid (own_farB oB3.out hgrow3 (HDJ.out))
          have hlt3 : ∀ l, vi.ownBlock = some l → l < v2.heap.size := fun l hl => (oN2.out.lt l hl).2
          have hD3 : Hid (∀ k, va3.ownBlock = some k → ∀ l, vi.ownBlock = some l → k ≠ l) := fun k hk l hl => by rcases hloc3 with h | h; exact HDJ.out k (h ▸ hk) l hl; rw [h] at hk; have := hlt3 l hl; simp at hk; omega
          clear hown3 hgrow3 hiff3 hloc3 hlt3
          have hb := (hE3.heap (by omega)).trans hC4.out
          have zz := fun k => cell_of_row _ _ k _ _ _ hb
          have ll := (Array.getElem?_eq_some_iff.1 hb).1
          clear hb
          go_wp2_with fail
          refine (hIc _).out.mono ?_
          rintro e v4 ⟨rfl, hx4⟩
          clear zz ll
          have hE4 := hE3.trans hx4
          have oM4 := Lib.hid (own_ext oM3.out hx4)
          have oN4 := Lib.hid (own_ext oN3.out hx4)
          clear hx4
          have hb := (hE4.heap (by omega)).trans hD4.out
          have zz := fun k => cell_of_row _ _ k _ _ _ hb
          have ll := (Array.getElem?_eq_some_iff.1 hb).1
          clear hb
          go_wp2_with fail
          refine (hId _).out.mono ?_
          rintro e v5 ⟨rfl, hx5⟩
          clear zz ll
          have hE5 := hE4.trans hx5
          have oM5 := Lib.hid (own_ext oM4.out hx5)
          have oN5 := Lib.hid (own_ext oN4.out hx5)
          clear hx5
          go_wp2
          go_roundw
          case rel => exact ⟨y + 1, _, _, M ++ [(x, y)], N, by omega, by omega, by go_num, rfl, rfl, oM5, oN5, hD3, invX_yes HIM.out hyes1.out HK.out, invX_no HIN.out hno2.out (by omega), hE5⟩
          case measure => simp [intOf]; omega
        · have hyes2 : Hid (Sol 2 c1 c2 c3 d1 d2 d3 (x, y)) := HS2.out.2 (by simp)
          have hb := (hE.heap (by omega)).trans hA4.out
          have zz := fun k => cell_of_row _ _ k _ _ _ hb
          have ll := (Array.getElem?_eq_some_iff.1 hb).1
          clear hb
          go_wp2_with fail
          refine (hIa _).out.mono ?_
          rintro e v1 ⟨rfl, hx1⟩
          clear zz ll
          have hE1 := hE.trans hx1
          have oM1 := Lib.hid (own_ext HOM.out hx1)
          have oN1 := Lib.hid (own_ext HON.out hx1)
          clear hx1
          have hb := (hE1.heap (by omega)).trans hB4.out
          have zz := fun k => cell_of_row _ _ k _ _ _ hb
          have ll := (Array.getElem?_eq_some_iff.1 hb).1
          clear hb
          go_wp2_with fail
          refine (hIb _).out.mono ?_
          rintro e v2 ⟨rfl, hx2⟩
          clear zz ll
          have hE2 := hE1.trans hx2
          have oM2 := Lib.hid (own_ext oM1.out hx2)
          have oN2 := Lib.hid (own_ext oN1.out hx2)
          clear hx2
          have oA3 := Lib.hid (own_ext oM2.out ((Ext.refl v2).alloc (.cells #[.int .i64 x, .int .i64 y] 34 (0, 0))))
          have oB3 := Lib.hid (own_ext oN2.out ((Ext.refl v2).alloc (.cells #[.int .i64 x, .int .i64 y] 34 (0, 0))))
          have hM3 := Lib.hid (heap_alloc_new v2 (.cells #[.int .i64 x, .int .i64 y] 34 (0, 0)))
          have hsz3 := hE2.size
          go_upto_region 12 with (at_builtin; go_loud (refine wpList_append_rvt (base := w4.heap.size) rfl elt_r2 rfl _ M.length (fl2 M) rfl oA3.out _ 1 [x, y] rfl (rv_heap hM3.out rfl rfl (by omega) (by decide)) (by omega) (by simp; omega) ?_); intro va3 v3 hown3 hgrow3 hiff3 hloc3)
          have hE3 := ext_grownB (hE2.alloc _) hgrow3 oA3.out (Nat.le_refl _)
          have oM3 : Hid (v3.ownsRow w4.heap.size 34 2 va3 (M ++ [(x, y)]).length (IL (fl2 (M ++ [(x, y)])))) := by unfold Hid; rw [List.length_append, fl2_append]; exact hown3
          have oN3 := Lib.hid (own_farB oB3.out hgrow3 (HDJ.out))
          have hlt3 : ∀ l, vi.ownBlock = some l → l < v2.heap.size := fun l hl => (oN2.out.lt l hl).2
          have hD3 : Hid (∀ k, va3.ownBlock = some k → ∀ l, vi.ownBlock = some l → k ≠ l) := fun k hk l hl => by rcases hloc3 with h | h; exact HDJ.out k (h ▸ hk) l hl; rw [h] at hk; have := hlt3 l hl; simp at hk; omega
          clear hown3 hgrow3 hiff3 hloc3 hlt3
          have hb := (hE3.heap (by omega)).trans hC4.out
          have zz := fun k => cell_of_row _ _ k _ _ _ hb
          have ll := (Array.getElem?_eq_some_iff.1 hb).1
          clear hb
          go_wp2_with fail
          refine (hIc _).out.mono ?_
          rintro e v4 ⟨rfl, hx4⟩
          clear zz ll
          have hE4 := hE3.trans hx4
          have oM4 := Lib.hid (own_ext oM3.out hx4)
          have oN4 := Lib.hid (own_ext oN3.out hx4)
          clear hx4
          have hb := (hE4.heap (by omega)).trans hD4.out
          have zz := fun k => cell_of_row _ _ k _ _ _ hb
          have ll := (Array.getElem?_eq_some_iff.1 hb).1
          clear hb
          go_wp2_with fail
          refine (hId _).out.mono ?_
          rintro e v5 ⟨rfl, hx5⟩
          clear zz ll
          have hE5 := hE4.trans hx5
          have oM5 := Lib.hid (own_ext oM4.out hx5)
          have oN5 := Lib.hid (own_ext oN4.out hx5)
          clear hx5
          have oA6 := Lib.hid (own_ext oN5.out ((Ext.refl v5).alloc (.cells #[.int .i64 x, .int .i64 y] 34 (0, 0))))
          have oB6 := Lib.hid (own_ext oM5.out ((Ext.refl v5).alloc (.cells #[.int .i64 x, .int .i64 y] 34 (0, 0))))
          have hM6 := Lib.hid (heap_alloc_new v5 (.cells #[.int .i64 x, .int .i64 y] 34 (0, 0)))
          have hsz6 := hE5.size
          go_upto_region 9 with (at_builtin; go_loud (refine wpList_append_rvt (base := w4.heap.size) rfl elt_r2 rfl _ N.length (fl2 N) rfl oA6.out _ 1 [x, y] rfl (rv_heap hM6.out rfl rfl (by omega) (by decide)) (by omega) (by simp; omega) ?_); intro va6 v6 hown6 hgrow6 hiff6 hloc6)
          have hE6 := ext_grownB (hE5.alloc _) hgrow6 oA6.out (Nat.le_refl _)
          have oN6 : Hid (v6.ownsRow w4.heap.size 34 2 va6 (N ++ [(x, y)]).length (IL (fl2 (N ++ [(x, y)])))) := by unfold Hid; rw [List.length_append, fl2_append]; exact hown6
          have oM6 := Lib.hid (own_farB oB6.out hgrow6 (fun j hj k hk => (hD3.out k hk j hj).symm))
          have hlt6 : ∀ l, va3.ownBlock = some l → l < v5.heap.size := fun l hl => (oM5.out.lt l hl).2
          have hD6 : Hid (∀ k, va3.ownBlock = some k → ∀ l, va6.ownBlock = some l → k ≠ l) := fun k hk l hl => by rcases hloc6 with h | h; exact hD3.out k hk l (h ▸ hl); rw [h] at hl; have := hlt6 k hk; simp at hl; omega
          clear hown6 hgrow6 hiff6 hloc6 hlt6
          go_wp2
          go_roundw
          case rel => exact ⟨y + 1, _, _, M ++ [(x, y)], N ++ [(x, y)], by omega, by omega, by go_num, rfl, rfl, oM6, oN6, hD6, invX_yes HIM.out hyes1.out HK.out, invX_yes HIN.out hyes2.out HK.out, hE6⟩
          case measure => simp [intOf]; omega

end Go.Proofs.Ytojoljffaedpfaa
