/- Boxes: the plain side. -/
import Derived.Test.YtojoljffaedpfaaGrdC
namespace Go.Proofs.Ytojoljffaedpfaa
open Go.RowKit
set_option linter.unusedVariables false

theorem nodup_ofB {α : Type} (S : α → Prop) : ∀ M : List α, ∃ l : List α, l.Nodup ∧ ∀ x, x ∈ l ↔ (x ∈ M ∧ S x)
  | [] => ⟨[], List.nodup_nil, fun x => by simp⟩
  | a :: M => by
    obtain ⟨l, h1, h2⟩ := nodup_ofB S M
    by_cases h : S a ∧ a ∉ l
    · refine ⟨a :: l, List.nodup_cons.2 ⟨h.2, h1⟩, fun x => ?_⟩
      rw [List.mem_cons, List.mem_cons, h2 x]
      constructor
      · rintro (rfl | h3)
        · exact ⟨.inl rfl, h.1⟩
        · exact ⟨.inr h3.1, h3.2⟩
      · rintro ⟨rfl | h3, h4⟩
        · exact .inl rfl
        · exact .inr ⟨h3, h4⟩
    · refine ⟨l, h1, fun x => ?_⟩
      rw [List.mem_cons]
      constructor
      · intro h3
        exact ⟨.inr ((h2 x).1 h3).1, ((h2 x).1 h3).2⟩
      · rintro ⟨rfl | h3, h4⟩
        · exact Classical.byContradiction fun k => h ⟨h4, k⟩
        · exact (h2 x).2 ⟨h3, h4⟩
theorem box_allB {S : Int × Int → Prop} (hb : ∀ x, S x → Bnd x) : ∃ l : List (Int × Int), l.Nodup ∧ ∀ x, x ∈ l ↔ S x := by
  obtain ⟨l, h1, h2⟩ := nodup_ofB S ((List.range 8000001).flatMap fun i : Nat => (List.range 2000001).map fun k : Nat => ((i : Int) - 4000000, (k : Int) - 1000000))
  refine ⟨l, h1, fun x => ?_⟩
  rw [h2 x]
  constructor
  · exact fun h => h.2
  · intro h
    refine And.intro ?_ h
    have hx := hb x h
    unfold Bnd at hx
    rw [List.mem_flatMap]
    refine ⟨(x.1 + 4000000).toNat, List.mem_range.2 (by omega), ?_⟩
    rw [List.mem_map]
    refine ⟨(x.2 + 1000000).toNat, List.mem_range.2 (by omega), ?_⟩
    refine Prod.ext ?_ ?_
    · show (((x.1 + 4000000).toNat : Nat) : Int) - 4000000 = x.1
      omega
    · show (((x.2 + 1000000).toNat : Nat) : Int) - 1000000 = x.2
      omega

/-- a range that a box takes -/
def Sid (lo hi den : Int) : Bool := Rng lo hi den && (decide (hi - lo ≤ 8 * den) && (Wn lo (-100 * den) (100 * den) && Wn hi (-100 * den) (100 * den)))
theorem Sid_bd {lo hi den : Int} (h : Sid lo hi den = true) : Rng lo hi den = true ∧ hi - lo ≤ 8 * den ∧ -100 * den ≤ lo ∧ lo ≤ 100 * den ∧ -100 * den ≤ hi ∧ hi ≤ 100 * den := by
  unfold Sid Wn at h
  simp only [Bool.and_eq_true, decide_eq_true_eq] at h
  exact ⟨h.1, h.2.1, h.2.2.1.1, h.2.2.1.2, h.2.2.2.1, h.2.2.2.2⟩
theorem sid_rgs {lo hi den lo' hi' den' : Int} (ra : Sid lo hi den = true) (rb : Sid lo' hi' den' = true) : Rgs 2 lo hi den lo' hi' den' := by
  obtain ⟨a1, a2, a3, a4, a5, a6⟩ := Sid_bd ra
  obtain ⟨b1, b2, b3, b4, b5, b6⟩ := Sid_bd rb
  have d := Rng_bd a1
  have e := Rng_bd b1
  exact ⟨by decide, by decide, a1, b1, by omega, by omega, by omega, by omega⟩
theorem ringB1 (den p q lo D N : Int) : (den * (2 * p) - 2 * lo) * D + den * q * N = den * (2 * p * D + q * N) - 2 * lo * D := by grind
theorem ringB2 (den p q hi D N : Int) : (2 * hi - den * (2 * p)) * D + -den * q * N = 2 * hi * D - den * (2 * p * D + q * N) := by grind
theorem ringB3 (den T T' : Int) : den * (T - T') = den * T - den * T' := by grind
theorem sid_T {lo hi den p q p' q' : Int} (hd : 1 ≤ den) (hw : hi - lo ≤ 8 * den) (h1 : 0 ≤ (den * (2 * p) - 2 * lo) * 1311738121 + den * q * 1855077841) (h2 : 0 ≤ (2 * hi - den * (2 * p')) * 1311738121 + -den * q' * 1855077841) :
    -20987809936 ≤ (2 * p * 1311738121 + q * 1855077841) - (2 * p' * 1311738121 + q' * 1855077841) := by
  rw [ringB1] at h1
  rw [ringB2] at h2
  refine le_cancel (c := den) (by omega) ?_
  rw [ringB3]
  omega
theorem sid_lo {lo den p q : Int} (hd : 1 ≤ den) (hw : -100 * den ≤ lo) (h1 : 0 ≤ (den * (2 * p) - 2 * lo) * 1311738121 + den * q * 1855077841) : -262347624200 ≤ 2 * p * 1311738121 + q * 1855077841 := by
  rw [ringB1] at h1
  refine le_cancel (c := den) (by omega) ?_
  omega
theorem sid_hi {hi den p q : Int} (hd : 1 ≤ den) (hw : hi ≤ 100 * den) (h1 : 0 ≤ (2 * hi - den * (2 * p)) * 1311738121 + -den * q * 1855077841) : 2 * p * 1311738121 + q * 1855077841 ≤ 262347624200 := by
  rw [ringB2] at h1
  refine le_cancel (c := den) (by omega) ?_
  omega
/-- parts of a number of a box -/
def Bn2 (x : Int × Int) : Prop := (-100 ≤ x.1 ∧ x.1 ≤ 100) ∧ (-142 ≤ x.2 ∧ x.2 ≤ 142)
theorem sol2_bn {lo hi den lo' hi' den' : Int} (ra : Sid lo hi den = true) (rb : Sid lo' hi' den' = true) {x : Int × Int} (hs : Sol 2 lo hi den lo' hi' den' x) : Bn2 x := by
  obtain ⟨a1, a2, a3, a4, a5, a6⟩ := Sid_bd ra
  obtain ⟨b1, b2, b3, b4, b5, b6⟩ := Sid_bd rb
  have d := Rng_bd a1
  have e := Rng_bd b1
  obtain ⟨k1, k2, k3, k4⟩ := sol_lin' (by decide) (by decide) a1 b1 hs
  have t1 := sid_lo (by omega) a3 k1
  have t2 := sid_hi (by omega) a6 k2
  have t3 := sid_lo (by omega) b3 k3
  have t4 := sid_hi (by omega) b6 k4
  unfold Bn2
  omega
theorem sol2_near {lo hi den lo' hi' den' : Int} (ra : Sid lo hi den = true) (rb : Sid lo' hi' den' = true) {x y : Int × Int} (hs : Sol 2 lo hi den lo' hi' den' x) (ht : Sol 2 lo hi den lo' hi' den' y) :
    (-8 ≤ x.1 - y.1 ∧ x.1 - y.1 ≤ 8) ∧ (-12 ≤ x.2 - y.2 ∧ x.2 - y.2 ≤ 12) := by
  obtain ⟨a1, a2, a3, a4, a5, a6⟩ := Sid_bd ra
  obtain ⟨b1, b2, b3, b4, b5, b6⟩ := Sid_bd rb
  have d := Rng_bd a1
  have e := Rng_bd b1
  obtain ⟨k1, k2, k3, k4⟩ := sol_lin' (by decide) (by decide) a1 b1 hs
  obtain ⟨l1, l2, l3, l4⟩ := sol_lin' (by decide) (by decide) a1 b1 ht
  have t1 := sid_T (by omega) a2 k1 l2
  have t2 := sid_T (by omega) a2 l1 k2
  have t3 := sid_T (by omega) b2 k3 l4
  have t4 := sid_T (by omega) b2 l3 k4
  omega
theorem nodup_near {L : List (Int × Int)} (hn : L.Nodup) (h : ∀ x ∈ L, ∀ y ∈ L, (-8 ≤ x.1 - y.1 ∧ x.1 - y.1 ≤ 8) ∧ (-12 ≤ x.2 - y.2 ∧ x.2 - y.2 ≤ 12)) : L.length ≤ 425 := by
  match L, hn, h with
  | [], _, _ => exact Nat.zero_le _
  | a :: L, hn, h =>
    have h2 := List.Nodup.length_le_of_subset (l₁ := (a :: L).map fun x => ((x.1 - a.1 + 8) * 25 + (x.2 - a.2 + 12)).toNat) (l₂ := List.range 425) (by
      show List.Pairwise _ _
      rw [List.pairwise_map]
      refine List.Pairwise.imp_of_mem ?_ hn
      intro x y hx hy hne e
      have e1 := h x hx a (List.mem_cons_self ..)
      have e2 := h y hy a (List.mem_cons_self ..)
      exact hne (Prod.ext (by omega) (by omega))) (by
      intro k hk
      obtain ⟨x, hx, rfl⟩ := List.mem_map.1 hk
      have e1 := h x hx a (List.mem_cons_self ..)
      rw [List.mem_range]
      omega)
    rw [List.length_map, List.length_range] at h2
    exact h2
theorem pts_len {lo hi den lo' hi' den' : Int} (ra : Sid lo hi den = true) (rb : Sid lo' hi' den' = true) {L : List (Int × Int)} (hn : L.Nodup) (hm : ∀ x, x ∈ L ↔ Sol 2 lo hi den lo' hi' den' x) : L.length ≤ 425 :=
  nodup_near hn fun x hx y hy => sol2_near ra rb ((hm x).1 hx) ((hm y).1 hy)

/-- four ints -/
abbrev Q4 : Type := Int × Int × Int × Int
def kyR (x : Q4) : Int := x.1 * 1000000000 + x.2.1 * 1000000 + x.2.2.1 * 1000 + x.2.2.2
def ltR (x y : Q4) : Prop := kyR x < kyR y
theorem ltR_irr (x : Q4) : ¬ ltR x x := by unfold ltR; omega
theorem ltR_tr (x y z : Q4) (h1 : ltR x y) (h2 : ltR y z) : ltR x z := by unfold ltR at *; omega
def Bn4 (x : Q4) : Prop := (-400 ≤ x.1 ∧ x.1 ≤ 400) ∧ (-400 ≤ x.2.1 ∧ x.2.1 ≤ 400) ∧ (-400 ≤ x.2.2.1 ∧ x.2.2.1 ≤ 400) ∧ (-400 ≤ x.2.2.2 ∧ x.2.2.2 ≤ 400)
theorem kyR_inj {x y : Q4} (hx : Bn4 x) (hy : Bn4 y) (h : kyR x = kyR y) : x = y := by
  obtain ⟨a, b, c, d⟩ := x
  obtain ⟨e, f, g, k⟩ := y
  unfold Bn4 at hx hy
  unfold kyR at h
  simp only at hx hy h
  obtain rfl : a = e := by omega
  obtain rfl : b = f := by omega
  obtain rfl : c = g := by omega
  obtain rfl : d = k := by omega
  rfl
theorem sortedR_eq {S : Q4 → Prop} {l : List Q4} (hb : ∀ x, S x → Bn4 x) (hn : l.Nodup) (hm : ∀ x, x ∈ l ↔ S x) (hs : l.Pairwise fun x y => ¬ kyR y < kyR x) : l = theL ltR S := by
  refine theL_eq ltR_irr ltR_tr ?_ hm
  have h2 := (List.pairwise_and_iff.2 ⟨hn, hs⟩)
  refine h2.imp_of_mem ?_
  rintro x y hx hy ⟨h3, h4⟩
  have h5 : ¬ kyR x = kyR y := fun e => h3 (kyR_inj (hb x ((hm x).1 hx)) (hb y ((hm y).1 hy)) e)
  show kyR x < kyR y
  omega
theorem ptsR_perm {S : Q4 → Prop} {l : List Q4} (hb : ∀ x, S x → Bn4 x) (hn : l.Nodup) (hm : ∀ x, x ∈ l ↔ S x) : (theL ltR S).Perm l := by
  have hp := List.mergeSort_perm l (fun x y => decide (kyR x ≤ kyR y))
  have hs := List.pairwise_mergeSort (le := fun x y : Q4 => decide (kyR x ≤ kyR y)) (by intro a b c h1 h2; simp only [decide_eq_true_eq] at *; omega) (by intro a b; simp only [Bool.or_eq_true, decide_eq_true_eq]; omega) l
  rw [← sortedR_eq (l := l.mergeSort fun x y => decide (kyR x ≤ kyR y)) hb (hp.nodup_iff.2 hn) (fun x => hp.mem_iff.trans (hm x)) (hs.imp (by intro x y h; simp only [decide_eq_true_eq] at h; omega))]
  exact hp

/-- the number of a box whose parts are x and y -/
def evn (x y : Int × Int) : Bool := decide ((x.2 + y.2).tmod 2 = 0)
def mkR (x y : Int × Int) : Q4 := (x.1, (y.2 + x.2).tdiv 2, y.1, (y.2 - x.2).tdiv 2)
def bxI (x : Int × Int) (N : List (Int × Int)) : List Q4 := (N.filter (evn x)).map (mkR x)
def bxL (M N : List (Int × Int)) : List Q4 := M.flatMap fun x => bxI x N
def SolR (S1 S2 : Int × Int → Prop) (z : Q4) : Prop := ∃ x y, S1 x ∧ S2 y ∧ evn x y = true ∧ mkR x y = z
theorem evn_half {x y : Int × Int} (h : evn x y = true) : 2 * (y.2 + x.2).tdiv 2 = y.2 + x.2 ∧ 2 * (y.2 - x.2).tdiv 2 = y.2 - x.2 := by
  unfold evn at h
  rw [decide_eq_true_eq] at h
  have h1 := Int.mul_tdiv_add_tmod (x.2 + y.2) 2
  have h2 := Int.mul_tdiv_add_tmod (y.2 - x.2) 2
  have h3 : (y.2 - x.2).tmod 2 = 0 := by
    have : (2 : Int) ∣ y.2 - x.2 := ⟨(x.2 + y.2).tdiv 2 - x.2, by omega⟩
    exact Int.tmod_eq_zero_of_dvd this
  rw [Int.add_comm y.2 x.2]
  omega
theorem mkR_inj {x y x' y' : Int × Int} (h : evn x y = true) (h' : evn x' y' = true) (e : mkR x y = mkR x' y') : x = x' ∧ y = y' := by
  have k := evn_half h
  have k' := evn_half h'
  unfold mkR at e
  simp only [Prod.mk.injEq] at e
  exact ⟨Prod.ext (by omega) (by omega), Prod.ext (by omega) (by omega)⟩
theorem bxI_mem {x : Int × Int} {N : List (Int × Int)} {z : Q4} : z ∈ bxI x N ↔ ∃ y ∈ N, evn x y = true ∧ mkR x y = z := by
  unfold bxI
  simp only [List.mem_map, List.mem_filter]
  constructor
  · rintro ⟨y, ⟨h1, h2⟩, h3⟩; exact ⟨y, h1, h2, h3⟩
  · rintro ⟨y, h1, h2, h3⟩; exact ⟨y, ⟨h1, h2⟩, h3⟩
theorem bxL_mem {M N : List (Int × Int)} {S1 S2 : Int × Int → Prop} (h1 : ∀ x, x ∈ M ↔ S1 x) (h2 : ∀ x, x ∈ N ↔ S2 x) (z : Q4) : z ∈ bxL M N ↔ SolR S1 S2 z := by
  unfold bxL SolR
  rw [List.mem_flatMap]
  constructor
  · rintro ⟨x, hx, hz⟩
    obtain ⟨y, hy, k1, k2⟩ := bxI_mem.1 hz
    exact ⟨x, y, (h1 x).1 hx, (h2 y).1 hy, k1, k2⟩
  · rintro ⟨x, y, hx, hy, k1, k2⟩
    exact ⟨x, (h1 x).2 hx, bxI_mem.2 ⟨y, (h2 y).2 hy, k1, k2⟩⟩
theorem bxI_nodup {x : Int × Int} {N : List (Int × Int)} (h : N.Nodup) : (bxI x N).Nodup := by
  unfold bxI
  show List.Pairwise _ _
  rw [List.pairwise_map]
  refine List.Pairwise.imp_of_mem ?_ (List.Pairwise.filter _ h)
  intro y y' hy hy' hne e
  rw [List.mem_filter] at hy hy'
  exact hne (mkR_inj hy.2 hy'.2 e).2
theorem bxL_nodup {N : List (Int × Int)} (h2 : N.Nodup) : ∀ {M : List (Int × Int)}, M.Nodup → (bxL M N).Nodup
  | [], _ => List.nodup_nil
  | x :: M, h => by
    obtain ⟨k1, k2⟩ := List.nodup_cons.1 h
    show (bxI x N ++ bxL M N).Nodup
    rw [List.nodup_append]
    refine ⟨bxI_nodup h2, bxL_nodup h2 k2, ?_⟩
    intro a ha b hb e
    subst e
    obtain ⟨y, _, e1, e2⟩ := bxI_mem.1 ha
    unfold bxL at hb
    rw [List.mem_flatMap] at hb
    obtain ⟨x', hx', hz'⟩ := hb
    obtain ⟨y', _, e3, e4⟩ := bxI_mem.1 hz'
    obtain ⟨rfl, _⟩ := mkR_inj e1 e3 (e2.trans e4.symm)
    exact k1 hx'
theorem bxI_len (x : Int × Int) (N : List (Int × Int)) : (bxI x N).length ≤ N.length := by
  unfold bxI
  rw [List.length_map]
  exact List.length_filter_le _ _
theorem bxL_len (N : List (Int × Int)) : ∀ (M : List (Int × Int)), (bxL M N).length ≤ M.length * N.length
  | [] => by simp [bxL]
  | x :: M => by
    show (bxI x N ++ bxL M N).length ≤ _
    have := bxL_len N M
    have := bxI_len x N
    rw [List.length_append, List.length_cons, Nat.succ_mul]
    omega
theorem bxI_snoc (x : Int × Int) (N : List (Int × Int)) (j : Nat) (h : j < N.length) : bxI x (N.take (j + 1)) = bxI x (N.take j) ++ if evn x N[j] = true then [mkR x N[j]] else [] := by
  unfold bxI
  rw [List.take_succ_eq_append_getElem h, List.filter_append, List.map_append]
  congr 1
  by_cases he : evn x N[j] = true
  · rw [if_pos he]; simp [he]
  · rw [if_neg he]; simp [he]
theorem bxL_snoc (M N : List (Int × Int)) (j : Nat) (h : j < M.length) : bxL (M.take (j + 1)) N = bxL (M.take j) N ++ bxI M[j] N := by
  unfold bxL
  rw [List.take_succ_eq_append_getElem h, List.flatMap_append]
  simp
theorem solR_bn {S1 S2 : Int × Int → Prop} (h1 : ∀ x, S1 x → Bn2 x) (h2 : ∀ x, S2 x → Bn2 x) (z : Q4) (h : SolR S1 S2 z) : Bn4 z := by
  obtain ⟨x, y, hx, hy, he, rfl⟩ := h
  have b1 := h1 x hx
  have b2 := h2 y hy
  have k := evn_half he
  unfold Bn2 at b1 b2
  unfold Bn4 mkR
  simp only
  omega

/-- the box's numbers, rising; are they returned; what is returned -/
noncomputable def brL (a1 a2 a3 b1 b2 b3 c1 c2 c3 d1 d2 d3 : Int) : List Q4 := theL ltR (SolR (Sol 2 a1 a2 a3 b1 b2 b3) (Sol 2 c1 c2 c3 d1 d2 d3))
def brOk (a1 a2 a3 b1 b2 b3 c1 c2 c3 d1 d2 d3 : Int) : Bool := Sid a1 a2 a3 && (Sid b1 b2 b3 && (Sid c1 c2 c3 && Sid d1 d2 d3))
noncomputable def brV (a1 a2 a3 b1 b2 b3 c1 c2 c3 d1 d2 d3 : Int) : List Q4 := if brOk a1 a2 a3 b1 b2 b3 c1 c2 c3 d1 d2 d3 then brL a1 a2 a3 b1 b2 b3 c1 c2 c3 d1 d2 d3 else []
section
variable {a1 a2 a3 b1 b2 b3 c1 c2 c3 d1 d2 d3 : Int}
theorem brV_no (h : brOk a1 a2 a3 b1 b2 b3 c1 c2 c3 d1 d2 d3 = false) : brV a1 a2 a3 b1 b2 b3 c1 c2 c3 d1 d2 d3 = [] := by unfold brV; rw [h]; rfl
theorem brV_yes (h : brOk a1 a2 a3 b1 b2 b3 c1 c2 c3 d1 d2 d3 = true) : brV a1 a2 a3 b1 b2 b3 c1 c2 c3 d1 d2 d3 = brL a1 a2 a3 b1 b2 b3 c1 c2 c3 d1 d2 d3 := by unfold brV; rw [h]; rfl
theorem brOk_all (h : brOk a1 a2 a3 b1 b2 b3 c1 c2 c3 d1 d2 d3 = true) : Sid a1 a2 a3 = true ∧ Sid b1 b2 b3 = true ∧ Sid c1 c2 c3 = true ∧ Sid d1 d2 d3 = true := by
  unfold brOk at h
  simpa only [Bool.and_eq_true] using h
theorem br_bn (h : brOk a1 a2 a3 b1 b2 b3 c1 c2 c3 d1 d2 d3 = true) : ∀ z, SolR (Sol 2 a1 a2 a3 b1 b2 b3) (Sol 2 c1 c2 c3 d1 d2 d3) z → Bn4 z := by
  obtain ⟨g1, g2, g3, g4⟩ := brOk_all h
  exact solR_bn (fun x hx => sol2_bn g1 g2 hx) (fun x hx => sol2_bn g3 g4 hx)
theorem brL_by (h : brOk a1 a2 a3 b1 b2 b3 c1 c2 c3 d1 d2 d3 = true) {M N : List (Int × Int)} {L : List Q4} (m1 : M.Nodup) (m2 : ∀ x, x ∈ M ↔ Sol 2 a1 a2 a3 b1 b2 b3 x) (n1 : N.Nodup) (n2 : ∀ x, x ∈ N ↔ Sol 2 c1 c2 c3 d1 d2 d3 x)
    (hp : L.Perm (bxL M N)) (hs : L.Pairwise fun x y => ¬ kyR y < kyR x) : L = brL a1 a2 a3 b1 b2 b3 c1 c2 c3 d1 d2 d3 :=
  sortedR_eq (br_bn h) (hp.nodup_iff.2 (bxL_nodup n1 m1)) (fun x => hp.mem_iff.trans (bxL_mem m2 n2 x)) hs
theorem brV_len : (brV a1 a2 a3 b1 b2 b3 c1 c2 c3 d1 d2 d3).length ≤ 180625 := by
  cases h : brOk a1 a2 a3 b1 b2 b3 c1 c2 c3 d1 d2 d3
  · rw [brV_no h]; exact Nat.zero_le _
  · rw [brV_yes h]
    obtain ⟨g1, g2, g3, g4⟩ := brOk_all h
    have hb : ∀ {x : Int × Int}, Bn2 x → Bnd x := fun hx => by unfold Bn2 at hx; unfold Bnd; omega
    obtain ⟨M, m1, m2⟩ := box_allB (S := Sol 2 a1 a2 a3 b1 b2 b3) (fun x hx => hb (sol2_bn g1 g2 hx))
    obtain ⟨N, n1, n2⟩ := box_allB (S := Sol 2 c1 c2 c3 d1 d2 d3) (fun x hx => hb (sol2_bn g3 g4 hx))
    have hp := ptsR_perm (br_bn h) (bxL_nodup n1 m1) (bxL_mem m2 n2)
    unfold brL
    rw [hp.length_eq]
    have k1 := pts_len g1 g2 m1 m2
    have k2 := pts_len g3 g4 n1 n2
    have k3 := bxL_len N M
    have k4 := Nat.mul_le_mul k1 k2
    omega
end

/-- it does not fall -/
def SrtR (L : List Q4) : Prop := L.Pairwise fun x y => ¬ kyR y < kyR x

/-- the numbers, cell by cell -/
def fl4 : List Q4 → List Int
  | [] => []
  | x :: l => x.1 :: x.2.1 :: x.2.2.1 :: x.2.2.2 :: fl4 l
theorem fl4_len : ∀ l : List Q4, (fl4 l).length = l.length * 4
  | [] => rfl
  | x :: l => by simp only [fl4, List.length_cons, fl4_len l]; omega
theorem fl4_append : ∀ l m : List Q4, fl4 (l ++ m) = fl4 l ++ fl4 m
  | [], m => rfl
  | x :: l, m => by simp only [fl4, List.cons_append, fl4_append l m]
theorem fl4_take : ∀ (l : List Q4) (k : Nat), fl4 (l.take k) = (fl4 l).take (k * 4)
  | [], k => by simp [fl4]
  | x :: l, 0 => by simp [fl4]
  | x :: l, k + 1 => by rw [show (k + 1) * 4 = k * 4 + 1 + 1 + 1 + 1 by omega]; simp only [fl4, List.take_succ_cons, fl4_take l k]
theorem fl4_drop : ∀ (l : List Q4) (k : Nat), fl4 (l.drop k) = (fl4 l).drop (k * 4)
  | [], k => by simp [fl4]
  | x :: l, 0 => by simp [fl4]
  | x :: l, k + 1 => by rw [show (k + 1) * 4 = k * 4 + 1 + 1 + 1 + 1 by omega]; simp only [fl4, List.drop_succ_cons, fl4_drop l k]
theorem fl4_get : ∀ (l : List Q4) (k : Nat) (h : k < l.length), (fl4 l)[k * 4]? = some l[k].1 ∧ (fl4 l)[k * 4 + 1]? = some l[k].2.1 ∧ (fl4 l)[k * 4 + 2]? = some l[k].2.2.1 ∧ (fl4 l)[k * 4 + 3]? = some l[k].2.2.2
  | x :: l, 0, h => by simp [fl4]
  | x :: l, k + 1, h => by
    have := fl4_get l k (by simpa using h)
    rw [show (k + 1) * 4 = k * 4 + 1 + 1 + 1 + 1 by omega]
    simpa [fl4] using this
theorem at3_fl4 (l : List Q4) (j : Nat) (h : j < l.length) : at3 (fl4 l) (j * 4) = l[j].1 ∧ at3 (fl4 l) (j * 4 + 1) = l[j].2.1 ∧ at3 (fl4 l) (j * 4 + 2) = l[j].2.2.1 ∧ at3 (fl4 l) (j * 4 + 3) = l[j].2.2.2 := by
  have := fl4_get l j h
  unfold at3
  rw [List.getD_eq_getElem?_getD, List.getD_eq_getElem?_getD, List.getD_eq_getElem?_getD, List.getD_eq_getElem?_getD, this.1, this.2.1, this.2.2.1, this.2.2.2]
  exact ⟨rfl, rfl, rfl, rfl⟩

end Go.Proofs.Ytojoljffaedpfaa
