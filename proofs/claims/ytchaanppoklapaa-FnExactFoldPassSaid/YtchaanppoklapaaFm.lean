/- Lists of cells, k for each member. -/
import Derived.Test.YtchaanppoklapaaRoL
import Derived.Test.YtchaanppoklapaaLt
namespace Go.Proofs.Ytchaanppoklapaa
open Go.RowKit
set_option linter.unusedVariables false
set_option linter.unusedSimpArgs false

section
variable {α β : Type} {f : α → List β} {k : Nat}
theorem fm_len (hk : ∀ x, (f x).length = k) : ∀ l : List α, (l.flatMap f).length = l.length * k
  | [] => by simp
  | x :: l => by
    rw [List.flatMap_cons, List.length_append, hk, fm_len hk l, List.length_cons, Nat.succ_mul]
    omega
theorem fm_get (hk : ∀ x, (f x).length = k) : ∀ (l : List α) (i c : Nat) (hi : i < l.length), c < k → (l.flatMap f)[i * k + c]? = (f l[i])[c]?
  | [], i, c, hi, hc => absurd hi (by simp)
  | x :: l, 0, c, hi, hc => by
    rw [List.flatMap_cons, Nat.zero_mul, Nat.zero_add, List.getElem?_append_left (by rw [hk]; exact hc)]
    rfl
  | x :: l, i + 1, c, hi, hc => by
    have h : (i + 1) * k + c = (f x).length + (i * k + c) := by rw [hk, Nat.succ_mul]; omega
    rw [List.flatMap_cons, h, List.getElem?_append_right (by omega), Nat.add_sub_cancel_left]
    exact fm_get hk l i c (by simpa using hi) hc
theorem fm_append (l m : List α) : (l ++ m).flatMap f = l.flatMap f ++ m.flatMap f := by simp
theorem fm_ext (hk : ∀ x, (f x).length = k) (hk0 : 0 < k) {l : List α} {L : List β} (hl : L.length = l.length * k) (h : ∀ i c (hi : i < l.length), c < k → L[i * k + c]? = (f l[i])[c]?) : l.flatMap f = L := by
  apply List.ext_getElem?
  intro m
  by_cases hm : m < l.length * k
  · have hi : m / k < l.length := Nat.div_lt_of_lt_mul (by rwa [Nat.mul_comm])
    have hc : m % k < k := Nat.mod_lt _ hk0
    have he : m = m / k * k + m % k := by have := Nat.div_add_mod m k; rw [Nat.mul_comm] at this; omega
    rw [he, fm_get hk l _ _ hi hc, h _ _ hi hc]
  · rw [List.getElem?_eq_none (by rw [fm_len hk]; omega), List.getElem?_eq_none (by omega)]
end

def b2 (p : Bool) : Int := if p then 1 else 0
def vcC (x : Nat × Bool) : List Int := [(x.1 : Int), b2 x.2]
def gcC (g : Gp) : List Int := [(g.v : Int), b2 g.p, (g.t : Int), (g.c : Int)]
def fcC (g : Gp) : List Int := [(g.t : Int), (g.c : Int)]
/-- the cells of values, of groups (the reference's), of folds -/
def VC (V : List (Nat × Bool)) : List Int := V.flatMap vcC
def GC (G : List Gp) : List Int := G.flatMap gcC
def FC (G : List Gp) : List Int := G.flatMap fcC
theorem VC_len (V : List (Nat × Bool)) : (VC V).length = V.length * 2 := fm_len (f := vcC) (k := 2) (fun _ => rfl) V
theorem GC_len (G : List Gp) : (GC G).length = G.length * 4 := fm_len (f := gcC) (k := 4) (fun _ => rfl) G
theorem FC_len (G : List Gp) : (FC G).length = G.length * 2 := fm_len (f := fcC) (k := 2) (fun _ => rfl) G
theorem vAt_get {V : List (Nat × Bool)} {i : Nat} (hi : i < V.length) : V[i] = vAt V i := by simp [vAt, List.getD_eq_getElem?_getD, hi]
theorem gAt_get {G : List Gp} {i : Nat} (hi : i < G.length) : G[i] = gAt G i := by simp [gAt, List.getD_eq_getElem?_getD, hi]
theorem VC_at {V : List (Nat × Bool)} {i : Nat} (hi : i < V.length) : (IL (VC V))[i * 2]? = some (.int .i64 ((vAt V i).1 : Int)) ∧ (IL (VC V))[i * 2 + 1]? = some (.int .i64 (b2 (vAt V i).2)) := by
  have h0 := fm_get (f := vcC) (k := 2) (fun _ => rfl) V i 0 hi (by decide)
  have h1 := fm_get (f := vcC) (k := 2) (fun _ => rfl) V i 1 hi (by decide)
  rw [vAt_get hi] at h0 h1
  simp only [IL, List.getElem?_map]
  exact ⟨by rw [show VC V = V.flatMap vcC from rfl, ← Nat.add_zero (i * 2), h0]; rfl, by rw [show VC V = V.flatMap vcC from rfl, h1]; rfl⟩
theorem GC_at {G : List Gp} {i : Nat} (hi : i < G.length) : (IL (GC G))[i * 4]? = some (.int .i64 ((gAt G i).v : Int)) ∧ (IL (GC G))[i * 4 + 1]? = some (.int .i64 (b2 (gAt G i).p)) ∧ (IL (GC G))[i * 4 + 2]? = some (.int .i64 ((gAt G i).t : Int)) ∧ (IL (GC G))[i * 4 + 3]? = some (.int .i64 ((gAt G i).c : Int)) := by
  have h := fun c hc => fm_get (f := gcC) (k := 4) (fun _ => rfl) G i c hi hc
  rw [gAt_get hi] at h
  simp only [IL, List.getElem?_map]
  refine ⟨?_, ?_, ?_, ?_⟩
  · rw [show GC G = G.flatMap gcC from rfl, ← Nat.add_zero (i * 4), h 0 (by decide)]; rfl
  · rw [show GC G = G.flatMap gcC from rfl, h 1 (by decide)]; rfl
  · rw [show GC G = G.flatMap gcC from rfl, h 2 (by decide)]; rfl
  · rw [show GC G = G.flatMap gcC from rfl, h 3 (by decide)]; rfl
theorem il_setL (L : List Int) (i : Nat) (y : Int) : IL (L.set i y) = (IL L).set i (.int .i64 y) := by simp [IL, List.map_set]
theorem VC_set {V : List (Nat × Bool)} {a : Nat} {x : Nat × Bool} (ha : a < V.length) : IL (VC (V.set a x)) = ((IL (VC V)).set (a * 2) (.int .i64 (x.1 : Int))).set (a * 2 + 1) (.int .i64 (b2 x.2)) := by
  rw [← il_setL, ← il_setL]
  congr 1
  refine fm_ext (f := vcC) (k := 2) (fun _ => rfl) (by decide) (by simp [VC_len]) (fun i c hi hc => ?_)
  rw [List.length_set] at hi
  have h := fm_get (f := vcC) (k := 2) (fun _ => rfl) V i c hi hc
  have hcl : a * 2 + 1 < (VC V).length := by rw [VC_len]; omega
  simp only [List.getElem?_set, List.length_set, List.getElem_set]
  by_cases e : a = i
  · subst e
    have : c = 0 ∨ c = 1 := by omega
    rcases this with rfl | rfl
    · rw [if_neg (by omega), if_pos (by omega), if_pos (by omega), if_pos rfl]; rfl
    · rw [if_pos (by omega), if_pos (by omega), if_pos rfl]; rfl
  · rw [if_neg (by omega), if_neg (by omega), if_neg e]
    exact h
theorem GC_set {G : List Gp} {i : Nat} {c : Nat} (hi : i < G.length) : IL (GC (G.set i { gAt G i with c := c })) = (IL (GC G)).set (i * 4 + 3) (.int .i64 (c : Int)) := by
  rw [← il_setL]
  congr 1
  refine fm_ext (f := gcC) (k := 4) (fun _ => rfl) (by decide) (by simp [GC_len]) (fun j d hj hd => ?_)
  rw [List.length_set] at hj
  have h := fm_get (f := gcC) (k := 4) (fun _ => rfl) G j d hj hd
  have hcl : i * 4 + 3 < (GC G).length := by rw [GC_len]; omega
  simp only [List.getElem?_set, List.getElem_set]
  by_cases e : i = j
  · subst e
    rw [if_pos rfl]
    by_cases hd3 : d = 3
    · subst hd3
      rw [if_pos rfl, if_pos hcl]; rfl
    · rw [if_neg (by omega)]
      refine h.trans ?_
      rw [gAt_get hi]
      have : d = 0 ∨ d = 1 ∨ d = 2 := by omega
      rcases this with rfl | rfl | rfl <;> rfl
  · rw [if_neg (by omega), if_neg e]
    exact h
theorem GC_snoc (G : List Gp) (g : Gp) : IL (GC (G ++ [g])) = IL (GC G) ++ IL (gcC g) := by
  unfold GC
  rw [fm_append]
  simp [IL]
theorem VC_snoc (V : List (Nat × Bool)) (x : Nat × Bool) : IL (VC (V ++ [x])) = IL (VC V) ++ IL (vcC x) := by
  unfold VC
  rw [fm_append]
  simp [IL]
theorem FC_snoc (G : List Gp) (g : Gp) : IL (FC (G ++ [g])) = IL (FC G) ++ IL (fcC g) := by
  unfold FC
  rw [fm_append]
  simp [IL]
theorem bits_xor_i64 (a b : Nat) (ha : a < 2 ^ 60) (hb : b < 2 ^ 60) : bits .xor .i64 (a : Int) (b : Int) = ((a ^^^ b : Nat) : Int) := by
  have hx : a ^^^ b < 2 ^ 60 := Nat.xor_lt_two_pow ha hb
  have h1 : (BitVec.ofInt 64 (a : Int)).toNat = a := by
    rw [BitVec.ofInt_natCast, BitVec.toNat_ofNat]; exact Nat.mod_eq_of_lt (by omega)
  have h2 : (BitVec.ofInt 64 (b : Int)).toNat = b := by
    rw [BitVec.ofInt_natCast, BitVec.toNat_ofNat]; exact Nat.mod_eq_of_lt (by omega)
  show IntKind.i64.wrap ((BitVec.ofInt 64 (a : Int) ^^^ BitVec.ofInt 64 (b : Int)).toNat : Int) = _
  rw [BitVec.toNat_xor, h1, h2]
  exact IntWalk.i64_in _ (by omega)
theorem b2_xor (p q : Bool) : bits .xor .i64 (b2 p) (b2 q) = b2 (p != q) := by
  cases p <;> cases q <;> rfl

end Go.Proofs.Ytchaanppoklapaa
