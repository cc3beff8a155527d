/- Lists of cells, k for each member. -/
import Derived.Test.YtbddgeoaaklgpaaRoL
import Derived.Test.YtbddgeoaaklgpaaLs
import Derived.Test.YtbddgeoaaklgpaaMade
namespace Go.Proofs.Ytbddgeoaaklgpaa
open Go.RowKit
set_option linter.unusedVariables false
set_option linter.unusedSimpArgs false

section
variable {α β : Type} {f : α → List β} {k : Nat}
theorem fm_len (hk : ∀ x, (f x).length = k) : ∀ l : List α, (l.flatMap f).length = l.length * k
  | [] => by simp
  | x :: l => by
    rw [List.flatMap_cons, List.length_append, hk, fm_len hk l, List.length_cons, Nat.succ_mul]
    omega
theorem fm_get (hk : ∀ x, (f x).length = k) : ∀ (l : List α) (i c : Nat) (hi : i < l.length), c < k → (l.flatMap f)[i * k + c]? = (f l[i])[c]?
  | [], i, c, hi, hc => absurd hi (by simp)
  | x :: l, 0, c, hi, hc => by
    rw [List.flatMap_cons, Nat.zero_mul, Nat.zero_add, List.getElem?_append_left (by rw [hk]; exact hc)]
    rfl
  | x :: l, i + 1, c, hi, hc => by
    have h : (i + 1) * k + c = (f x).length + (i * k + c) := by rw [hk, Nat.succ_mul]; omega
    rw [List.flatMap_cons, h, List.getElem?_append_right (by omega), Nat.add_sub_cancel_left]
    exact fm_get hk l i c (by simpa using hi) hc
theorem fm_append (l m : List α) : (l ++ m).flatMap f = l.flatMap f ++ m.flatMap f := by simp
theorem fm_ext (hk : ∀ x, (f x).length = k) (hk0 : 0 < k) {l : List α} {L : List β} (hl : L.length = l.length * k) (h : ∀ i c (hi : i < l.length), c < k → L[i * k + c]? = (f l[i])[c]?) : l.flatMap f = L := by
  apply List.ext_getElem?
  intro m
  by_cases hm : m < l.length * k
  · have hi : m / k < l.length := Nat.div_lt_of_lt_mul (by rwa [Nat.mul_comm])
    have hc : m % k < k := Nat.mod_lt _ hk0
    have he : m = m / k * k + m % k := by have := Nat.div_add_mod m k; rw [Nat.mul_comm] at this; omega
    rw [he, fm_get hk l _ _ hi hc, h _ _ hi hc]
  · rw [List.getElem?_eq_none (by rw [fm_len hk]; omega), List.getElem?_eq_none (by omega)]
end

def b2 (p : Bool) : Int := if p then 1 else 0
def vcC (x : Nat × Bool) : List Int := [(x.1 : Int), b2 x.2]
def gcC (g : Gp) : List Int := [(g.v : Int), b2 g.p, (g.t : Int), (g.c : Int)]
def fcC (g : Gp) : List Int := [(g.t : Int), (g.c : Int)]
/-- the cells of values, of groups (the reference's), of folds -/
def VC (V : List (Nat × Bool)) : List Int := V.flatMap vcC
def GC (G : List Gp) : List Int := G.flatMap gcC
def FC (G : List Gp) : List Int := G.flatMap fcC
theorem VC_len (V : List (Nat × Bool)) : (VC V).length = V.length * 2 := fm_len (f := vcC) (k := 2) (fun _ => rfl) V
theorem GC_len (G : List Gp) : (GC G).length = G.length * 4 := fm_len (f := gcC) (k := 4) (fun _ => rfl) G
theorem FC_len (G : List Gp) : (FC G).length = G.length * 2 := fm_len (f := fcC) (k := 2) (fun _ => rfl) G
theorem vAt_get {V : List (Nat × Bool)} {i : Nat} (hi : i < V.length) : V[i] = vAt V i := by simp [vAt, List.getD_eq_getElem?_getD, hi]
theorem gAt_get {G : List Gp} {i : Nat} (hi : i < G.length) : G[i] = gAt G i := by simp [gAt, List.getD_eq_getElem?_getD, hi]
theorem VC_at {V : List (Nat × Bool)} {i : Nat} (hi : i < V.length) : (IL (VC V))[i * 2]? = some (.int .i64 ((vAt V i).1 : Int)) ∧ (IL (VC V))[i * 2 + 1]? = some (.int .i64 (b2 (vAt V i).2)) := by
  have h0 := fm_get (f := vcC) (k := 2) (fun _ => rfl) V i 0 hi (by decide)
  have h1 := fm_get (f := vcC) (k := 2) (fun _ => rfl) V i 1 hi (by decide)
  rw [vAt_get hi] at h0 h1
  simp only [IL, List.getElem?_map]
  exact ⟨by rw [show VC V = V.flatMap vcC from rfl, ← Nat.add_zero (i * 2), h0]; rfl, by rw [show VC V = V.flatMap vcC from rfl, h1]; rfl⟩
theorem GC_at {G : List Gp} {i : Nat} (hi : i < G.length) : (IL (GC G))[i * 4]? = some (.int .i64 ((gAt G i).v : Int)) ∧ (IL (GC G))[i * 4 + 1]? = some (.int .i64 (b2 (gAt G i).p)) ∧ (IL (GC G))[i * 4 + 2]? = some (.int .i64 ((gAt G i).t : Int)) ∧ (IL (GC G))[i * 4 + 3]? = some (.int .i64 ((gAt G i).c : Int)) := by
  have h := fun c hc => fm_get (f := gcC) (k := 4) (fun _ => rfl) G i c hi hc
  rw [gAt_get hi] at h
  simp only [IL, List.getElem?_map]
  refine ⟨?_, ?_, ?_, ?_⟩
  · rw [show GC G = G.flatMap gcC from rfl, ← Nat.add_zero (i * 4), h 0 (by decide)]; rfl
  · rw [show GC G = G.flatMap gcC from rfl, h 1 (by decide)]; rfl
  · rw [show GC G = G.flatMap gcC from rfl, h 2 (by decide)]; rfl
  · rw [show GC G = G.flatMap gcC from rfl, h 3 (by decide)]; rfl
theorem il_setL (L : List Int) (i : Nat) (y : Int) : IL (L.set i y) = (IL L).set i (.int .i64 y) := by simp [IL, List.map_set]
theorem VC_set {V : List (Nat × Bool)} {a : Nat} {x : Nat × Bool} (ha : a < V.length) : IL (VC (V.set a x)) = ((IL (VC V)).set (a * 2) (.int .i64 (x.1 : Int))).set (a * 2 + 1) (.int .i64 (b2 x.2)) := by
  rw [← il_setL, ← il_setL]
  congr 1
  refine fm_ext (f := vcC) (k := 2) (fun _ => rfl) (by decide) (by simp [VC_len]) (fun i c hi hc => ?_)
  rw [List.length_set] at hi
  have h := fm_get (f := vcC) (k := 2) (fun _ => rfl) V i c hi hc
  have hcl : a * 2 + 1 < (VC V).length := by rw [VC_len]; omega
  simp only [List.getElem?_set, List.length_set, List.getElem_set]
  by_cases e : a = i
  · subst e
    have : c = 0 ∨ c = 1 := by omega
    rcases this with rfl | rfl
    · rw [if_neg (by omega), if_pos (by omega), if_pos (by omega), if_pos rfl]; rfl
    · rw [if_pos (by omega), if_pos (by omega), if_pos rfl]; rfl
  · rw [if_neg (by omega), if_neg (by omega), if_neg e]
    exact h
theorem GC_set {G : List Gp} {i : Nat} {c : Nat} (hi : i < G.length) : IL (GC (G.set i { gAt G i with c := c })) = (IL (GC G)).set (i * 4 + 3) (.int .i64 (c : Int)) := by
  rw [← il_setL]
  congr 1
  refine fm_ext (f := gcC) (k := 4) (fun _ => rfl) (by decide) (by simp [GC_len]) (fun j d hj hd => ?_)
  rw [List.length_set] at hj
  have h := fm_get (f := gcC) (k := 4) (fun _ => rfl) G j d hj hd
  have hcl : i * 4 + 3 < (GC G).length := by rw [GC_len]; omega
  simp only [List.getElem?_set, List.getElem_set]
  by_cases e : i = j
  · subst e
    rw [if_pos rfl]
    by_cases hd3 : d = 3
    · subst hd3
      rw [if_pos rfl, if_pos hcl]; rfl
    · rw [if_neg (by omega)]
      refine h.trans ?_
      rw [gAt_get hi]
      have : d = 0 ∨ d = 1 ∨ d = 2 := by omega
      rcases this with rfl | rfl | rfl <;> rfl
  · rw [if_neg (by omega), if_neg e]
    exact h
theorem GC_snoc (G : List Gp) (g : Gp) : IL (GC (G ++ [g])) = IL (GC G) ++ IL (gcC g) := by
  unfold GC
  rw [fm_append]
  simp [IL]
theorem VC_snoc (V : List (Nat × Bool)) (x : Nat × Bool) : IL (VC (V ++ [x])) = IL (VC V) ++ IL (vcC x) := by
  unfold VC
  rw [fm_append]
  simp [IL]
theorem FC_snoc (G : List Gp) (g : Gp) : IL (FC (G ++ [g])) = IL (FC G) ++ IL (fcC g) := by
  unfold FC
  rw [fm_append]
  simp [IL]
theorem bits_xor_i64 (a b : Nat) (ha : a < 2 ^ 60) (hb : b < 2 ^ 60) : bits .xor .i64 (a : Int) (b : Int) = ((a ^^^ b : Nat) : Int) := by
  have hx : a ^^^ b < 2 ^ 60 := Nat.xor_lt_two_pow ha hb
  have h1 : (BitVec.ofInt 64 (a : Int)).toNat = a := by
    rw [BitVec.ofInt_natCast, BitVec.toNat_ofNat]; exact Nat.mod_eq_of_lt (by omega)
  have h2 : (BitVec.ofInt 64 (b : Int)).toNat = b := by
    rw [BitVec.ofInt_natCast, BitVec.toNat_ofNat]; exact Nat.mod_eq_of_lt (by omega)
  show IntKind.i64.wrap ((BitVec.ofInt 64 (a : Int) ^^^ BitVec.ofInt 64 (b : Int)).toNat : Int) = _
  rw [BitVec.toNat_xor, h1, h2]
  exact IntWalk.i64_in _ (by omega)
theorem b2_xor (p q : Bool) : bits .xor .i64 (b2 p) (b2 q) = b2 (p != q) := by
  cases p <;> cases q <;> rfl


open Go.RowKit Go.Lib
set_option linter.unusedVariables false
set_option linter.unusedSimpArgs false

/-- the cells of the values -/
def VUc (x : Nat × Bool) : List Value := [.int .u64 (x.1 : Int), .bool x.2]
def VU (V : List (Nat × Bool)) : List Value := V.flatMap VUc
theorem VU_len (V : List (Nat × Bool)) : (VU V).length = V.length * 2 := fm_len (f := VUc) (k := 2) (fun _ => rfl) V
theorem VU_at {V : List (Nat × Bool)} {i : Nat} (hi : i < V.length) : (VU V)[i * 2]? = some (.int .u64 ((vAt V i).1 : Int)) ∧ (VU V)[i * 2 + 1]? = some (.bool (vAt V i).2) := by
  have h0 := fm_get (f := VUc) (k := 2) (fun _ => rfl) V i 0 hi (by decide)
  have h1 := fm_get (f := VUc) (k := 2) (fun _ => rfl) V i 1 hi (by decide)
  rw [vAt_get hi] at h0 h1
  exact ⟨by rw [show VU V = V.flatMap VUc from rfl, ← Nat.add_zero (i * 2), h0]; rfl, by rw [show VU V = V.flatMap VUc from rfl, h1]; rfl⟩
theorem VU_set {V : List (Nat × Bool)} {a : Nat} {x : Nat × Bool} (ha : a < V.length) : VU (V.set a x) = ((VU V).set (a * 2) (.int .u64 (x.1 : Int))).set (a * 2 + 1) (.bool x.2) := by
  refine fm_ext (f := VUc) (k := 2) (fun _ => rfl) (by decide) (by simp [VU_len]) (fun i c hi hc => ?_)
  rw [List.length_set] at hi
  have h := fm_get (f := VUc) (k := 2) (fun _ => rfl) V i c hi hc
  have hcl : a * 2 + 1 < (VU V).length := by rw [VU_len]; omega
  simp only [List.getElem?_set, List.length_set, List.getElem_set]
  by_cases e : a = i
  · subst e
    have : c = 0 ∨ c = 1 := by omega
    rcases this with rfl | rfl
    · rw [if_neg (by omega), if_pos (by omega), if_pos (by omega), if_pos rfl]; rfl
    · rw [if_pos (by omega), if_pos (by omega), if_pos rfl]; rfl
  · rw [if_neg (by omega), if_neg (by omega), if_neg e]
    exact h
theorem VU_set1 {V : List (Nat × Bool)} {a : Nat} {x1 : Nat} {x2 y2 : Bool} (ha : a < V.length) (hx : vAt V a = (x1, x2)) : VU (V.set a (x1, y2)) = (VU V).set (a * 2 + 1) (.bool y2) := by
  rw [VU_set ha]
  congr 1
  have h := (VU_at ha).1
  rw [hx] at h
  refine List.ext_getElem? fun q => ?_
  rw [List.getElem?_set]
  split
  · rename_i e; subst e
    rw [if_pos (by rw [VU_len]; omega)]
    exact h.symm
  · rfl
theorem VU_snoc (V : List (Nat × Bool)) (x : Nat × Bool) : VU (V ++ [x]) = VU V ++ VUc x := by
  unfold VU
  rw [fm_append]
  simp

theorem setCell_sz (w : World) (p : Addr) (u : Value) : (w.setCell p u).heap.size = w.heap.size := by simp
theorem row_farM {w W : World} {k : Nat} {o : Obj} (h : w.heap[k]? = some o) (hx : Ext w W) : W.heap[k]? = some o := (hx.heap (Array.getElem?_eq_some_iff.1 h).1).trans h
theorem own_setm {w : World} {base : Nat} {e : TypeId} {size : Nat} {v : Value} {n : Nat} {xs : List Value} (h : w.ownsRow base e size v n xs) {p : Addr} (hp : ∀ k, v.ownBlock = some k → k ≠ p.block) (u : Value) : (w.setCell p u).ownsRow base e size v n xs := by
  refine ⟨h.1, ?_⟩
  rcases h.2 with hn | ⟨g, cap, cur, hv, hb, hg, r⟩
  · exact .inl hn
  · have : g ≠ p.block := hp g (by rw [hv]; rfl)
    exact .inr ⟨g, cap, cur, hv, hb, by rw [Below.heap_setCell _ _ _ _ this]; exact hg, r⟩
theorem own_farM {w w' : World} {base : Nat} {e : TypeId} {size : Nat} {v : Value} {n : Nat} {xs : List Value} {row : Option Nat} (h : w.ownsRow base e size v n xs) (hg : w.grownBy w' row) (hr : ∀ k, v.ownBlock = some k → row = some k → False) : w'.ownsRow base e size v n xs := by
  refine h.kept hg ?_
  cases hv : v.ownBlock with
  | none => exact .inl rfl
  | some k => exact .inr fun he => hr k hv he.symm

/-- the cells of a group lie in zs; its own gates in a row -/
def EG (w : World) (lo : Nat) (zs : List Value) (j : Nat) (g : Gp) : Prop := ∃ s, zs[j * 5]? = some (.int .i64 g.t) ∧ zs[j * 5 + 1]? = some (.int .i64 g.c) ∧ zs[j * 5 + 2]? = some (.int .u64 g.v) ∧ zs[j * 5 + 3]? = some (.bool g.p) ∧ zs[j * 5 + 4]? = some s ∧ w.ownsRow lo 3 1 s g.L.length (IL (g.L.map Int.ofNat))
/-- the groups' own rows differ from each other and from the groups' row -/
def DG (w : World) (v : Value) (zs : List Value) : Prop := (∀ (p : Nat) (x : Value) (k : Nat), zs[p]? = some x → x.ownBlock = some k → v.ownBlock = some k → False) ∧ (∀ (p q : Nat) (x y : Value) (k : Nat), p < q → zs[p]? = some x → zs[q]? = some y → x.ownBlock = some k → y.ownBlock = some k → False) ∧ (∀ (p : Nat) (x : Value) (k : Nat), zs[p]? = some x → x.ownBlock = some k → k < w.heap.size)
def GRS (w : World) (lo : Nat) (v : Value) (G : List Gp) : Prop :=
  ∃ zs, w.ownsRow lo 55 5 v G.length zs ∧ zs.length = G.length * 5 ∧ DG w v zs ∧ ∀ j, j < G.length → EG w lo zs j (gAt G j)
theorem GRS.nil (w : World) (lo : Nat) : GRS w lo (.slice none 0 0) [] := ⟨[], own_nil _ _ _ _, rfl, ⟨fun _ _ _ h => by simp at h, fun _ _ _ _ _ _ h => by simp at h, fun _ _ _ h => by simp at h⟩, fun _ h => absurd h (by simp)⟩
theorem GRS.ext {w w' : World} {lo : Nat} {v : Value} {G : List Gp} (h : GRS w lo v G) (hx : Ext w w') : GRS w' lo v G := by
  obtain ⟨zs, h1, h2, h3, h4⟩ := h
  refine ⟨zs, own_ext h1 hx, h2, ⟨h3.1, h3.2.1, fun p x k hp hk => Nat.lt_of_lt_of_le (h3.2.2 p x k hp hk) hx.size⟩, fun j hj => ?_⟩
  obtain ⟨s, e0, e1, e2, e3, e4, o⟩ := h4 j hj
  exact ⟨s, e0, e1, e2, e3, e4, own_ext o hx⟩
theorem GRS.setn {w : World} {lo : Nat} {v : Value} {G : List Gp} (h : GRS w lo v G) {p : Addr} (hp : p.block < lo) (u : Value) : GRS (w.setCell p u) lo v G := by
  obtain ⟨zs, h1, h2, h3, h4⟩ := h
  refine ⟨zs, own_set h1 hp u, h2, ⟨h3.1, h3.2.1, fun q x k hq hk => by rw [setCell_sz]; exact h3.2.2 q x k hq hk⟩, fun j hj => ?_⟩
  obtain ⟨s, e0, e1, e2, e3, e4, o⟩ := h4 j hj
  exact ⟨s, e0, e1, e2, e3, e4, own_set o hp u⟩
theorem set_get {zs : List Value} {p q : Nat} {u : Value} (hp : p < zs.length) : (zs.set p u)[q]? = if p = q then some u else zs[q]? := by
  by_cases e : p = q
  · subst e; simp [hp]
  · simp [e]
/-- a group's coefficient is stored -/
theorem GRS.coef {w : World} {lo : Nat} {Bg n cap : Nat} {G : List Gp} (hn : n = G.length) (h : GRS w lo (.slice (some ⟨Bg, 0, none⟩) n cap) G) {i : Nat} (hi : i < G.length) (c : Nat) : GRS (w.setCell ⟨Bg, i * 5 + 1, none⟩ (.int .i64 (c : Int))) lo (.slice (some ⟨Bg, 0, none⟩) n cap) (G.set i { gAt G i with c := c }) := by
  subst hn
  obtain ⟨zs, h1, h2, h3, h4⟩ := h
  have hs : ∀ q u, (zs.set (i * 5 + 1) u)[q]? = if i * 5 + 1 = q then some u else zs[q]? := fun q u => set_get (by omega)
  have hb : ∀ {p : Nat} {x : Value} {k : Nat}, (zs.set (i * 5 + 1) (.int .i64 (c : Int)))[p]? = some x → x.ownBlock = some k → zs[p]? = some x := by
    intro p x k hp hk
    rw [hs] at hp
    split at hp
    · cases hp; cases hk
    · exact hp
  refine ⟨zs.set (i * 5 + 1) (.int .i64 (c : Int)), ?_, by simpa using h2, ⟨fun p x k hp hk => h3.1 p x k (hb hp hk) hk, fun p q x y k hpq hp hq hk hk' => h3.2.1 p q x y k hpq (hb hp hk) (hb hq hk') hk hk', fun p x k hp hk => by rw [setCell_sz]; exact h3.2.2 p x k (hb hp hk) hk⟩, fun j hj => ?_⟩
  · rw [List.length_set]
    exact (h1.stored (i * 5 + 1) (.int .i64 (c : Int))).1
  · rw [List.length_set] at hj
    obtain ⟨s, e0, e1, e2, e3, e4, o⟩ := h4 j hj
    have o2 := own_setm o (p := ⟨Bg, i * 5 + 1, none⟩) (fun k hk e => h3.1 _ _ _ e4 hk (by rw [e]; rfl)) (.int .i64 (c : Int))
    by_cases e : j = i
    · subst e
      rw [gAt_set hi, if_pos rfl]
      exact ⟨s, by rw [hs, if_neg (by omega)]; exact e0, by rw [hs, if_pos rfl], by rw [hs, if_neg (by omega)]; exact e2, by rw [hs, if_neg (by omega)]; exact e3, by rw [hs, if_neg (by omega)]; exact e4, o2⟩
    · rw [gAt_set hi, if_neg e]
      exact ⟨s, by rw [hs, if_neg (by omega)]; exact e0, by rw [hs, if_neg (by omega)]; exact e1, by rw [hs, if_neg (by omega)]; exact e2, by rw [hs, if_neg (by omega)]; exact e3, by rw [hs, if_neg (by omega)]; exact e4, o2⟩
/-- a group's own row is grown and stored -/
theorem GRS.app {w w' : World} {lo : Nat} {Bg n cap : Nat} {G : List Gp} (hn : n = G.length) {zs : List Value} (h1 : w.ownsRow lo 55 5 (.slice (some ⟨Bg, 0, none⟩) n cap) G.length zs) (h2 : zs.length = G.length * 5) (h3 : DG w (.slice (some ⟨Bg, 0, none⟩) n cap) zs) (h4 : ∀ j, j < G.length → EG w lo zs j (gAt G j))
    {i : Nat} (hi : i < G.length) {s v5 : Value} (hs4 : zs[i * 5 + 4]? = some s) {at' : Nat} (hg : w.grownBy w' s.ownBlock) (hloc : v5.ownBlock = s.ownBlock ∨ v5.ownBlock = some w.heap.size) (ho : w'.ownsRow lo 3 1 v5 ((gAt G i).L.length + 1) (IL ((gAt G i).L.map Int.ofNat ++ [(at' : Int)]))) :
    GRS (w'.setCell ⟨Bg, i * 5 + 4, none⟩ v5) lo (.slice (some ⟨Bg, 0, none⟩) n cap) (G.set i { gAt G i with L := (gAt G i).L ++ [at'] }) := by
  subst hn
  have hs : ∀ q u, (zs.set (i * 5 + 4) u)[q]? = if i * 5 + 4 = q then some u else zs[q]? := fun q u => set_get (by omega)
  have hBg : Bg < w.heap.size := (h1.lt Bg rfl).2
  have hv5 : ∀ k, v5.ownBlock = some k → s.ownBlock = some k ∨ k = w.heap.size := by
    intro k hk
    rcases hloc with e | e
    · exact .inl (by rw [← e]; exact hk)
    · rw [e] at hk; cases hk; exact .inr rfl
  have hsz : ∀ (p : Nat) (x : Value) (k : Nat), zs[p]? = some x → x.ownBlock = some k → k < w.heap.size := h3.2.2
  have hb : ∀ {p : Nat} {x : Value} {k : Nat}, (zs.set (i * 5 + 4) v5)[p]? = some x → x.ownBlock = some k → (zs[p]? = some x ∧ p ≠ i * 5 + 4) ∨ (p = i * 5 + 4 ∧ x = v5) := by
    intro p x k hp hk
    rw [hs] at hp
    split at hp
    · rename_i e; cases hp; exact .inr ⟨e.symm, rfl⟩
    · rename_i e; exact .inl ⟨hp, fun h => e h.symm⟩
  have ho5 : ∀ k, v5.ownBlock = some k → k < w'.heap.size := fun k hk => (ho.lt k hk).2
  refine ⟨zs.set (i * 5 + 4) v5, ?_, by simpa using h2, ⟨fun p x k hp hk hv => ?_, fun p q x y k hpq hp hq hk hk' => ?_, fun p x k hp hk => ?_⟩, fun j hj => ?_⟩
  · rw [List.length_set]
    exact ((own_farM h1 hg (fun k hk he => h3.1 _ _ _ hs4 he hk)).stored (i * 5 + 4) v5).1
  · have hk2 : Bg = k := by cases hv; rfl
    rcases hb hp hk with ⟨h, _⟩ | ⟨rfl, rfl⟩
    · exact h3.1 _ _ _ h hk hv
    · rcases hv5 k hk with h | h
      · exact h3.1 _ _ _ hs4 h hv
      · omega
  · rcases hb hp hk with ⟨h, hne⟩ | ⟨rfl, rfl⟩
    · rcases hb hq hk' with ⟨h', _⟩ | ⟨rfl, rfl⟩
      · exact h3.2.1 p q x y k hpq h h' hk hk'
      · rcases hv5 k hk' with g | g
        · exact h3.2.1 p _ x _ k hpq h hs4 hk g
        · have := hsz _ _ _ h hk; omega
    · rcases hb hq hk' with ⟨h', _⟩ | ⟨rfl, rfl⟩
      · rcases hv5 k hk with g | g
        · exact h3.2.1 _ q _ y k hpq hs4 h' g hk'
        · have := hsz _ _ _ h' hk'; omega
      · omega
  · rw [setCell_sz]
    rcases hb hp hk with ⟨h, _⟩ | ⟨rfl, rfl⟩
    · exact Nat.lt_of_lt_of_le (hsz _ _ _ h hk) hg.size
    · exact ho5 k hk
  · rw [List.length_set] at hj
    obtain ⟨s', e0, e1, e2, e3, e4, o⟩ := h4 j hj
    by_cases e : j = i
    · subst e
      rw [gAt_set hi, if_pos rfl]
      refine ⟨v5, by rw [hs, if_neg (by omega)]; exact e0, by rw [hs, if_neg (by omega)]; exact e1, by rw [hs, if_neg (by omega)]; exact e2, by rw [hs, if_neg (by omega)]; exact e3, by rw [hs, if_pos rfl], ?_⟩
      have h9 := own_setm ho (p := ⟨Bg, j * 5 + 4, none⟩) (fun k hk e => by
        have e' : k = Bg := e
        rcases hv5 k hk with h | h
        · exact h3.1 _ _ _ hs4 h (by rw [e']; rfl)
        · omega) v5
      simpa using h9
    · rw [gAt_set hi, if_neg e]
      have hne : ∀ k, s'.ownBlock = some k → s.ownBlock = some k → False := by
        intro k hk hk'
        by_cases hij : j < i
        · exact h3.2.1 _ _ _ _ k (show j * 5 + 4 < i * 5 + 4 by omega) e4 hs4 hk hk'
        · exact h3.2.1 _ _ _ _ k (show i * 5 + 4 < j * 5 + 4 by omega) hs4 e4 hk' hk
      have o2 := own_setm (own_farM o hg (fun k hk he => hne k hk he)) (p := ⟨Bg, i * 5 + 4, none⟩) (fun k hk e => h3.1 _ _ _ e4 hk (by have e' : k = Bg := e; rw [e']; rfl)) v5
      exact ⟨s', by rw [hs, if_neg (by omega)]; exact e0, by rw [hs, if_neg (by omega)]; exact e1, by rw [hs, if_neg (by omega)]; exact e2, by rw [hs, if_neg (by omega)]; exact e3, by rw [hs, if_neg (by omega)]; exact e4, o2⟩
/-- a group is appended -/
theorem GRS.snoc {w w' : World} {lo : Nat} {v v5 : Value} {G : List Gp} {zs : List Value} (h2 : zs.length = G.length * 5) (h3 : DG w v zs) (h4 : ∀ j, j < G.length → EG w lo zs j (gAt G j)) {t x : Nat} {p : Bool}
    (hg : w.grownBy w' v.ownBlock) (hloc : v5.ownBlock = v.ownBlock ∨ v5.ownBlock = some w.heap.size) (ho : w'.ownsRow lo 55 5 v5 (G.length + 1) (zs ++ [.int .i64 (t : Int), .int .i64 0, .int .u64 (x : Int), .bool p, .slice none 0 0])) :
    ∃ zs', w'.ownsRow lo 55 5 v5 (G ++ [(⟨t, 0, x, p, []⟩ : Gp)]).length zs' ∧ zs'.length = (G ++ [(⟨t, 0, x, p, []⟩ : Gp)]).length * 5 ∧ DG w' v5 zs' ∧ (∀ j, j < (G ++ [(⟨t, 0, x, p, []⟩ : Gp)]).length → EG w' lo zs' j (gAt (G ++ [(⟨t, 0, x, p, []⟩ : Gp)]) j)) ∧ ∀ (p' : Nat) (x' : Value) (k : Nat), zs'[p']? = some x' → x'.ownBlock = some k → zs[p']? = some x' := by
  have hv5 : ∀ k, v5.ownBlock = some k → v.ownBlock = some k ∨ k = w.heap.size := by
    intro k hk
    rcases hloc with e | e
    · exact .inl (by rw [← e]; exact hk)
    · rw [e] at hk; cases hk; exact .inr rfl
  have hb : ∀ {p' : Nat} {x' : Value} {k : Nat}, (zs ++ [.int .i64 (t : Int), .int .i64 0, .int .u64 (x : Int), .bool p, .slice none 0 0])[p']? = some x' → x'.ownBlock = some k → zs[p']? = some x' := by
    intro p' x' k hp hk
    by_cases hl : p' < zs.length
    · rw [List.getElem?_append_left hl] at hp; exact hp
    · rw [List.getElem?_append_right (by omega)] at hp
      generalize p' - zs.length = q at hp
      rcases q with _ | _ | _ | _ | _ | q <;> simp at hp <;> (subst hp; cases hk)
  refine ⟨_, by rw [List.length_append]; exact ho, by simp [h2]; omega, ⟨fun p' x' k hp hk hv => ?_, fun p' q x' y k hpq hp hq hk hk' => h3.2.1 _ _ _ _ k hpq (hb hp hk) (hb hq hk') hk hk', fun p' x' k hp hk => Nat.lt_of_lt_of_le (h3.2.2 _ _ k (hb hp hk) hk) hg.size⟩, fun j hj => ?_, fun p' x' k hp hk => hb hp hk⟩
  · rcases hv5 k hv with h | h
    · exact h3.1 _ _ _ (hb hp hk) hk h
    · have := h3.2.2 _ _ k (hb hp hk) hk; omega
  · rw [List.length_append] at hj
    by_cases e : j < G.length
    · obtain ⟨s, e0, e1, e2, e3, e4, o⟩ := h4 j e
      rw [gAt_left e]
      have hl : ∀ c, c < 5 → j * 5 + c < zs.length := fun c hc => by omega
      exact ⟨s, (List.getElem?_append_left (hl 0 (by omega))).trans e0, (List.getElem?_append_left (hl 1 (by omega))).trans e1, (List.getElem?_append_left (hl 2 (by omega))).trans e2, (List.getElem?_append_left (hl 3 (by omega))).trans e3, (List.getElem?_append_left (hl 4 (by omega))).trans e4,
        own_farM o hg (fun k hk he => h3.1 _ _ _ e4 hk he)⟩
    · have e' : j = G.length := by simp at hj; omega
      subst e'
      rw [gAt_new]
      have hr : ∀ c, (zs ++ [.int .i64 (t : Int), .int .i64 0, .int .u64 (x : Int), .bool p, .slice none 0 0])[G.length * 5 + c]? = [Value.int .i64 (t : Int), .int .i64 0, .int .u64 (x : Int), .bool p, .slice none 0 0][c]? := fun c => by
        rw [List.getElem?_append_right (by omega)]
        congr 1
        omega
      exact ⟨.slice none 0 0, hr 0, hr 1, hr 2, hr 3, hr 4, own_nil _ _ _ _⟩

theorem mo_set {G : List Gp} {i : Nat} (hi : i < G.length) (d : Bool) (j c : Nat) : (G.set i { gAt G i with L := (gAt G i).L ++ [j] }).set i { gAt (G.set i { gAt G i with L := (gAt G i).L ++ [j] }) i with c := ((gAt G i).c + (if d then 8 - c else c)) % 8 } = G.set i (moG (gAt G i) d j c) := by
  rw [gAt_set hi, if_pos rfl, List.set_set]
  rfl
/-- the program's state -/
structure MS (w : World) (M lo hi Q : Nat) (vv gv : Value) (σ : Fs) : Prop where
  cell : w.heap[M]? = some (.cells #[vv, .int .i64 σ.u, gv, .int .i64 σ.s] 58 (0, 0))
  vals : w.ownsRow lo 52 2 vv Q (VU σ.V)
  vhi : ∀ k, vv.ownBlock = some k → k < hi
  grp : GRS w hi gv σ.G
  ml : M < lo
  lh : lo ≤ hi
  hw : hi ≤ w.heap.size
theorem MS.ext {w w' : World} {M lo hi Q : Nat} {vv gv : Value} {σ : Fs} (h : MS w M lo hi Q vv gv σ) (hx : Ext w w') : MS w' M lo hi Q vv gv σ :=
  ⟨row_farM h.cell hx, own_ext h.vals hx, h.vhi, h.grp.ext hx, h.ml, h.lh, Nat.le_trans h.hw hx.size⟩

end Go.Proofs.Ytbddgeoaaklgpaa
