/- Certificates: slices of replacements that can be read, sizes. -/
import Derived.Test.YtchaanppoklapaaArgS
import Derived.Test.YtchaanppoklapaaCopy
namespace Go.Proofs.Ytchaanppoklapaa
open Go.RowKit Go.Deep

/-- a replacement's contents -/
structure Rp where
  t : Int
  m1 : Nat
  xs : List Int
  m2 : Nat
  ys : List Int
instance : Inhabited Rp := ⟨⟨0, 0, [], 0, []⟩⟩
/-- v is a slice of replacements that hold rs -/
def RSV (w : World) (v : Value) (rs : List Rp) : Prop :=
  ∃ (a : Option Addr) (cap : Nat), v = .slice a rs.length cap ∧ rs.length ≤ cap ∧ cap ≤ maxLen ∧
    (0 < rs.length → ∃ b off, a = some ⟨b, off, none⟩ ∧ b < w.heap.size ∧ ∀ (j : Nat) (h : j < rs.length), ∃ va vb, w.cell? ⟨b, off + j * 3, none⟩ = some (.int .i64 rs[j].t) ∧ w.cell? ⟨b, off + j * 3 + 1, none⟩ = some va ∧ w.cell? ⟨b, off + j * 3 + 2, none⟩ = some vb ∧
      RV w 3 va rs[j].m1 rs[j].xs ∧ RV w 3 vb rs[j].m2 rs[j].ys)
theorem RSV.ext {w w' : World} {v : Value} {rs : List Rp} (h : RSV w v rs) (hx : Ext w w') : RSV w' v rs := by
  obtain ⟨a, cap, h2, h3, h4, h5⟩ := h
  refine ⟨a, cap, h2, h3, h4, fun hp => ?_⟩
  obtain ⟨b, off, e1, e2, e3⟩ := h5 hp
  refine ⟨b, off, e1, by have := hx.size; omega, fun j hj => ?_⟩
  obtain ⟨va, vb, z0, z1, z2, r1, r2⟩ := e3 j hj
  exact ⟨va, vb, (hx.cells.1 b _ e2).trans z0, (hx.cells.1 b _ e2).trans z1, (hx.cells.1 b _ e2).trans z2, r1.ext hx, r2.ext hx⟩
/-- v is a slice of replacements, made behind base, that hold rs -/
def RSO (w : World) (base : Nat) (v : Value) (rs : List Rp) : Prop :=
  ∃ zs : List Value, w.ownsRow base 81 3 v rs.length zs ∧ zs.length = rs.length * 3 ∧
    ∀ (j : Nat) (h : j < rs.length), ∃ va vb, zs[j * 3]? = some (.int .i64 rs[j].t) ∧ zs[j * 3 + 1]? = some va ∧ zs[j * 3 + 2]? = some vb ∧
      w.ownsRow base 72 3 va rs[j].m1 (IL rs[j].xs) ∧ w.ownsRow base 72 3 vb rs[j].m2 (IL rs[j].ys)

theorem RSO.ext {w w' : World} {base : Nat} {v : Value} {rs : List Rp} (h : RSO w base v rs) (hx : Ext w w') : RSO w' base v rs := by
  obtain ⟨zs, h1, h2, h3⟩ := h
  refine ⟨zs, own_ext h1 hx, h2, fun j hj => ?_⟩
  obtain ⟨va, vb, z0, z1, z2, r1, r2⟩ := h3 j hj
  exact ⟨va, vb, z0, z1, z2, own_ext r1 hx, own_ext r2 hx⟩
theorem RSO.set {w : World} {base : Nat} {v : Value} {rs : List Rp} (h : RSO w base v rs) {p : Addr} (hp : p.block < base) (u : Value) : RSO (w.setCell p u) base v rs := by
  obtain ⟨zs, h1, h2, h3⟩ := h
  refine ⟨zs, own_set h1 hp u, h2, fun j hj => ?_⟩
  obtain ⟨va, vb, z0, z1, z2, r1, r2⟩ := h3 j hj
  exact ⟨va, vb, z0, z1, z2, own_set r1 hp u, own_set r2 hp u⟩
theorem RSO.base {w : World} {base base' : Nat} {v : Value} {rs : List Rp} (h : RSO w base v rs) (hb : base' ≤ base) : RSO w base' v rs := by
  obtain ⟨zs, h1, h2, h3⟩ := h
  refine ⟨zs, own_base h1 hb, h2, fun j hj => ?_⟩
  obtain ⟨va, vb, z0, z1, z2, r1, r2⟩ := h3 j hj
  exact ⟨va, vb, z0, z1, z2, own_base r1 hb, own_base r2 hb⟩

theorem add_lit (b off k : Nat) : (⟨b, off, none⟩ : Addr).add k = ⟨b, off + k, none⟩ := by unfold Addr.add; split <;> simp_all

end Go.Proofs.Ytchaanppoklapaa
