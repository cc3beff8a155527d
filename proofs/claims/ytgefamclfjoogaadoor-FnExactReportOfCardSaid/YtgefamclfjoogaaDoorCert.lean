/- Certificates: slices of replacements that can be read, sizes. -/
import Derived.Test.YtgefamclfjoogaaDoorArgS
import Derived.Test.YtgefamclfjoogaaDoorCopy
namespace Go.Proofs.YtgefamclfjoogaaDoor
open Go.RowKit Go.Deep

/-- a replacement's contents -/
structure Rp where
  t : Int
  m1 : Nat
  xs : List Int
  m2 : Nat
  ys : List Int
instance : Inhabited Rp := ⟨⟨0, 0, [], 0, []⟩⟩
/-- v is a slice of replacements that hold rs -/
def RSV (w : World) (v : Value) (rs : List Rp) : Prop :=
  ∃ (a : Option Addr) (cap : Nat), v = .slice a rs.length cap ∧ rs.length ≤ cap ∧ cap ≤ maxLen ∧
    (0 < rs.length → ∃ b off, a = some ⟨b, off, none⟩ ∧ b < w.heap.size ∧ ∀ (j : Nat) (h : j < rs.length), ∃ va vb, w.cell? ⟨b, off + j * 3, none⟩ = some (.int .i64 rs[j].t) ∧ w.cell? ⟨b, off + j * 3 + 1, none⟩ = some va ∧ w.cell? ⟨b, off + j * 3 + 2, none⟩ = some vb ∧
      RV w 3 va rs[j].m1 rs[j].xs ∧ RV w 3 vb rs[j].m2 rs[j].ys)
theorem RSV.ext {w w' : World} {v : Value} {rs : List Rp} (h : RSV w v rs) (hx : Ext w w') : RSV w' v rs := by
  obtain ⟨a, cap, h2, h3, h4, h5⟩ := h
  refine ⟨a, cap, h2, h3, h4, fun hp => ?_⟩
  obtain ⟨b, off, e1, e2, e3⟩ := h5 hp
  refine ⟨b, off, e1, by have := hx.size; omega, fun j hj => ?_⟩
  obtain ⟨va, vb, z0, z1, z2, r1, r2⟩ := e3 j hj
  exact ⟨va, vb, (hx.cells.1 b _ e2).trans z0, (hx.cells.1 b _ e2).trans z1, (hx.cells.1 b _ e2).trans z2, r1.ext hx, r2.ext hx⟩
/-- v is a slice of replacements, made behind base, that hold rs -/
def RSO (w : World) (base : Nat) (v : Value) (rs : List Rp) : Prop :=
  ∃ zs : List Value, w.ownsRow base 103 3 v rs.length zs ∧ zs.length = rs.length * 3 ∧
    ∀ (j : Nat) (h : j < rs.length), ∃ va vb, zs[j * 3]? = some (.int .i64 rs[j].t) ∧ zs[j * 3 + 1]? = some va ∧ zs[j * 3 + 2]? = some vb ∧
      w.ownsRow base 79 3 va rs[j].m1 (IL rs[j].xs) ∧ w.ownsRow base 79 3 vb rs[j].m2 (IL rs[j].ys)

theorem RSO.ext {w w' : World} {base : Nat} {v : Value} {rs : List Rp} (h : RSO w base v rs) (hx : Ext w w') : RSO w' base v rs := by
  obtain ⟨zs, h1, h2, h3⟩ := h
  refine ⟨zs, own_ext h1 hx, h2, fun j hj => ?_⟩
  obtain ⟨va, vb, z0, z1, z2, r1, r2⟩ := h3 j hj
  exact ⟨va, vb, z0, z1, z2, own_ext r1 hx, own_ext r2 hx⟩
theorem RSO.set {w : World} {base : Nat} {v : Value} {rs : List Rp} (h : RSO w base v rs) {p : Addr} (hp : p.block < base) (u : Value) : RSO (w.setCell p u) base v rs := by
  obtain ⟨zs, h1, h2, h3⟩ := h
  refine ⟨zs, own_set h1 hp u, h2, fun j hj => ?_⟩
  obtain ⟨va, vb, z0, z1, z2, r1, r2⟩ := h3 j hj
  exact ⟨va, vb, z0, z1, z2, own_set r1 hp u, own_set r2 hp u⟩
theorem RSO.base {w : World} {base base' : Nat} {v : Value} {rs : List Rp} (h : RSO w base v rs) (hb : base' ≤ base) : RSO w base' v rs := by
  obtain ⟨zs, h1, h2, h3⟩ := h
  refine ⟨zs, own_base h1 hb, h2, fun j hj => ?_⟩
  obtain ⟨va, vb, z0, z1, z2, r1, r2⟩ := h3 j hj
  exact ⟨va, vb, z0, z1, z2, own_base r1 hb, own_base r2 hb⟩

theorem add_lit (b off k : Nat) : (⟨b, off, none⟩ : Addr).add k = ⟨b, off + k, none⟩ := by unfold Addr.add; split <;> simp_all
set_option maxRecDepth 100000 in
theorem rsv_of_shape {w : World} {n : Nat} {c : Value} (hs : Shape Tryd.prog w n 25 [c]) : ∃ rs : List Rp, RSV w c rs := by
  cases n with
  | zero => exact hs.elim
  | succ n =>
    unfold Shape at hs
    rw [Tryd.underlying25] at hs
    have hk : Tryd.prog.cellsOf 100 = 3 := by kernel_rfl
    rcases hs with h | ⟨a, len, cap, h, h1, h2, h3⟩
    · injection h with h _
      subst h
      exact ⟨[], none, 0, rfl, Nat.le_refl _, Nat.zero_le _, fun h => absurd h (by simp)⟩
    · injection h with h _
      subst h
      rw [hk] at h3
      have hsp : 0 < len → ∃ b off, a = ⟨b, off, none⟩ ∧ b < w.heap.size := by
        intro hp
        obtain ⟨ecs, e1, e2⟩ := h3 0 hp
        obtain ⟨_, el, e3⟩ := World.cells?_some e1
        have h0 := e3 0 (by omega)
        have : ∃ u, ecs[0]? = some u := ⟨ecs[0]'(by omega), by simp⟩
        obtain ⟨u, hu⟩ := this
        rw [hu] at h0
        simp only [Nat.zero_mul, Addr.add, if_true] at h0
        obtain ⟨b, off, sp⟩ := a
        have hsp : sp = none := by
          unfold World.cell? at h0
          split at h0
          · split at h0
            · cases h0
            · rename_i hn; simpa using hn
          · cases h0
        subst hsp
        exact ⟨b, off, rfl, lt_of_cell h0⟩
      have each : ∀ i, i < len → ∃ r : Rp, ∃ va vb, w.cell? (a.add (i * 3)) = some (.int .i64 r.t) ∧ w.cell? ((a.add (i * 3)).add 1) = some va ∧ w.cell? ((a.add (i * 3)).add 2) = some vb ∧ RV w 3 va r.m1 r.xs ∧ RV w 3 vb r.m2 r.ys := by
        intro i hi
        obtain ⟨ecs, e1, e2⟩ := h3 i hi
        obtain ⟨_, el, e3⟩ := World.cells?_some e1
        obtain ⟨t, v1, v2, m1, m2, xs, ys, hc, r1, r2, _⟩ := repl_arg (cs := ecs.toArray) e2
        have he : ecs = [.int .i64 t, v1, v2] := by simpa using congrArg Array.toList hc
        subst he
        refine ⟨⟨t, m1, xs, m2, ys⟩, v1, v2, ?_, e3 1 (by omega), e3 2 (by omega), r1, r2⟩
        have := e3 0 (by omega)
        simpa [Addr.add] using this
      obtain ⟨R, hR⟩ := choose_lt each
      refine ⟨(List.range len).map R, some a, cap, by simp, by simpa using h1, h2, fun hp => ?_⟩
      have hp' : 0 < len := by simpa using hp
      obtain ⟨b, off, rfl, hb⟩ := hsp hp'
      refine ⟨b, off, rfl, hb, fun j hj => ?_⟩
      have hj' : j < len := by simpa using hj
      obtain ⟨va, vb, z0, z1, z2, r1, r2⟩ := hR j hj'
      rw [add_lit] at z0 z1 z2
      rw [add_lit] at z1 z2
      simp only [List.getElem_map, List.getElem_range]
      exact ⟨va, vb, z0, z1, z2, r1, r2⟩
set_option maxRecDepth 100000 in
/-- a circuit, replacements, a circuit -/
theorem cert_arg {w : World} {n : Nat} {cs : Array Value} (hs : Shape Tryd.prog w n 27 (Value.agg cs).cells.toList) :
    ∃ (q1 q2 : Int) (v1 vs v2 : Value) (l1 l2 : Nat) (xs ys : List Int) (rs : List Rp), cs = #[.int .i64 q1, v1, vs, .int .i64 q2, v2] ∧ RV w 3 v1 l1 xs ∧ RSV w vs rs ∧ RV w 3 v2 l2 ys := by
  cases n with
  | zero => exact hs.elim
  | succ n =>
    unfold Shape at hs
    rw [Tryd.underlying27] at hs
    obtain ⟨hl, hf⟩ := hs
    have hc : Tryd.prog.cellsOf 27 = 5 := by kernel_rfl
    have c0 : Tryd.prog.cellsOf 24 = 2 := by kernel_rfl
    have c1 : Tryd.prog.cellsOf 25 = 1 := by kernel_rfl
    rw [hc] at hl
    have e0 : (Value.agg cs).cells = cs := rfl
    rw [e0] at hl hf
    obtain ⟨a, b, c, d, e, hab⟩ := list5' hl
    have g0 : Shape Tryd.prog w n 24 ((cs.toList.drop 0).take (Tryd.prog.cellsOf 24)) := hf 0 _ rfl
    have g1 : Shape Tryd.prog w n 25 ((cs.toList.drop 2).take (Tryd.prog.cellsOf 25)) := hf 1 _ rfl
    have g2 : Shape Tryd.prog w n 24 ((cs.toList.drop 3).take (Tryd.prog.cellsOf 24)) := hf 2 _ rfl
    rw [hab, c0] at g0 g2
    rw [hab, c1] at g1
    obtain ⟨q1, v1, l1, xs, h1, r1, _⟩ := circ_arg (cs := #[a, b]) g0
    obtain ⟨q2, v2, l2, ys, h2, r2, _⟩ := circ_arg (cs := #[d, e]) g2
    obtain ⟨rs, h3⟩ := rsv_of_shape g1
    obtain ⟨rfl, rfl⟩ : a = .int .i64 q1 ∧ b = v1 := by simpa using h1
    obtain ⟨rfl, rfl⟩ : d = .int .i64 q2 ∧ e = v2 := by simpa using h2
    exact ⟨q1, q2, b, c, e, l1, l2, xs, ys, rs, by rw [← hab], r1, h3, r2⟩

end Go.Proofs.YtgefamclfjoogaaDoor
