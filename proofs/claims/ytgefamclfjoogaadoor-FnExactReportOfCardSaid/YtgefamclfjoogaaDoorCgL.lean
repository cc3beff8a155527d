/- Certificates: steps whose blocks lie in a set and differ; whole certificates. -/
import Derived.Test.YtgefamclfjoogaaDoorCert
import Derived.Test.YtgefamclfjoogaaDoorCertC
import Derived.Test.YtgefamclfjoogaaDoorZn
namespace Go.Proofs.YtgefamclfjoogaaDoor
open Go.RowKit Go.Lib
set_option linter.unusedVariables false
set_option linter.unusedSimpArgs false

/-- nothing but blocks of S has changed -/
structure Zs (S : Nat → Prop) (w w' : World) : Prop where
  os : w'.os = w.os
  tape : w'.tape = w.tape
  output : w'.output = w.output
  size : w.heap.size ≤ w'.heap.size
  blk : ∀ k, k < w.heap.size → ¬ S k → w'.heap[k]? = w.heap[k]?
theorem Zs.ofExt {S : Nat → Prop} {w w' : World} (h : Ext w w') : Zs S w w' := by
  have h' : Below w.heap.size w w' := h
  exact ⟨h'.os, h'.tape, h'.output, h'.size, fun k hk _ => h'.block k hk⟩
theorem Zs.trans {S : Nat → Prop} {a b c : World} (h : Zs S a b) (k : Zs S b c) : Zs S a c :=
  ⟨k.os.trans h.os, k.tape.trans h.tape, k.output.trans h.output, Nat.le_trans h.size k.size, fun i hi' hx => (k.blk i (Nat.lt_of_lt_of_le hi' h.size) hx).trans (h.blk i hi' hx)⟩
theorem Zs.ofGrown {S : Nat → Prop} {w w' : World} {row : Option Nat} (h : w.grownBy w' row) (hr : ∀ k, row = some k → S k) : Zs S w w' := by
  have hg := h
  exact ⟨hg.os, hg.tape, hg.output, hg.size, fun k hk hx => hg.block k hk (fun e => hx (hr k e.symm))⟩
theorem Zs.zn {S : Nat → Prop} {lo hi : Nat} {w w' : World} (h : Zs S w w') (hS : ∀ k, S k → lo ≤ k ∧ k < hi) : Zn lo hi w w' :=
  ⟨h.os, h.tape, h.output, h.size, fun k hk hx => h.blk k hk (fun hs => by have := hS k hs; omega)⟩
theorem Zs.weak {S T : Nat → Prop} {w w' : World} (h : Zs S w w') (hS : ∀ k, S k → T k) : Zs T w w' :=
  ⟨h.os, h.tape, h.output, h.size, fun k hk hx => h.blk k hk (fun hs => hx (hS k hs))⟩
theorem Zs.ofZn {S : Nat → Prop} {lo hi : Nat} {w w' : World} (h : Zn lo hi w w') (hS : ∀ k, lo ≤ k → k < hi → S k) : Zs S w w' :=
  ⟨h.os, h.tape, h.output, h.size, fun k hk hx => h.blk k hk (by by_cases h1 : k < lo; exact .inl h1; by_cases h2 : hi ≤ k; exact .inr h2; exact absurd (hS k (by omega) (by omega)) hx)⟩
theorem Ext.zs {S : Nat → Prop} {a b c : World} (h : Ext a b) (hz : Zs S b c) (hl : ∀ k, S k → a.heap.size ≤ k) : Ext a c := by
  have h' : Below a.heap.size a b := h
  exact ⟨hz.os.trans h'.os, hz.tape.trans h'.tape, hz.output.trans h'.output, Nat.le_trans h'.size hz.size, fun k hk => (hz.blk k (Nat.lt_of_lt_of_le hk h'.size) (fun hs => by have := hl k hs; omega)).trans (h'.block k hk)⟩
theorem heap_zs {S : Nat → Prop} {W W' : World} {k : Nat} {x : Obj} (hz : Zs S W W') (h : W.heap[k]? = some x) (hne : ¬ S k) : W'.heap[k]? = some x :=
  (hz.blk k (Array.getElem?_eq_some_iff.1 h).1 hne).trans h
theorem own_zs {S : Nat → Prop} {w w' : World} {base : Nat} {e : TypeId} {size : Nat} {v : Value} {n : Nat} {xs : List Value} (h : w.ownsRow base e size v n xs) (hz : Zs S w w') (hne : ∀ k, v.ownBlock = some k → ¬ S k) : w'.ownsRow base e size v n xs := by
  refine ⟨h.1, ?_⟩
  rcases h.2 with hn | ⟨g, cap, cur, hv, hb, hg, r⟩
  · exact .inl hn
  · exact .inr ⟨g, cap, cur, hv, hb, heap_zs hz hg (hne g (by rw [hv]; rfl)), r⟩

/-- no two slices among v and zs share a block -/
def DBx (v : Value) (zs : List Value) : Prop := (∀ (p : Nat) (x : Value) (k : Nat), zs[p]? = some x → x.ownBlock = some k → v.ownBlock = some k → False) ∧ ∀ (p q : Nat) (x y : Value) (k : Nat), p < q → zs[p]? = some x → zs[q]? = some y → x.ownBlock = some k → y.ownBlock = some k → False
/-- all blocks lie in S -/
def InS (S : Nat → Prop) (v : Value) (zs : List Value) : Prop := (∀ k, v.ownBlock = some k → S k) ∧ ∀ (p : Nat) (x : Value) (k : Nat), zs[p]? = some x → x.ownBlock = some k → S k
/-- the j-th step -/
def ELz (w : World) (lo : Nat) (zs : List Value) (j : Nat) (r : Rp) : Prop := ∃ va vb, zs[j * 3]? = some (.int .i64 r.t) ∧ zs[j * 3 + 1]? = some va ∧ zs[j * 3 + 2]? = some vb ∧ w.ownsRow lo 79 3 va r.m1 (IL r.xs) ∧ w.ownsRow lo 79 3 vb r.m2 (IL r.ys)
/-- steps made by the call: their blocks lie in S and differ -/
def RSP (w : World) (lo : Nat) (S : Nat → Prop) (v : Value) (n : Nat) (R : Nat → Rp) : Prop :=
  ∃ zs, w.ownsRow lo 103 3 v n zs ∧ zs.length = n * 3 ∧ InS S v zs ∧ DBx v zs ∧ ∀ j, j < n → ELz w lo zs j (R j)
theorem RSP.ext {w w' : World} {lo : Nat} {S : Nat → Prop} {v : Value} {n : Nat} {R : Nat → Rp} (h : RSP w lo S v n R) (hx : Ext w w') : RSP w' lo S v n R := by
  obtain ⟨zs, h1, h2, h3, h4, h5⟩ := h
  refine ⟨zs, own_ext h1 hx, h2, h3, h4, fun j hj => ?_⟩
  obtain ⟨va, vb, z0, z1, z2, r1, r2⟩ := h5 j hj
  exact ⟨va, vb, z0, z1, z2, own_ext r1 hx, own_ext r2 hx⟩
theorem RSP.zs {w w' : World} {lo : Nat} {S T : Nat → Prop} {v : Value} {n : Nat} {R : Nat → Rp} (h : RSP w lo S v n R) (hz : Zs T w w') (hne : ∀ k, S k → ¬ T k) : RSP w' lo S v n R := by
  obtain ⟨zs, h1, h2, h3, h4, h5⟩ := h
  refine ⟨zs, own_zs h1 hz (fun k hk => hne k (h3.1 k hk)), h2, h3, h4, fun j hj => ?_⟩
  obtain ⟨va, vb, z0, z1, z2, r1, r2⟩ := h5 j hj
  exact ⟨va, vb, z0, z1, z2, own_zs r1 hz (fun k hk => hne k (h3.2 _ _ k z1 hk)), own_zs r2 hz (fun k hk => hne k (h3.2 _ _ k z2 hk))⟩
theorem RSP.set {w : World} {lo : Nat} {S : Nat → Prop} {v : Value} {n : Nat} {R : Nat → Rp} (h : RSP w lo S v n R) {p : Addr} (hp : p.block < lo) (u : Value) : RSP (w.setCell p u) lo S v n R := by
  obtain ⟨zs, h1, h2, h3, h4, h5⟩ := h
  refine ⟨zs, own_set h1 hp u, h2, h3, h4, fun j hj => ?_⟩
  obtain ⟨va, vb, z0, z1, z2, r1, r2⟩ := h5 j hj
  exact ⟨va, vb, z0, z1, z2, own_set r1 hp u, own_set r2 hp u⟩
theorem RSP.weak {w : World} {lo lo' : Nat} {S T : Nat → Prop} {v : Value} {n : Nat} {R : Nat → Rp} (h : RSP w lo S v n R) (h1 : lo' ≤ lo) (hS : ∀ k, S k → T k) : RSP w lo' T v n R := by
  obtain ⟨zs, g1, g2, g3, g4, g5⟩ := h
  refine ⟨zs, own_base g1 h1, g2, ⟨fun k hk => hS k (g3.1 k hk), fun p x k hp hk => hS k (g3.2 p x k hp hk)⟩, g4, fun j hj => ?_⟩
  obtain ⟨va, vb, z0, z1, z2, r1, r2⟩ := g5 j hj
  exact ⟨va, vb, z0, z1, z2, own_base r1 h1, own_base r2 h1⟩
theorem RSP.congr {w : World} {lo : Nat} {S : Nat → Prop} {v : Value} {n : Nat} {R R' : Nat → Rp} (h : RSP w lo S v n R) (hR : ∀ j, j < n → R j = R' j) : RSP w lo S v n R' := by
  obtain ⟨zs, h1, h2, h3, h4, h5⟩ := h
  exact ⟨zs, h1, h2, h3, h4, fun j hj => by rw [← hR j hj]; exact h5 j hj⟩
def RL (n : Nat) (R : Nat → Rp) : List Rp := (List.range n).map R
theorem RL_len (n : Nat) (R : Nat → Rp) : (RL n R).length = n := by simp [RL]
theorem RL_at {n : Nat} {R : Nat → Rp} {j : Nat} (h : j < (RL n R).length) : (RL n R)[j] = R j := by simp [RL]
theorem RL_of (rs : List Rp) : RL rs.length (fun j => rs.getD j default) = rs := by
  apply List.ext_getElem (by simp [RL])
  intro i h1 h2
  rw [RL_at h1]
  simp [List.getD_eq_getElem?_getD, h2]
theorem RSP.rso {w : World} {lo : Nat} {S : Nat → Prop} {v : Value} {n : Nat} {R : Nat → Rp} (h : RSP w lo S v n R) : RSO w lo v (RL n R) := by
  obtain ⟨zs, h1, h2, h3, h4, h5⟩ := h
  refine ⟨zs, by simpa [RL] using h1, by simpa [RL] using h2, fun j hj => ?_⟩
  have hj' : j < n := by simpa [RL] using hj
  rw [RL_at hj]
  exact h5 j hj'
theorem RSO.rsv {w : World} {lo : Nat} {v : Value} {rs : List Rp} (h : RSO w lo v rs) (hl : ∀ j (h : j < rs.length), rs[j].xs.length = rs[j].m1 * 3 ∧ rs[j].ys.length = rs[j].m2 * 3) : RSV w v rs := by
  obtain ⟨zs, h1, h2, h3⟩ := h
  obtain ⟨a, cap, rfl, c1, c2, H⟩ := own_shape h1
  refine ⟨a, cap, rfl, c1, c2, fun hp => ?_⟩
  obtain ⟨g, e1, _, e2, e3, _⟩ := H hp
  refine ⟨g, 0, e1, e2, fun j hj => ?_⟩
  obtain ⟨va, vb, z0, z1, z2, r1, r2⟩ := h3 j hj
  simp only [Nat.zero_add]
  exact ⟨va, vb, e3 _ _ z0, e3 _ _ z1, e3 _ _ z2, RV.own r1 (hl j hj).1, RV.own r2 (hl j hj).2⟩

/-- how many marks the first j steps take -/
def offR (R : Nat → Rp) : Nat → Nat
  | 0 => 0
  | j + 1 => offR R j + (1 + (R j).m1 * 3 + (R j).m2 * 3)
theorem offR_le (R : Nat → Rp) {j n : Nat} (h : j ≤ n) : offR R j ≤ offR R n := by
  obtain ⟨d, rfl⟩ := Nat.exists_eq_add_of_le h
  clear h
  induction d with
  | zero => exact Nat.le_refl _
  | succ d ih => exact Nat.le_trans ih (by show _ ≤ offR R (j + d) + _; omega)
/-- a step, marked -/
def mkR (m : Int) (R : Nat → Rp) (i : Nat) : Rp := ⟨m + offR R i, (R i).m1, marks (m + offR R i + 1) ((R i).m1 * 3), (R i).m2, marks (m + offR R i + 1 + (R i).m1 * 3) ((R i).m2 * 3)⟩
/-- the first j steps marked -/
def mixR (m : Int) (R : Nat → Rp) (j : Nat) (i : Nat) : Rp := if i < j then mkR m R i else R i
/-- the gates of the first j steps -/
def gsR (R : Nat → Rp) : Nat → Nat
  | 0 => 0
  | j + 1 => gsR R j + ((R j).m1 + (R j).m2)
theorem gsR_le (R : Nat → Rp) {j n : Nat} (h : j ≤ n) : gsR R j ≤ gsR R n := by
  obtain ⟨d, rfl⟩ := Nat.exists_eq_add_of_le h
  clear h
  induction d with
  | zero => exact Nat.le_refl _
  | succ d ih => exact Nat.le_trans ih (by show _ ≤ gsR R (j + d) + _; omega)
theorem gsR_at (R : Nat → Rp) {j n : Nat} (h : j < n) : gsR R j + ((R j).m1 + (R j).m2) ≤ gsR R n := gsR_le R h
theorem offR_gs (R : Nat → Rp) : ∀ n, offR R n = n + 3 * gsR R n
  | 0 => rfl
  | n + 1 => by
    show offR R n + _ = _ + 3 * (gsR R n + _)
    rw [offR_gs R n]
    omega
theorem gsR_congr {R R' : Nat → Rp} : ∀ {n : Nat}, (∀ j, j < n → R j = R' j) → gsR R n = gsR R' n
  | 0, _ => rfl
  | n + 1, h => by
    show gsR R n + _ = gsR R' n + _
    rw [gsR_congr (fun j hj => h j (by omega)), h n (by omega)]

/-- a certificate's contents -/
structure Cv where
  q1 : Int
  n1 : Nat
  xs : List Int
  n : Nat
  R : Nat → Rp
  q2 : Int
  n2 : Nat
  ys : List Int
/-- all lists are as long as they should be -/
def Cv.Ok (c : Cv) : Prop := c.xs.length = c.n1 * 3 ∧ c.ys.length = c.n2 * 3 ∧ ∀ j, j < c.n → (c.R j).xs.length = (c.R j).m1 * 3 ∧ (c.R j).ys.length = (c.R j).m2 * 3
def Cv.tot (c : Cv) : Nat := c.n1 + (c.n + gsR c.R c.n) + c.n2
def CV (w : World) (v1 vs v2 : Value) (c : Cv) : Prop := RV w 3 v1 c.n1 c.xs ∧ RSV w vs (RL c.n c.R) ∧ RV w 3 v2 c.n2 c.ys
theorem CV.ext {w w' : World} {v1 vs v2 : Value} {c : Cv} (h : CV w v1 vs v2 c) (hx : Ext w w') : CV w' v1 vs v2 c := ⟨h.1.ext hx, h.2.1.ext hx, h.2.2.ext hx⟩
theorem RSV.lens {w : World} {v : Value} {rs : List Rp} (h : RSV w v rs) : ∀ j (h : j < rs.length), rs[j].xs.length = rs[j].m1 * 3 ∧ rs[j].ys.length = rs[j].m2 * 3 := by
  intro j hj
  obtain ⟨a, cap, _, _, _, H⟩ := h
  obtain ⟨b, off, _, _, h3⟩ := H (by omega)
  obtain ⟨va, vb, _, _, _, r1, r2⟩ := h3 j hj
  exact ⟨r1.1, r2.1⟩
theorem CV.ok {w : World} {v1 vs v2 : Value} {c : Cv} (h : CV w v1 vs v2 c) : c.Ok := by
  refine ⟨h.1.1, h.2.2.1, fun j hj => ?_⟩
  have hj' : j < (RL c.n c.R).length := by rw [RL_len]; exact hj
  have := h.2.1.lens j hj'
  rwa [RL_at hj'] at this
theorem small_of {n : Nat} {R : Nat → Rp} (hl : ∀ j, j < n → (R j).xs.length = (R j).m1 * 3 ∧ (R j).ys.length = (R j).m2 * 3) (ht : n + gsR R n ≤ 1048576) : Small (RL n R) := by
  refine ⟨by rw [RL_len]; omega, fun j hj => ?_⟩
  rw [RL_at hj]
  have hj' : j < n := by rwa [RL_len] at hj
  have := gsR_at R hj'
  exact ⟨by omega, by omega, hl j hj'⟩
/-- a certificate made by the call: its blocks lie from lo up to hi and differ -/
def CZ (w : World) (lo hi : Nat) (v1 vs v2 : Value) (c : Cv) : Prop :=
  w.ownsRow lo 79 3 v1 c.n1 (IL c.xs) ∧ w.ownsRow lo 79 3 v2 c.n2 (IL c.ys) ∧ (∀ k, v1.ownBlock = some k → k < hi) ∧ (∀ k, v2.ownBlock = some k → k < hi) ∧ (∀ k, v1.ownBlock = some k → v2.ownBlock = some k → False) ∧
  ∃ S : Nat → Prop, RSP w lo S vs c.n c.R ∧ ∀ k, S k → (lo ≤ k ∧ k < hi) ∧ v1.ownBlock ≠ some k ∧ v2.ownBlock ≠ some k
theorem CZ.ext {w w' : World} {lo hi : Nat} {v1 vs v2 : Value} {c : Cv} (h : CZ w lo hi v1 vs v2 c) (hx : Ext w w') : CZ w' lo hi v1 vs v2 c := by
  obtain ⟨h1, h2, h3, h4, h5, S, h6, h7⟩ := h
  exact ⟨own_ext h1 hx, own_ext h2 hx, h3, h4, h5, S, h6.ext hx, h7⟩
theorem CZ.zn {w w' : World} {lo hi lo' hi' : Nat} {v1 vs v2 : Value} {c : Cv} (h : CZ w lo hi v1 vs v2 c) (hz : Zn lo' hi' w w') (hne : hi ≤ lo' ∨ hi' ≤ lo) : CZ w' lo hi v1 vs v2 c := by
  obtain ⟨h1, h2, h3, h4, h5, S, h6, h7⟩ := h
  refine ⟨own_zn h1 hz (fun k hk => ?_), own_zn h2 hz (fun k hk => ?_), h3, h4, h5, S, h6.zs (Zs.ofZn (S := fun k => lo' ≤ k ∧ k < hi') hz (fun k a b => ⟨a, b⟩)) (fun k hk hk' => ?_), h7⟩
  · have := h3 k hk; have := (h1.lt k hk).1; omega
  · have := h4 k hk; have := (h2.lt k hk).1; omega
  · have := (h7 k hk).1; omega
theorem CZ.weak {w : World} {lo hi lo' hi' : Nat} {v1 vs v2 : Value} {c : Cv} (h : CZ w lo hi v1 vs v2 c) (hl : lo' ≤ lo) (hh : hi ≤ hi') : CZ w lo' hi' v1 vs v2 c := by
  obtain ⟨h1, h2, h3, h4, h5, S, h6, h7⟩ := h
  refine ⟨own_base h1 hl, own_base h2 hl, fun k hk => by have := h3 k hk; omega, fun k hk => by have := h4 k hk; omega, h5, S, h6.weak hl (fun k hk => hk), fun k hk => ?_⟩
  have := h7 k hk
  exact ⟨by omega, this.2⟩
theorem CZ.cv {w : World} {lo hi : Nat} {v1 vs v2 : Value} {c : Cv} (h : CZ w lo hi v1 vs v2 c) (hc : c.Ok) : CV w v1 vs v2 c := by
  obtain ⟨h1, h2, h3, h4, h5, S, h6, h7⟩ := h
  refine ⟨RV.own h1 hc.1, h6.rso.rsv (fun j hj => ?_), RV.own h2 hc.2.1⟩
  rw [RL_at hj]
  exact hc.2.2 j (by rwa [RL_len] at hj)
theorem CZ.shape {w : World} {lo hi : Nat} {v1 vs v2 : Value} {c : Cv} (h : CZ w lo hi v1 vs v2 c) : ∃ (a1 a3 a2 : Option Addr) (c1 c3 c2 : Nat), v1 = .slice a1 c.n1 c1 ∧ vs = .slice a3 c.n c3 ∧ v2 = .slice a2 c.n2 c2 := by
  obtain ⟨h1, h2, h3, h4, h5, S, ⟨zs, h6, _⟩, h7⟩ := h
  obtain ⟨a1, c1, e1, _, _, _⟩ := own_shape h1
  obtain ⟨a2, c2, e2, _, _, _⟩ := own_shape h2
  obtain ⟨a3, c3, e3, _, _, _⟩ := own_shape h6
  exact ⟨a1, a3, a2, c1, c3, c2, e1, e3, e2⟩
/-- a certificate, marked from m on -/
def mkC (m : Int) (c : Cv) : Cv := { c with xs := marks m (c.n1 * 3), R := mkR (m + c.n1 * 3) c.R, ys := marks (m + c.n1 * 3 + offR c.R c.n) (c.n2 * 3) }
def endC (m : Int) (c : Cv) : Int := m + c.n1 * 3 + offR c.R c.n + c.n2 * 3

end Go.Proofs.YtgefamclfjoogaaDoor
