/- Compiled circuits: sizes, copies, equality; the law on ReportOf. -/
import Derived.Test.YtgefamclfjoogaaDoorRpO
import Derived.Test.YtgefamclfjoogaaDoorRt
import Derived.Test.YtgefamclfjoogaaDoorCgK
import Derived.Deep.RegionHeld3
namespace Go.Proofs.YtgefamclfjoogaaDoor
open Go.RowKit Go.Lib
set_option linter.unusedVariables false
set_option linter.unusedSimpArgs false

structure Cp where
  c : Cv
  m : Nat
  ss : List Int
  p : Nat
  zs : List Int
  q3 : Int
  n3 : Nat
  ts : List Int
def Cp.Ok (d : Cp) : Prop := d.c.Ok ∧ d.ss.length = d.m * 1 ∧ d.zs.length = d.p * 3 ∧ d.ts.length = d.n3 * 3
def Cp.tot (d : Cp) : Nat := d.c.tot + d.m + d.p + d.n3
/-- can be read -/
def CQ (w : World) (v1 vs v2 vt vr v3 : Value) (d : Cp) : Prop := CV w v1 vs v2 d.c ∧ RV w 1 vt d.m d.ss ∧ RV w 3 vr d.p d.zs ∧ RV w 3 v3 d.n3 d.ts
theorem CQ.ext {w w' : World} {v1 vs v2 vt vr v3 : Value} {d : Cp} (h : CQ w v1 vs v2 vt vr v3 d) (hx : Ext w w') : CQ w' v1 vs v2 vt vr v3 d := ⟨h.1.ext hx, h.2.1.ext hx, h.2.2.1.ext hx, h.2.2.2.ext hx⟩
theorem CQ.ok {w : World} {v1 vs v2 vt vr v3 : Value} {d : Cp} (h : CQ w v1 vs v2 vt vr v3 d) : d.Ok := ⟨h.1.ok, h.2.1.1, h.2.2.1.1, h.2.2.2.1⟩
theorem CQ.shape {w : World} {v1 vs v2 vt vr v3 : Value} {d : Cp} (h : CQ w v1 vs v2 vt vr v3 d) : ∃ (a1 a2 a3 a4 a5 a6 : Option Addr) (c1 c2 c3 c4 c5 c6 : Nat), v1 = .slice a1 d.c.n1 c1 ∧ vs = .slice a2 d.c.n c2 ∧ v2 = .slice a3 d.c.n2 c3 ∧ vt = .slice a4 d.m c4 ∧ vr = .slice a5 d.p c5 ∧ v3 = .slice a6 d.n3 c6 := by
  obtain ⟨h1, ⟨_, a4, c4, rfl, _, _, _⟩, ⟨_, a5, c5, rfl, _, _, _⟩, ⟨_, a6, c6, rfl, _, _, _⟩⟩ := h
  obtain ⟨a1, a3, a2, c1, c3, c2, rfl, rfl, rfl⟩ := CV.shape h1
  exact ⟨a1, a3, a2, a4, a5, a6, c1, c3, c2, c4, c5, c6, rfl, rfl, rfl, rfl, rfl, rfl⟩
/-- one's own -/
def CO (w : World) (lo hi : Nat) (v1 vs v2 vt vr v3 : Value) (d : Cp) : Prop :=
  CZ w lo hi v1 vs v2 d.c ∧ w.ownsRow lo 3 1 vt d.m (IL d.ss) ∧ w.ownsRow lo 59 3 vr d.p (IL d.zs) ∧ w.ownsRow lo 79 3 v3 d.n3 (IL d.ts)
theorem CO.ext {w w' : World} {lo hi : Nat} {v1 vs v2 vt vr v3 : Value} {d : Cp} (h : CO w lo hi v1 vs v2 vt vr v3 d) (hx : Ext w w') : CO w' lo hi v1 vs v2 vt vr v3 d := ⟨h.1.ext hx, own_ext h.2.1 hx, own_ext h.2.2.1 hx, own_ext h.2.2.2 hx⟩
theorem CO.cq {w : World} {lo hi : Nat} {v1 vs v2 vt vr v3 : Value} {d : Cp} (h : CO w lo hi v1 vs v2 vt vr v3 d) (hd : d.Ok) : CQ w v1 vs v2 vt vr v3 d := ⟨h.1.cv hd.1, RV.own h.2.1 hd.2.1, RV.own h.2.2.1 hd.2.2.1, RV.own h.2.2.2 hd.2.2.2⟩

set_option maxRecDepth 100000 in
theorem comp_arg {w : World} {n : Nat} {cs : Array Value} (hs : Shape Tryd.prog w n 33 (Value.agg cs).cells.toList) :
    ∃ (d : Cp) (v1 vs v2 vt vr v3 : Value), cs = #[.int .i64 d.c.q1, v1, vs, .int .i64 d.c.q2, v2, vt, vr, .int .i64 d.q3, v3] ∧ CQ w v1 vs v2 vt vr v3 d := by
  cases n with
  | zero => exact hs.elim
  | succ n =>
    unfold Shape at hs
    rw [Tryd.underlying33] at hs
    obtain ⟨hl, hf⟩ := hs
    have hc : Tryd.prog.cellsOf 33 = 9 := by kernel_rfl
    have c0 : Tryd.prog.cellsOf 27 = 5 := by kernel_rfl
    have c1 : Tryd.prog.cellsOf 31 = 2 := by kernel_rfl
    have c2 : Tryd.prog.cellsOf 24 = 2 := by kernel_rfl
    rw [hc] at hl
    have e0 : (Value.agg cs).cells = cs := rfl
    rw [e0] at hl hf
    have hab : ∃ a b c d e f g h i, cs.toList = [a, b, c, d, e, f, g, h, i] := by
      match hq : cs.toList, hl with
      | [a, b, c, d, e, f, g, h, i], _ => exact ⟨a, b, c, d, e, f, g, h, i, rfl⟩
    obtain ⟨a, b, c, d, e, f, g, h, i, hab⟩ := hab
    have g0 : Shape Tryd.prog w n 27 ((cs.toList.drop 0).take (Tryd.prog.cellsOf 27)) := hf 0 _ rfl
    have g1 : Shape Tryd.prog w n 31 ((cs.toList.drop 5).take (Tryd.prog.cellsOf 31)) := hf 1 _ rfl
    have g2 : Shape Tryd.prog w n 24 ((cs.toList.drop 7).take (Tryd.prog.cellsOf 24)) := hf 2 _ rfl
    rw [hab, c0] at g0
    rw [hab, c1] at g1
    rw [hab, c2] at g2
    obtain ⟨q1, q2, v1, vs, v2, l1, l2, xs, ys, rs, h1, r1, r2, r3⟩ := cert_arg (cs := #[a, b, c, d, e]) g0
    obtain ⟨m, p, ss, zs, r4, r5⟩ := route_arg g1
    obtain ⟨q3, v3, n3, ts, h3, r6, _⟩ := circ_arg (cs := #[h, i]) g2
    obtain ⟨rfl, rfl, rfl, rfl, rfl⟩ : a = .int .i64 q1 ∧ b = v1 ∧ c = vs ∧ d = .int .i64 q2 ∧ e = v2 := by simpa using h1
    obtain ⟨rfl, rfl⟩ : h = .int .i64 q3 ∧ i = v3 := by simpa using h3
    have hcs : cs = #[.int .i64 q1, b, c, .int .i64 q2, e, f, g, .int .i64 q3, i] := by
      apply Array.ext'
      exact hab
    exact ⟨⟨⟨q1, l1, xs, rs.length, fun j => rs.getD j default, q2, l2, ys⟩, m, ss, p, zs, q3, n3, ts⟩, b, c, e, f, g, i, hcs, ⟨r1, by rw [RL_of]; exact r2, r3⟩, r4, r5, r6⟩

set_option maxRecDepth 20000 in
set_option maxHeartbeats 2000000 in
theorem szCompiled_any (d : Cp) (l : Int) (hl : 0 ≤ l ∧ l ≤ 1048576) {v1 vs v2 vt vr v3 : Value} (w : World) (h : CQ w v1 vs v2 vt vr v3 d) :
    Calls Tryd.prog 4 #[.agg #[.int .i64 d.c.q1, v1, vs, .int .i64 d.c.q2, v2, vt, vr, .int .i64 d.q3, v3], .int .i64 l] w fun e w' => e = .returned (.int .i64 (if (d.tot : Int) ≤ l then l - d.tot else -1)) ∧ Ext w w' := by
  have H1 := fun w' (hx : Ext w w') => Lib.hid (szCertificateX_any d.c l hl w' (h.1.ext hx))
  have H2 := fun l' hl' w' (hx : Ext w w') => Lib.hid (szRoute_any l' hl' w' (h.2.1.ext hx) (h.2.2.1.ext hx))
  have H3 := fun l' hl' w' (hx : Ext w w') => Lib.hid (szCircuit_any d.q3 l' hl' w' (h.2.2.2.ext hx))
  have HT := Lib.hid (show d.tot = d.c.tot + d.m + d.p + d.n3 from rfl)
  obtain ⟨a1, a2, a3, a4, a5, a6, c1, c2, c3, c4, c5, c6, rfl, rfl, rfl, rfl, rfl, rfl⟩ := h.shape
  clear h
  obtain ⟨V, hV⟩ : ∃ V : Int, (if (d.tot : Int) ≤ l then l - d.tot else -1) = V := ⟨_, rfl⟩
  have HV := Lib.hid hV
  rw [hV]
  clear hV
  generalize d.tot = T at *
  generalize d.c.tot = CT at *
  generalize d.c.q1 = q1 at *
  generalize d.c.q2 = q2 at *
  generalize d.q3 = q3 at *
  generalize d.c.n1 = n1 at *
  generalize d.c.n2 = n2 at *
  generalize d.c.n = nn at *
  generalize d.n3 = n3 at *
  generalize d.m = m at *
  generalize d.p = p at *
  by_cases hm : (CT : Int) ≤ l
  case neg =>
    have hv := HV.out
    rw [if_neg (by have := HT.out; omega)] at hv
    subst hv
    simp only [if_neg hm] at H1
    go_enter Tryd.func4, Tryd.ntmps4
    go_wp2_with fail
    refine (H1 _ (by repeat (first | exact Ext.refl _ | assumption | refine Ext.alloc ?_ _ | refine Ext.drew ?_ | refine Ext.drewN ?_ _ | refine Ext.setCell ?_ (by first | omega | (dsimp only; omega) | (simp; done) | (simp; omega)) _ | refine Ext.trans ?_ (by assumption)))).out.mono ?_
    rintro e w1 ⟨rfl, hx1⟩
    go_wp2
    go_ret
    exact ⟨rfl, (by repeat (first | exact Ext.refl _ | assumption | refine Ext.alloc ?_ _ | refine Ext.drew ?_ | refine Ext.drewN ?_ _ | refine Ext.setCell ?_ (by first | omega | (dsimp only; omega) | (simp; done) | (simp; omega)) _ | refine Ext.trans ?_ (by assumption)))⟩
  simp only [if_pos hm] at H1
  have hm' : ¬ (l - CT < 0) := by omega
  have H2 := H2 (l - CT) (by omega)
  by_cases hk : (m : Int) + p ≤ l - CT
  case neg =>
    have hv := HV.out
    rw [if_neg (by have := HT.out; omega)] at hv
    subst hv
    simp only [if_neg hk] at H2
    go_enter Tryd.func4, Tryd.ntmps4
    go_wp2_with fail
    refine (H1 _ (by repeat (first | exact Ext.refl _ | assumption | refine Ext.alloc ?_ _ | refine Ext.drew ?_ | refine Ext.drewN ?_ _ | refine Ext.setCell ?_ (by first | omega | (dsimp only; omega) | (simp; done) | (simp; omega)) _ | refine Ext.trans ?_ (by assumption)))).out.mono ?_
    rintro e w1 ⟨rfl, hx1⟩
    obtain ⟨hc1, hf1⟩ := hx1.cells
    have hz1 := hx1.size
    try simp at hz1
    have hs1_0 := sz1 (a := w.heap.size) (b := w1.heap.size) (by omega)
    go_wp2_with fail
    refine (H2 _ (by repeat (first | exact Ext.refl _ | assumption | refine Ext.alloc ?_ _ | refine Ext.drew ?_ | refine Ext.drewN ?_ _ | refine Ext.setCell ?_ (by first | omega | (dsimp only; omega) | (simp; done) | (simp; omega)) _ | refine Ext.trans ?_ (by assumption)))).out.mono ?_
    rintro e w2 ⟨rfl, hx2⟩
    go_wp2
    go_ret
    exact ⟨rfl, (by repeat (first | exact Ext.refl _ | assumption | refine Ext.alloc ?_ _ | refine Ext.drew ?_ | refine Ext.drewN ?_ _ | refine Ext.setCell ?_ (by first | omega | (dsimp only; omega) | (simp; done) | (simp; omega)) _ | refine Ext.trans ?_ (by assumption)))⟩
  simp only [if_pos hk] at H2
  have hk' : ¬ (l - CT - m - p < 0) := by omega
  have H3 := H3 (l - CT - m - p) (by omega)
  by_cases hj : (n3 : Int) ≤ l - CT - m - p
  · have hv := HV.out
    rw [if_pos (by have := HT.out; omega)] at hv
    have hv' : l - CT - m - p - n3 = V := by have := HT.out; omega
    clear hv
    subst hv'
    simp only [if_pos hj] at H3
    have hj' : ¬ (l - CT - m - p - n3 < 0) := by omega
    go_enter Tryd.func4, Tryd.ntmps4
    go_wp2_with fail
    refine (H1 _ (by repeat (first | exact Ext.refl _ | assumption | refine Ext.alloc ?_ _ | refine Ext.drew ?_ | refine Ext.drewN ?_ _ | refine Ext.setCell ?_ (by first | omega | (dsimp only; omega) | (simp; done) | (simp; omega)) _ | refine Ext.trans ?_ (by assumption)))).out.mono ?_
    rintro e w1 ⟨rfl, hx1⟩
    obtain ⟨hc1, hf1⟩ := hx1.cells
    have hz1 := hx1.size
    try simp at hz1
    have hs1_0 := sz1 (a := w.heap.size) (b := w1.heap.size) (by omega)
    go_wp2_with fail
    refine (H2 _ (by repeat (first | exact Ext.refl _ | assumption | refine Ext.alloc ?_ _ | refine Ext.drew ?_ | refine Ext.drewN ?_ _ | refine Ext.setCell ?_ (by first | omega | (dsimp only; omega) | (simp; done) | (simp; omega)) _ | refine Ext.trans ?_ (by assumption)))).out.mono ?_
    rintro e w2 ⟨rfl, hx2⟩
    obtain ⟨hc2, hf2⟩ := hx2.cells
    have hz2 := hx2.size
    try simp at hz2
    have hs2_0 := sz1 (a := w.heap.size) (b := w2.heap.size) (by omega)
    go_wp2_with fail
    refine (H3 _ (by repeat (first | exact Ext.refl _ | assumption | refine Ext.alloc ?_ _ | refine Ext.drew ?_ | refine Ext.drewN ?_ _ | refine Ext.setCell ?_ (by first | omega | (dsimp only; omega) | (simp; done) | (simp; omega)) _ | refine Ext.trans ?_ (by assumption)))).out.mono ?_
    rintro e w3 ⟨rfl, hx3⟩
    go_wp2
    go_ret
    exact ⟨rfl, (by repeat (first | exact Ext.refl _ | assumption | refine Ext.alloc ?_ _ | refine Ext.drew ?_ | refine Ext.drewN ?_ _ | refine Ext.setCell ?_ (by first | omega | (dsimp only; omega) | (simp; done) | (simp; omega)) _ | refine Ext.trans ?_ (by assumption)))⟩
  · have hv := HV.out
    rw [if_neg (by have := HT.out; omega)] at hv
    subst hv
    simp only [if_neg hj] at H3
    go_enter Tryd.func4, Tryd.ntmps4
    go_wp2_with fail
    refine (H1 _ (by repeat (first | exact Ext.refl _ | assumption | refine Ext.alloc ?_ _ | refine Ext.drew ?_ | refine Ext.drewN ?_ _ | refine Ext.setCell ?_ (by first | omega | (dsimp only; omega) | (simp; done) | (simp; omega)) _ | refine Ext.trans ?_ (by assumption)))).out.mono ?_
    rintro e w1 ⟨rfl, hx1⟩
    obtain ⟨hc1, hf1⟩ := hx1.cells
    have hz1 := hx1.size
    try simp at hz1
    have hs1_0 := sz1 (a := w.heap.size) (b := w1.heap.size) (by omega)
    go_wp2_with fail
    refine (H2 _ (by repeat (first | exact Ext.refl _ | assumption | refine Ext.alloc ?_ _ | refine Ext.drew ?_ | refine Ext.drewN ?_ _ | refine Ext.setCell ?_ (by first | omega | (dsimp only; omega) | (simp; done) | (simp; omega)) _ | refine Ext.trans ?_ (by assumption)))).out.mono ?_
    rintro e w2 ⟨rfl, hx2⟩
    obtain ⟨hc2, hf2⟩ := hx2.cells
    have hz2 := hx2.size
    try simp at hz2
    have hs2_0 := sz1 (a := w.heap.size) (b := w2.heap.size) (by omega)
    go_wp2_with fail
    refine (H3 _ (by repeat (first | exact Ext.refl _ | assumption | refine Ext.alloc ?_ _ | refine Ext.drew ?_ | refine Ext.drewN ?_ _ | refine Ext.setCell ?_ (by first | omega | (dsimp only; omega) | (simp; done) | (simp; omega)) _ | refine Ext.trans ?_ (by assumption)))).out.mono ?_
    rintro e w3 ⟨rfl, hx3⟩
    go_wp2
    go_ret
    exact ⟨rfl, (by repeat (first | exact Ext.refl _ | assumption | refine Ext.alloc ?_ _ | refine Ext.drew ?_ | refine Ext.drewN ?_ _ | refine Ext.setCell ?_ (by first | omega | (dsimp only; omega) | (simp; done) | (simp; omega)) _ | refine Ext.trans ?_ (by assumption)))⟩

set_option maxRecDepth 20000 in
set_option maxHeartbeats 4000000 in
theorem toCompiled_any (d : Cp) (ht : d.tot ≤ 1048576) {v1 vs v2 vt vr v3 : Value} (w : World) (h : CQ w v1 vs v2 vt vr v3 d) :
    Calls Tryd.prog 6 #[.agg #[.int .i64 d.c.q1, v1, vs, .int .i64 d.c.q2, v2, vt, vr, .int .i64 d.q3, v3]] w fun e w' => ∃ u1 us u2 ut ur u3, e = .returned (.agg #[.int .i64 d.c.q1, u1, us, .int .i64 d.c.q2, u2, ut, ur, .int .i64 d.q3, u3]) ∧
      CO w' w.heap.size w'.heap.size u1 us u2 ut ur u3 d ∧ Ext w w' := by
  have hts : d.tot = d.c.tot + d.m + d.p + d.n3 := rfl
  have H1 := fun w' (hx : Ext w w') => Lib.hid (toCertificateZ_any d.c (by omega) w' (h.1.ext hx))
  have H2 := fun w' (hx : Ext w w') => Lib.hid (toRoute_any (by omega) (by omega) w' (h.2.1.ext hx) (h.2.2.1.ext hx))
  have H3 := fun w' (hx : Ext w w') => Lib.hid (toCircuit_any d.q3 (by omega) w' (h.2.2.2.ext hx))
  obtain ⟨a1, a2, a3, a4, a5, a6, c1, c2, c3, c4, c5, c6, rfl, rfl, rfl, rfl, rfl, rfl⟩ := h.shape
  clear h hts ht
  obtain ⟨c, m, ss, p, zs, q3, n3, ts⟩ := d
  dsimp only at *
  go_enter Tryd.func6, Tryd.ntmps6
  go_wp2_with fail
  refine (H1 _ (by repeat (first | exact Ext.refl _ | assumption | refine Ext.alloc ?_ _ | refine Ext.drew ?_ | refine Ext.drewN ?_ _ | refine Ext.setCell ?_ (by first | omega | (dsimp only; omega) | (simp; done) | (simp; omega)) _ | refine Ext.trans ?_ (by assumption)))).out.mono ?_
  rintro e w1 ⟨u1, us, u2, rfl, o1, hx1⟩
  obtain ⟨hc1, hf1⟩ := hx1.cells
  have hz1 := hx1.size
  try simp at hz1
  have hs1_0 := sz3 (a := w.heap.size) (b := w1.heap.size) (by omega)
  have O1 := Lib.hid (CZ.weak (lo' := w.heap.size + 1 + 1 + 1) o1 (by simp) (Nat.le_refl _))
  obtain ⟨b1, b2, b3, d1, d2, d3, rfl, rfl, rfl⟩ := o1.shape
  clear o1
  go_wp2_with fail
  refine (H2 _ (by repeat (first | (with_reducible refine Ext.setCell ?_ (by first | (simp; done) | (simp; omega)) _) | with_reducible refine Ext.alloc ?_ _ | with_reducible refine Ext.drew ?_ | with_reducible refine Ext.drewN ?_ _ | with_reducible assumption | with_reducible exact Ext.refl _ | with_reducible refine Ext.trans ?_ (by with_reducible assumption)))).out.mono ?_
  rintro e w2 ⟨ut, ur, rfl, o2, o3, hx2⟩
  obtain ⟨hc2, hf2⟩ := hx2.cells
  have hz2 := hx2.size
  try simp at hz2
  have hs2_0 := sz3 (a := w.heap.size) (b := w2.heap.size) (by omega)
  obtain ⟨b4, d4, rfl, _, _, _⟩ := own_shape o2
  obtain ⟨b5, d5, rfl, _, _, _⟩ := own_shape o3
  simp only [size_setCell] at o2 o3
  have O2 := Lib.hid o2
  have O3 := Lib.hid o3
  have O4 := Lib.hid (CZ.ext (CZ.set (CZ.set (CZ.set (CZ.set (CZ.set O1.out (p := ⟨w.heap.size + 1 + 1, 0, none⟩) (by simp) (.int .i64 c.q1)) (p := ⟨w.heap.size + 1 + 1, 1, none⟩) (by simp) (.slice b1 c.n1 d1)) (p := ⟨w.heap.size + 1 + 1, 2, none⟩) (by simp) (.slice b2 c.n d2)) (p := ⟨w.heap.size + 1 + 1, 3, none⟩) (by simp) (.int .i64 c.q2)) (p := ⟨w.heap.size + 1 + 1, 4, none⟩) (by simp) (.slice b3 c.n2 d3)) hx2)
  clear o2 o3 O1
  go_wp2_with fail
  refine (H3 _ (by repeat (first | (with_reducible refine Ext.setCell ?_ (by first | (simp; done) | (simp; omega)) _) | with_reducible refine Ext.alloc ?_ _ | with_reducible refine Ext.drew ?_ | with_reducible refine Ext.drewN ?_ _ | with_reducible assumption | with_reducible exact Ext.refl _ | with_reducible refine Ext.trans ?_ (by with_reducible assumption)))).out.mono ?_
  rintro e w3 ⟨u3, rfl, o4, hx3⟩
  obtain ⟨hc3, hf3⟩ := hx3.cells
  have hz3 := hx3.size
  try simp at hz3
  have hs3_0 := sz3 (a := w.heap.size) (b := w3.heap.size) (by omega)
  obtain ⟨b6, d6, rfl, _, _, _⟩ := own_shape o4
  simp only [size_setCell] at o4
  have O5 := Lib.hid o4
  have O6 := Lib.hid (CZ.ext (CZ.set (CZ.set O4.out (p := ⟨w.heap.size + 1 + 1, 5, none⟩) (by simp) (.slice b4 m d4)) (p := ⟨w.heap.size + 1 + 1, 6, none⟩) (by simp) (.slice b5 p d5)) hx3)
  have O7 := Lib.hid (own_ext (own_set (own_set O2.out (p := ⟨w.heap.size + 1 + 1, 5, none⟩) (by simp; omega) (.slice b4 m d4)) (p := ⟨w.heap.size + 1 + 1, 6, none⟩) (by simp; omega) (.slice b5 p d5)) hx3)
  have O8 := Lib.hid (own_ext (own_set (own_set O3.out (p := ⟨w.heap.size + 1 + 1, 5, none⟩) (by simp; omega) (.slice b4 m d4)) (p := ⟨w.heap.size + 1 + 1, 6, none⟩) (by simp; omega) (.slice b5 p d5)) hx3)
  clear o4 O2 O3 O4
  go_wp2
  refine bodyPost_ret (v := .agg #[.int .i64 c.q1, .slice b1 c.n1 d1, .slice b2 c.n d2, .int .i64 c.q2, .slice b3 c.n2 d3, .slice b4 m d4, .slice b5 p d5, .int .i64 q3, .slice b6 n3 d6]) (by simp [results, Tryd.results6, go_sem, *]) rfl ?_
  have z1 := hx1.size
  have z2 := hx2.size
  have z3 := hx3.size
  simp at z1 z2 z3
  refine ⟨_, _, _, _, _, _, rfl, ⟨CZ.weak (lo := w.heap.size + 1 + 1 + 1) (hi := w1.heap.size) ?_ (by omega) (by simp; omega), own_base (base := w1.heap.size) ?_ (by omega), own_base (base := w1.heap.size) ?_ (by omega), own_base (base := w2.heap.size) ?_ (by omega)⟩, (by repeat (first | (with_reducible refine Ext.setCell ?_ (by first | (simp; done) | (simp; omega)) _) | with_reducible refine Ext.alloc ?_ _ | with_reducible refine Ext.drew ?_ | with_reducible refine Ext.drewN ?_ _ | with_reducible assumption | with_reducible exact Ext.refl _ | with_reducible refine Ext.trans ?_ (by with_reducible assumption)))⟩
  · repeat (with_reducible refine CZ.set ?_ (by simp) _)
    exact O6.out
  · repeat (with_reducible refine own_set ?_ (by simp; omega) _)
    exact O7.out
  · repeat (with_reducible refine own_set ?_ (by simp; omega) _)
    exact O8.out
  · repeat (with_reducible refine own_set ?_ (by simp; omega) _)
    exact O5.out

set_option maxRecDepth 20000 in
set_option maxHeartbeats 2000000 in
theorem eqCompiled_any {l1 g1 l2 g2 : Nat} (d : Cp) (hd : d.Ok) (ht : d.tot ≤ 1048576) {v1 vs v2 vt vr v3 u1 us u2 ut ur u3 : Value} (w : World) (h : CO w l1 g1 v1 vs v2 vt vr v3 d) (k : CO w l2 g2 u1 us u2 ut ur u3 d) :
    Calls Tryd.prog 8 #[.agg #[.int .i64 d.c.q1, v1, vs, .int .i64 d.c.q2, v2, vt, vr, .int .i64 d.q3, v3], .agg #[.int .i64 d.c.q1, u1, us, .int .i64 d.c.q2, u2, ut, ur, .int .i64 d.q3, u3]] w fun e w' => e = .returned (.bool true) ∧ Ext w w' := by
  have hts : d.tot = d.c.tot + d.m + d.p + d.n3 := rfl
  have H1 := fun w' (hx : Ext w w') => Lib.hid (eqCertificateZ_any d.c hd.1 (by omega) w' (h.1.ext hx) (k.1.ext hx))
  have H2 := fun w' (hx : Ext w w') => Lib.hid (eqRoute_same hd.2.1 (by omega) hd.2.2.1 (by omega) w' (own_ext h.2.1 hx) (own_ext h.2.2.1 hx) (own_ext k.2.1 hx) (own_ext k.2.2.1 hx))
  have H3 := fun w' (hx : Ext w w') => Lib.hid (eqCircuit_same d.q3 hd.2.2.2 (by omega) w' (own_ext h.2.2.2 hx) (own_ext k.2.2.2 hx))
  obtain ⟨a1, a2, a3, a4, a5, a6, c1, c2, c3, c4, c5, c6, rfl, rfl, rfl, rfl, rfl, rfl⟩ := (h.cq hd).shape
  obtain ⟨b1, b2, b3, b4, b5, b6, d1, d2, d3, d4, d5, d6, rfl, rfl, rfl, rfl, rfl, rfl⟩ := (k.cq hd).shape
  clear h k hts ht hd
  generalize d.c.q1 = q1 at *
  generalize d.c.q2 = q2 at *
  generalize d.q3 = q3 at *
  generalize d.c.n1 = n1 at *
  generalize d.c.n2 = n2 at *
  generalize d.c.n = nn at *
  generalize d.n3 = n3 at *
  generalize d.m = m at *
  generalize d.p = p at *
  go_enter Tryd.func8, Tryd.ntmps8
  go_wp2_with fail
  refine (H1 _ (by repeat (first | exact Ext.refl _ | assumption | refine Ext.alloc ?_ _ | refine Ext.drew ?_ | refine Ext.drewN ?_ _ | refine Ext.setCell ?_ (by first | omega | (dsimp only; omega) | (simp; done) | (simp; omega)) _ | refine Ext.trans ?_ (by assumption)))).out.mono ?_
  rintro e w1 ⟨rfl, hx1⟩
  obtain ⟨hc1, hf1⟩ := hx1.cells
  have hz1 := hx1.size
  try simp at hz1
  have hs1_0 := sz2 (a := w.heap.size) (b := w1.heap.size) (by omega)
  go_wp2_with fail
  refine (H2 _ (by repeat (first | exact Ext.refl _ | assumption | refine Ext.alloc ?_ _ | refine Ext.drew ?_ | refine Ext.drewN ?_ _ | refine Ext.setCell ?_ (by first | omega | (dsimp only; omega) | (simp; done) | (simp; omega)) _ | refine Ext.trans ?_ (by assumption)))).out.mono ?_
  rintro e w2 ⟨rfl, hx2⟩
  obtain ⟨hc2, hf2⟩ := hx2.cells
  have hz2 := hx2.size
  try simp at hz2
  have hs2_0 := sz2 (a := w.heap.size) (b := w2.heap.size) (by omega)
  go_wp2_with fail
  refine (H3 _ (by repeat (first | exact Ext.refl _ | assumption | refine Ext.alloc ?_ _ | refine Ext.drew ?_ | refine Ext.drewN ?_ _ | refine Ext.setCell ?_ (by first | omega | (dsimp only; omega) | (simp; done) | (simp; omega)) _ | refine Ext.trans ?_ (by assumption)))).out.mono ?_
  rintro e w3 ⟨rfl, hx3⟩
  obtain ⟨hc3, hf3⟩ := hx3.cells
  have hz3 := hx3.size
  try simp at hz3
  have hs3_0 := sz2 (a := w.heap.size) (b := w3.heap.size) (by omega)
  go_wp2
  go_ret
  exact ⟨rfl, (by repeat (first | exact Ext.refl _ | assumption | refine Ext.alloc ?_ _ | refine Ext.drew ?_ | refine Ext.drewN ?_ _ | refine Ext.setCell ?_ (by first | omega | (dsimp only; omega) | (simp; done) | (simp; omega)) _ | refine Ext.trans ?_ (by assumption)))⟩

set_option maxRecDepth 20000 in
set_option maxHeartbeats 20000000 in
theorem law_ReportOf (d : Cp) {v1 vs v2 vt vr v3 : Value} (w : World) (h : CQ w v1 vs v2 vt vr v3 d) (hT : Tab w) :
    Calls Tryd.prog 3 #[.agg #[.int .i64 d.c.q1, v1, vs, .int .i64 d.c.q2, v2, vt, vr, .int .i64 d.q3, v3]] w fun e w' => e = .returned (.bool true) ∧ Ext w w' := by
  have HZ0 := fun w' (hx : Ext w w') => Lib.hid (szCompiled_any d 1048576 (by omega) w' (h.ext hx))
  have HT0 := fun ht w' (hx : Ext w w') => Lib.hid (toCompiled_any d ht w' (h.ext hx))
  have HOK := Lib.hid h.ok
  have hts : d.tot = d.c.tot + d.m + d.p + d.n3 := rfl
  have hts2 : d.c.tot = d.c.n1 + (d.c.n + gsR d.c.R d.c.n) + d.c.n2 := rfl
  obtain ⟨a1, a2, a3, a4, a5, a6, c1, c2, c3, c4, c5, c6, rfl, rfl, rfl, rfl, rfl, rfl⟩ := h.shape
  clear h
  by_cases hm0 : (d.tot : Int) ≤ 1048576
  case neg =>
    simp only [if_neg hm0] at HZ0
    go_enter Tryd.func3, Tryd.ntmps3
    go_wp2_with fail
    refine (HZ0 _ (by repeat (first | (with_reducible refine Ext.setCell ?_ (by first | (simp; done) | (simp; omega)) _) | with_reducible refine Ext.alloc ?_ _ | with_reducible refine Ext.drew ?_ | with_reducible refine Ext.drewN ?_ _ | with_reducible assumption | with_reducible exact Ext.refl _ | with_reducible refine Ext.trans ?_ (by with_reducible assumption)))).out.mono ?_
    rintro e w1 ⟨rfl, hx1⟩
    go_wp2
    go_ret
    exact ⟨rfl, (by repeat (first | (with_reducible refine Ext.setCell ?_ (by first | (simp; done) | (simp; omega)) _) | with_reducible refine Ext.alloc ?_ _ | with_reducible refine Ext.drew ?_ | with_reducible refine Ext.drewN ?_ _ | with_reducible assumption | with_reducible exact Ext.refl _ | with_reducible refine Ext.trans ?_ (by with_reducible assumption)))⟩
  simp only [if_pos hm0] at HZ0
  have hr0 : ¬ ((1048576 : Int) - d.tot < 0) := by omega
  have hTot : d.tot ≤ 1048576 := by omega
  have HT1 := HT0 hTot
  clear HT0
  have HS := fun u1 us u2 ut ur u3 w' (k : CQ w' u1 us u2 ut ur u3 d) => Lib.hid (s_reportOf_any d.c d.q3 (by omega) (by omega) (by omega) (by omega) (by omega) w' k.1 k.2.1 k.2.2.1 k.2.2.2)
  have HI := fun u1 us u2 ut ur u3 w' (hx : Ext w w') (k : CQ w' u1 us u2 ut ur u3 d) => Lib.hid (reportOf_any d.c d.q3 (by omega) (by omega) (by omega) (by omega) (by omega) w' (hT.ext hx) k.1 k.2.1 k.2.2.1 k.2.2.2)
  have HQ := fun l1 g1 l2 g2 u1 us u2 ut ur u3 x1 xs' x2 xt xr x3 w' h k => Lib.hid (eqCompiled_any (l1 := l1) (g1 := g1) (l2 := l2) (g2 := g2) (v1 := u1) (vs := us) (v2 := u2) (vt := ut) (vr := ur) (v3 := u3) (u1 := x1) (us := xs') (u2 := x2) (ut := xt) (ur := xr) (u3 := x3) d HOK.out hTot w' h k)
  clear hts hts2
  generalize BA (rpT d.c d.q3 d.ts d.n3 d.zs d.p) = S at *
  generalize rpOk d.c d.q3 d.ts d.n3 = ok at *
  clear hT
  generalize hgT : d.tot = T at *
  clear hgT
  go_enter Tryd.func3, Tryd.ntmps3
  go_wp2_with fail
  refine (HZ0 _ ((Ext.refl w).alloc _)).out.mono ?_
  rintro e w1 ⟨rfl, hx_1⟩
  have h_b1_1 : Hid (w1.heap[w.heap.size]? = some (.cells #[.int .i64 d.c.q1, .slice a1 d.c.n1 c1, .slice a2 d.c.n c2, .int .i64 d.c.q2, .slice a3 d.c.n2 c3, .slice a4 d.m c4, .slice a5 d.p c5, .int .i64 d.q3, .slice a6 d.n3 c6] 33 (0, 0))) := heap_keep hx_1 (heap_alloc_new _ _)
  have hE_1 := Lib.hid ((((Ext.refl w).alloc _)).trans hx_1)
  clear hx_1
  have z_b1 := fun k => cell_of_row _ _ k _ _ _ h_b1_1.out
  have l_b1 := (Array.getElem?_eq_some_iff.1 h_b1_1.out).1
  go_wp2_with fail
  refine (HT1 _ hE_1.out).out.mono ?_
  rintro e w2 ⟨u1, us, u2, ut, ur, u3, rfl, o0, hx_2⟩
  have h_b1_2 := Lib.hid (heap_keep hx_2 h_b1_1.out)
  have hE_2 := Lib.hid ((hE_1.out).trans hx_2)
  have R2 := Lib.hid (o0.cq HOK.out)
  obtain ⟨e1, e2, e3, e4, e5, e6, f1, f2, f3, f4, f5, f6, rfl, rfl, rfl, rfl, rfl, rfl⟩ := R2.out.shape
  clear o0 z_b1 l_b1 h_b1_1 hE_1 hx_2
  go_wp2_with fail
  refine (HS _ _ _ _ _ _ _ R2.out).out.mono ?_
  rintro e w3 ⟨rfl, hx_3⟩
  have h_b1_3 := Lib.hid (heap_keep hx_3 h_b1_2.out)
  have hE_3 := Lib.hid ((hE_2.out).trans hx_3)
  clear h_b1_2 hE_2 hx_3 R2
  have z_b1 := fun k => cell_of_row _ _ k _ _ _ h_b1_3.out
  have l_b1 := (Array.getElem?_eq_some_iff.1 h_b1_3.out).1
  go_wp2_with fail
  refine (HT1 _ hE_3.out).out.mono ?_
  rintro e w4 ⟨u1, us, u2, ut, ur, u3, rfl, o0, hx_4⟩
  have h_b1_4 := Lib.hid (heap_keep hx_4 h_b1_3.out)
  have hE_4 := Lib.hid ((hE_3.out).trans hx_4)
  have OX4 := Lib.hid o0
  obtain ⟨b1, b2, b3, b4, b5, b6, d1, d2, d3, d4, d5, d6, rfl, rfl, rfl, rfl, rfl, rfl⟩ := (o0.cq HOK.out).shape
  clear o0 z_b1 l_b1 h_b1_3 hE_3 hx_4
  go_wp2_with fail
  refine (HI _ _ _ _ _ _ _ (hE_4.out.alloc _) ((OX4.out.cq HOK.out).ext ((Ext.refl _).alloc _))).out.mono ?_
  rintro e w5 ⟨rfl, hx_5⟩
  have h_b1_5 : Hid (w5.heap[w.heap.size]? = some (.cells #[.int .i64 d.c.q1, .slice a1 d.c.n1 c1, .slice a2 d.c.n c2, .int .i64 d.c.q2, .slice a3 d.c.n2 c3, .slice a4 d.m c4, .slice a5 d.p c5, .int .i64 d.q3, .slice a6 d.n3 c6] 33 (0, 0))) := heap_keep hx_5 (heap_alloc_lt h_b1_4.out)
  have h_b2_5 : Hid (w5.heap[w4.heap.size]? = some (.cells #[.int .i64 d.c.q1, .slice b1 d.c.n1 d1, .slice b2 d.c.n d2, .int .i64 d.c.q2, .slice b3 d.c.n2 d3, .slice b4 d.m d4, .slice b5 d.p d5, .int .i64 d.q3, .slice b6 d.n3 d6] 47 (0, 0))) := heap_keep hx_5 (heap_alloc_new _ _)
  have OX5 := Lib.hid ((OX4.out.ext ((Ext.refl _).alloc _)).ext hx_5)
  have hE_5 := Lib.hid (((hE_4.out.alloc _)).trans hx_5)
  clear h_b1_4 OX4 hE_4 hx_5
  have z_b2 := fun k => cell_of_row _ _ k _ _ _ h_b2_5.out
  have l_b2 := (Array.getElem?_eq_some_iff.1 h_b2_5.out).1
  have z_b1 := fun k => cell_of_row _ _ k _ _ _ h_b1_5.out
  have l_b1 := (Array.getElem?_eq_some_iff.1 h_b1_5.out).1
  have HK : Hid (∀ w', Ext w5 w' → (w'.cell? ⟨w4.heap.size, 0, none⟩ = some (.int .i64 d.c.q1) ∧ w'.cell? ⟨w4.heap.size, 1, none⟩ = some (.slice b1 d.c.n1 d1) ∧ w'.cell? ⟨w4.heap.size, 2, none⟩ = some (.slice b2 d.c.n d2) ∧ w'.cell? ⟨w4.heap.size, 3, none⟩ = some (.int .i64 d.c.q2) ∧ w'.cell? ⟨w4.heap.size, 4, none⟩ = some (.slice b3 d.c.n2 d3) ∧ w'.cell? ⟨w4.heap.size, 5, none⟩ = some (.slice b4 d.m d4) ∧ w'.cell? ⟨w4.heap.size, 6, none⟩ = some (.slice b5 d.p d5) ∧ w'.cell? ⟨w4.heap.size, 7, none⟩ = some (.int .i64 d.q3) ∧ w'.cell? ⟨w4.heap.size, 8, none⟩ = some (.slice b6 d.n3 d6) ∧ w'.cell? ⟨w.heap.size, 0, none⟩ = some (.int .i64 d.c.q1) ∧ w'.cell? ⟨w.heap.size, 1, none⟩ = some (.slice a1 d.c.n1 c1) ∧ w'.cell? ⟨w.heap.size, 2, none⟩ = some (.slice a2 d.c.n c2) ∧ w'.cell? ⟨w.heap.size, 3, none⟩ = some (.int .i64 d.c.q2) ∧ w'.cell? ⟨w.heap.size, 4, none⟩ = some (.slice a3 d.c.n2 c3) ∧ w'.cell? ⟨w.heap.size, 5, none⟩ = some (.slice a4 d.m c4) ∧ w'.cell? ⟨w.heap.size, 6, none⟩ = some (.slice a5 d.p c5) ∧ w'.cell? ⟨w.heap.size, 7, none⟩ = some (.int .i64 d.q3) ∧ w'.cell? ⟨w.heap.size, 8, none⟩ = some (.slice a6 d.n3 c6))) := fun w' hx =>
    ⟨(hx.cells.1 _ 0 l_b2).trans (z_b2 0), (hx.cells.1 _ 1 l_b2).trans (z_b2 1), (hx.cells.1 _ 2 l_b2).trans (z_b2 2), (hx.cells.1 _ 3 l_b2).trans (z_b2 3), (hx.cells.1 _ 4 l_b2).trans (z_b2 4), (hx.cells.1 _ 5 l_b2).trans (z_b2 5), (hx.cells.1 _ 6 l_b2).trans (z_b2 6), (hx.cells.1 _ 7 l_b2).trans (z_b2 7), (hx.cells.1 _ 8 l_b2).trans (z_b2 8), (hx.cells.1 _ 0 l_b1).trans (z_b1 0), (hx.cells.1 _ 1 l_b1).trans (z_b1 1), (hx.cells.1 _ 2 l_b1).trans (z_b1 2), (hx.cells.1 _ 3 l_b1).trans (z_b1 3), (hx.cells.1 _ 4 l_b1).trans (z_b1 4), (hx.cells.1 _ 5 l_b1).trans (z_b1 5), (hx.cells.1 _ 6 l_b1).trans (z_b1 6), (hx.cells.1 _ 7 l_b1).trans (z_b1 7), (hx.cells.1 _ 8 l_b1).trans (z_b1 8)⟩
  have hE_ := hE_5.out
  go_wp2_with fail
  go_region_held3 (fun w' => w'.cell? ⟨w4.heap.size, 0, none⟩ = some (.int .i64 d.c.q1) ∧ w'.cell? ⟨w4.heap.size, 1, none⟩ = some (.slice b1 d.c.n1 d1) ∧ w'.cell? ⟨w4.heap.size, 2, none⟩ = some (.slice b2 d.c.n d2) ∧ w'.cell? ⟨w4.heap.size, 3, none⟩ = some (.int .i64 d.c.q2) ∧ w'.cell? ⟨w4.heap.size, 4, none⟩ = some (.slice b3 d.c.n2 d3) ∧ w'.cell? ⟨w4.heap.size, 5, none⟩ = some (.slice b4 d.m d4) ∧ w'.cell? ⟨w4.heap.size, 6, none⟩ = some (.slice b5 d.p d5) ∧ w'.cell? ⟨w4.heap.size, 7, none⟩ = some (.int .i64 d.q3) ∧ w'.cell? ⟨w4.heap.size, 8, none⟩ = some (.slice b6 d.n3 d6) ∧ w'.cell? ⟨w.heap.size, 0, none⟩ = some (.int .i64 d.c.q1) ∧ w'.cell? ⟨w.heap.size, 1, none⟩ = some (.slice a1 d.c.n1 c1) ∧ w'.cell? ⟨w.heap.size, 2, none⟩ = some (.slice a2 d.c.n c2) ∧ w'.cell? ⟨w.heap.size, 3, none⟩ = some (.int .i64 d.c.q2) ∧ w'.cell? ⟨w.heap.size, 4, none⟩ = some (.slice a3 d.c.n2 c3) ∧ w'.cell? ⟨w.heap.size, 5, none⟩ = some (.slice a4 d.m c4) ∧ w'.cell? ⟨w.heap.size, 6, none⟩ = some (.slice a5 d.p c5) ∧ w'.cell? ⟨w.heap.size, 7, none⟩ = some (.int .i64 d.q3) ∧ w'.cell? ⟨w.heap.size, 8, none⟩ = some (.slice a6 d.n3 c6)) (exact HK.out _ (by repeat (first | (with_reducible refine Ext.setCell ?_ (by first | (simp; done) | (simp; omega)) _) | with_reducible refine Ext.alloc ?_ _ | with_reducible refine Ext.drew ?_ | with_reducible refine Ext.drewN ?_ _ | with_reducible assumption | with_reducible exact Ext.refl _ | with_reducible refine Ext.trans ?_ (by with_reducible assumption))))
    (first
    | (go_at_call 6; (with_reducible refine (HT1 _ (by repeat (first | (with_reducible refine Ext.setCell ?_ (by first | (simp; done) | (simp; omega)) _) | with_reducible refine Ext.alloc ?_ _ | with_reducible refine Ext.drew ?_ | with_reducible refine Ext.drewN ?_ _ | with_reducible assumption | with_reducible exact Ext.refl _ | with_reducible refine Ext.trans ?_ (by with_reducible assumption)))).out.mono ?_); rintro e w6 ⟨u1, us, u2, ut, ur, u3, rfl, oo0, hx_6⟩; have OO0 := Lib.hid oo0; obtain ⟨e1, e2, e3, e4, e5, e6, f1, f2, f3, f4, f5, f6, rfl, rfl, rfl, rfl, rfl, rfl⟩ := (oo0.cq HOK.out).shape; clear oo0)
    | (go_at_call 8; (with_reducible refine (HQ _ _ _ _ _ _ _ _ _ _ _ _ _ _ _ _ _ (OX5.out.ext (by repeat (first | (with_reducible refine Ext.setCell ?_ (by first | (simp; done) | (simp; omega)) _) | with_reducible refine Ext.alloc ?_ _ | with_reducible refine Ext.drew ?_ | with_reducible refine Ext.drewN ?_ _ | with_reducible assumption | with_reducible exact Ext.refl _ | with_reducible refine Ext.trans ?_ (by with_reducible assumption)))) OO0.out).out.mono ?_); rintro e w7 ⟨rfl, hx_7⟩))
  have hxx_7 : Ext w5 w7 := (by repeat (first | (with_reducible refine Ext.setCell ?_ (by first | (simp; done) | (simp; omega)) _) | with_reducible refine Ext.alloc ?_ _ | with_reducible refine Ext.drew ?_ | with_reducible refine Ext.drewN ?_ _ | with_reducible assumption | with_reducible exact Ext.refl _ | with_reducible refine Ext.trans ?_ (by with_reducible assumption)))
  have hE_7 := Lib.hid ((hE_5.out).trans hxx_7)
  clear z_b2 l_b2 z_b1 l_b1 h_b1_5 h_b2_5 OX5 hE_5 hx_6 hx_7 hxx_7 HK hE_ OO0
  go_wp2
  go_ret
  exact ⟨rfl, hE_7.out⟩

theorem law_ReportOf_c (cs : Array Value) {n : Nat} {w0 : World} (hs : Shape Tryd.prog w0 n 33 (Value.agg cs).cells.toList) (w : World) (hT : Tab w) (hw : w0 = w := by rfl) :
    Calls Tryd.prog 3 #[.agg cs] w fun e w' => e = .returned (.bool true) ∧ Ext w w' := by
  subst hw
  obtain ⟨d, v1, vs, v2, vt, vr, v3, rfl, h⟩ := comp_arg hs
  exact law_ReportOf d w0 h hT

end Go.Proofs.YtgefamclfjoogaaDoor
