/- Certificates: copies, with the zones of their blocks. -/
import Derived.Test.YtgefamclfjoogaaDoorCgL
import Derived.Test.YtgefamclfjoogaaDoorCertT
namespace Go.Proofs.YtgefamclfjoogaaDoor
open Go.RowKit Go.Lib
set_option linter.unusedVariables false
set_option linter.unusedSimpArgs false

theorem ELz.ext {w w' : World} {lo : Nat} {zs : List Value} {j : Nat} {r : Rp} (h : ELz w lo zs j r) (hx : Ext w w') : ELz w' lo zs j r := by
  obtain ⟨va, vb, z0, z1, z2, r1, r2⟩ := h
  exact ⟨va, vb, z0, z1, z2, own_ext r1 hx, own_ext r2 hx⟩
theorem ELz.set {w : World} {lo : Nat} {zs : List Value} {j : Nat} {r : Rp} (h : ELz w lo zs j r) {p : Addr} (hp : p.block < lo) (u : Value) : ELz (w.setCell p u) lo zs j r := by
  obtain ⟨va, vb, z0, z1, z2, r1, r2⟩ := h
  exact ⟨va, vb, z0, z1, z2, own_set r1 hp u, own_set r2 hp u⟩
/-- the first j steps are laid; their blocks lie from lo up to hi and differ -/
def DZ (w : World) (lo hi : Nat) (zs : List Value) (j : Nat) (R : Nat → Rp) : Prop :=
  (∀ i, i < j → ELz w lo zs i (R i)) ∧ (∀ (p : Nat) (x : Value) (k : Nat), p < j * 3 → zs[p]? = some x → x.ownBlock = some k → lo ≤ k ∧ k < hi) ∧
    ∀ (p q : Nat) (x y : Value) (k : Nat), p < q → q < j * 3 → zs[p]? = some x → zs[q]? = some y → x.ownBlock = some k → y.ownBlock = some k → False
theorem DZ.ext {w w' : World} {lo hi : Nat} {zs : List Value} {j : Nat} {R : Nat → Rp} (h : DZ w lo hi zs j R) (hx : Ext w w') : DZ w' lo hi zs j R := ⟨fun i hi => (h.1 i hi).ext hx, h.2⟩
theorem DZ.set {w : World} {lo hi : Nat} {zs : List Value} {j : Nat} {R : Nat → Rp} (h : DZ w lo hi zs j R) {p : Addr} (hp : p.block < lo) (u : Value) : DZ (w.setCell p u) lo hi zs j R := ⟨fun i hi => (h.1 i hi).set hp u, h.2⟩
theorem DZ.none {w : World} {lo hi : Nat} {zs : List Value} {R : Nat → Rp} : DZ w lo hi zs 0 R := ⟨fun i hi => absurd hi (by omega), fun p x k hp => absurd hp (by omega), fun p q x y k _ hq => absurd hq (by omega)⟩
theorem DZ.snoc {w : World} {lo hi hi' : Nat} {zs zs' : List Value} {j : Nat} {R : Nat → Rp} {va vb : Value} (h : DZ w lo hi zs j R) (hz : ∀ p, p < j * 3 → zs'[p]? = zs[p]?)
    (z0 : zs'[j * 3]? = some (.int .i64 (R j).t)) (z1 : zs'[j * 3 + 1]? = some va) (z2 : zs'[j * 3 + 2]? = some vb) (o1 : w.ownsRow hi 79 3 va (R j).m1 (IL (R j).xs)) (o2 : w.ownsRow hi 79 3 vb (R j).m2 (IL (R j).ys))
    (l1 : ∀ k, va.ownBlock = some k → k < hi') (l2 : ∀ k, vb.ownBlock = some k → k < hi') (hne : ∀ k, va.ownBlock = some k → vb.ownBlock = some k → False) (hl : lo ≤ hi) (hh : hi ≤ hi') : DZ w lo hi' zs' (j + 1) R := by
  have at_ : ∀ (p : Nat) (x : Value) (k : Nat), p < (j + 1) * 3 → zs'[p]? = some x → x.ownBlock = some k → (p < j * 3 ∧ zs[p]? = some x) ∨ (p = j * 3 + 1 ∧ va.ownBlock = some k) ∨ (p = j * 3 + 2 ∧ vb.ownBlock = some k) := by
    intro p x k hp hx hk
    by_cases h1 : p < j * 3
    · exact .inl ⟨h1, (hz p h1).symm.trans hx⟩
    by_cases h2 : p = j * 3
    · subst h2
      rw [z0] at hx
      obtain rfl := Option.some.inj hx
      simp [Value.ownBlock] at hk
    by_cases h3 : p = j * 3 + 1
    · subst h3
      rw [z1] at hx
      obtain rfl := Option.some.inj hx
      exact .inr (.inl ⟨rfl, hk⟩)
    obtain rfl : p = j * 3 + 2 := by omega
    rw [z2] at hx
    obtain rfl := Option.some.inj hx
    exact .inr (.inr ⟨rfl, hk⟩)
  refine ⟨fun i hi => ?_, fun p x k hp hx hk => ?_, fun p q x y k hpq hq hx hy hk hk2 => ?_⟩
  · by_cases e : i = j
    · subst e
      exact ⟨va, vb, z0, z1, z2, own_base o1 hl, own_base o2 hl⟩
    · obtain ⟨ua, ub, y0, y1, y2, r1, r2⟩ := h.1 i (by omega)
      exact ⟨ua, ub, (hz _ (by omega)).trans y0, (hz _ (by omega)).trans y1, (hz _ (by omega)).trans y2, r1, r2⟩
  · rcases at_ p x k hp hx hk with ⟨h1, h2⟩ | ⟨_, h2⟩ | ⟨_, h2⟩
    · have := h.2.1 p x k h1 h2 hk; omega
    · have := l1 k h2; have := (o1.lt k h2).1; omega
    · have := l2 k h2; have := (o2.lt k h2).1; omega
  · rcases at_ p x k (by omega) hx hk with ⟨h1, h2⟩ | ⟨e1, h2⟩ | ⟨e1, h2⟩
    · rcases at_ q y k hq hy hk2 with ⟨h3, h4⟩ | ⟨_, h4⟩ | ⟨_, h4⟩
      · exact h.2.2 p q x y k hpq h3 h2 h4 hk hk2
      · have := h.2.1 p x k h1 h2 hk; have := (o1.lt k h4).1; omega
      · have := h.2.1 p x k h1 h2 hk; have := (o2.lt k h4).1; omega
    · rcases at_ q y k hq hy hk2 with ⟨h3, h4⟩ | ⟨_, h4⟩ | ⟨_, h4⟩
      · omega
      · omega
      · exact hne k h2 h4
    · rcases at_ q y k hq hy hk2 with ⟨h3, h4⟩ | ⟨_, h4⟩ | ⟨_, h4⟩
      · omega
      · omega
      · omega
/-- all steps are laid, in a row whose block is not among theirs -/
theorem DZ.rsp {w : World} {lo hi lo' : Nat} {zs : List Value} {n : Nat} {R : Nat → Rp} {v : Value} {S : Nat → Prop} (h : DZ w lo hi zs n R) (ho : w.ownsRow lo' 103 3 v n zs) (hl : zs.length = n * 3) (hlo : lo' ≤ lo)
    (hv : ∀ k, v.ownBlock = some k → (k < lo ∨ hi ≤ k) ∧ S k) (hS : ∀ k, lo ≤ k → k < hi → S k) : RSP w lo' S v n R := by
  refine ⟨zs, ho, hl, ⟨fun k hk => (hv k hk).2, fun p x k hx hk => ?_⟩, ⟨fun p x k hx hk hk2 => ?_, fun p q x y k hpq hx hy => ?_⟩, fun j hj => ?_⟩
  · have hp : p < zs.length := (List.getElem?_eq_some_iff.1 hx).1
    have := h.2.1 p x k (by omega) hx hk
    exact hS k this.1 this.2
  · have hp : p < zs.length := (List.getElem?_eq_some_iff.1 hx).1
    have := h.2.1 p x k (by omega) hx hk
    have := (hv k hk2).1
    omega
  · have hq : q < zs.length := (List.getElem?_eq_some_iff.1 hy).1
    exact h.2.2 p q x y k hpq (by omega) hx hy
  · obtain ⟨ua, ub, y0, y1, y2, r1, r2⟩ := h.1 j hj
    exact ⟨ua, ub, y0, y1, y2, own_base r1 hlo, own_base r2 hlo⟩

theorem S3_lt {zs : List Value} {j p : Nat} {u0 u1 u2 : Value} (h : p < j * 3) : (S3 zs j u0 u1 u2)[p]? = zs[p]? := by
  unfold S3
  rw [List.getElem?_set_ne (by omega), List.getElem?_set_ne (by omega), List.getElem?_set_ne (by omega)]

set_option maxRecDepth 20000 in
set_option maxHeartbeats 2000000 in
theorem toReplacementZ_any {v : Value} {n : Nat} {R : Nat → Rp} (hs : n + gsR R n ≤ 1048576) (w : World) (h : RSV w v (RL n R)) :
    Calls Tryd.prog 35 #[v] w fun e w' => ∃ v', e = .returned v' ∧ RSP w' w.heap.size (fun k => w.heap.size ≤ k ∧ k < w'.heap.size) v' n R ∧ Ext w w' := by
  obtain ⟨i0, hi, hz0, hz1, hz2⟩ := info_parts info_repl
  obtain ⟨a, cap, rfl, c1, c2, H⟩ := h
  have HH := Lib.hid H
  clear H
  rw [RL_len] at c1
  have hnb : n ≤ 1048576 := by omega
  have HS0 := Lib.hid hs
  clear hs
  have hl0 : (madeCells (Value.agg #[.int .i64 0, .slice none 0 0, .slice none 0 0]).cells (n * 3)).toList.length = n * 3 := by simp [madeCells]
  simp only [RL_len]
  go_enter Tryd.func35, Tryd.ntmps35
  go_wp2_with (at_make; refine wpList_make_full _ rfl _ _ _ rfl w.heap.size 103 i0 (.agg #[.int .i64 0, .slice none 0 0, .slice none 0 0]) 3 Tryd.underlying40 hi hz0 hz1 .i64 .i64 _ _ n rfl rfl rfl rfl (by rw [hz2]; omega) (by simp only [maxLen]; omega) (Nat.le_refl _) ?_; intro w0 own0 hg0; generalize (madeCells (Value.agg #[.int .i64 0, .slice none 0 0, .slice none 0 0]).cells (n * 3)).toList = zs0 at own0 hl0; have HO := Lib.hid own0; have hsz0 : w.heap.size < w0.heap.size := (own0.lt w.heap.size rfl).2; clear own0)
  have hx0 : Ext w w0 := Ext.grown (Ext.refl w) hg0 (fun k hk => by cases hk)
  go_loopw [4] (fun i wr => ∃ (j : Nat) (zs : List Value), j ≤ n ∧ i = .int .i64 j ∧ wr.ownsRow w.heap.size 103 3 (.slice (some ⟨w.heap.size, 0, none⟩) n n) n zs ∧ zs.length = n * 3 ∧ DZ wr (w.heap.size + 1) wr.heap.size zs j R ∧ Ext w wr ∧ w.heap.size < wr.heap.size) (fun i _ => n - (intOf i).toNat)
  case atStart => exact ⟨0, zs0, by omega, rfl, HO.out, hl0, DZ.none, hx0, hsz0⟩
  case round =>
    obtain ⟨j, zs, hj, rfl, hown, hzl, hdn, hE, hsz⟩ := hrel
    have HW := Lib.hid hown
    have HD := Lib.hid hdn
    have HZ := Lib.hid hzl
    clear hown hdn hzl
    by_cases hlt : j < n
    · have hlt' : (j : Int) < n := by omega
      obtain ⟨b, off, rfl, hbk, hcell⟩ := HH.out (by rw [RL_len]; omega)
      obtain ⟨va, vb, z0', z1', z2', r1, r2⟩ := hcell j (by rw [RL_len]; exact hlt)
      rw [RL_at] at z0' r1 r2
      have s12 : (R j).m1 ≤ 1048576 ∧ (R j).m2 ≤ 1048576 := by have := gsR_at R hlt; have := HS0.out; omega
      obtain ⟨s1, s2⟩ := s12
      clear hcell
      have hbr : b < wr.heap.size := by have := hE.size; omega
      have z0 := (hE.cells.1 b _ hbk).trans z0'
      have z1 := (hE.cells.1 b _ hbk).trans z1'
      have z2 := (hE.cells.1 b _ hbk).trans z2'
      have HT := Lib.hid (toReplacement_any (R j).t (by omega) (by omega) wr (r1.ext hE) (r2.ext hE))
      obtain ⟨_, aa, ca, rfl, _, _, _⟩ := r1
      obtain ⟨_, ab, cb, rfl, _, _, _⟩ := r2
      clear z0' z1' z2'
      go_wp2_with fail
      refine HT.out.mono ?_
      rintro e w1 ⟨u1, u2, rfl, o1, o2, ⟨sx, osx, hsx⟩, hx1⟩
      have DJ := Lib.hid (fun k (h1 : u1.ownBlock = some k) (h2 : u2.ownBlock = some k) => (by have := (osx.lt k h2).1; have := hsx k h1; omega : False))
      clear osx hsx
      obtain ⟨hc1, hf1⟩ := hx1.cells
      have hz1 := hx1.size
      try simp at hz1
      obtain ⟨p1, d1, rfl, e1, e2, e3⟩ := own_shape o1
      obtain ⟨p2, d2, rfl, e4, e5, e6⟩ := own_shape o2
      have O1 := Lib.hid o1
      have O2 := Lib.hid o2
      clear o1 o2 e3 e6
      have HW1 := Lib.hid (own_ext HW.out hx1)
      obtain ⟨y0, q0⟩ := own_at HW.out HZ.out (k := j * 3) (by omega)
      obtain ⟨y1, q1⟩ := own_at HW.out HZ.out (k := j * 3 + 1) (by omega)
      obtain ⟨y2, q2⟩ := own_at HW.out HZ.out (k := j * 3 + 2) (by omega)
      have hfr := HW.out.frozenAt
      generalize hmt : (R j).t = t at *
      have HMT := Lib.hid hmt
      clear hmt
      generalize hm1 : (R j).m1 = m1 at *
      have HM1 := Lib.hid hm1
      clear hm1
      generalize hm2 : (R j).m2 = m2 at *
      have HM2 := Lib.hid hm2
      clear hm2
      go_wp2
      go_roundw
      case rel =>
        have s0 := World.ownsRow.stored (HW1.out) (j * 3) (.int .i64 t)
        have s1 := World.ownsRow.stored (s0.1) (j * 3 + 1) (.slice p1 m1 d1)
        have s2 := World.ownsRow.stored (s1.1) (j * 3 + 2) (.slice p2 m2 d2)
        have L1 := fun k hk => (O1.out.lt k hk).2
        have L2 := fun k hk => (O2.out.lt k hk).2
        refine ⟨j + 1, S3 zs j (.int .i64 t) (.slice p1 m1 d1) (.slice p2 m2 d2), by omega, by go_num, s2.1, by rw [S3_len]; exact HZ.out, ?_, ?_, ?_⟩
        · obtain ⟨f0, f1, f2⟩ := S3_at (zs := zs) (j := j) (u0 := .int .i64 t) (u1 := .slice p1 m1 d1) (u2 := .slice p2 m2 d2) (by have := HZ.out; omega)
          have hD := (((HD.out.ext hx1).set (p := ⟨w.heap.size, j * 3, none⟩) (by simp) (.int .i64 t)).set (p := ⟨w.heap.size, j * 3 + 1, none⟩) (by simp) (.slice p1 m1 d1)).set (p := ⟨w.heap.size, j * 3 + 2, none⟩) (by simp) (.slice p2 m2 d2)
          refine DZ.snoc hD (fun p hp => S3_lt hp) (by rw [HMT.out]; exact f0) f1 f2 ?_ ?_ ?_ ?_ DJ.out (by omega) (by simp; omega)
          · rw [HM1.out]; exact own_set (own_set (own_set O1.out (by simp; omega) _) (by simp; omega) _) (by simp; omega) _
          · rw [HM2.out]; exact own_set (own_set (own_set O2.out (by simp; omega) _) (by simp; omega) _) (by simp; omega) _
          · intro k hk; have := L1 k hk; simp; omega
          · intro k hk; have := L2 k hk; simp; omega
        · exact Ext.grown (hE.trans hx1) ((s0.2.trans s1.2).trans s2.2) (fun k hk => by cases hk; exact Nat.le_refl _)
        · simp; omega
      case measure => simp [intOf]; omega
    · obtain rfl : j = n := by omega
      have hje' : ¬ (j : Int) < j := by omega
      go_wp2
      go_ret
      refine ⟨_, rfl, HD.out.rsp HW.out HZ.out (by omega) (fun k hk => ?_) (fun k h1 h2 => ⟨by omega, h2⟩), hE⟩
      have hk' : w.heap.size = k := by simpa [Value.ownBlock] using hk
      omega

end Go.Proofs.YtgefamclfjoogaaDoor
