/- Certificates: copies and their equality. -/
import Derived.Test.YtgefamclfjoogaaDoorCertC
namespace Go.Proofs.YtgefamclfjoogaaDoor
open Go.RowKit

def S3 (zs : List Value) (j : Nat) (u0 u1 u2 : Value) : List Value := ((zs.set (j * 3) u0).set (j * 3 + 1) u1).set (j * 3 + 2) u2
theorem S3_len (zs : List Value) (j : Nat) (u0 u1 u2 : Value) : (S3 zs j u0 u1 u2).length = zs.length := by simp [S3]
theorem S3_at {zs : List Value} {j : Nat} {u0 u1 u2 : Value} (h : j * 3 + 2 < zs.length) : (S3 zs j u0 u1 u2)[j * 3]? = some u0 ∧ (S3 zs j u0 u1 u2)[j * 3 + 1]? = some u1 ∧ (S3 zs j u0 u1 u2)[j * 3 + 2]? = some u2 := by
  unfold S3
  refine ⟨?_, ?_, ?_⟩
  · rw [List.getElem?_set_ne (by omega), List.getElem?_set_ne (by omega), List.getElem?_set_self (by omega)]
  · rw [List.getElem?_set_ne (by omega), List.getElem?_set_self (by simp; omega)]
  · rw [List.getElem?_set_self (by simp; omega)]
theorem S3_ne {zs : List Value} {j k : Nat} {u0 u1 u2 : Value} (h : k ≠ j) : (S3 zs j u0 u1 u2)[k * 3]? = zs[k * 3]? ∧ (S3 zs j u0 u1 u2)[k * 3 + 1]? = zs[k * 3 + 1]? ∧ (S3 zs j u0 u1 u2)[k * 3 + 2]? = zs[k * 3 + 2]? := by
  unfold S3
  refine ⟨?_, ?_, ?_⟩ <;> rw [List.getElem?_set_ne (by omega), List.getElem?_set_ne (by omega), List.getElem?_set_ne (by omega)]
/-- the first j replacements are copied -/
def DN (w : World) (base : Nat) (rs : List Rp) (zs : List Value) (j : Nat) : Prop :=
  ∀ (k : Nat) (h : k < rs.length), k < j → ∃ va vb, zs[k * 3]? = some (.int .i64 rs[k].t) ∧ zs[k * 3 + 1]? = some va ∧ zs[k * 3 + 2]? = some vb ∧ w.ownsRow base 79 3 va rs[k].m1 (IL rs[k].xs) ∧ w.ownsRow base 79 3 vb rs[k].m2 (IL rs[k].ys)

theorem info_repl : (Tryd.prog.info? 103).map (fun i => (i.zero, i.size, i.bytes)) = some (some (.agg #[.int .i64 0, .slice none 0 0, .slice none 0 0]), 3, 56) := by kernel_rfl

set_option maxRecDepth 20000 in
set_option maxHeartbeats 2000000 in
theorem toReplacementS_any {v : Value} {rs : List Rp} (hs : Small rs) (w : World) (h : RSV w v rs) :
    Calls Tryd.prog 35 #[v] w fun e w' => ∃ v', e = .returned v' ∧ RSO w' w.heap.size v' rs ∧ Ext w w' := by
  obtain ⟨i0, hi, hz0, hz1, hz2⟩ := info_parts info_repl
  obtain ⟨hs0, hs1⟩ := hs
  have HS := Lib.hid hs1
  obtain ⟨a, cap, rfl, c1, c2, H⟩ := h
  have HH := Lib.hid H
  clear H hs1
  have hl0 : (madeCells (Value.agg #[.int .i64 0, .slice none 0 0, .slice none 0 0]).cells (rs.length * 3)).toList.length = rs.length * 3 := by simp [madeCells]
  go_enter Tryd.func35, Tryd.ntmps35
  go_wp2_with (at_make; refine wpList_make_full _ rfl _ _ _ rfl w.heap.size 103 i0 (.agg #[.int .i64 0, .slice none 0 0, .slice none 0 0]) 3 Tryd.underlying40 hi hz0 hz1 .i64 .i64 _ _ rs.length rfl rfl rfl rfl (by rw [hz2]; omega) (by simp only [maxLen]; omega) (Nat.le_refl _) ?_; intro w0 own0 hg0; generalize (madeCells (Value.agg #[.int .i64 0, .slice none 0 0, .slice none 0 0]).cells (rs.length * 3)).toList = zs0 at own0 hl0; have HO := Lib.hid own0; have hsz0 : w.heap.size < w0.heap.size := (own0.lt w.heap.size rfl).2; clear own0)
  have hx0 : Ext w w0 := Ext.grown (Ext.refl w) hg0 (fun k hk => by cases hk)
  go_loopw [4] (fun i wr => ∃ (j : Nat) (zs : List Value), j ≤ rs.length ∧ i = .int .i64 j ∧ wr.ownsRow w.heap.size 103 3 (.slice (some ⟨w.heap.size, 0, none⟩) rs.length rs.length) rs.length zs ∧ zs.length = rs.length * 3 ∧ DN wr (w.heap.size + 1) rs zs j ∧ Ext w wr ∧ w.heap.size < wr.heap.size) (fun i _ => rs.length - (intOf i).toNat)
  case atStart => exact ⟨0, zs0, by omega, rfl, HO.out, hl0, fun k h hk => absurd hk (by omega), hx0, hsz0⟩
  case round =>
    obtain ⟨j, zs, hj, rfl, hown, hzl, hdn, hE, hsz⟩ := hrel
    have HW := Lib.hid hown
    have HD := Lib.hid hdn
    have HZ := Lib.hid hzl
    clear hown hdn hzl
    by_cases hlt : j < rs.length
    · have hlt' : (j : Int) < rs.length := by omega
      obtain ⟨b, off, rfl, hbk, hcell⟩ := HH.out (by omega)
      obtain ⟨va, vb, z0', z1', z2', r1, r2⟩ := hcell j hlt
      obtain ⟨s1, s2, s3, s4⟩ := HS.out j hlt
      clear hcell
      have hbr : b < wr.heap.size := by have := hE.size; omega
      have z0 := (hE.cells.1 b _ hbk).trans z0'
      have z1 := (hE.cells.1 b _ hbk).trans z1'
      have z2 := (hE.cells.1 b _ hbk).trans z2'
      have HT := Lib.hid (toReplacement_any rs[j].t (by omega) (by omega) wr (r1.ext hE) (r2.ext hE))
      obtain ⟨_, aa, ca, rfl, _, _, _⟩ := r1
      obtain ⟨_, ab, cb, rfl, _, _, _⟩ := r2
      clear z0' z1' z2' s3 s4
      go_wp2_with fail
      refine HT.out.mono ?_
      rintro e w1 ⟨u1, u2, rfl, o1, o2, _, hx1⟩
      obtain ⟨hc1, hf1⟩ := hx1.cells
      have hz1 := hx1.size
      try simp at hz1
      obtain ⟨p1, d1, rfl, e1, e2, e3⟩ := own_shape o1
      obtain ⟨p2, d2, rfl, e4, e5, e6⟩ := own_shape o2
      have O1 := Lib.hid (own_base (base' := w.heap.size + 1) o1 (by omega))
      have O2 := Lib.hid (own_base (base' := w.heap.size + 1) o2 (by omega))
      clear o1 o2 e3 e6
      have HW1 := Lib.hid (own_ext HW.out hx1)
      obtain ⟨y0, q0⟩ := own_at HW.out HZ.out (k := j * 3) (by omega)
      obtain ⟨y1, q1⟩ := own_at HW.out HZ.out (k := j * 3 + 1) (by omega)
      obtain ⟨y2, q2⟩ := own_at HW.out HZ.out (k := j * 3 + 2) (by omega)
      have hfr := HW.out.frozenAt
      generalize hmt : rs[j].t = t at *
      have HMT := Lib.hid hmt
      clear hmt
      generalize hm1 : rs[j].m1 = m1 at *
      have HM1 := Lib.hid hm1
      clear hm1
      generalize hm2 : rs[j].m2 = m2 at *
      have HM2 := Lib.hid hm2
      clear hm2
      go_wp2
      go_roundw
      case rel =>
        have s0 := World.ownsRow.stored (HW1.out) (j * 3) (.int .i64 t)
        have s1 := World.ownsRow.stored (s0.1) (j * 3 + 1) (.slice p1 m1 d1)
        have s2 := World.ownsRow.stored (s1.1) (j * 3 + 2) (.slice p2 m2 d2)
        refine ⟨j + 1, S3 zs j (.int .i64 t) (.slice p1 m1 d1) (.slice p2 m2 d2), by omega, by go_num, s2.1, by rw [S3_len]; exact HZ.out, ?_, ?_, ?_⟩
        · intro k hk hkj
          by_cases e : k = j
          · subst e
            obtain ⟨f0, f1, f2⟩ := S3_at (zs := zs) (j := k) (u0 := .int .i64 t) (u1 := .slice p1 m1 d1) (u2 := .slice p2 m2 d2) (by have := HZ.out; omega)
            rw [HMT.out, HM1.out, HM2.out]
            exact ⟨_, _, f0, f1, f2, own_set (own_set (own_set O1.out (by simp) _) (by simp) _) (by simp) _, own_set (own_set (own_set O2.out (by simp) _) (by simp) _) (by simp) _⟩
          · obtain ⟨xa, xb, f0, f1, f2, f3, f4⟩ := HD.out k hk (by omega)
            obtain ⟨n0, n1, n2⟩ := S3_ne (zs := zs) (j := j) (k := k) (u0 := .int .i64 t) (u1 := .slice p1 m1 d1) (u2 := .slice p2 m2 d2) e
            exact ⟨xa, xb, n0.trans f0, n1.trans f1, n2.trans f2, own_set (own_set (own_set (own_ext f3 hx1) (by simp) _) (by simp) _) (by simp) _, own_set (own_set (own_set (own_ext f4 hx1) (by simp) _) (by simp) _) (by simp) _⟩
        · exact Ext.grown (hE.trans hx1) ((s0.2.trans s1.2).trans s2.2) (fun k hk => by cases hk; exact Nat.le_refl _)
        · simp; omega
      case measure => simp [intOf]; omega
    · obtain hje : j = rs.length := by omega
      have hje' : ¬ (j : Int) < rs.length := by omega
      go_wp2
      go_ret
      refine ⟨_, rfl, ⟨zs, HW.out, HZ.out, fun k hk => ?_⟩, hE⟩
      obtain ⟨xa, xb, f0, f1, f2, f3, f4⟩ := HD.out k hk (by omega)
      exact ⟨xa, xb, f0, f1, f2, own_base f3 (by omega), own_base f4 (by omega)⟩

end Go.Proofs.YtgefamclfjoogaaDoor
