/- Two-level matrices: the reference's small parts. -/
import Derived.Test.YtamiploliebplaaDoorTlL
import Derived.Test.YtamiploliebplaaDoorCpT
import Derived.Test.YtamiploliebplaaDoorWro
import Derived.Test.YtamiploliebplaaDoorDyA
import Derived.Test.YtamiploliebplaaDoorSlB
namespace Go.Proofs.YtamiploliebplaaDoor
open Go.RowKit Go.Lib
set_option linter.unusedVariables false
set_option linter.unusedSimpArgs false

theorem om_small {M : Nat} (h : M < 8) : om M = turns M R4.one := by unfold om; rw [Nat.mod_eq_of_lt h]
theorem l2PowerT_any (M : Nat) (hM : M < 8) (w : World) :
    Calls Tryd.prog 85 #[.int .i64 M] w fun e w' => e = .returned (.agg #[.int .i64 (om M).a, .int .i64 (om M).b, .int .i64 (om M).c, .int .i64 (om M).d, .int .i64 0]) ∧ Ext w w' := by
  have H := fun w' => Lib.hid (l1Turn_any R4.one (by decide) M (by omega) w')
  rw [← om_small hM] at H
  generalize om M = Y at *
  unfold R4.one at H
  dsimp only at H
  go_enter Tryd.func85, Tryd.ntmps85
  go_wp2_with fail
  refine ((H _).out).mono ?_
  rintro e w1 ⟨rfl, hx1⟩
  obtain ⟨hc1, hf1⟩ := hx1.cells
  have hz1 := hx1.size
  try simp at hz1
  have hs1_0 := sz1 (a := w.heap.size) (b := w1.heap.size) (by omega)
  go_wp2
  refine bodyPost_ret (v := .agg #[.int .i64 Y.a, .int .i64 Y.b, .int .i64 Y.c, .int .i64 Y.d, .int .i64 0]) (by simp [results, Tryd.results85, go_sem, *]) rfl ?_
  exact ⟨rfl, (by repeat (first | (with_reducible refine Ext.setCell ?_ (by first | (simp; done) | (simp; omega)) _) | with_reducible refine Ext.alloc ?_ _ | with_reducible refine Ext.drew ?_ | with_reducible refine Ext.drewN ?_ _ | with_reducible assumption | with_reducible exact Ext.refl _ | with_reducible refine Ext.trans ?_ (by with_reducible assumption)))⟩

/-- the unit matrix, its first columns set -/
def unX (n i : Nat) (p : Nat) : R4 := oz (p / n == p % n && decide (p % n < i))
theorem un_step {n i N : Nat} (hi : i < n) : moL (upX (unX n i) (i * n + i) R4.one) (upE (fun _ => 0) (i * n + i) 0) N = moL (unX n (i + 1)) (fun _ => 0) N := by
  refine moL_congr fun p _ => ?_
  have hp : p = p / n * n + p % n := by have := Nat.div_add_mod p n; rw [Nat.mul_comm] at this; omega
  obtain ⟨d1, d2⟩ := pair_dm (i := i) hi
  unfold upX upE unX
  dsimp only
  by_cases h1 : p = i * n + i
  · rw [if_pos h1, if_pos h1, h1, d1, d2]
    simp [oz]
  · rw [if_neg h1, if_neg h1]
    refine ⟨?_, rfl⟩
    by_cases h2 : p / n = p % n
    · have h3 : p % n ≠ i := fun e => h1 (by rw [hp, h2, e])
      have : (p % n < i) ↔ (p % n < i + 1) := by omega
      simp only [this]
    · have : (p / n == p % n) = false := by simpa using h2
      rw [this]
      rfl
theorem un_full {n N : Nat} (K : Int) (I J M : Nat) (hn : 0 < n) : moL (unX n n) (fun _ => 0) N = moL (lvX K I J M n 0) (fun p => (lvE K I J M n 0 p : Int)) N := by
  refine moL_congr fun p _ => ?_
  have hlt := Nat.mod_lt p hn
  unfold unX lvX lvE
  simp [hlt]
theorem un_zero (n N : Nat) : IL (moL (unX n 0) (fun _ => 0) N) = List.replicate (N * 5) (.int .i64 0) := by
  induction N with
  | zero => rfl
  | succ N ih =>
    have h : unX n 0 N = R4.zero := by simp [unX, oz]
    rw [moL_succ, ih, h, Nat.succ_mul, ← List.replicate_append_replicate]
    rfl
theorem made_zero (N : Nat) : (madeCells (Value.agg #[.int .i64 0, .int .i64 0, .int .i64 0, .int .i64 0, .int .i64 0]).cells (N * 5)).toList = List.replicate (N * 5) (.int .i64 0) := by
  refine List.ext_getElem? fun q => ?_
  by_cases h : q < N * 5
  · rw [List.getElem?_replicate, if_pos h]
    unfold madeCells
    simp only [Array.toList_map, Array.toList_range, List.getElem?_map, List.getElem?_range h, Option.map_some, Option.some.injEq]
    have h5 : q % 5 < 5 := Nat.mod_lt _ (by omega)
    show (#[Value.int .i64 0, .int .i64 0, .int .i64 0, .int .i64 0, .int .i64 0] : Array Value)[q % 5]! = _
    generalize q % 5 = r at *
    match r, h5 with
    | 0, _ => rfl
    | 1, _ => rfl
    | 2, _ => rfl
    | 3, _ => rfl
    | 4, _ => rfl
  · rw [List.getElem?_eq_none (by simp [madeCells]; omega), List.getElem?_eq_none (by simp; omega)]

theorem heap_sets5 {w : World} {g k p0 p1 p2 p3 p4 : Nat} {o : Obj} {x y z u v : Value} (hk : k ≠ g) (h : w.heap[k]? = some o) : (((((w.setCell ⟨g, p0, none⟩ x).setCell ⟨g, p1, none⟩ y).setCell ⟨g, p2, none⟩ z).setCell ⟨g, p3, none⟩ u).setCell ⟨g, p4, none⟩ v).heap[k]? = some o :=
  heap_set_ne hk (heap_set_ne hk (heap_set_ne hk (heap_set_ne hk (heap_set_ne hk h))))
/-- a cell of five stored into a row of one's own -/
theorem own_up {w : World} {base g cap N p : Nat} {X : Nat → R4} {E : Nat → Int} (h : w.ownsRow base 46 5 (.slice (some ⟨g, 0, none⟩) N cap) N (IL (moL X E N))) (hp : p < N) (x : R4) (e : Int) :
    (((((w.setCell ⟨g, p * 5, none⟩ (.int .i64 x.a)).setCell ⟨g, p * 5 + 1, none⟩ (.int .i64 x.b)).setCell ⟨g, p * 5 + 2, none⟩ (.int .i64 x.c)).setCell ⟨g, p * 5 + 3, none⟩ (.int .i64 x.d)).setCell ⟨g, p * 5 + 4, none⟩ (.int .i64 e)).ownsRow base 46 5 (.slice (some ⟨g, 0, none⟩) N cap) N (IL (moL (upX X p x) (upE E p e) N)) := by
  have s0 := World.ownsRow.stored h (p * 5) (.int .i64 x.a)
  have s1 := World.ownsRow.stored s0.1 (p * 5 + 1) (.int .i64 x.b)
  have s2 := World.ownsRow.stored s1.1 (p * 5 + 2) (.int .i64 x.c)
  have s3 := World.ownsRow.stored s2.1 (p * 5 + 3) (.int .i64 x.d)
  have s4 := World.ownsRow.stored s3.1 (p * 5 + 4) (.int .i64 e)
  have := moL_up X E hp x e
  unfold S5 at this
  rw [← this]
  exact s4.1

set_option maxRecDepth 20000 in
set_option maxHeartbeats 4000000 in
theorem l3Unit_any (n : Nat) (hn : 1 ≤ n ∧ n ≤ 8) (w : World) :
    Calls Tryd.prog 56 #[.int .i64 n] w fun en w' => ∃ g cap, en = .returned (.agg #[.int .i64 n, .int .i64 n, .slice (some ⟨g, 0, none⟩) (n * n) cap]) ∧
      w'.ownsRow w.heap.size 46 5 (.slice (some ⟨g, 0, none⟩) (n * n) cap) (n * n) (IL (moL (unX n n) (fun _ => 0) (n * n))) ∧ Ext w w' := by
  obtain ⟨i0, hi, iz0, iz1, iz2⟩ := info_parts info_dyadic
  have HP := fun w' => Lib.hid (l2PowerT_any 0 (by omega) w')
  rw [show om 0 = R4.one from rfl] at HP
  have hnn : n * n ≤ 64 := Nat.le_trans (Nat.mul_le_mul hn.2 hn.2) (by decide)
  obtain ⟨N, hN⟩ : ∃ N, n * n = N := ⟨_, rfl⟩
  have hNi : (n : Int) * n = (N : Int) := by rw [← hN]; push_cast; rfl
  have HZ : Hid ((madeCells (Value.agg #[.int .i64 0, .int .i64 0, .int .i64 0, .int .i64 0, .int .i64 0]).cells (N * 5)).toList = IL (moL (unX n 0) (fun _ => 0) N)) := (made_zero N).trans (un_zero n N).symm
  have HIN : Hid (∀ i, i < n → i * n + i < N) := fun i h => by
    rw [← hN]
    have : (i + 1) * n ≤ n * n := Nat.mul_le_mul_right n h
    rw [Nat.succ_mul] at this
    omega
  rw [hN] at hnn ⊢
  have HNN := Lib.hid hN
  clear hN
  have hwa : (w.alloc (.cells #[.int .i64 0, .int .i64 0, .slice none 0 0] 30)).heap.size = w.heap.size + 1 := by simp
  go_enter Tryd.func56, Tryd.ntmps56
  go_wp2_with (at_make; refine wpList_make_full _ rfl _ _ _ rfl (w.heap.size + 1) 46 i0 (.agg #[.int .i64 0, .int .i64 0, .int .i64 0, .int .i64 0, .int .i64 0]) 5 Tryd.underlying28 hi iz0 iz1 .i64 .i64 _ _ N rfl rfl rfl rfl (by rw [iz2]; omega) (by simp only [maxLen]; omega) (by simp) ?_; intro w0 own0 hg0; rw [HZ.out] at own0; rw [hwa] at own0; have HO := Lib.hid own0; have hsz0 : w.heap.size + 1 < w0.heap.size := (own0.lt (w.heap.size + 1) (by rfl)).2; have hR0 : Hid (w0.heap[w.heap.size]? = some (.cells #[.int .i64 0, .int .i64 0, .slice none 0 0] 30 (0, 0))) := (hg0.block _ (by simp) (fun h => by cases h)).trans (heap_alloc_new _ _); have hx0 : Ext w w0 := Ext.grown ((Ext.refl w).alloc _) hg0 (fun k hk => by cases hk); clear own0)
  go_loopw [4] (fun i wr => ∃ j : Nat, j ≤ n ∧ i = .int .i64 j ∧ Hid (wr.ownsRow (w.heap.size + 1) 46 5 (.slice (some ⟨w.heap.size + 1, 0, none⟩) N N) N (IL (moL (unX n j) (fun _ => 0) N))) ∧ Hid (wr.heap[w.heap.size]? = some (.cells #[.int .i64 0, .int .i64 0, .slice none 0 0] 30 (0, 0))) ∧ Hid (wr.heap[w0.heap.size]? = some (.cells #[.int .i64 n, .int .i64 n, .slice (some ⟨w.heap.size + 1, 0, none⟩) N N] 30 (0, 0))) ∧ Ext w wr) (fun i _ => n - (intOf i).toNat)
  case atStart => exact ⟨0, by omega, rfl, own_ext HO.out ((Ext.refl w0).alloc _), heap_alloc_lt hR0.out, heap_alloc_new _ _, hx0.alloc _⟩
  case round =>
    obtain ⟨j, hj, rfl, HW, HR, HB, hE⟩ := hrel
    have lB := (Array.getElem?_eq_some_iff.1 HB.out).1
    have zB := fun q => cell_of_row _ _ q _ _ _ HB.out
    have lR : w.heap.size < wr.heap.size := by omega
    by_cases hlt : j < n
    · have hlt' : (j : Int) < n := by omega
      obtain ⟨p, hp0⟩ : ∃ p, j * n + j = p := ⟨_, rfl⟩
      have hpN : p < N := by rw [← hp0]; exact HIN.out j hlt
      have hpi : (j : Int) * n + j = (p : Int) := by rw [← hp0]; push_cast; rfl
      have hm1 := mul_bd (a := (j : Int)) (b := (n : Int)) (A := 8) (B := 8) (by omega) (by omega) (by omega) (by omega)
      have hpN' : (p : Int) < N := by omega
      have HP0 := Lib.hid hp0
      clear hp0
      have hl5 : (IL (moL (unX n j) (fun _ => 0) N)).length = N * 5 := by rw [il_length, moL_len]
      have HL5 := Lib.hid hl5
      clear hl5
      have HWW := Lib.hid HW.out
      go_wp2
      refine Wr.wp_region_wr (m := 27) [⟨w0.heap.size, 30, #[.int .i64 n, .int .i64 n, .slice (some ⟨w.heap.size + 1, 0, none⟩) N N]⟩] (by kernel_rfl) (by kernel_rfl) rfl (by simp; try omega) ?_ ?_
      · intro s hs
        rcases s with _ | s
        · exact (show (World.heap _)[w0.heap.size]? = some (Obj.cells #[.int .i64 n, .int .i64 n, .slice (some ⟨w.heap.size + 1, 0, none⟩) N N] 30 (0, 0)) from HB.out)
        · simp at hs
          try omega
      (refine Wr.ww_plain ?_; apply Exists.intro; refine ⟨?_, ?_⟩; (first | (go_simp; (try intro x); (try go_bits); rfl)); simp only [Act.put, List.setIfInBounds_toArray, List.set_cons_succ, List.set_cons_zero, List.nil_append, List.cons_append])
      refine Wr.ww_read 0 (w0.heap.size) 30 #[.int .i64 n, .int .i64 n, .slice (some ⟨w.heap.size + 1, 0, none⟩) N N] (by simp) rfl rfl rfl (fun hr => ?_)
      apply Exists.intro
      refine ⟨?_, ?_⟩
      · go_simp
        (try intro x)
        (try go_bits)
        rfl
      clear hr
      simp only [Act.put, List.setIfInBounds_toArray, List.set_cons_succ, List.set_cons_zero, List.nil_append, List.cons_append]
      (refine Wr.ww_plain ?_; apply Exists.intro; refine ⟨?_, ?_⟩; (first | (go_simp; (try intro x); (try go_bits); rfl)); simp only [Act.put, List.setIfInBounds_toArray, List.set_cons_succ, List.set_cons_zero, List.nil_append, List.cons_append])
      (refine Wr.ww_plain ?_; apply Exists.intro; refine ⟨?_, ?_⟩; (first | (go_simp; (try intro x); (try go_bits); rfl)); simp only [Act.put, List.setIfInBounds_toArray, List.set_cons_succ, List.set_cons_zero, List.nil_append, List.cons_append])
      (refine Wr.ww_plain ?_; apply Exists.intro; refine ⟨?_, ?_⟩; (first | (go_simp; (try intro x); (try go_bits); rfl)); simp only [Act.put, List.setIfInBounds_toArray, List.set_cons_succ, List.set_cons_zero, List.nil_append, List.cons_append])
      (refine Wr.ww_plain ?_; apply Exists.intro; refine ⟨?_, ?_⟩; (first | (go_simp; (try intro x); (try go_bits); rfl)); simp only [Act.put, List.setIfInBounds_toArray, List.set_cons_succ, List.set_cons_zero, List.nil_append, List.cons_append])
      (refine Wr.ww_plain ?_; apply Exists.intro; refine ⟨?_, ?_⟩; (first | (go_simp; (try intro x); (try go_bits); rfl)); simp only [Act.put, List.setIfInBounds_toArray, List.set_cons_succ, List.set_cons_zero, List.nil_append, List.cons_append])
      (refine Wr.ww_plain ?_; apply Exists.intro; refine ⟨?_, ?_⟩; (first | (go_simp; (try intro x); (try go_bits); rfl) | (go_simp; intro x; go_at_call 85; exact (HP _).out)); simp only [Act.put, List.setIfInBounds_toArray, List.set_cons_succ, List.set_cons_zero, List.nil_append, List.cons_append])
      (refine Wr.ww_plain ?_; apply Exists.intro; refine ⟨?_, ?_⟩; (first | (go_simp; (try intro x); (try go_bits); rfl)); simp only [Act.put, List.setIfInBounds_toArray, List.set_cons_succ, List.set_cons_zero, List.nil_append, List.cons_append])
      refine Wr.ww_stop (by kernel_rfl) (by kernel_rfl) (fun w3 hg3 hs3 => ?_)
      have hb3_0 : w3.heap[w0.heap.size]? = some (.cells #[.int .i64 n, .int .i64 n, .slice (some ⟨w.heap.size + 1, 0, none⟩) N N] 30 (0, 0)) := hs3 0 (by simp)
      clear hs3
      simp only [List.map_cons, List.map_nil] at hg3
      have hgE : GX [w0.heap.size] wr w3 := hg3
      have HX3 : Hid (Ext wr w3) := (GX.same (S := []) hgE (hb3_0.trans HB.out.symm)).toExt (by simp)
      have HW3 := Lib.hid (own_ext HWW.out HX3.out)
      obtain ⟨y0, q0⟩ := own_at HW3.out HL5.out (k := p * 5) (by omega)
      obtain ⟨y1, q1⟩ := own_at HW3.out HL5.out (k := p * 5 + 1) (by omega)
      obtain ⟨y2, q2⟩ := own_at HW3.out HL5.out (k := p * 5 + 2) (by omega)
      obtain ⟨y3, q3⟩ := own_at HW3.out HL5.out (k := p * 5 + 3) (by omega)
      obtain ⟨y4, q4⟩ := own_at HW3.out HL5.out (k := p * 5 + 4) (by omega)
      have hfr := HW3.out.frozenAt
      have l3 : w.heap.size + 1 < w3.heap.size := (HW3.out.lt (w.heap.size + 1) (by rfl)).2
      go_wp2
      refine ⟨⟨j + 1, by omega, by go_num, ?_, heap_sets5 (by omega) ((HX3.out.heap lR).trans HR.out), heap_sets5 (by omega) hb3_0, ?_⟩, by simp [intOf]; omega⟩
      · have h := own_up HW3.out hpN R4.one 0
        rw [← HP0.out] at h
        rw [← HP0.out, ← un_step hlt]
        exact h
      · have hh : Ext w w3 := hE.trans HX3.out
        exact ((((hh.setCell (by simp) _).setCell (by simp) _).setCell (by simp) _).setCell (by simp) _).setCell (by simp) _
    · obtain rfl : j = n := by omega
      have hnlt : ¬ (j : Int) < j := by omega
      have zR := fun q => cell_of_row _ _ q _ _ _ HR.out
      have fR := fun q => frozen_of_row _ _ q _ _ HR.out
      have HEE := Lib.hid hE
      go_wp2
      refine bodyPost_ret (v := .agg #[.int .i64 j, .int .i64 j, .slice (some ⟨w.heap.size + 1, 0, none⟩) N N]) (by simp [results, Tryd.results56, go_sem, *]) rfl ?_
      have hee := HEE.out
      refine ⟨_, _, rfl, own_base (own_set (own_set (own_set HW.out (by simp) _) (by simp) _) (by simp) _) (by omega), (by repeat (first | (with_reducible refine Ext.setCell ?_ (by first | (simp; done) | (simp; omega)) _) | with_reducible refine Ext.alloc ?_ _ | with_reducible refine Ext.drew ?_ | with_reducible refine Ext.drewN ?_ _ | with_reducible assumption | with_reducible exact Ext.refl _ | with_reducible refine Ext.trans ?_ (by with_reducible assumption)))⟩

end Go.Proofs.YtamiploliebplaaDoor
