/- The draw of two circuits (DrawSameTrace). -/
import Derived.Test.YtbddgeoaaklgpaaTrD
import Derived.Test.YtbddgeoaaklgpaaTrQ
import Derived.Test.YtbddgeoaaklgpaaTrW
import Derived.Deep.RegionHeld3
namespace Go.Proofs.Ytbddgeoaaklgpaa
open Go.RowKit Go.Lib
set_option linter.unusedVariables false
set_option linter.unusedSimpArgs false

set_option maxRecDepth 20000 in
set_option maxHeartbeats 4000000 in
/-- the next number is settled ahead of the call -/
theorem next_fix (B : Nat) (v : Value) (n : Nat) (at' : Int) (w : World) (h : CU B v n at' w) (ha : 0 ≤ at' ∧ at' ≤ 1000000000) :
    ∃ y : Int, Calls Try.prog 63 #[.pointer (some ⟨B, 0, none⟩)] w fun e w' => e = .returned (.int .i64 y) ∧ 0 ≤ y ∧ y ≤ 255 ∧ w.grownBy w' (some B) ∧ CU B v n (at' + 1) w' := by
  obtain ⟨hby, s, hB⟩ := h
  have HBY := Lib.hid hby
  have HB := Lib.hid hB
  have hl : B < w.heap.size := (Array.getElem?_eq_some_iff.1 hB).1
  obtain ⟨a, cap, rfl, h2, h3, h4⟩ := hby
  have hcc : ∀ k, w.cell? ⟨B, k, none⟩ = (#[.slice a n cap, .int .i64 at', .int .u64 s] : Array Value)[k]? := fun k => cell_of_row _ _ _ _ _ _ hB
  have hff : ∀ k, w.frozen? ⟨B, k, none⟩ = false := fun k => frozen_of_row _ _ _ _ _ hB
  clear hB
  by_cases h0 : at' < n
  · obtain ⟨b, off, rfl, hb, hc⟩ := h4 (by omega)
    obtain ⟨y, hy, hy1, hy2⟩ := hc at'.toNat (by omega)
    clear hc h4
    refine ⟨y, ?_⟩
    go_enter Try.func63, Try.ntmps63
    go_wp2
    go_quiet (fail)
    go_wp2
    go_quiet (fail)
    go_wp2
    go_quiet (fail)
    go_wp2
    go_ret
    refine ⟨rfl, hy1, hy2, cu_close HBY.out hl ?_ ⟨_, heap_set_at (heap_set_at HB.out 1 _) 2 _⟩⟩
    exact (by repeat (first | (with_reducible refine GX.setCell ?_ (by first | (simp; done) | (simp; omega)) _) | with_reducible refine GX.alloc ?_ _ | with_reducible refine GX.drew ?_ | with_reducible refine GX.drewN ?_ _ | with_reducible assumption | with_reducible exact GX.refl _ _ | with_reducible refine GX.ext ?_ (by with_reducible assumption) | with_reducible refine GX.trans ?_ (by with_reducible assumption)))
  · refine ⟨wrap64 (bits BinOp.and IntKind.u64 (IntKind.u64.wrap (IntKind.u64.wrap (IntKind.u64.wrap (s * 6364136223846793005)) + 1442695040888963407) / 1099511627776) 255), ?_⟩
    go_enter Try.func63, Try.ntmps63
    go_wp2
    go_quiet (fail)
    go_wp2
    go_quiet (fail)
    go_wp2
    go_ret
    refine ⟨rfl, (low_byte _).1, (low_byte _).2, cu_close HBY.out hl ?_ ⟨_, heap_set_at (heap_set_at HB.out 1 _) 2 _⟩⟩
    exact (by repeat (first | (with_reducible refine GX.setCell ?_ (by first | (simp; done) | (simp; omega)) _) | with_reducible refine GX.alloc ?_ _ | with_reducible refine GX.drew ?_ | with_reducible refine GX.drewN ?_ _ | with_reducible assumption | with_reducible exact GX.refl _ _ | with_reducible refine GX.ext ?_ (by with_reducible assumption) | with_reducible refine GX.trans ?_ (by with_reducible assumption)))
theorem one_fix (B : Nat) (v : Value) (n : Nat) (at' : Int) (w : World) (h : CU B v n at' w) (ha : 0 ≤ at' ∧ at' ≤ 900000000) :
    ∃ y : Bool, Calls Try.prog 36 #[.pointer (some ⟨B, 0, none⟩), .int .i64 10] w fun e w' => e = .returned (.bool y) ∧ w.grownBy w' (some B) ∧ CU B v n (at' + 1) w' := by
  obtain ⟨y, hy⟩ := next_fix B v n at' w h (by omega)
  have HY := Lib.hid hy
  clear hy h
  have HP : Hid (∃ z : Int, Calls Try.prog 39 #[.pointer (some ⟨B, 0, none⟩), .int .i64 10] w fun e w' => e = .returned (.int .i64 z) ∧ w.grownBy w' (some B) ∧ CU B v n (at' + 1) w') := by
    apply Exists.intro
    go_enter Try.func39, Try.ntmps39
    go_wp2_with fail
    refine (HY.out).mono ?_
    rintro e w1 ⟨rfl, hy1, hy2, hg1, hc1⟩
    have HC1 := Lib.hid hc1
    have HG1 := Lib.hid hg1
    clear hc1 hg1
    go_wp2
    go_ret
    exact ⟨rfl, HG1.out, HC1.out⟩
  obtain ⟨z, hz⟩ := HP.out
  have HZ := Lib.hid hz
  clear hz HP HY
  refine ⟨z == 0, ?_⟩
  go_enter Try.func36, Try.ntmps36
  go_wp2_with fail
  refine HZ.out.mono ?_
  rintro e w1 ⟨rfl, hg1, hc1⟩
  have HC1 := Lib.hid hc1
  have HG1 := Lib.hid hg1
  clear hc1 hg1
  go_wp2
  go_ret
  exact ⟨rfl, HG1.out, HC1.out⟩

theorem cu_newT2 {w : World} {v : Value} {n : Nat} (h : BY w.heap.size w v n) (o o' : Obj) : CU (w.heap.size + 1 + 1) v n 0 (((w.alloc o).alloc o').alloc (.cells #[v, .int .i64 0, .int .u64 0] 77)) := by
  have := cu_new (h.later (((Ext.refl w).alloc o).alloc o'))
  rwa [show ((w.alloc o).alloc o').heap.size = w.heap.size + 1 + 1 by simp] at this
theorem step_callsG {P : Program} {ops : Array Oper} {o : Oper} {a : Act} {w : World} {K : Act → World → Prop} {Q : Exit → Act → World → Prop} {R : Prop} (hw : Region.wanted o (yielded ops a.tmps) = true) {f : FuncId} {args : Array Value} {post : Ending → World → Prop}
    (hrun : (execOp a.eval o).run P w = .ok (.enter f args) w) (hc : Calls P f args w post) (h : ∀ e w', post e w' → ∃ v, e = .returned v ∧ K (a.put o.dst v) w') :
    if Region.wanted o (yielded ops a.tmps) = true then Oper.wp P o a w K Q else R := by
  rw [if_pos hw]
  unfold Oper.wp
  rw [hrun, Oper.upon_enter]
  refine hc.mono ?_
  intro e w' hp
  obtain ⟨v, rfl, hk⟩ := h e w' hp
  exact hk
/-- the state of the second draw: b's gates, the cursor -/
structure DS (w3 : World) (B b6 : Nat) (v : Value) (n : Nat) (q : Int) (vb : Value) (N : Nat) (L : List Int) (a : Int) (wr : World) : Prop where
  own : wr.ownsRow w3.heap.size 47 3 vb N (IL L)
  bx : wr.heap[b6]? = some (.cells #[.int .i64 q, vb] 25 (0, 0))
  df : ∀ k, vb.ownBlock = some k → k ≠ b6
  cu : CU B v n a wr
  gx : GX [B] w3 wr

section
variable {w3 : World} {B b6 : Nat} {v : Value} {n : Nat} {q : Int} {vb : Value} {N : Nat} {L : List Int} {a : Int} {wr : World}
theorem DS.gxx {w' : World} {a' : Int} (h : DS w3 B b6 v n q vb N L a wr) (hg : GX [B] wr w') (hc : CU B v n a' w') (hB : B < w3.heap.size) (hb : b6 ≠ B) : DS w3 B b6 v n q vb N L a' w' :=
  ⟨own_gx h.own hg (by simp; exact hB), (hg.heap (Array.getElem?_eq_some_iff.1 h.bx).1 (by simpa using hb)).trans h.bx, h.df, hc, h.gx.trans hg⟩
theorem DS.ext {w' : World} (h : DS w3 B b6 v n q vb N L a wr) (hx : Ext wr w') : DS w3 B b6 v n q vb N L a w' :=
  ⟨own_ext h.own hx, (hx.heap (Array.getElem?_eq_some_iff.1 h.bx).1).trans h.bx, h.df, h.cu.keep hx, h.gx.ext hx⟩
theorem DS.set {g c : Nat} (h : DS w3 B b6 v n q (.slice (some ⟨g, 0, none⟩) N c) N L a wr) (hB : B < w3.heap.size) (j : Nat) (z : Int) : DS w3 B b6 v n q (.slice (some ⟨g, 0, none⟩) N c) N (L.set j z) a (wr.setCell ⟨g, j, none⟩ (.int .i64 z)) := by
  have hl := World.ownsRow.lt h.own g rfl
  have s := World.ownsRow.stored h.own j (.int .i64 z)
  have e : (IL L).set j (.int .i64 z) = IL (L.set j z) := by simp [IL, List.map_set]
  rw [e] at s
  exact ⟨s.1, heap_grown s.2 h.bx (fun e => by cases e; exact h.df b6 rfl rfl), h.df, h.cu.set (by show B < g; omega) _, h.gx.setCell (.inr hl.1) _⟩
end

set_option maxRecDepth 20000 in
set_option maxHeartbeats 16000000 in
theorem drawSameTrace_any (v : Value) (n : Nat) (w : World) (h : BY w.heap.size w v n) :
    Calls Try.prog 13 #[v] w fun e w' => ∃ (q1 q2 : Int) (v1 v2 : Value), e = .returned (.tuple #[.agg #[.int .i64 q1, v1], .agg #[.int .i64 q2, v2]]) ∧ (0 ≤ q1 ∧ q1 ≤ 10) ∧ (0 ≤ q2 ∧ q2 ≤ 10) ∧ DT w.heap.size 10 q1 v1 w' ∧ DT w.heap.size 10 q2 v2 w' ∧ Ext w w' := by
  have HC := Lib.hid (cu_newT2 h (.cells #[.int .i64 0, .slice none 0 0] 25) (.cells #[.int .i64 0, .slice none 0 0] 25))
  have hP := fun a m w' (hc : CU (w.heap.size + 1 + 1) v n a w') (hb : 0 ≤ a ∧ a ≤ 900000000) (hm : m ≤ 65536) => Lib.hid (pick_any (w.heap.size + 1 + 1) v n a m w' hc hb hm)
  have hO := fun a m w' (hc : CU (w.heap.size + 1 + 1) v n a w') (hb : 0 ≤ a ∧ a ≤ 900000000) (hm : m ≤ 65536) => Lib.hid (one_any (w.heap.size + 1 + 1) v n a m w' hc hb hm)
  have hX := fun a w' (hc : CU (w.heap.size + 1 + 1) v n a w') (hb : 0 ≤ a ∧ a ≤ 900000000) => Lib.hid (one_fix (w.heap.size + 1 + 1) v n a w' hc hb)
  have hA := fun a w' (hc : CU (w.heap.size + 1 + 1) v n a w') (hb : 0 ≤ a ∧ a ≤ 300000000) => Lib.hid (curAnyCircuit_any (w.heap.size + 1 + 1) v n a w' hc hb)
  have hF := fun a w' (hc : CU (w.heap.size + 1 + 1) v n a w') (hb : 0 ≤ a ∧ a ≤ 300000000) => Lib.hid (curParallel_any (w.heap.size + 1 + 1) v n a w' hc (by omega) 8 (by omega))
  have hCm := fun k a b k' a' b' w' => Lib.hid (l24Common_any k a b k' a' b' w')
  obtain ⟨ad, cap, rfl, -, -, -⟩ := h
  obtain ⟨W0, hW0⟩ : ∃ W0, W0 = (w.alloc (.cells #[.int .i64 0, .slice none 0 0] 25 (0, 0))).alloc (.cells #[.int .i64 0, .slice none 0 0] 25 (0, 0)) := ⟨_, rfl⟩
  have HR0 : Hid (W0.heap[w.heap.size]? = some (.cells #[.int .i64 0, .slice none 0 0] 25 (0, 0))) := by rw [hW0]; exact heap_alloc_lt (heap_alloc_new _ _)
  have HR1 : Hid (W0.heap[w.heap.size + 1]? = some (.cells #[.int .i64 0, .slice none 0 0] 25 (0, 0))) := by rw [hW0]; exact heap_alloc_at _ _ _ (by simp)
  have HEW : Hid (Ext w W0) := by rw [hW0]; exact ((Ext.refl w).alloc _).alloc _
  have hsW : W0.heap.size = w.heap.size + 1 + 1 := by rw [hW0]; simp
  have hsW' : w.heap.size + 1 < W0.heap.size := by omega
  have HC0 : Hid (CU (w.heap.size + 1 + 1) (.slice ad n cap) n 0 (W0.alloc (.cells #[.slice ad n cap, .int .i64 0, .int .u64 0] 77))) := by rw [hW0]; exact HC.out
  go_enter Try.func13, Try.ntmps13
  go_upto_region 1 with fail
  rw [← hW0]
  clear hW0 HC
  go_wp2_with fail
  refine ((hF _ _ HC0.out (by omega)).out).mono ?_
  rintro e w1 ⟨q, vm, rfl, hq, N, L, a1, hN, hL, ho, r1, s1, hg1, hc1⟩
  obtain ⟨av, cv, rfl, _, _, _⟩ := own_shape ho
  have HO := Lib.hid ho
  have HG1 : Hid (GX [w.heap.size + 1 + 1] W0 w1) := Lib.hid (((GX.refl _ W0).alloc _).trans (GX.ofGrown hg1))
  have HC1 := Lib.hid hc1
  have hl1 : w.heap.size + 1 + 1 < w1.heap.size := hc1.lt
  clear ho hg1 hc1 HC0
  go_wp2_with fail
  refine ((hO _ _ _ (HC1.out.box _) (by omega) (by omega)).out).mono ?_
  rintro e w2 ⟨y, a2, rfl, r2, s2, hg2, hc2⟩
  have HG2 : Hid (GX [w.heap.size + 1 + 1] W0 w2) := Lib.hid ((HG1.out.alloc _).trans (GX.ofGrown hg2))
  have HC2 := Lib.hid hc2
  have HBa : Hid (w2.heap[w1.heap.size]? = some (.cells #[.int .i64 q, .slice av N cv] 25 (0, 0))) := Lib.hid (((GX.ofGrown hg2).heap (k := w1.heap.size) (by simp) (by simp; omega)).trans (heap_alloc_new _ _))
  have HO2 : Hid (w2.ownsRow (w.heap.size + 3) 47 3 (.slice av N cv) N (IL L)) := Lib.hid (own_gx (own_ext (own_base HO.out (by simp; omega)) ((Ext.refl _).alloc _)) (GX.ofGrown hg2) (by simp))
  have hs2 := hg2.size
  simp at hs2
  clear hg2 hc2 HO HG1 HC1
  have hba2 := (Array.getElem?_eq_some_iff.1 HBa.out).1
  cases y
  · have z5 := fun k => cell_of_row _ _ k _ _ _ HBa.out
    have ROA := Lib.hid (l4Own_any q (by omega) w2 (RV.own HO2.out hL))
    go_wp2_with fail
    refine ROA.out.mono ?_
    rintro e w3 ⟨vb, rfl, ob, hx3⟩
    obtain ⟨ab, cb, rfl, _, _, _⟩ := own_shape ob
    have OB := Lib.hid ob
    have X3 := Lib.hid hx3
    have hs3 := hx3.size
    clear ob hx3 z5 ROA
    go_wp2_with fail
    refine ((hP _ _ _ (HC2.out.keep (X3.out.alloc _)) (by omega) (by omega)).out).mono ?_
    rintro e w4 ⟨k4, a4, rfl, p4, q4, r4, s4, hg4, hc4⟩
    have u4 : k4 < 7 := by omega
    obtain ⟨K, rfl⟩ : ∃ K : Nat, k4 = K := ⟨k4.toNat, by omega⟩
    have hs4 := hg4.size
    simp at hs4
    have HS4 : Hid (DS w2 (w.heap.size + 1 + 1) w3.heap.size (.slice ad n cap) n q (.slice ab N cb) N L a4 w4) := Lib.hid ⟨own_gx (own_ext OB.out ((Ext.refl _).alloc _)) (GX.ofGrown hg4) (by simp; omega), ((GX.ofGrown hg4).heap (k := w3.heap.size) (by simp) (by simp; omega)).trans (heap_alloc_new _ _), fun k hk => by have := (World.ownsRow.lt OB.out k hk).2; omega, hc4, ((GX.ofExt (S := [w.heap.size + 1 + 1]) X3.out).alloc _).trans (GX.ofGrown hg4)⟩
    have HLL := Lib.hid hL
    clear hg4 hc4 q4 OB
    go_wp2
    go_loopw [7] (fun s7 wr => ∃ (k : Nat) (L' : List Int) (a : Int), s7 = .int .i64 k ∧ Hid (L'.length = N * 3) ∧ 0 ≤ a ∧ a + 10 * k ≤ 400 ∧ Hid (DS w2 (w.heap.size + 1 + 1) w3.heap.size (.slice ad n cap) n q (.slice ab N cb) N L' a wr)) (fun s7 _ => (intOf s7).toNat)
    case atStart => exact ⟨K, L, a4, rfl, HLL, by omega, by omega, HS4⟩
    case round =>
      obtain ⟨k, L', a, rfl, HLn, ha, hak, HS⟩ := hrel
      have z6 := fun k => cell_of_row _ _ k _ _ _ HS.out.bx
      have l6 := (Array.getElem?_eq_some_iff.1 HS.out.bx).1
      by_cases hk : 0 < k
      · have hk' : (0 : Int) < (k : Int) := by omega
        by_cases hN1 : 1 < N
        · have hN' : (1 : Int) < (N : Int) := by omega
          go_wp2_with fail
          refine ((hP _ _ _ HS.out.cu (by omega) (by omega)).out).mono ?_
          rintro e w5 ⟨i5, a5, rfl, p5, q5, r5, s5, hg5, hc5⟩
          have u5 : i5 < (N : Int) - 1 := by omega
          obtain ⟨I, rfl⟩ : ∃ I : Nat, i5 = I := ⟨i5.toNat, by omega⟩
          have hs5 := hg5.size
          have HS5 := Lib.hid (HS.out.gxx (GX.ofGrown hg5) hc5 (by omega) (by omega))
          clear hg5 hc5 q5 z6 HS l6
          obtain ⟨_, _, ee, n1, n2, hg⟩ := own_shape HS5.out.own
          cases ee
          obtain ⟨gb, rfl, hgb1, hgb2, -, -⟩ := hg (by omega)
          obtain ⟨J, hJ⟩ : ∃ J, I + 1 = J := ⟨_, rfl⟩
          have eJ : (I : Int) + 1 = (J : Int) := by omega
          have hJN : J < N := by omega
          have hIN : I < N := by omega
          have hJN' : (J : Int) < (N : Int) := by omega
          have hIN' : (I : Int) < (N : Int) := by omega
          have hIJ : I < J := by omega
          have hJc : J < cb := by omega
          have hIc : I < cb := by omega
          clear hJ hg
          obtain ⟨y, hy⟩ := (hX a5 w5.drew (HS5.out.cu.keep (Ext.refl _).drew) (by omega)).out
          have HY := Lib.hid hy
          clear hy
          obtain ⟨x0, hx0⟩ : ∃ z, at3 L' (I * 3) = z := ⟨_, rfl⟩
          obtain ⟨x1, hx1⟩ : ∃ z, at3 L' (I * 3 + 1) = z := ⟨_, rfl⟩
          obtain ⟨x2, hx2⟩ : ∃ z, at3 L' (I * 3 + 2) = z := ⟨_, rfl⟩
          obtain ⟨y0, hy0⟩ : ∃ z, at3 L' (J * 3) = z := ⟨_, rfl⟩
          obtain ⟨y1, hy1⟩ : ∃ z, at3 L' (J * 3 + 1) = z := ⟨_, rfl⟩
          obtain ⟨y2, hy2⟩ : ∃ z, at3 L' (J * 3 + 2) = z := ⟨_, rfl⟩
          have HZ : Hid (∀ (a' : Int) (W : World), DS w2 (w.heap.size + 1 + 1) w3.heap.size (.slice ad n cap) n q (.slice (some ⟨gb, 0, none⟩) N cb) N L' a' W → W.cell? ⟨gb, I * 3, none⟩ = some (.int .i64 x0) ∧ W.cell? ⟨gb, I * 3 + 1, none⟩ = some (.int .i64 x1) ∧ W.cell? ⟨gb, I * 3 + 2, none⟩ = some (.int .i64 x2) ∧ W.cell? ⟨gb, J * 3, none⟩ = some (.int .i64 y0) ∧ W.cell? ⟨gb, J * 3 + 1, none⟩ = some (.int .i64 y1) ∧ W.cell? ⟨gb, J * 3 + 2, none⟩ = some (.int .i64 y2)) := Lib.hid (fun a' W h => by
            have hL' := HLn.out
            rw [← hx0, ← hx1, ← hx2, ← hy0, ← hy1, ← hy2]
            exact ⟨(World.ownsRow.cellAt h.own (I * 3) (by omega)).trans (at3_get (by omega)), (World.ownsRow.cellAt h.own (I * 3 + 1) (by omega)).trans (at3_get (by omega)), (World.ownsRow.cellAt h.own (I * 3 + 2) (by omega)).trans (at3_get (by omega)), (World.ownsRow.cellAt h.own (J * 3) (by omega)).trans (at3_get (by omega)), (World.ownsRow.cellAt h.own (J * 3 + 1) (by omega)).trans (at3_get (by omega)), (World.ownsRow.cellAt h.own (J * 3 + 2) (by omega)).trans (at3_get (by omega))⟩)
          clear hx0 hx1 hx2 hy0 hy1 hy2
          have hBw : w.heap.size + 1 + 1 < w2.heap.size := by omega
          have HSS : Hid (∀ (a' : Int) (W : World), DS w2 (w.heap.size + 1 + 1) w3.heap.size (.slice ad n cap) n q (.slice (some ⟨gb, 0, none⟩) N cb) N L' a' W → (fun W => W.cell? ⟨w3.heap.size, 1, none⟩ = some (.slice (some ⟨gb, 0, none⟩) N cb) ∧ W.cell? ⟨gb, I * 3, none⟩ = some (.int .i64 x0) ∧ W.cell? ⟨gb, I * 3 + 1, none⟩ = some (.int .i64 x1) ∧ W.cell? ⟨gb, I * 3 + 2, none⟩ = some (.int .i64 x2) ∧ W.cell? ⟨gb, J * 3, none⟩ = some (.int .i64 y0) ∧ W.cell? ⟨gb, J * 3 + 1, none⟩ = some (.int .i64 y1) ∧ W.cell? ⟨gb, J * 3 + 2, none⟩ = some (.int .i64 y2)) W) := Lib.hid (fun a' W h => ⟨cell_of_row _ _ 1 _ _ _ h.bx, HZ.out a' W h⟩)
          cases y
          · obtain ⟨g, hg⟩ : ∃ g, cmQ (qL x0 x1 x2) (qL y0 y1 y2) = g := ⟨_, rfl⟩
            have HCg := fun w' => hCm x0 x1 x2 y0 y1 y2 w'
            rw [hg] at HCg
            clear hg
            cases g
            · have hwJ : IntKind.i64.wrap (J : Int) = (J : Int) := IntWalk.i64_in _ (by omega)
              go_wp2
              refine wp_region_held_drew (S := (fun W => W.cell? ⟨w3.heap.size, 1, none⟩ = some (.slice (some ⟨gb, 0, none⟩) N cb) ∧ W.cell? ⟨gb, I * 3, none⟩ = some (.int .i64 x0) ∧ W.cell? ⟨gb, I * 3 + 1, none⟩ = some (.int .i64 x1) ∧ W.cell? ⟨gb, I * 3 + 2, none⟩ = some (.int .i64 x2) ∧ W.cell? ⟨gb, J * 3, none⟩ = some (.int .i64 y0) ∧ W.cell? ⟨gb, J * 3 + 1, none⟩ = some (.int .i64 y1) ∧ W.cell? ⟨gb, J * 3 + 2, none⟩ = some (.int .i64 y2))) (by kernel_rfl) ?_ (fun hHeld => ?_)
              focus
                exact HSS.out _ _ (HS5.out.ext (Ext.refl _).drew)
              refine wpAnyH_take (i := 0) (v := ?_) rfl (by kernel_rfl) (by kernel_rfl) (by kernel_rfl) (fun _ _ _ h => h) (Or.inl ⟨by rfl, ?_⟩) (by assumption) ?_
              rotate_left
              focus
                intro W hSw
                try dsimp only at hSw
                go_simp
                try with_reducible rfl
              try simp only [Act.put, List.getElem_toArray, List.getElem_cons_succ, List.getElem_cons_zero, List.setIfInBounds_toArray, List.set_cons_zero, List.set_cons_succ]
              refine wpAnyH_ready (rs := [1]) (by kernel_rfl) (by simp) ?_
              refine AllReadyH.cons (o := { dst := some 41, op := Op.call { callee := Callee.value (Operand.func 36), args := #[Operand.tmp 40, Operand.const (Value.int IntKind.i64 10)], argTypes := #[75, 3] }, type := 4, pos := "l24_scheduling.go:365", after := #[{ on := 0, ground := Ground.data }], guard := none }) rfl (fun K hK => ?_) AllReadyH.nil
              refine step_callsQ rfl ?_ HY.out ?_
              · go_simp
              rintro e w6 ⟨rfl, hg6, hc6⟩
              refine ⟨_, rfl, ?_⟩
              have HSX : Hid (DS w2 (w.heap.size + 1 + 1) w3.heap.size (.slice ad n cap) n q (.slice (some ⟨gb, 0, none⟩) N cb) N L' (a5 + 1) w6) := Lib.hid ((HS5.out.ext (Ext.refl _).drew).gxx (GX.ofGrown hg6) hc6 (by omega) (by omega))
              have hs6 : w5.heap.size ≤ w6.heap.size := hg6.size
              clear hg6 hc6
              refine hK.out _ _ ?_ (fun hHeld => ?_)
              focus
                exact HSS.out _ _ HSX.out
              clear hK K
              try simp only [Act.put, List.getElem_toArray, List.getElem_cons_succ, List.getElem_cons_zero, List.setIfInBounds_toArray, List.set_cons_zero, List.set_cons_succ]
              refine wpAnyH_take (i := 2) (v := ?_) rfl (by kernel_rfl) (by kernel_rfl) (by kernel_rfl) (fun _ _ _ h => h) (Or.inl ⟨by rfl, ?_⟩) (by assumption) ?_
              rotate_left
              focus
                intro W hSw
                try dsimp only at hSw
                go_simp
                try with_reducible rfl
              try simp only [Act.put, List.getElem_toArray, List.getElem_cons_succ, List.getElem_cons_zero, List.setIfInBounds_toArray, List.set_cons_zero, List.set_cons_succ]
              refine wpAnyH_take (i := 3) (v := ?_) rfl (by kernel_rfl) (by kernel_rfl) (by kernel_rfl) (fun _ _ _ h => h) (Or.inl ⟨by rfl, ?_⟩) (by assumption) ?_
              rotate_left
              focus
                intro W hSw
                try dsimp only at hSw
                go_simp
                try with_reducible rfl
              try simp only [Act.put, List.getElem_toArray, List.getElem_cons_succ, List.getElem_cons_zero, List.setIfInBounds_toArray, List.set_cons_zero, List.set_cons_succ]
              refine wpAnyH_take (i := 4) (v := ?_) rfl (by kernel_rfl) (by kernel_rfl) (by kernel_rfl) (fun _ _ _ h => h) (Or.inl ⟨by rfl, ?_⟩) (by assumption) ?_
              rotate_left
              focus
                intro W hSw
                try dsimp only at hSw
                go_simp
                try with_reducible rfl
              try simp only [Act.put, List.getElem_toArray, List.getElem_cons_succ, List.getElem_cons_zero, List.setIfInBounds_toArray, List.set_cons_zero, List.set_cons_succ]
              refine wpAnyH_take (i := 5) (v := ?_) rfl (by kernel_rfl) (by kernel_rfl) (by kernel_rfl) (fun _ _ _ h => h) (Or.inl ⟨by rfl, ?_⟩) (by assumption) ?_
              rotate_left
              focus
                intro W hSw
                try dsimp only at hSw
                go_simp
                try with_reducible rfl
              try simp only [Act.put, List.getElem_toArray, List.getElem_cons_succ, List.getElem_cons_zero, List.setIfInBounds_toArray, List.set_cons_zero, List.set_cons_succ]
              refine wpAnyH_take (i := 6) (v := ?_) rfl (by kernel_rfl) (by kernel_rfl) (by kernel_rfl) (fun _ _ _ h => h) (Or.inl ⟨by rfl, ?_⟩) (by assumption) ?_
              rotate_left
              focus
                intro W hSw
                try dsimp only at hSw
                go_simp
                try with_reducible rfl
              try simp only [Act.put, List.getElem_toArray, List.getElem_cons_succ, List.getElem_cons_zero, List.setIfInBounds_toArray, List.set_cons_zero, List.set_cons_succ]
              refine wpAnyH_take (i := 7) (v := ?_) rfl (by kernel_rfl) (by kernel_rfl) (by kernel_rfl) (fun _ _ _ h => h) (Or.inl ⟨by rfl, ?_⟩) (by assumption) ?_
              rotate_left
              focus
                intro W hSw
                try dsimp only at hSw
                go_simp
                try with_reducible rfl
              try simp only [Act.put, List.getElem_toArray, List.getElem_cons_succ, List.getElem_cons_zero, List.setIfInBounds_toArray, List.set_cons_zero, List.set_cons_succ]
              refine wpAnyH_take (i := 8) (v := ?_) rfl (by kernel_rfl) (by kernel_rfl) (by kernel_rfl) (fun _ _ _ h => h) (Or.inl ⟨by rfl, ?_⟩) (by assumption) ?_
              rotate_left
              focus
                intro W hSw
                try dsimp only at hSw
                go_simp
                try with_reducible rfl
              try simp only [Act.put, List.getElem_toArray, List.getElem_cons_succ, List.getElem_cons_zero, List.setIfInBounds_toArray, List.set_cons_zero, List.set_cons_succ]
              refine wpAnyH_take (i := 9) (v := ?_) rfl (by kernel_rfl) (by kernel_rfl) (by kernel_rfl) (fun _ _ _ h => h) (Or.inl ⟨by rfl, ?_⟩) (by assumption) ?_
              rotate_left
              focus
                intro W hSw
                try dsimp only at hSw
                go_simp
                try with_reducible rfl
              try simp only [Act.put, List.getElem_toArray, List.getElem_cons_succ, List.getElem_cons_zero, List.setIfInBounds_toArray, List.set_cons_zero, List.set_cons_succ]
              refine wpAnyH_take (i := 10) (v := ?_) rfl (by kernel_rfl) (by kernel_rfl) (by kernel_rfl) (fun _ _ _ h => h) (Or.inl ⟨by rfl, ?_⟩) (by assumption) ?_
              rotate_left
              focus
                intro W hSw
                try dsimp only at hSw
                go_simp
                try with_reducible rfl
              try simp only [Act.put, List.getElem_toArray, List.getElem_cons_succ, List.getElem_cons_zero, List.setIfInBounds_toArray, List.set_cons_zero, List.set_cons_succ]
              refine wpAnyH_take (i := 11) (v := ?_) rfl (by kernel_rfl) (by kernel_rfl) (by kernel_rfl) (fun _ _ _ h => h) (Or.inl ⟨by rfl, ?_⟩) (by assumption) ?_
              rotate_left
              focus
                intro W hSw
                try dsimp only at hSw
                go_simp
                try with_reducible rfl
              try simp only [Act.put, List.getElem_toArray, List.getElem_cons_succ, List.getElem_cons_zero, List.setIfInBounds_toArray, List.set_cons_zero, List.set_cons_succ]
              refine wpAnyH_take (i := 12) (v := ?_) rfl (by kernel_rfl) (by kernel_rfl) (by kernel_rfl) (fun _ _ _ h => h) (Or.inl ⟨by rfl, ?_⟩) (by assumption) ?_
              rotate_left
              focus
                intro W hSw
                try dsimp only at hSw
                go_simp
                try with_reducible rfl
              try simp only [Act.put, List.getElem_toArray, List.getElem_cons_succ, List.getElem_cons_zero, List.setIfInBounds_toArray, List.set_cons_zero, List.set_cons_succ]
              refine wpAnyH_take (i := 13) (v := ?_) rfl (by kernel_rfl) (by kernel_rfl) (by kernel_rfl) (fun _ _ _ h => h) (Or.inl ⟨by rfl, ?_⟩) (by assumption) ?_
              rotate_left
              focus
                intro W hSw
                try dsimp only at hSw
                go_simp
                try with_reducible rfl
              try simp only [Act.put, List.getElem_toArray, List.getElem_cons_succ, List.getElem_cons_zero, List.setIfInBounds_toArray, List.set_cons_zero, List.set_cons_succ]
              refine wpAnyH_ready (rs := [14]) (by kernel_rfl) (by simp) ?_
              refine AllReadyH.cons rfl (fun K hK => ?_) AllReadyH.nil
              refine step_callsG ?_ ?_ (HCg _).out ?_
              · rfl
              · go_simp
              rintro e w7 ⟨rfl, hx7⟩
              refine ⟨_, rfl, ?_⟩
              have HSX := Lib.hid (HSX.out.ext hx7)
              have hs7 : w5.heap.size ≤ w7.heap.size := Nat.le_trans hs6 hx7.size
              clear hx7
              refine hK.out _ _ ?_ (fun hHeld => ?_)
              focus
                exact HSS.out _ _ HSX.out
              clear hK K
              try simp only [Act.put, List.getElem_toArray, List.getElem_cons_succ, List.getElem_cons_zero, List.setIfInBounds_toArray, List.set_cons_zero, List.set_cons_succ]
              refine wpAnyH_take (i := 15) (v := ?_) rfl (by kernel_rfl) (by kernel_rfl) (by kernel_rfl) (fun _ _ _ h => h) (Or.inl ⟨by rfl, ?_⟩) (by assumption) ?_
              rotate_left
              focus
                intro W hSw
                try dsimp only at hSw
                go_simp
                try with_reducible rfl
              try simp only [Act.put, List.getElem_toArray, List.getElem_cons_succ, List.getElem_cons_zero, List.setIfInBounds_toArray, List.set_cons_zero, List.set_cons_succ]
              refine wpAnyH_take (i := 16) (v := ?_) rfl (by kernel_rfl) (by kernel_rfl) (by kernel_rfl) (fun _ _ _ h => h) (Or.inl ⟨by rfl, ?_⟩) (by assumption) ?_
              rotate_left
              focus
                intro W hSw
                try dsimp only at hSw
                go_simp
                try with_reducible rfl
              try simp only [Act.put, List.getElem_toArray, List.getElem_cons_succ, List.getElem_cons_zero, List.setIfInBounds_toArray, List.set_cons_zero, List.set_cons_succ]
              refine wpAnyH_done (by kernel_rfl) ?_ _
              clear hwJ
              have lx := (World.ownsRow.lt HSX.out.own gb rfl).2
              have fx := World.ownsRow.frozenAt HSX.out.own
              have hz := HZ.out _ _ HSX.out
              have zI0 := hz.1
              have zI1 := hz.2.1
              have zI2 := hz.2.2.1
              have zJ0 := hz.2.2.2.1
              have zJ1 := hz.2.2.2.2.1
              have zJ2 := hz.2.2.2.2.2
              clear hz
              have z6 := fun k => cell_of_row _ _ k _ _ _ HSX.out.bx
              have f6 := fun k => frozen_of_row _ _ k _ _ HSX.out.bx
              have l6 := (Array.getElem?_eq_some_iff.1 HSX.out.bx).1
              have hgb6 : gb ≠ w3.heap.size := fun e => HSX.out.df gb rfl e
              clear hX hCm HY HS5
              go_wp2
              go_region
              all_goals
                go_wp2
                go_roundw
                case rel =>
                  have HT := ((((((HSX.out.set hBw (I * 3) y0).set hBw (I * 3 + 1) y1).set hBw (I * 3 + 2) y2).set hBw (J * 3) x0).set hBw (J * 3 + 1) x1).set hBw (J * 3 + 2) x2)
                  refine ⟨k - 1, _, a5 + 1, by first | (refine congrArg _ ?_; omega) | go_num, ?_, by omega, by omega, HT.ext (((Ext.refl _).alloc _).drew)⟩
                  unfold Hid
                  simp only [List.length_set]
                  exact HLn.out
                case measure => simp [intOf]; omega
            · have hwJ : IntKind.i64.wrap (J : Int) = (J : Int) := IntWalk.i64_in _ (by omega)
              go_wp2
              refine wp_region_held_drew (S := (fun W => W.cell? ⟨w3.heap.size, 1, none⟩ = some (.slice (some ⟨gb, 0, none⟩) N cb) ∧ W.cell? ⟨gb, I * 3, none⟩ = some (.int .i64 x0) ∧ W.cell? ⟨gb, I * 3 + 1, none⟩ = some (.int .i64 x1) ∧ W.cell? ⟨gb, I * 3 + 2, none⟩ = some (.int .i64 x2) ∧ W.cell? ⟨gb, J * 3, none⟩ = some (.int .i64 y0) ∧ W.cell? ⟨gb, J * 3 + 1, none⟩ = some (.int .i64 y1) ∧ W.cell? ⟨gb, J * 3 + 2, none⟩ = some (.int .i64 y2))) (by kernel_rfl) ?_ (fun hHeld => ?_)
              focus
                exact HSS.out _ _ (HS5.out.ext (Ext.refl _).drew)
              refine wpAnyH_take (i := 0) (v := ?_) rfl (by kernel_rfl) (by kernel_rfl) (by kernel_rfl) (fun _ _ _ h => h) (Or.inl ⟨by rfl, ?_⟩) (by assumption) ?_
              rotate_left
              focus
                intro W hSw
                try dsimp only at hSw
                go_simp
                try with_reducible rfl
              try simp only [Act.put, List.getElem_toArray, List.getElem_cons_succ, List.getElem_cons_zero, List.setIfInBounds_toArray, List.set_cons_zero, List.set_cons_succ]
              refine wpAnyH_ready (rs := [1]) (by kernel_rfl) (by simp) ?_
              refine AllReadyH.cons (o := { dst := some 41, op := Op.call { callee := Callee.value (Operand.func 36), args := #[Operand.tmp 40, Operand.const (Value.int IntKind.i64 10)], argTypes := #[75, 3] }, type := 4, pos := "l24_scheduling.go:365", after := #[{ on := 0, ground := Ground.data }], guard := none }) rfl (fun K hK => ?_) AllReadyH.nil
              refine step_callsQ rfl ?_ HY.out ?_
              · go_simp
              rintro e w6 ⟨rfl, hg6, hc6⟩
              refine ⟨_, rfl, ?_⟩
              have HSX : Hid (DS w2 (w.heap.size + 1 + 1) w3.heap.size (.slice ad n cap) n q (.slice (some ⟨gb, 0, none⟩) N cb) N L' (a5 + 1) w6) := Lib.hid ((HS5.out.ext (Ext.refl _).drew).gxx (GX.ofGrown hg6) hc6 (by omega) (by omega))
              have hs6 : w5.heap.size ≤ w6.heap.size := hg6.size
              clear hg6 hc6
              refine hK.out _ _ ?_ (fun hHeld => ?_)
              focus
                exact HSS.out _ _ HSX.out
              clear hK K
              try simp only [Act.put, List.getElem_toArray, List.getElem_cons_succ, List.getElem_cons_zero, List.setIfInBounds_toArray, List.set_cons_zero, List.set_cons_succ]
              refine wpAnyH_take (i := 2) (v := ?_) rfl (by kernel_rfl) (by kernel_rfl) (by kernel_rfl) (fun _ _ _ h => h) (Or.inl ⟨by rfl, ?_⟩) (by assumption) ?_
              rotate_left
              focus
                intro W hSw
                try dsimp only at hSw
                go_simp
                try with_reducible rfl
              try simp only [Act.put, List.getElem_toArray, List.getElem_cons_succ, List.getElem_cons_zero, List.setIfInBounds_toArray, List.set_cons_zero, List.set_cons_succ]
              refine wpAnyH_take (i := 3) (v := ?_) rfl (by kernel_rfl) (by kernel_rfl) (by kernel_rfl) (fun _ _ _ h => h) (Or.inl ⟨by rfl, ?_⟩) (by assumption) ?_
              rotate_left
              focus
                intro W hSw
                try dsimp only at hSw
                go_simp
                try with_reducible rfl
              try simp only [Act.put, List.getElem_toArray, List.getElem_cons_succ, List.getElem_cons_zero, List.setIfInBounds_toArray, List.set_cons_zero, List.set_cons_succ]
              refine wpAnyH_take (i := 4) (v := ?_) rfl (by kernel_rfl) (by kernel_rfl) (by kernel_rfl) (fun _ _ _ h => h) (Or.inl ⟨by rfl, ?_⟩) (by assumption) ?_
              rotate_left
              focus
                intro W hSw
                try dsimp only at hSw
                go_simp
                try with_reducible rfl
              try simp only [Act.put, List.getElem_toArray, List.getElem_cons_succ, List.getElem_cons_zero, List.setIfInBounds_toArray, List.set_cons_zero, List.set_cons_succ]
              refine wpAnyH_take (i := 5) (v := ?_) rfl (by kernel_rfl) (by kernel_rfl) (by kernel_rfl) (fun _ _ _ h => h) (Or.inl ⟨by rfl, ?_⟩) (by assumption) ?_
              rotate_left
              focus
                intro W hSw
                try dsimp only at hSw
                go_simp
                try with_reducible rfl
              try simp only [Act.put, List.getElem_toArray, List.getElem_cons_succ, List.getElem_cons_zero, List.setIfInBounds_toArray, List.set_cons_zero, List.set_cons_succ]
              refine wpAnyH_take (i := 6) (v := ?_) rfl (by kernel_rfl) (by kernel_rfl) (by kernel_rfl) (fun _ _ _ h => h) (Or.inl ⟨by rfl, ?_⟩) (by assumption) ?_
              rotate_left
              focus
                intro W hSw
                try dsimp only at hSw
                go_simp
                try with_reducible rfl
              try simp only [Act.put, List.getElem_toArray, List.getElem_cons_succ, List.getElem_cons_zero, List.setIfInBounds_toArray, List.set_cons_zero, List.set_cons_succ]
              refine wpAnyH_take (i := 7) (v := ?_) rfl (by kernel_rfl) (by kernel_rfl) (by kernel_rfl) (fun _ _ _ h => h) (Or.inl ⟨by rfl, ?_⟩) (by assumption) ?_
              rotate_left
              focus
                intro W hSw
                try dsimp only at hSw
                go_simp
                try with_reducible rfl
              try simp only [Act.put, List.getElem_toArray, List.getElem_cons_succ, List.getElem_cons_zero, List.setIfInBounds_toArray, List.set_cons_zero, List.set_cons_succ]
              refine wpAnyH_take (i := 8) (v := ?_) rfl (by kernel_rfl) (by kernel_rfl) (by kernel_rfl) (fun _ _ _ h => h) (Or.inl ⟨by rfl, ?_⟩) (by assumption) ?_
              rotate_left
              focus
                intro W hSw
                try dsimp only at hSw
                go_simp
                try with_reducible rfl
              try simp only [Act.put, List.getElem_toArray, List.getElem_cons_succ, List.getElem_cons_zero, List.setIfInBounds_toArray, List.set_cons_zero, List.set_cons_succ]
              refine wpAnyH_take (i := 9) (v := ?_) rfl (by kernel_rfl) (by kernel_rfl) (by kernel_rfl) (fun _ _ _ h => h) (Or.inl ⟨by rfl, ?_⟩) (by assumption) ?_
              rotate_left
              focus
                intro W hSw
                try dsimp only at hSw
                go_simp
                try with_reducible rfl
              try simp only [Act.put, List.getElem_toArray, List.getElem_cons_succ, List.getElem_cons_zero, List.setIfInBounds_toArray, List.set_cons_zero, List.set_cons_succ]
              refine wpAnyH_take (i := 10) (v := ?_) rfl (by kernel_rfl) (by kernel_rfl) (by kernel_rfl) (fun _ _ _ h => h) (Or.inl ⟨by rfl, ?_⟩) (by assumption) ?_
              rotate_left
              focus
                intro W hSw
                try dsimp only at hSw
                go_simp
                try with_reducible rfl
              try simp only [Act.put, List.getElem_toArray, List.getElem_cons_succ, List.getElem_cons_zero, List.setIfInBounds_toArray, List.set_cons_zero, List.set_cons_succ]
              refine wpAnyH_take (i := 11) (v := ?_) rfl (by kernel_rfl) (by kernel_rfl) (by kernel_rfl) (fun _ _ _ h => h) (Or.inl ⟨by rfl, ?_⟩) (by assumption) ?_
              rotate_left
              focus
                intro W hSw
                try dsimp only at hSw
                go_simp
                try with_reducible rfl
              try simp only [Act.put, List.getElem_toArray, List.getElem_cons_succ, List.getElem_cons_zero, List.setIfInBounds_toArray, List.set_cons_zero, List.set_cons_succ]
              refine wpAnyH_take (i := 12) (v := ?_) rfl (by kernel_rfl) (by kernel_rfl) (by kernel_rfl) (fun _ _ _ h => h) (Or.inl ⟨by rfl, ?_⟩) (by assumption) ?_
              rotate_left
              focus
                intro W hSw
                try dsimp only at hSw
                go_simp
                try with_reducible rfl
              try simp only [Act.put, List.getElem_toArray, List.getElem_cons_succ, List.getElem_cons_zero, List.setIfInBounds_toArray, List.set_cons_zero, List.set_cons_succ]
              refine wpAnyH_take (i := 13) (v := ?_) rfl (by kernel_rfl) (by kernel_rfl) (by kernel_rfl) (fun _ _ _ h => h) (Or.inl ⟨by rfl, ?_⟩) (by assumption) ?_
              rotate_left
              focus
                intro W hSw
                try dsimp only at hSw
                go_simp
                try with_reducible rfl
              try simp only [Act.put, List.getElem_toArray, List.getElem_cons_succ, List.getElem_cons_zero, List.setIfInBounds_toArray, List.set_cons_zero, List.set_cons_succ]
              refine wpAnyH_ready (rs := [14]) (by kernel_rfl) (by simp) ?_
              refine AllReadyH.cons rfl (fun K hK => ?_) AllReadyH.nil
              refine step_callsG ?_ ?_ (HCg _).out ?_
              · rfl
              · go_simp
              rintro e w7 ⟨rfl, hx7⟩
              refine ⟨_, rfl, ?_⟩
              have HSX := Lib.hid (HSX.out.ext hx7)
              have hs7 : w5.heap.size ≤ w7.heap.size := Nat.le_trans hs6 hx7.size
              clear hx7
              refine hK.out _ _ ?_ (fun hHeld => ?_)
              focus
                exact HSS.out _ _ HSX.out
              clear hK K
              try simp only [Act.put, List.getElem_toArray, List.getElem_cons_succ, List.getElem_cons_zero, List.setIfInBounds_toArray, List.set_cons_zero, List.set_cons_succ]
              refine wpAnyH_take (i := 15) (v := ?_) rfl (by kernel_rfl) (by kernel_rfl) (by kernel_rfl) (fun _ _ _ h => h) (Or.inl ⟨by rfl, ?_⟩) (by assumption) ?_
              rotate_left
              focus
                intro W hSw
                try dsimp only at hSw
                go_simp
                try with_reducible rfl
              try simp only [Act.put, List.getElem_toArray, List.getElem_cons_succ, List.getElem_cons_zero, List.setIfInBounds_toArray, List.set_cons_zero, List.set_cons_succ]
              refine wpAnyH_take (i := 16) (v := ?_) rfl (by kernel_rfl) (by kernel_rfl) (by kernel_rfl) (fun _ _ _ h => h) (Or.inl ⟨by rfl, ?_⟩) (by assumption) ?_
              rotate_left
              focus
                intro W hSw
                try dsimp only at hSw
                go_simp
                try with_reducible rfl
              try simp only [Act.put, List.getElem_toArray, List.getElem_cons_succ, List.getElem_cons_zero, List.setIfInBounds_toArray, List.set_cons_zero, List.set_cons_succ]
              refine wpAnyH_done (by kernel_rfl) ?_ _
              clear hwJ
              clear hX hCm HY HS5 HCg
              go_wp2
              go_roundw
              case rel =>
                refine ⟨k - 1, L', a5 + 1, by first | (refine congrArg _ ?_; omega) | go_num, HLn, by omega, by omega, HSX.out⟩
              case measure => simp [intOf]; omega
          · go_wp2
            refine wp_region_held_drew (S := (fun _ => True)) (by kernel_rfl) ?_ (fun hHeld => ?_)
            focus
              trivial
            refine wpAnyH_take (i := 0) (v := ?_) rfl (by kernel_rfl) (by kernel_rfl) (by kernel_rfl) (fun _ _ _ h => h) (Or.inl ⟨by rfl, ?_⟩) (by assumption) ?_
            rotate_left
            focus
              intro W hSw
              try dsimp only at hSw
              go_simp
              try with_reducible rfl
            try simp only [Act.put, List.getElem_toArray, List.getElem_cons_succ, List.getElem_cons_zero, List.setIfInBounds_toArray, List.set_cons_zero, List.set_cons_succ]
            refine wpAnyH_ready (rs := [1]) (by kernel_rfl) (by simp) ?_
            refine AllReadyH.cons (o := { dst := some 41, op := Op.call { callee := Callee.value (Operand.func 36), args := #[Operand.tmp 40, Operand.const (Value.int IntKind.i64 10)], argTypes := #[75, 3] }, type := 4, pos := "l24_scheduling.go:365", after := #[{ on := 0, ground := Ground.data }], guard := none }) rfl (fun K hK => ?_) AllReadyH.nil
            refine step_callsQ rfl ?_ HY.out ?_
            · go_simp
            rintro e w6 ⟨rfl, hg6, hc6⟩
            refine ⟨_, rfl, ?_⟩
            have HSX : Hid (DS w2 (w.heap.size + 1 + 1) w3.heap.size (.slice ad n cap) n q (.slice (some ⟨gb, 0, none⟩) N cb) N L' (a5 + 1) w6) := Lib.hid ((HS5.out.ext (Ext.refl _).drew).gxx (GX.ofGrown hg6) hc6 (by omega) (by omega))
            have hs6 : w5.heap.size ≤ w6.heap.size := hg6.size
            clear hg6 hc6
            refine hK.out _ _ ?_ (fun hHeld => ?_)
            focus
              trivial
            clear hK K
            try simp only [Act.put, List.getElem_toArray, List.getElem_cons_succ, List.getElem_cons_zero, List.setIfInBounds_toArray, List.set_cons_zero, List.set_cons_succ]
            refine wpAnyH_take (i := 2) (v := ?_) rfl (by kernel_rfl) (by kernel_rfl) (by kernel_rfl) (fun _ _ _ h => h) (Or.inl ⟨by rfl, ?_⟩) (by assumption) ?_
            rotate_left
            focus
              intro W hSw
              try dsimp only at hSw
              go_simp
              try with_reducible rfl
            try simp only [Act.put, List.getElem_toArray, List.getElem_cons_succ, List.getElem_cons_zero, List.setIfInBounds_toArray, List.set_cons_zero, List.set_cons_succ]
            refine wpAnyH_take (i := 3) (v := undef) rfl (by kernel_rfl) (by kernel_rfl) (by kernel_rfl) (fun _ _ _ h => h) (Or.inr ⟨by kernel_rfl, rfl⟩) (by assumption) ?_
            try simp only [Act.put, List.getElem_toArray, List.getElem_cons_succ, List.getElem_cons_zero, List.setIfInBounds_toArray, List.set_cons_zero, List.set_cons_succ]
            refine wpAnyH_take (i := 4) (v := undef) rfl (by kernel_rfl) (by kernel_rfl) (by kernel_rfl) (fun _ _ _ h => h) (Or.inr ⟨by kernel_rfl, rfl⟩) (by assumption) ?_
            try simp only [Act.put, List.getElem_toArray, List.getElem_cons_succ, List.getElem_cons_zero, List.setIfInBounds_toArray, List.set_cons_zero, List.set_cons_succ]
            refine wpAnyH_take (i := 5) (v := undef) rfl (by kernel_rfl) (by kernel_rfl) (by kernel_rfl) (fun _ _ _ h => h) (Or.inr ⟨by kernel_rfl, rfl⟩) (by assumption) ?_
            try simp only [Act.put, List.getElem_toArray, List.getElem_cons_succ, List.getElem_cons_zero, List.setIfInBounds_toArray, List.set_cons_zero, List.set_cons_succ]
            refine wpAnyH_take (i := 6) (v := undef) rfl (by kernel_rfl) (by kernel_rfl) (by kernel_rfl) (fun _ _ _ h => h) (Or.inr ⟨by kernel_rfl, rfl⟩) (by assumption) ?_
            try simp only [Act.put, List.getElem_toArray, List.getElem_cons_succ, List.getElem_cons_zero, List.setIfInBounds_toArray, List.set_cons_zero, List.set_cons_succ]
            refine wpAnyH_take (i := 7) (v := undef) rfl (by kernel_rfl) (by kernel_rfl) (by kernel_rfl) (fun _ _ _ h => h) (Or.inr ⟨by kernel_rfl, rfl⟩) (by assumption) ?_
            try simp only [Act.put, List.getElem_toArray, List.getElem_cons_succ, List.getElem_cons_zero, List.setIfInBounds_toArray, List.set_cons_zero, List.set_cons_succ]
            refine wpAnyH_take (i := 8) (v := undef) rfl (by kernel_rfl) (by kernel_rfl) (by kernel_rfl) (fun _ _ _ h => h) (Or.inr ⟨by kernel_rfl, rfl⟩) (by assumption) ?_
            try simp only [Act.put, List.getElem_toArray, List.getElem_cons_succ, List.getElem_cons_zero, List.setIfInBounds_toArray, List.set_cons_zero, List.set_cons_succ]
            refine wpAnyH_take (i := 9) (v := undef) rfl (by kernel_rfl) (by kernel_rfl) (by kernel_rfl) (fun _ _ _ h => h) (Or.inr ⟨by kernel_rfl, rfl⟩) (by assumption) ?_
            try simp only [Act.put, List.getElem_toArray, List.getElem_cons_succ, List.getElem_cons_zero, List.setIfInBounds_toArray, List.set_cons_zero, List.set_cons_succ]
            refine wpAnyH_take (i := 10) (v := undef) rfl (by kernel_rfl) (by kernel_rfl) (by kernel_rfl) (fun _ _ _ h => h) (Or.inr ⟨by kernel_rfl, rfl⟩) (by assumption) ?_
            try simp only [Act.put, List.getElem_toArray, List.getElem_cons_succ, List.getElem_cons_zero, List.setIfInBounds_toArray, List.set_cons_zero, List.set_cons_succ]
            refine wpAnyH_take (i := 11) (v := undef) rfl (by kernel_rfl) (by kernel_rfl) (by kernel_rfl) (fun _ _ _ h => h) (Or.inr ⟨by kernel_rfl, rfl⟩) (by assumption) ?_
            try simp only [Act.put, List.getElem_toArray, List.getElem_cons_succ, List.getElem_cons_zero, List.setIfInBounds_toArray, List.set_cons_zero, List.set_cons_succ]
            refine wpAnyH_take (i := 12) (v := undef) rfl (by kernel_rfl) (by kernel_rfl) (by kernel_rfl) (fun _ _ _ h => h) (Or.inr ⟨by kernel_rfl, rfl⟩) (by assumption) ?_
            try simp only [Act.put, List.getElem_toArray, List.getElem_cons_succ, List.getElem_cons_zero, List.setIfInBounds_toArray, List.set_cons_zero, List.set_cons_succ]
            refine wpAnyH_take (i := 13) (v := undef) rfl (by kernel_rfl) (by kernel_rfl) (by kernel_rfl) (fun _ _ _ h => h) (Or.inr ⟨by kernel_rfl, rfl⟩) (by assumption) ?_
            try simp only [Act.put, List.getElem_toArray, List.getElem_cons_succ, List.getElem_cons_zero, List.setIfInBounds_toArray, List.set_cons_zero, List.set_cons_succ]
            refine wpAnyH_take (i := 14) (v := undef) rfl (by kernel_rfl) (by kernel_rfl) (by kernel_rfl) (fun _ _ _ h => h) (Or.inr ⟨by kernel_rfl, rfl⟩) (by assumption) ?_
            try simp only [Act.put, List.getElem_toArray, List.getElem_cons_succ, List.getElem_cons_zero, List.setIfInBounds_toArray, List.set_cons_zero, List.set_cons_succ]
            refine wpAnyH_take (i := 15) (v := undef) rfl (by kernel_rfl) (by kernel_rfl) (by kernel_rfl) (fun _ _ _ h => h) (Or.inr ⟨by kernel_rfl, rfl⟩) (by assumption) ?_
            try simp only [Act.put, List.getElem_toArray, List.getElem_cons_succ, List.getElem_cons_zero, List.setIfInBounds_toArray, List.set_cons_zero, List.set_cons_succ]
            refine wpAnyH_take (i := 16) (v := ?_) rfl (by kernel_rfl) (by kernel_rfl) (by kernel_rfl) (fun _ _ _ h => h) (Or.inl ⟨by rfl, ?_⟩) (by assumption) ?_
            rotate_left
            focus
              intro W hSw
              try dsimp only at hSw
              go_simp
              try with_reducible rfl
            try simp only [Act.put, List.getElem_toArray, List.getElem_cons_succ, List.getElem_cons_zero, List.setIfInBounds_toArray, List.set_cons_zero, List.set_cons_succ]
            refine wpAnyH_done (by kernel_rfl) ?_ _
            have lx := (World.ownsRow.lt HSX.out.own gb rfl).2
            have fx := World.ownsRow.frozenAt HSX.out.own
            have hz := HZ.out _ _ HSX.out
            have zI0 := hz.1
            have zI1 := hz.2.1
            have zI2 := hz.2.2.1
            have zJ0 := hz.2.2.2.1
            have zJ1 := hz.2.2.2.2.1
            have zJ2 := hz.2.2.2.2.2
            clear hz
            have z6 := fun k => cell_of_row _ _ k _ _ _ HSX.out.bx
            have f6 := fun k => frozen_of_row _ _ k _ _ HSX.out.bx
            have l6 := (Array.getElem?_eq_some_iff.1 HSX.out.bx).1
            have hgb6 : gb ≠ w3.heap.size := fun e => HSX.out.df gb rfl e
            clear hX hCm HY HS5
            go_wp2
            go_region
            all_goals
              go_wp2
              go_roundw
              case rel =>
                have HT := ((((((HSX.out.set hBw (I * 3) y0).set hBw (I * 3 + 1) y1).set hBw (I * 3 + 2) y2).set hBw (J * 3) x0).set hBw (J * 3 + 1) x1).set hBw (J * 3 + 2) x2)
                refine ⟨k - 1, _, a5 + 1, by first | (refine congrArg _ ?_; omega) | go_num, ?_, by omega, by omega, HT.ext (((Ext.refl _).alloc _).drew)⟩
                unfold Hid
                simp only [List.length_set]
                exact HLn.out
              case measure => simp [intOf]; omega
        · have hN' : ¬ (1 : Int) < (N : Int) := by omega
          have HO9 : Hid (World.ownsRow _ (w.heap.size + 3) 47 3 (.slice av N cv) N (IL L)) := Lib.hid (own_gx HO2.out HS.out.gx (by simp))
          have hba9 := (HS.out.gx.heap hba2 (by simp; omega)).trans HBa.out
          have ra9 := (HS.out.gx.heap (k := w.heap.size) (by omega) (by simp; omega)).trans ((HG2.out.heap (by omega) (by simp; omega)).trans HR0.out)
          have rb9 := (HS.out.gx.heap (k := w.heap.size + 1) (by omega) (by simp)).trans ((HG2.out.heap (by omega) (by simp)).trans HR1.out)
          have z5 := fun k => cell_of_row _ _ k _ _ _ hba9
          have za := fun k => cell_of_row _ _ k _ _ _ ra9
          have zb := fun k => cell_of_row _ _ k _ _ _ rb9
          have fa := fun k => frozen_of_row _ _ k _ _ ra9
          have fb := fun k => frozen_of_row _ _ k _ _ rb9
          have la := (Array.getElem?_eq_some_iff.1 ra9).1
          have lb := (Array.getElem?_eq_some_iff.1 rb9).1
          have l5 := (Array.getElem?_eq_some_iff.1 hba9).1
          have hXE : Hid (Ext w _) := Lib.hid ((((GX.ofExt (S := [w.heap.size + 1 + 1]) HEW.out).trans HG2.out).trans HS.out.gx).toExt (by simp; omega))
          clear hP hO hX hA hF hCm hba9 ra9 rb9
          go_wp2
          go_region
          all_goals
            go_wp2
            refine bodyPost_ret (v := .tuple #[.agg #[.int .i64 q, .slice av N cv], .agg #[.int .i64 q, .slice ab N cb]]) (by simp [results, Try.results13, go_sem, *]) rfl ?_
            have hxx := hXE.out
            refine ⟨_, _, _, _, rfl, by omega, by omega, ⟨N, L, by omega, hL, ?_⟩, ⟨N, L', by omega, HLn.out, ?_⟩, (by repeat (first | (with_reducible refine Ext.setCell ?_ (by first | (simp; done) | (simp; omega)) _) | with_reducible refine Ext.alloc ?_ _ | with_reducible refine Ext.drew ?_ | with_reducible refine Ext.drewN ?_ _ | with_reducible assumption | with_reducible exact Ext.refl _ | with_reducible refine Ext.trans ?_ (by with_reducible assumption)))⟩
            · exact own_base (own_set (own_set (own_set (own_set (own_ext HO9.out (by repeat (first | (with_reducible refine Ext.setCell ?_ (by first | (simp; done) | (simp; omega)) _) | with_reducible refine Ext.alloc ?_ _ | with_reducible refine Ext.drew ?_ | with_reducible refine Ext.drewN ?_ _ | with_reducible assumption | with_reducible exact Ext.refl _ | with_reducible refine Ext.trans ?_ (by with_reducible assumption)))) (by first | (simp; done) | (simp; omega)) _) (by first | (simp; done) | (simp; omega)) _) (by first | (simp; done) | (simp; omega)) _) (by first | (simp; done) | (simp; omega)) _) (by omega)
            · exact own_base (own_set (own_set (own_set (own_set (own_ext HS.out.own (by repeat (first | (with_reducible refine Ext.setCell ?_ (by first | (simp; done) | (simp; omega)) _) | with_reducible refine Ext.alloc ?_ _ | with_reducible refine Ext.drew ?_ | with_reducible refine Ext.drewN ?_ _ | with_reducible assumption | with_reducible exact Ext.refl _ | with_reducible refine Ext.trans ?_ (by with_reducible assumption)))) (by first | (simp; done) | (simp; omega)) _) (by first | (simp; done) | (simp; omega)) _) (by first | (simp; done) | (simp; omega)) _) (by first | (simp; done) | (simp; omega)) _) (by omega)
      · have hk' : ¬ (0 : Int) < (k : Int) := by omega
        have HO9 : Hid (World.ownsRow _ (w.heap.size + 3) 47 3 (.slice av N cv) N (IL L)) := Lib.hid (own_gx HO2.out HS.out.gx (by simp))
        have hba9 := (HS.out.gx.heap hba2 (by simp; omega)).trans HBa.out
        have ra9 := (HS.out.gx.heap (k := w.heap.size) (by omega) (by simp; omega)).trans ((HG2.out.heap (by omega) (by simp; omega)).trans HR0.out)
        have rb9 := (HS.out.gx.heap (k := w.heap.size + 1) (by omega) (by simp)).trans ((HG2.out.heap (by omega) (by simp)).trans HR1.out)
        have z5 := fun k => cell_of_row _ _ k _ _ _ hba9
        have za := fun k => cell_of_row _ _ k _ _ _ ra9
        have zb := fun k => cell_of_row _ _ k _ _ _ rb9
        have fa := fun k => frozen_of_row _ _ k _ _ ra9
        have fb := fun k => frozen_of_row _ _ k _ _ rb9
        have la := (Array.getElem?_eq_some_iff.1 ra9).1
        have lb := (Array.getElem?_eq_some_iff.1 rb9).1
        have l5 := (Array.getElem?_eq_some_iff.1 hba9).1
        have hXE : Hid (Ext w _) := Lib.hid ((((GX.ofExt (S := [w.heap.size + 1 + 1]) HEW.out).trans HG2.out).trans HS.out.gx).toExt (by simp; omega))
        clear hP hO hX hA hF hCm hba9 ra9 rb9
        go_wp2
        go_region
        all_goals
          go_wp2
          refine bodyPost_ret (v := .tuple #[.agg #[.int .i64 q, .slice av N cv], .agg #[.int .i64 q, .slice ab N cb]]) (by simp [results, Try.results13, go_sem, *]) rfl ?_
          have hxx := hXE.out
          refine ⟨_, _, _, _, rfl, by omega, by omega, ⟨N, L, by omega, hL, ?_⟩, ⟨N, L', by omega, HLn.out, ?_⟩, (by repeat (first | (with_reducible refine Ext.setCell ?_ (by first | (simp; done) | (simp; omega)) _) | with_reducible refine Ext.alloc ?_ _ | with_reducible refine Ext.drew ?_ | with_reducible refine Ext.drewN ?_ _ | with_reducible assumption | with_reducible exact Ext.refl _ | with_reducible refine Ext.trans ?_ (by with_reducible assumption)))⟩
          · exact own_base (own_set (own_set (own_set (own_set (own_ext HO9.out (by repeat (first | (with_reducible refine Ext.setCell ?_ (by first | (simp; done) | (simp; omega)) _) | with_reducible refine Ext.alloc ?_ _ | with_reducible refine Ext.drew ?_ | with_reducible refine Ext.drewN ?_ _ | with_reducible assumption | with_reducible exact Ext.refl _ | with_reducible refine Ext.trans ?_ (by with_reducible assumption)))) (by first | (simp; done) | (simp; omega)) _) (by first | (simp; done) | (simp; omega)) _) (by first | (simp; done) | (simp; omega)) _) (by first | (simp; done) | (simp; omega)) _) (by omega)
          · exact own_base (own_set (own_set (own_set (own_set (own_ext HS.out.own (by repeat (first | (with_reducible refine Ext.setCell ?_ (by first | (simp; done) | (simp; omega)) _) | with_reducible refine Ext.alloc ?_ _ | with_reducible refine Ext.drew ?_ | with_reducible refine Ext.drewN ?_ _ | with_reducible assumption | with_reducible exact Ext.refl _ | with_reducible refine Ext.trans ?_ (by with_reducible assumption)))) (by first | (simp; done) | (simp; omega)) _) (by first | (simp; done) | (simp; omega)) _) (by first | (simp; done) | (simp; omega)) _) (by first | (simp; done) | (simp; omega)) _) (by omega)
  · have ra : w2.heap[w.heap.size]? = some (.cells #[.int .i64 0, .slice none 0 0] 25 (0, 0)) := (HG2.out.heap (by omega) (by simp; omega)).trans HR0.out
    have rb : w2.heap[w.heap.size + 1]? = some (.cells #[.int .i64 0, .slice none 0 0] 25 (0, 0)) := (HG2.out.heap (by omega) (by simp)).trans HR1.out
    have z5 := fun k => cell_of_row _ _ k _ _ _ HBa.out
    go_wp2
    go_region_law
        (refine step_callsQ rfl ?_ (hA _ _ (HC2.out.keep (by first | exact Ext.refl _ | exact (Ext.refl _).drew)) (by omega)).out ?_
         · go_simp
         rintro e w3 ⟨q2, vm2, rfl, hq2, N2, L2, a3, hN2, hL2, ho2, r3, s3, hg3, hc3⟩
         refine ⟨_, rfl, ?_⟩
         obtain ⟨av2, cv2, rfl, _, _, _⟩ := own_shape ho2
         have HO3 : Hid (w3.ownsRow (w.heap.size + 3) 47 3 (.slice av2 N2 cv2) N2 (IL L2)) := own_base ho2 (by simp; omega)
         have HG3 : Hid (GX [w.heap.size + 1 + 1] w2 w3) := (by first | exact (GX.refl _ _).drew.trans (GX.ofGrown hg3) | exact GX.ofGrown hg3)
         have HO23 : Hid (w3.ownsRow (w.heap.size + 3) 47 3 (.slice av N cv) N (IL L)) := own_gx HO2.out HG3.out (by simp)
         have hBa3 : w3.heap[w1.heap.size]? = some (.cells #[.int .i64 q, .slice av N cv] 25 (0, 0)) := (HG3.out.heap hba2 (by simp; omega)).trans HBa.out
         have ra3 : w3.heap[w.heap.size]? = some (.cells #[.int .i64 0, .slice none 0 0] 25 (0, 0)) := (HG3.out.heap (by omega) (by simp; omega)).trans ra
         have rb3 : w3.heap[w.heap.size + 1]? = some (.cells #[.int .i64 0, .slice none 0 0] 25 (0, 0)) := (HG3.out.heap (by omega) (by simp)).trans rb
         have z53 : ∀ k, w3.cell? ⟨w1.heap.size, k, none⟩ = (#[.int .i64 q, .slice av N cv] : Array Value)[k]? := fun k => cell_of_row _ _ k _ _ _ hBa3
         have za3 : ∀ k, w3.cell? ⟨w.heap.size, k, none⟩ = (#[.int .i64 0, .slice none 0 0] : Array Value)[k]? := fun k => cell_of_row _ _ k _ _ _ ra3
         have zb3 : ∀ k, w3.cell? ⟨w.heap.size + 1, k, none⟩ = (#[.int .i64 0, .slice none 0 0] : Array Value)[k]? := fun k => cell_of_row _ _ k _ _ _ rb3
         have fa3 : ∀ k, w3.frozen? ⟨w.heap.size, k, none⟩ = false := fun k => frozen_of_row _ _ k _ _ ra3
         have fb3 : ∀ k, w3.frozen? ⟨w.heap.size + 1, k, none⟩ = false := fun k => frozen_of_row _ _ k _ _ rb3
         have la3 : w.heap.size < w3.heap.size := (Array.getElem?_eq_some_iff.1 ra3).1
         have lb3 : w.heap.size + 1 < w3.heap.size := (Array.getElem?_eq_some_iff.1 rb3).1
         clear ho2 hg3 hc3)
    all_goals
      go_wp2
      refine bodyPost_ret (v := .tuple #[.agg #[.int .i64 q, .slice av N cv], .agg #[.int .i64 q2, .slice av2 N2 cv2]]) (by simp [results, Try.results13, go_sem, *]) rfl ?_
      have hxx : Ext w w3 := (((GX.ofExt (S := [w.heap.size + 1 + 1]) HEW.out).trans HG2.out).trans HG3.out).toExt (by simp; omega)
      refine ⟨_, _, _, _, rfl, by omega, by omega, ⟨N, L, by omega, hL, ?_⟩, ⟨N2, L2, by omega, hL2, ?_⟩, (by repeat (first | (with_reducible refine Ext.setCell ?_ (by first | (simp; done) | (simp; omega)) _) | with_reducible refine Ext.alloc ?_ _ | with_reducible refine Ext.drew ?_ | with_reducible refine Ext.drewN ?_ _ | with_reducible assumption | with_reducible exact Ext.refl _ | with_reducible refine Ext.trans ?_ (by with_reducible assumption)))⟩
      · exact own_base (own_set (own_set (own_set (own_set HO23.out (by first | (simp; done) | (simp; omega)) _) (by first | (simp; done) | (simp; omega)) _) (by first | (simp; done) | (simp; omega)) _) (by first | (simp; done) | (simp; omega)) _) (by omega)
      · exact own_base (own_set (own_set (own_set (own_set HO3.out (by first | (simp; done) | (simp; omega)) _) (by first | (simp; done) | (simp; omega)) _) (by first | (simp; done) | (simp; omega)) _) (by first | (simp; done) | (simp; omega)) _) (by omega)

end Go.Proofs.Ytbddgeoaaklgpaa
