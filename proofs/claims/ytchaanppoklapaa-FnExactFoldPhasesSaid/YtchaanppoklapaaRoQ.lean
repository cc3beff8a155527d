/- Rotations that are folded: a rotation is added to its group. -/
import Derived.Test.YtchaanppoklapaaRoP
namespace Go.Proofs.Ytchaanppoklapaa
open Go.RowKit Go.Lib
set_option linter.unusedVariables false
set_option linter.unusedSimpArgs false

theorem still_tail_at2 {id : Nat} {Q : Exit → Act → World → Prop} {a : Act} {w : World} {l : List Oper} (n : Nat) (hm : Try.prog.follows .mixedOrders = true) (hB : Region.lexTailB .any l.toArray n = true)
    (h : ∀ wD, wD = w.drew → wpStill Try.prog l.toArray wD (fun a' => wpList Try.prog l.toArray Q (l.drop n) a' wD) (l.take n) a) : (Code.region id l.toArray true).wp Try.prog Q a w :=
  wp_region_still_tail n hm hB (h _ rfl)
theorem heap_drewM {w : World} {k : Nat} {x : Option Obj} (h : w.heap[k]? = x) : w.drew.heap[k]? = x := h
theorem GRS.shape {w : World} {lo : Nat} {v : Value} {G : List Gp} (h : GRS w lo v G) : ∃ a c, v = .slice a G.length c := by
  obtain ⟨zs, h1, _⟩ := h
  obtain ⟨a, c, e, _⟩ := own_shape h1
  exact ⟨a, c, e⟩

set_option maxRecDepth 20000 in
set_option maxHeartbeats 4000000 in
theorem rotate_any (M lo hi Q : Nat) {vv gv : Value} {σ : Fs} (j a c : Nat) (w : World) (h : MS w M lo hi Q vv gv σ) (hI : FsI Q j σ) (ha : a < Q) (hq : Q ≤ 5) (hj : j ≤ 400) (hc : 1 ≤ c ∧ c ≤ 7) (w0 : World) (h0 : w0.heap.size ≤ M) (hx : Ext w0 w) :
    Calls Try.prog 62 #[.pointer (some ⟨M, 0, none⟩), .int .i64 j, .int .i64 a, .int .i64 c] w fun e w' => e = .returned (.tuple #[]) ∧ (∃ gv', MS w' M lo hi Q vv gv' (rotG σ j a c)) ∧ Ext w0 w' := by
  have hgl := hI.gl
  have hgl4 : σ.G.length ≤ 400 := by omega
  have hVl := hI.vl
  have HI := Lib.hid hI
  have HC0 := h.cell
  have HV0 := h.vals
  have HX0 := Lib.hid hx
  have HMS := Lib.hid h
  have hml := h.ml
  have hlh := h.lh
  have zM := fun k => cell_of_row _ _ k _ _ _ HC0
  have lM := (Array.getElem?_eq_some_iff.1 HC0).1
  obtain ⟨av, cv, rfl, _, _, hv3⟩ := own_shape HV0
  obtain ⟨Bv, rfl, hb1, hb2, hb3, hb4⟩ := hv3 (by omega)
  have y0 := hb3 _ _ (VU_at (V := σ.V) (i := a) (by omega)).1
  have y1 := hb3 _ _ (VU_at (V := σ.V) (i := a) (by omega)).2
  obtain ⟨ag, cg, rfl⟩ := h.grp.shape
  obtain ⟨zs0, g1, g2, g3, g4⟩ := h.grp
  have HGR : Hid (∀ W, Ext w W → W.ownsRow hi 67 5 (.slice ag σ.G.length cg) σ.G.length zs0 ∧ DG W (.slice ag σ.G.length cg) zs0 ∧ ∀ j, j < σ.G.length → EG W hi zs0 j (gAt σ.G j)) := Lib.hid (fun W hX => ⟨own_ext g1 hX, ⟨g3.1, g3.2.1, fun p x k hp hk => Nat.lt_of_lt_of_le (g3.2.2 p x k hp hk) hX.size⟩, fun j hj => by
    obtain ⟨s, e0, e1, e2, e3, e4, o⟩ := g4 j hj
    exact ⟨s, e0, e1, e2, e3, e4, own_ext o hX⟩⟩)
  have HZ := Lib.hid g2
  have HLT := Lib.hid g3.2.2
  have HBK : Hid (∀ k, (Value.slice ag σ.G.length cg).ownBlock = some k → hi ≤ k ∧ k < w.heap.size) := Lib.hid (fun k hk => g1.lt k hk)
  clear g1 g2 g3 g4
  have ha' : (a : Int) < Q := by omega
  rcases hxa : vAt σ.V a with ⟨x1, x2⟩
  rw [hxa] at y0 y1
  simp only at y0 y1
  have HRG : Hid (rotG σ j a c = ⟨σ.V, σ.u, (adG σ.G j x1 x2).set (fdG σ.G x1) (moG (gAt (adG σ.G j x1 x2) (fdG σ.G x1)) (x2 != (gAt (adG σ.G j x1 x2) (fdG σ.G x1)).p) j c), if x2 != (gAt (adG σ.G j x1 x2) (fdG σ.G x1)).p then (σ.s + c) % 8 else σ.s⟩) := by
    have h := rotG_eq σ j a c
    rw [hxa] at h
    exact h
  obtain ⟨G1, hG1⟩ : ∃ G1, G1 = adG σ.G j x1 x2 := ⟨_, rfl⟩
  obtain ⟨i, hii⟩ : ∃ i, i = fdG σ.G x1 := ⟨_, rfl⟩
  rw [← hG1, ← hii] at HRG
  obtain ⟨w1, hw1⟩ : ∃ x, x = w.alloc (.cells #[.int .u64 x1, .bool x2] 64 (0, 0)) := ⟨_, rfl⟩
  have HX1 : Hid (Ext w w1) := by rw [hw1]; exact (Ext.refl _).alloc _
  have hB1 : w1.heap[w.heap.size]? = some (.cells #[.int .u64 x1, .bool x2] 64 (0, 0)) := by rw [hw1]; exact heap_alloc_new _ _
  have HM1 := Lib.hid (h.ext HX1.out)
  have HIF := Lib.hid (index1_any x1 x2 w.heap.size (by omega) w1 HM1.out.grp hB1)
  have HFI : Hid (fdI σ.G x1 = if fdG σ.G x1 < σ.G.length then (fdG σ.G x1 : Int) else -1) := rfl
  have HFL := Lib.hid (fdG_le σ.G x1)
  have hC1 := row_farM HC0 HX1.out
  have zM1 := fun k => cell_of_row _ _ k _ _ _ hC1
  have lM1 := (Array.getElem?_eq_some_iff.1 hC1).1
  clear hb3 hb4 hv3 hI hx h
  go_enter Try.func62, Try.ntmps62
  go_upto_region 1 with fail
  rw [← hw1]
  clear hw1
  go_wp2_with fail
  refine HIF.out.mono ?_
  rintro e w2 ⟨rfl, hx2⟩
  have HB2 := Lib.hid (row_farM hB1 hx2)
  have HXW := Lib.hid (HX1.out.trans hx2)
  have HM2 := Lib.hid (HM1.out.ext hx2)
  have HX2 := Lib.hid (HX0.out.trans (HX1.out.trans hx2))
  have hC2 := HM2.out.cell
  have zM2 := fun k => cell_of_row _ _ k _ _ _ hC2
  have zB2 := fun k => cell_of_row _ _ k _ _ _ HB2.out
  have lM2 := (Array.getElem?_eq_some_iff.1 hC2).1
  have fM2 := fun k => frozen_of_row _ _ k _ _ hC2
  have hs2 := hx2.size
  have hs1 := HX1.out.size
  have lB2 := (Array.getElem?_eq_some_iff.1 HB2.out).1
  clear y0 y1 zM lM zM1 lM1 hB1 hC1 HIF hx2
  rw [HFI.out]
  by_cases hf : fdG σ.G x1 < σ.G.length
  focus
    rw [if_pos hf, ← hii]
    have hG2 : σ.G = G1 := by rw [hG1]; unfold adG; rw [if_pos hf]
    have hiG : i < σ.G.length := by omega
    have hi1 : i < G1.length := by rw [← hG2]; exact hiG
    have hgc8 : (gAt G1 i).c < 8 ∧ (gAt G1 i).L.length ≤ 400 := by
      rw [← hG2]
      have h9 := HI.out.gt i hiG
      exact ⟨h9.2.1, by omega⟩
    obtain ⟨h1, h3, h4⟩ := HGR.out _ HXW.out
    have h2 := HZ.out
    rw [hG2] at h2 h4
    obtain ⟨zs, hzs⟩ : ∃ x, x = zs0 := ⟨_, rfl⟩
    rw [← hzs] at h1 h2 h3 h4 HLT
    have HNB : Hid (∀ (p : Nat) (x : Value) (k : Nat), zs[p]? = some x → x.ownBlock = some k → k ≠ w.heap.size) := Lib.hid (fun p x k hp hk => Nat.ne_of_lt (HLT.out p x k hp hk))
    clear hzs
    have H2 := Lib.hid h2
    have H3 := Lib.hid h3
    have H4 := Lib.hid h4
    obtain ⟨ag2, cg2, ee, _, _, hg3⟩ := own_shape h1
    injection ee with ee1 _ ee3
    subst ee1 ee3
    obtain ⟨Bg, rfl, hb1', hb2', hb3', hb4'⟩ := hg3 (by omega)
    have hnl := congrArg List.length hG2
    have hBgw : Bg ≠ w.heap.size := by have := (HBK.out Bg rfl).2; omega
    have hn1 : σ.G.length = G1.length := hnl
    have HN1 := Lib.hid hn1
    clear hn1
    have H1 : Hid (w2.ownsRow hi 67 5 (.slice (some ⟨Bg, 0, none⟩) σ.G.length cg) G1.length zs) := by rw [← hnl]; exact Lib.hid h1
    obtain ⟨wT, hwT⟩ : ∃ x, x = w2 := ⟨_, rfl⟩
    rw [← hwT] at HB2 HM2 HX2 hC2 hs2 lB2 lM2 H1 H3 H4 hb2' hb3' hb4'
    have HV2 := Lib.hid HM2.out.vals
    have HW2 := Lib.hid HM2.out.hw
    clear h1 h2 h3 h4 hg3 hf hG2 hG1 hii zM2 zB2 fM2 HFI HFL HM2 hb3' hb4'
    go_upto_region 5 with fail
    rw [← hwT]
    clear hwT
  rotate_left
  focus
    rw [if_neg hf]
    have hiL : i = σ.G.length := by have := HFL.out; omega
    have hG2 : G1 = σ.G ++ [(⟨j, 0, x1, x2, []⟩ : Gp)] := by rw [hG1]; unfold adG; rw [if_neg hf]
    have HW := Lib.hid HM2.out.hw
    have HVL := Lib.hid HM2.out.vals
    have HC2 := Lib.hid hC2
    have HGR2 := Lib.hid (fun W (hX : Ext w2 W) => HGR.out W (HXW.out.trans hX))
    go_upto_region 4 with fail
    go_region_law
        (refine step_append_val (base := hi) rfl elt_GP rfl (.slice ag σ.G.length cg) σ.G.length zs0 rfl ?_ (.slice (some ⟨w2.heap.size, 0, none⟩) 1 1) 1 [.int .i64 j, .int .i64 0, .int .u64 x1, .bool x2, .slice none 0 0] rfl ?_ ?_ ?_ ?_
         · exact (HGR2.out _ (((Ext.refl _).drew).alloc _)).1
         · exact RVV.ofHeap (heap_alloc_new _ _) rfl rfl (by intro u hu; simp at hu; rcases hu with rfl | rfl | rfl | rfl | rfl <;> rfl)
         · omega
         · exact Nat.le_trans HW.out (((Ext.refl w2).drew).alloc _).size
         intro v5 w5 hown5 hgrow5 hiff5 hloc5
         have hM5 : w5.heap[M]? = some (.cells #[.slice (some ⟨Bv, 0, none⟩) Q cv, .int .i64 σ.u, .slice ag σ.G.length cg, .int .i64 σ.s] 59 (0, 0)) := heap_grown hgrow5 (k := M) (row_farM HC2.out (((Ext.refl w2).drew).alloc _)) (fun e => by have h9 := (HBK.out _ e.symm).1; omega)
         have hV5 : w5.ownsRow lo 64 2 (.slice (some ⟨Bv, 0, none⟩) Q cv) Q (VU σ.V) := own_farM (own_ext HVL.out (((Ext.refl w2).drew).alloc _)) hgrow5 (fun k hk he => by have h9 := (HBK.out _ he).1; have h8 := HMS.out.vhi k hk; omega)
         have hB5 : w5.heap[w.heap.size]? = some (.cells #[.int .u64 x1, .bool x2] 64 (0, 0)) := heap_grown hgrow5 (k := w.heap.size) (row_farM HB2.out (((Ext.refl w2).drew).alloc _)) (fun e => by have h9 := (HBK.out _ e.symm).2; omega)
         obtain ⟨zs, hz1, hz2, hz3, hz4, hz5⟩ := GRS.snoc (t := j) (x := x1) (p := x2) HZ.out (HGR2.out _ (((Ext.refl w2).drew).alloc _)).2.1 (HGR2.out _ (((Ext.refl w2).drew).alloc _)).2.2 hgrow5 hloc5 hown5
         have hK5 : Hid (∀ k, v5.ownBlock = some k → k ≠ w.heap.size) := Lib.hid (fun k hk e => by
           rcases hloc5 with h | h
           · have h9 := (HBK.out k (by rw [← h]; exact hk)).2
             omega
           · rw [h] at hk
             have h9 := Option.some.inj hk
             have h8 : w2.heap.size ≤ k := by rw [← h9]; exact (((Ext.refl w2).drew).alloc _).size
             omega)
         have HZ1 : Hid (w5.ownsRow hi 67 5 v5 (σ.G ++ [(⟨j, 0, x1, x2, []⟩ : Gp)]).length zs) := hz1
         have HZ2 : Hid (zs.length = (σ.G ++ [(⟨j, 0, x1, x2, []⟩ : Gp)]).length * 5) := hz2
         have HZ3 : Hid (DG w5 v5 zs) := hz3
         have HZ4 : Hid (∀ i, i < (σ.G ++ [(⟨j, 0, x1, x2, []⟩ : Gp)]).length → EG w5 hi zs i (gAt (σ.G ++ [(⟨j, 0, x1, x2, []⟩ : Gp)]) i)) := hz4
         have HNB : Hid (∀ (p : Nat) (x : Value) (k : Nat), zs[p]? = some x → x.ownBlock = some k → k ≠ w.heap.size) := Lib.hid (fun p x k hp hk => Nat.ne_of_lt (HLT.out p x k (hz5 p x k hp hk) hk))
         have hE5 : Ext w0 w5 := Ext.grown (HX2.out.trans (((Ext.refl w2).drew).alloc _)) hgrow5 (fun k hk => by have h9 := (HBK.out _ hk).1; omega)
         have hW5 : hi ≤ w5.heap.size := Nat.le_trans HW.out (Nat.le_trans (((Ext.refl w2).drew).alloc _).size hgrow5.size)
         have hM5' : Hid (w5.heap[M]? = some (.cells #[.slice (some ⟨Bv, 0, none⟩) Q cv, .int .i64 σ.u, .slice ag σ.G.length cg, .int .i64 σ.s] 59 (0, 0))) := hM5
         have HV5 : Hid (w5.ownsRow lo 64 2 (.slice (some ⟨Bv, 0, none⟩) Q cv) Q (VU σ.V)) := hV5
         have HB5 : Hid (w5.heap[w.heap.size]? = some (.cells #[.int .u64 x1, .bool x2] 64 (0, 0))) := hB5
         have HE5 : Hid (Ext w0 w5) := hE5
         have zM5 : ∀ k, w5.cell? ⟨M, k, none⟩ = (#[.slice (some ⟨Bv, 0, none⟩) Q cv, .int .i64 σ.u, .slice ag σ.G.length cg, .int .i64 σ.s] : Array Value)[k]? := fun k => cell_of_row _ _ k _ _ _ hM5
         have fM5 : ∀ k, w5.frozen? ⟨M, k, none⟩ = false := fun k => frozen_of_row _ _ k _ _ hM5
         have lM5 : M < w5.heap.size := (Array.getElem?_eq_some_iff.1 hM5).1
         obtain ⟨a5, c5, rfl, _, _, _⟩ := own_shape hown5
         clear hown5 hgrow5 hiff5 hloc5 hV5 hB5 hz1 hz2 hz3 hz4 hz5 hE5 hM5)
    all_goals
      have hi1 : i < G1.length := by rw [hG2, hiL]; simp
      have hgc8 : (gAt G1 i).c < 8 ∧ (gAt G1 i).L.length ≤ 400 := by
        rw [hG2, hiL, gAt_new]
        exact ⟨by show (0 : Nat) < 8; decide, Nat.zero_le _⟩
      have HTM0 := Lib.hid (heap_set_at hM5'.out 2 (.slice a5 (σ.G.length + 1) c5))
      obtain ⟨wT, hwT⟩ : ∃ x, x = w5.setCell ⟨M, 2, none⟩ (.slice a5 (σ.G.length + 1) c5) := ⟨_, rfl⟩
      have hC2 : wT.heap[M]? = some (.cells #[.slice (some ⟨Bv, 0, none⟩) Q cv, .int .i64 σ.u, .slice a5 (σ.G.length + 1) c5, .int .i64 σ.s] 59 (0, 0)) := by rw [hwT]; exact HTM0.out
      have h1 : wT.ownsRow hi 67 5 (.slice a5 (σ.G.length + 1) c5) G1.length zs := by rw [hwT, hG2]; exact own_set HZ1.out (by show M < hi; omega) _
      have h2 : zs.length = G1.length * 5 := by rw [hG2]; exact HZ2.out
      have h3 : DG wT (.slice a5 (σ.G.length + 1) c5) zs := ⟨HZ3.out.1, HZ3.out.2.1, fun p x k hp hk => by rw [hwT, setCell_sz]; exact HZ3.out.2.2 p x k hp hk⟩
      have h4 : ∀ i, i < G1.length → EG wT hi zs i (gAt G1 i) := by
        rw [hwT, hG2]
        intro i hi'
        obtain ⟨s, e0, e1, e2, e3, e4, o⟩ := HZ4.out i hi'
        exact ⟨s, e0, e1, e2, e3, e4, own_set o (by show M < hi; omega) _⟩
      have HX2 : Hid (Ext w0 wT) := by rw [hwT]; exact Lib.hid (HE5.out.setCell h0 _)
      have HB2 : Hid (wT.heap[w.heap.size]? = some (.cells #[.int .u64 x1, .bool x2] 64 (0, 0))) := by rw [hwT]; exact Lib.hid (heap_set_ne (by show w.heap.size ≠ M; omega) HB5.out)
      have HV2 : Hid (wT.ownsRow lo 64 2 (.slice (some ⟨Bv, 0, none⟩) Q cv) Q (VU σ.V)) := by rw [hwT]; exact Lib.hid (own_set HV5.out (by show M < lo; omega) _)
      have HW2 : Hid (hi ≤ wT.heap.size) := by rw [hwT, setCell_sz]; exact Lib.hid hW5
      have lM2 := (Array.getElem?_eq_some_iff.1 hC2).1
      have lB2 := (Array.getElem?_eq_some_iff.1 HB2.out).1
      have H2 := Lib.hid h2
      have H3 := Lib.hid h3
      have H4 := Lib.hid h4
      obtain ⟨ag2, cg2, ee, _, _, hg3⟩ := own_shape h1
      have hgl1 : G1.length = σ.G.length + 1 := by rw [hG2]; simp
      injection ee with ee1 _ ee3
      subst ee1 ee3
      obtain ⟨Bg, rfl, hb1', hb2', hb3', hb4'⟩ := hg3 (by omega)
      have H1 : Hid (wT.ownsRow hi 67 5 (.slice (some ⟨Bg, 0, none⟩) (σ.G.length + 1) c5) G1.length zs) := Lib.hid h1
      have hBgw : Bg ≠ w.heap.size := hK5.out Bg rfl
      have HN1 : Hid (σ.G.length + 1 = G1.length) := Lib.hid hgl1.symm
      rw [← hwT]
      rw [← hiL]
      have hiG : i < σ.G.length + 1 := by omega
      clear h1 h2 h3 h4 hg3 hf hG2 hG1 hii zM2 zB2 fM2 HFI HFL HM2 hb3' hb4' hM5' HV5 HB5 HE5 zM5 fM5 lM5 HTM0 hwT HGR2 HZ HW HVL HBK HC2 hiL HZ1 HZ2 HZ3 HZ4 hK5 hgl1
      go_upto_region 5 with fail
  all_goals
    obtain ⟨s, e0, e1, e2, e3, e4, os⟩ := H4.out i hi1
    obtain ⟨ag3, cg3, ee, _, _, hg3⟩ := own_shape H1.out
    injection ee with ee1 _ ee3
    subst ee1 ee3
    obtain ⟨_, eB, hB1', hB2', hB3', hB4'⟩ := hg3 (by omega)
    cases eB
    obtain ⟨sa, cs, rfl, _, _, _⟩ := own_shape os
    have y4 := hB3' _ _ e4
    have zMT := fun k => cell_of_row _ _ k _ _ _ hC2
    have HOS := Lib.hid os
    have HSB : Hid (∀ k, (Value.slice sa (gAt G1 i).L.length cs).ownBlock = some k → k ≠ Bg ∧ hi ≤ k) := Lib.hid (fun k hk => ⟨fun e => H3.out.1 _ _ k e4 hk (by rw [e]; rfl), (os.lt k hk).1⟩)
    clear os e0 e1 e2 e3 hB3' hg3
    try clear hnl
    try clear hgl1
    clear hxa HC0
    generalize hgg : gAt G1 i = g at *
    have hx3 := (Ext.refl wT).alloc (.cells #[.int .i64 j] 3 (0, 0))
    have HX3 := Lib.hid hx3
    have HOS3 := Lib.hid (own_ext HOS.out hx3)
    have HMJ := Lib.hid (heap_alloc_new wT (.cells #[.int .i64 j] 3 (0, 0)))
    have hb3 : hi ≤ (wT.alloc (.cells #[.int .i64 j] 3 (0, 0))).heap.size := Nat.le_trans HW2.out hx3.size
    clear hx3
    have HG0 := Lib.hid (fun (W : World) (hX : Ext wT W) => (⟨own_ext H1.out hX, ⟨H3.out.1, H3.out.2.1, fun p x k hp hk => Nat.lt_of_lt_of_le (H3.out.2.2 p x k hp hk) hX.size⟩, fun j hj => by
      obtain ⟨s, e0, e1, e2, e3, e4, o⟩ := H4.out j hj
      exact ⟨s, e0, e1, e2, e3, e4, own_ext o hX⟩⟩ : W.ownsRow hi 67 5 _ G1.length zs ∧ DG W _ zs ∧ ∀ j, j < G1.length → EG W hi zs j (gAt G1 j)))
    have E4 := Lib.hid e4
    have HM2' := Lib.hid hC2
    go_upto_region 7 with (at_builtin; go_loud (refine wpList_append_rvt (base := hi) rfl elt_IF rfl (.slice sa g.L.length cs) g.L.length (g.L.map Int.ofNat) rfl HOS3.out _ 1 [(j : Int)] rfl (rv_heap HMJ.out rfl rfl (by omega) (by decide)) (by omega) hb3 ?_); intro v6 w6 hown6 hgrow6 hiff6 hloc6; have hG6 := own_farM (HG0.out _ HX3.out).1 hgrow6 (fun k hk he => (HSB.out k he).1 (by cases hk; rfl)); obtain ⟨_, _, ea6, _, _, hg6⟩ := own_shape hG6; injection ea6 with ea61 _ ea63; subst ea61 ea63; obtain ⟨_, eB6, _, _, hB6, fB6⟩ := hg6 (by omega); cases eB6; have y46 := hB6 _ _ E4.out; have HG6 := Lib.hid hG6; have HM6 := Lib.hid (heap_grown hgrow6 (k := M) (row_farM HM2'.out HX3.out) (fun e => by have h9 := (HSB.out _ e.symm).2; omega)); have HB6 := Lib.hid (heap_grown hgrow6 (k := w.heap.size) (row_farM HB2.out HX3.out) (fun e => HNB.out _ _ _ E4.out e.symm rfl)); have HL6 := Lib.hid hloc6; have HO6 := Lib.hid hown6; have HR6 := Lib.hid hgrow6; obtain ⟨a6, c6, rfl, _, _, _⟩ := own_shape hown6; clear hg6 hG6 hown6 hgrow6 hiff6 hloc6 hB6)
    obtain ⟨w7, hw7⟩ : ∃ x, x = w6.setCell ⟨Bg, i * 5 + 4, none⟩ (.slice a6 (g.L.length + 1) c6) := ⟨_, rfl⟩
    have HG7 := Lib.hid (GRS.app (lo := hi) (at' := j) HN1.out (HG0.out _ HX3.out).1 H2.out (HG0.out _ HX3.out).2.1 (HG0.out _ HX3.out).2.2 hi1 E4.out HR6.out HL6.out (by rw [hgg]; exact HO6.out))
    rw [← hw7] at HG7
    have hM7 := heap_set_ne (p := ⟨Bg, i * 5 + 4, none⟩) (u := .slice a6 (g.L.length + 1) c6) (by show M ≠ Bg; omega) HM6.out
    rw [← hw7] at hM7
    have hB7 := heap_set_ne (p := ⟨Bg, i * 5 + 4, none⟩) (u := .slice a6 (g.L.length + 1) c6) (fun e => hBgw e.symm) HB6.out
    rw [← hw7] at hB7
    have HV7 : Hid (w7.ownsRow lo 64 2 (.slice (some ⟨Bv, 0, none⟩) Q cv) Q (VU σ.V)) := by
      rw [hw7]
      exact Lib.hid (own_setm (own_farM (own_ext HV2.out HX3.out) HR6.out (fun k hk he => by have h9 := (HSB.out _ he).2; have h8 := HMS.out.vhi k hk; omega)) (fun k hk e => by have h8 := HMS.out.vhi k hk; have e' : k = Bg := e; omega) _)
    have HE7 : Hid (Ext w0 w7) := by
      rw [hw7]
      exact Lib.hid ((Ext.grown (HX2.out.trans HX3.out) HR6.out (fun k hk => by have h9 := (HSB.out _ hk).2; omega)).setCell (by show w0.heap.size ≤ Bg; omega) _)
    have HW7 : Hid (hi ≤ w7.heap.size) := by
      rw [hw7, setCell_sz]
      exact Lib.hid (Nat.le_trans hb3 HR6.out.size)
    rw [← hw7]
    clear hw7 HG0 HR6 HL6 HO6 HM6 HB6 HG6 y46 fB6 y4 HX3 HOS HOS3 HMJ hb3 zMT hB4' HM2' HX2 HB2 HV2 HW2 hC2 E4 HSB H1 H2 H3 H4 HNB lM2 lB2 hs2
    obtain ⟨zs7, q1, q2, q3, q4⟩ := HG7.out
    obtain ⟨s7, e0, e1, e2, e3, e4, os⟩ := q4 i (by rw [List.length_set]; exact hi1)
    rw [gAt_set hi1, if_pos rfl] at e1 e3
    obtain ⟨ag4, cg4, ee, _, _, hg4⟩ := own_shape q1
    injection ee with ee1 _ ee3
    subst ee1 ee3
    obtain ⟨_, eB, hB1q, hB2q, hB3q, hB4q⟩ := hg4 (by rw [List.length_set]; omega)
    cases eB
    have y1 := hB3q _ _ e1
    have y3 := hB3q _ _ e3
    simp only at y1 y3
    have zM7 := fun k => cell_of_row _ _ k _ _ _ hM7
    have fM7 := fun k => frozen_of_row _ _ k _ _ hM7
    have lM7 := (Array.getElem?_eq_some_iff.1 hM7).1
    have zB7 := fun k => cell_of_row _ _ k _ _ _ hB7
    have lB7 := (Array.getElem?_eq_some_iff.1 hB7).1
    have HM7 := Lib.hid hM7
    have hMB : M ≠ Bg := by omega
    have hBM : Bg ≠ M := by omega
    have HHI := Lib.hid hi1
    rw [hgg] at y1 y3
    clear hM7 hB7 q1 q2 q3 q4 e0 e1 e2 e3 e4 os hg4 hB3q
    have hgc := hgc8.1
    have HS8 := HI.out.sb
    have HCF := Lib.hid (fun (W : World) (cap : Nat) (h : GRS W hi (.slice (some ⟨Bg, 0, none⟩) _ cap) _) (cc : Nat) => GRS.coef (w := W) (lo := hi) (Bg := Bg) (G := G1.set i { g with L := g.L ++ [j] }) (HN1.out.trans (List.length_set).symm) h (i := i) (by rw [List.length_set]; exact hi1) cc)
    rw [hgg] at HG7
    have hGn : gAt (G1.set i { g with L := g.L ++ [j] }) i = { g with L := g.L ++ [j] } := by rw [gAt_set hi1, if_pos rfl]
    have hBvg : Hid (∀ k, (Value.slice (some ⟨Bv, 0, none⟩) Q cv).ownBlock = some k → k ≠ Bg) := Lib.hid (fun k (hk : (Value.slice (some ⟨Bv, 0, none⟩) Q cv).ownBlock = some k) e => by have h8 := HMS.out.vhi k hk; omega)
    have hBvM : Hid (∀ k, (Value.slice (some ⟨Bv, 0, none⟩) Q cv).ownBlock = some k → k ≠ M) := Lib.hid (fun k (hk : (Value.slice (some ⟨Bv, 0, none⟩) Q cv).ownBlock = some k) e => by have h8 := (HV0.lt k hk).1; omega)
    have HMO := Lib.hid (fun d => mo_set hi1 d j c)
    rw [hgg] at HMO
    cases hd : (x2 != g.p)
    focus
      have hp : x2 = g.p := by simpa using hd
      rw [hd] at HRG
      have HMO2 := Lib.hid (HMO.out false)
      subst x2
      clear hd HMO hgg
      go_region
      all_goals go_wp2
      (try simp only [Exit.inBlock, Exit.then])
      refine bodyPost_end (results_none rfl _ _ _) rfl ?_
      have hr : rotG σ j a c = ⟨σ.V, σ.u, G1.set i (moG g false j c), σ.s⟩ := by rw [HRG.out]; rfl
      refine ⟨rfl, ?_, ?_⟩
      · rw [hr]
        apply Exists.intro
        refine ⟨heap_drewM (heap_set_ne hMB HM7.out), own_ext (own_setm HV7.out hBvg.out _) (Ext.refl _).drew, HMS.out.vhi, ?_, hml, hlh, ?_⟩
        · have h9 := HCF.out w7 _ HG7.out ((g.c + c) % 8)
          have h8 := HMO2.out
          rw [hGn] at h9
          rw [hGn] at h8
          rw [← h8]
          exact h9.ext (Ext.refl _).drew
        · show hi ≤ (w7.setCell _ _).heap.size
          rw [setCell_sz]
          exact HW7.out
      · exact (HE7.out.setCell (by show w0.heap.size ≤ Bg; omega) _).drew
    focus
      have hp1 : x2 ≠ g.p := by simpa using hd
      rw [hd] at HRG
      have HMO2 := Lib.hid (HMO.out true)
      have hp2 : (x2 == g.p) = false := by simpa using hp1
      clear hd HMO hgg
      go_region
      all_goals go_wp2
      (try simp only [Exit.inBlock, Exit.then])
      refine bodyPost_end (results_none rfl _ _ _) rfl ?_
      have hr : rotG σ j a c = ⟨σ.V, σ.u, G1.set i (moG g true j c), (σ.s + c) % 8⟩ := by rw [HRG.out]; rfl
      have hc8 : (8 : Int) - c = ((8 - c : Nat) : Int) := by omega
      refine ⟨rfl, ?_, ?_⟩
      · rw [hr]
        apply Exists.intro
        refine ⟨heap_drewM (heap_set_ne hMB (heap_set_at HM7.out 3 _)), own_ext (own_setm (own_setm HV7.out hBvM.out _) hBvg.out _) (Ext.refl _).drew, HMS.out.vhi, ?_, hml, hlh, ?_⟩
        · have h9 := HCF.out _ _ (HG7.out.setn (p := ⟨M, 3, none⟩) (by show M < hi; omega) (.int .i64 ((σ.s + c) % 8))) ((g.c + (8 - c)) % 8)
          have h8 := HMO2.out
          rw [hGn] at h9
          rw [hGn] at h8
          simp only [if_true] at h8
          rw [← h8, hc8]
          exact h9.ext (Ext.refl _).drew
        · show hi ≤ ((w7.setCell _ _).setCell _ _).heap.size
          rw [setCell_sz, setCell_sz]
          exact HW7.out
      · exact ((HE7.out.setCell (by show w0.heap.size ≤ M; omega) _).setCell (by show w0.heap.size ≤ Bg; omega) _).drew

end Go.Proofs.Ytchaanppoklapaa
