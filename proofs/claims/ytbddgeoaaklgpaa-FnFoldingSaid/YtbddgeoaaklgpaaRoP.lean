/- Rotations that are folded: the program's rotate. -/
import Derived.Test.YtbddgeoaaklgpaaFm
import Derived.Deep.RegionHeld3
import Derived.Deep.RegionLaw
import Derived.Deep.Cut
import Derived.Deep.CutRange
import Derived.Deep.CutBlock
import Derived.StillTailTactics
namespace Go.Proofs.Ytbddgeoaaklgpaa
open Go.RowKit Go.Lib
set_option linter.unusedVariables false
set_option linter.unusedSimpArgs false

theorem elt_PV : Elt Try.prog 56 52 2 16 := elt_of (z := .agg #[.int .u64 0, .bool false]) Try.underlying56 (by kernel_rfl) rfl (by decide) (by decide)
theorem elt_GP : Elt Try.prog 49 55 5 56 := elt_of (z := .agg #[.int .i64 0, .int .i64 0, .int .u64 0, .bool false, .slice none 0 0]) Try.underlying49 (by kernel_rfl) rfl (by decide) (by decide)
theorem elt_IF : Elt Try.prog 53 3 1 8 := elt_of (z := .int .i64 0) Try.underlying53 (by kernel_rfl) rfl (by decide) (by decide)

set_option maxRecDepth 20000 in
set_option maxHeartbeats 1000000 in
theorem rotationCoef_any (k : Int) (w : World) : Calls Try.prog 75 #[.int .i64 k] w fun e w' => e = .returned (.int .i64 (cfK k)) ∧ w' = w := by
  have h4 : Hid (cfK k = if k = 4 then 4 else if k = 5 then 2 else if k = 6 then 6 else if k = 7 then 1 else if k = 8 then 7 else 0) := rfl
  go_enter Try.func75, Try.ntmps75
  go_wp2
  all_goals (go_ret; refine ⟨?_, rfl⟩; rw [h4.out]; clear h4; simp_all)

theorem rot1_any (x : Nat) (p : Bool) (B : Nat) (t c v : Int) (q : Bool) (a : Option Addr) (n m : Nat) (w : World) (hB : w.heap[B]? = some (.cells #[.int .u64 x, .bool p] 52 (0, 0))) :
    Calls Try.prog 89 #[.agg #[.int .i64 t, .int .i64 c, .int .u64 v, .bool q, .slice a n m], .pointer (some ⟨B, 0, none⟩)] w fun e w' => e = .returned (.bool (v == (x : Int))) ∧ Ext w w' := by
  have z : ∀ q, w.cell? ⟨B, q, none⟩ = (#[.int .u64 x, .bool p] : Array Value)[q]? := fun q => cell_of_row _ _ _ _ _ _ hB
  have l := (Array.getElem?_eq_some_iff.1 hB).1
  clear hB
  go_enter Try.func89, Try.ntmps89
  go_wp2
  go_ret
  exact ⟨rfl, (by repeat (first | exact Ext.refl _ | assumption | refine Ext.alloc ?_ _ | refine Ext.drew ?_ | refine Ext.drewN ?_ _ | refine Ext.setCell ?_ (by first | omega | (dsimp only; omega) | (simp; done) | (simp; omega)) _ | refine Ext.trans ?_ (by assumption)))⟩

/-- where the first group with a value stands, or -1 -/
def fdI (G : List Gp) (x : Nat) : Int := if fdG G x < G.length then (fdG G x : Int) else -1

set_option maxRecDepth 20000 in
set_option maxHeartbeats 2000000 in
theorem index1_any (x : Nat) (p : Bool) (B : Nat) {lo : Nat} {v : Value} {G : List Gp} (hn : G.length ≤ 2000000) (w : World) (h : GRS w lo v G) (hB : w.heap[B]? = some (.cells #[.int .u64 x, .bool p] 52 (0, 0))) :
    Calls Try.prog 22 #[v, .func (.func 89) #[] #[.pointer (some ⟨B, 0, none⟩)]] w fun e w' => e = .returned (.int .i64 (fdI G x)) ∧ Ext w w' := by
  have HC := fun t c v q a n m w' (hx : Ext w w') => Lib.hid (rot1_any x p B t c v q a n m w' (row_farM hB hx))
  obtain ⟨zs, h1, h2, h3, h4⟩ := h
  have H1 := Lib.hid h1
  have H4 := Lib.hid h4
  obtain ⟨ag, cg, rfl, _, _, _⟩ := own_shape h1
  have HF : Hid (fdI G x = if fdG G x < G.length then (fdG G x : Int) else -1) := rfl
  have HN := Lib.hid (fdG_le G x)
  clear h1 h3 h4 h2 hB
  go_enter Try.func22, Try.ntmps22
  go_wp2
  go_loopw [5, 8] (fun _ i wr => ∃ j : Nat, j ≤ G.length ∧ i = .int .i64 j ∧ Hid (j ≤ fdG G x) ∧ Ext w wr) (fun _ i _ => G.length - (intOf i).toNat)
  case atStart => exact ⟨0, by omega, rfl, Nat.zero_le _, Ext.refl _⟩
  case round =>
    obtain ⟨j, hj, rfl, HO, hE⟩ := hrel
    have HE := Lib.hid hE
    by_cases hlt : j < G.length
    · have hlt' : (j : Int) < G.length := by omega
      obtain ⟨s, e0, e1, e2, e3, e4, os⟩ := H4.out j hlt
      obtain ⟨ag2, cg2, ee, _, _, hg3⟩ := own_shape (own_ext H1.out hE)
      injection ee with ee1 _ ee3
      subst ee1 ee3
      obtain ⟨Bg, rfl, hb1, hb2, hb3, hb4⟩ := hg3 (by omega)
      obtain ⟨sa, cs, rfl, _, _, _⟩ := own_shape os
      have y0 := hb3 _ _ e0
      have y1 := hb3 _ _ e1
      have y2 := hb3 _ _ e2
      have y3 := hb3 _ _ e3
      have y4 := hb3 _ _ e4
      have HA := Lib.hid (fun (h : (gAt G j).v = x) => (show fdG G x = j from by
        have h9 := HO.out
        by_cases e : j = fdG G x
        · exact e.symm
        · exact absurd h (fdG_no (by omega))))
      have HB := Lib.hid (fun (h : (gAt G j).v ≠ x) => (show j + 1 ≤ fdG G x from by
        have h9 := HO.out
        by_cases e : j = fdG G x
        · refine absurd ?_ h
          have h8 := fdG_at (G := G) (v := x) (by omega)
          rw [← e] at h8
          exact h8
        · omega))
      clear e0 e1 e2 e3 e4 os hb3 hb4 hg3 hE
      generalize gAt G j = g at *
      generalize g.L.length = gl at *
      have HD := fun w' (hx : Ext w w') => HC g.t g.c g.v g.p sa gl cs w' hx
      clear HC
      by_cases hv : g.v = x
      · have hv' : ((g.v : Int) == (x : Int)) = true := by simp [hv]
        have HA2 := Lib.hid (HA.out hv)
        rw [hv'] at HD
        clear hv hv' HA HB
        go_wp2_with fail
        refine (HD _ HE.out).out.mono ?_
        rintro e w2 ⟨rfl, hx2⟩
        go_wp2
        go_ret
        refine ⟨?_, HE.out.trans hx2⟩
        rw [HF.out, HA2.out, if_pos hlt]
        rfl
      · have hv' : ((g.v : Int) == (x : Int)) = false := by simp; omega
        have HB2 := Lib.hid (HB.out hv)
        rw [hv'] at HD
        clear hv hv' HA HB
        go_wp2_with fail
        refine (HD _ HE.out).out.mono ?_
        rintro e w2 ⟨rfl, hx2⟩
        have HX := Lib.hid hx2
        clear hx2
        go_wp2
        go_roundw
        case rel => exact ⟨j + 1, by omega, by go_num, HB2, HE.out.trans HX.out⟩
        case measure => simp [intOf]; omega
    · have hjl : j = G.length := by omega
      subst hjl
      go_wp2
      go_ret
      refine ⟨?_, HE.out⟩
      have h9 := HO.out
      rw [HF.out, if_neg (by omega)]
      rfl


open Go.RowKit Go.Lib
set_option linter.unusedVariables false
set_option linter.unusedSimpArgs false

theorem still_tail_at2 {id : Nat} {Q : Exit → Act → World → Prop} {a : Act} {w : World} {l : List Oper} (n : Nat) (hm : Try.prog.follows .mixedOrders = true) (hB : Region.lexTailB .any l.toArray n = true)
    (h : ∀ wD, wD = w.drew → wpStill Try.prog l.toArray wD (fun a' => wpList Try.prog l.toArray Q (l.drop n) a' wD) (l.take n) a) : (Code.region id l.toArray true).wp Try.prog Q a w :=
  wp_region_still_tail n hm hB (h _ rfl)
theorem heap_drewM {w : World} {k : Nat} {x : Option Obj} (h : w.heap[k]? = x) : w.drew.heap[k]? = x := h
theorem GRS.shape {w : World} {lo : Nat} {v : Value} {G : List Gp} (h : GRS w lo v G) : ∃ a c, v = .slice a G.length c := by
  obtain ⟨zs, h1, _⟩ := h
  obtain ⟨a, c, e, _⟩ := own_shape h1
  exact ⟨a, c, e⟩

set_option maxRecDepth 20000 in
set_option maxHeartbeats 4000000 in
theorem rotate_any (M lo hi Q : Nat) {vv gv : Value} {σ : Fs} (j a c : Nat) (w : World) (h : MS w M lo hi Q vv gv σ) (hI : FsI Q j σ) (ha : a < Q) (hq : Q ≤ 5) (hj : j ≤ 400) (hc : 1 ≤ c ∧ c ≤ 7) (w0 : World) (h0 : w0.heap.size ≤ M) (hx : Ext w0 w) :
    Calls Try.prog 76 #[.pointer (some ⟨M, 0, none⟩), .int .i64 j, .int .i64 a, .int .i64 c] w fun e w' => e = .returned (.tuple #[]) ∧ (∃ gv', MS w' M lo hi Q vv gv' (rotG σ j a c)) ∧ Ext w0 w' := by
  have hgl := hI.gl
  have hgl4 : σ.G.length ≤ 400 := by omega
  have hVl := hI.vl
  have HI := Lib.hid hI
  have HC0 := h.cell
  have HV0 := h.vals
  have HX0 := Lib.hid hx
  have HMS := Lib.hid h
  have hml := h.ml
  have hlh := h.lh
  have zM := fun k => cell_of_row _ _ k _ _ _ HC0
  have lM := (Array.getElem?_eq_some_iff.1 HC0).1
  obtain ⟨av, cv, rfl, _, _, hv3⟩ := own_shape HV0
  obtain ⟨Bv, rfl, hb1, hb2, hb3, hb4⟩ := hv3 (by omega)
  have y0 := hb3 _ _ (VU_at (V := σ.V) (i := a) (by omega)).1
  have y1 := hb3 _ _ (VU_at (V := σ.V) (i := a) (by omega)).2
  obtain ⟨ag, cg, rfl⟩ := h.grp.shape
  obtain ⟨zs0, g1, g2, g3, g4⟩ := h.grp
  have HGR : Hid (∀ W, Ext w W → W.ownsRow hi 55 5 (.slice ag σ.G.length cg) σ.G.length zs0 ∧ DG W (.slice ag σ.G.length cg) zs0 ∧ ∀ j, j < σ.G.length → EG W hi zs0 j (gAt σ.G j)) := Lib.hid (fun W hX => ⟨own_ext g1 hX, ⟨g3.1, g3.2.1, fun p x k hp hk => Nat.lt_of_lt_of_le (g3.2.2 p x k hp hk) hX.size⟩, fun j hj => by
    obtain ⟨s, e0, e1, e2, e3, e4, o⟩ := g4 j hj
    exact ⟨s, e0, e1, e2, e3, e4, own_ext o hX⟩⟩)
  have HZ := Lib.hid g2
  have HLT := Lib.hid g3.2.2
  have HBK : Hid (∀ k, (Value.slice ag σ.G.length cg).ownBlock = some k → hi ≤ k ∧ k < w.heap.size) := Lib.hid (fun k hk => g1.lt k hk)
  clear g1 g2 g3 g4
  have ha' : (a : Int) < Q := by omega
  rcases hxa : vAt σ.V a with ⟨x1, x2⟩
  rw [hxa] at y0 y1
  simp only at y0 y1
  have HRG : Hid (rotG σ j a c = ⟨σ.V, σ.u, (adG σ.G j x1 x2).set (fdG σ.G x1) (moG (gAt (adG σ.G j x1 x2) (fdG σ.G x1)) (x2 != (gAt (adG σ.G j x1 x2) (fdG σ.G x1)).p) j c), if x2 != (gAt (adG σ.G j x1 x2) (fdG σ.G x1)).p then (σ.s + c) % 8 else σ.s⟩) := by
    have h := rotG_eq σ j a c
    rw [hxa] at h
    exact h
  obtain ⟨G1, hG1⟩ : ∃ G1, G1 = adG σ.G j x1 x2 := ⟨_, rfl⟩
  obtain ⟨i, hii⟩ : ∃ i, i = fdG σ.G x1 := ⟨_, rfl⟩
  rw [← hG1, ← hii] at HRG
  obtain ⟨w1, hw1⟩ : ∃ x, x = w.alloc (.cells #[.int .u64 x1, .bool x2] 52 (0, 0)) := ⟨_, rfl⟩
  have HX1 : Hid (Ext w w1) := by rw [hw1]; exact (Ext.refl _).alloc _
  have hB1 : w1.heap[w.heap.size]? = some (.cells #[.int .u64 x1, .bool x2] 52 (0, 0)) := by rw [hw1]; exact heap_alloc_new _ _
  have HM1 := Lib.hid (h.ext HX1.out)
  have HIF := Lib.hid (index1_any x1 x2 w.heap.size (by omega) w1 HM1.out.grp hB1)
  have HFI : Hid (fdI σ.G x1 = if fdG σ.G x1 < σ.G.length then (fdG σ.G x1 : Int) else -1) := rfl
  have HFL := Lib.hid (fdG_le σ.G x1)
  have hC1 := row_farM HC0 HX1.out
  have zM1 := fun k => cell_of_row _ _ k _ _ _ hC1
  have lM1 := (Array.getElem?_eq_some_iff.1 hC1).1
  clear hb3 hb4 hv3 hI hx h
  go_enter Try.func76, Try.ntmps76
  go_upto_region 1 with fail
  rw [← hw1]
  clear hw1
  go_wp2_with fail
  refine HIF.out.mono ?_
  rintro e w2 ⟨rfl, hx2⟩
  have HB2 := Lib.hid (row_farM hB1 hx2)
  have HXW := Lib.hid (HX1.out.trans hx2)
  have HM2 := Lib.hid (HM1.out.ext hx2)
  have HX2 := Lib.hid (HX0.out.trans (HX1.out.trans hx2))
  have hC2 := HM2.out.cell
  have zM2 := fun k => cell_of_row _ _ k _ _ _ hC2
  have zB2 := fun k => cell_of_row _ _ k _ _ _ HB2.out
  have lM2 := (Array.getElem?_eq_some_iff.1 hC2).1
  have fM2 := fun k => frozen_of_row _ _ k _ _ hC2
  have hs2 := hx2.size
  have hs1 := HX1.out.size
  have lB2 := (Array.getElem?_eq_some_iff.1 HB2.out).1
  clear y0 y1 zM lM zM1 lM1 hB1 hC1 HIF hx2
  rw [HFI.out]
  by_cases hf : fdG σ.G x1 < σ.G.length
  focus
    rw [if_pos hf, ← hii]
    have hG2 : σ.G = G1 := by rw [hG1]; unfold adG; rw [if_pos hf]
    have hiG : i < σ.G.length := by omega
    have hi1 : i < G1.length := by rw [← hG2]; exact hiG
    have hgc8 : (gAt G1 i).c < 8 ∧ (gAt G1 i).L.length ≤ 400 := by
      rw [← hG2]
      have h9 := HI.out.gt i hiG
      exact ⟨h9.2.1, by omega⟩
    obtain ⟨h1, h3, h4⟩ := HGR.out _ HXW.out
    have h2 := HZ.out
    rw [hG2] at h2 h4
    obtain ⟨zs, hzs⟩ : ∃ x, x = zs0 := ⟨_, rfl⟩
    rw [← hzs] at h1 h2 h3 h4 HLT
    have HNB : Hid (∀ (p : Nat) (x : Value) (k : Nat), zs[p]? = some x → x.ownBlock = some k → k ≠ w.heap.size) := Lib.hid (fun p x k hp hk => Nat.ne_of_lt (HLT.out p x k hp hk))
    clear hzs
    have H2 := Lib.hid h2
    have H3 := Lib.hid h3
    have H4 := Lib.hid h4
    obtain ⟨ag2, cg2, ee, _, _, hg3⟩ := own_shape h1
    injection ee with ee1 _ ee3
    subst ee1 ee3
    obtain ⟨Bg, rfl, hb1', hb2', hb3', hb4'⟩ := hg3 (by omega)
    have hnl := congrArg List.length hG2
    have hBgw : Bg ≠ w.heap.size := by have := (HBK.out Bg rfl).2; omega
    have hn1 : σ.G.length = G1.length := hnl
    have HN1 := Lib.hid hn1
    clear hn1
    have H1 : Hid (w2.ownsRow hi 55 5 (.slice (some ⟨Bg, 0, none⟩) σ.G.length cg) G1.length zs) := by rw [← hnl]; exact Lib.hid h1
    obtain ⟨wT, hwT⟩ : ∃ x, x = w2 := ⟨_, rfl⟩
    rw [← hwT] at HB2 HM2 HX2 hC2 hs2 lB2 lM2 H1 H3 H4 hb2' hb3' hb4'
    have HV2 := Lib.hid HM2.out.vals
    have HW2 := Lib.hid HM2.out.hw
    clear h1 h2 h3 h4 hg3 hf hG2 hG1 hii zM2 zB2 fM2 HFI HFL HM2 hb3' hb4'
    go_upto_region 5 with fail
    rw [← hwT]
    clear hwT
  rotate_left
  focus
    rw [if_neg hf]
    have hiL : i = σ.G.length := by have := HFL.out; omega
    have hG2 : G1 = σ.G ++ [(⟨j, 0, x1, x2, []⟩ : Gp)] := by rw [hG1]; unfold adG; rw [if_neg hf]
    have HW := Lib.hid HM2.out.hw
    have HVL := Lib.hid HM2.out.vals
    have HC2 := Lib.hid hC2
    have HGR2 := Lib.hid (fun W (hX : Ext w2 W) => HGR.out W (HXW.out.trans hX))
    go_upto_region 4 with fail
    go_region_law
        (refine step_append_val (base := hi) rfl elt_GP rfl (.slice ag σ.G.length cg) σ.G.length zs0 rfl ?_ (.slice (some ⟨w2.heap.size, 0, none⟩) 1 1) 1 [.int .i64 j, .int .i64 0, .int .u64 x1, .bool x2, .slice none 0 0] rfl ?_ ?_ ?_ ?_
         · exact (HGR2.out _ (((Ext.refl _).drew).alloc _)).1
         · exact RVV.ofHeap (heap_alloc_new _ _) rfl rfl (by intro u hu; simp at hu; rcases hu with rfl | rfl | rfl | rfl | rfl <;> rfl)
         · omega
         · exact Nat.le_trans HW.out (((Ext.refl w2).drew).alloc _).size
         intro v5 w5 hown5 hgrow5 hiff5 hloc5
         have hM5 : w5.heap[M]? = some (.cells #[.slice (some ⟨Bv, 0, none⟩) Q cv, .int .i64 σ.u, .slice ag σ.G.length cg, .int .i64 σ.s] 58 (0, 0)) := heap_grown hgrow5 (k := M) (row_farM HC2.out (((Ext.refl w2).drew).alloc _)) (fun e => by have h9 := (HBK.out _ e.symm).1; omega)
         have hV5 : w5.ownsRow lo 52 2 (.slice (some ⟨Bv, 0, none⟩) Q cv) Q (VU σ.V) := own_farM (own_ext HVL.out (((Ext.refl w2).drew).alloc _)) hgrow5 (fun k hk he => by have h9 := (HBK.out _ he).1; have h8 := HMS.out.vhi k hk; omega)
         have hB5 : w5.heap[w.heap.size]? = some (.cells #[.int .u64 x1, .bool x2] 52 (0, 0)) := heap_grown hgrow5 (k := w.heap.size) (row_farM HB2.out (((Ext.refl w2).drew).alloc _)) (fun e => by have h9 := (HBK.out _ e.symm).2; omega)
         obtain ⟨zs, hz1, hz2, hz3, hz4, hz5⟩ := GRS.snoc (t := j) (x := x1) (p := x2) HZ.out (HGR2.out _ (((Ext.refl w2).drew).alloc _)).2.1 (HGR2.out _ (((Ext.refl w2).drew).alloc _)).2.2 hgrow5 hloc5 hown5
         have hK5 : Hid (∀ k, v5.ownBlock = some k → k ≠ w.heap.size) := Lib.hid (fun k hk e => by
           rcases hloc5 with h | h
           · have h9 := (HBK.out k (by rw [← h]; exact hk)).2
             omega
           · rw [h] at hk
             have h9 := Option.some.inj hk
             have h8 : w2.heap.size ≤ k := by rw [← h9]; exact (((Ext.refl w2).drew).alloc _).size
             omega)
         have HZ1 : Hid (w5.ownsRow hi 55 5 v5 (σ.G ++ [(⟨j, 0, x1, x2, []⟩ : Gp)]).length zs) := hz1
         have HZ2 : Hid (zs.length = (σ.G ++ [(⟨j, 0, x1, x2, []⟩ : Gp)]).length * 5) := hz2
         have HZ3 : Hid (DG w5 v5 zs) := hz3
         have HZ4 : Hid (∀ i, i < (σ.G ++ [(⟨j, 0, x1, x2, []⟩ : Gp)]).length → EG w5 hi zs i (gAt (σ.G ++ [(⟨j, 0, x1, x2, []⟩ : Gp)]) i)) := hz4
         have HNB : Hid (∀ (p : Nat) (x : Value) (k : Nat), zs[p]? = some x → x.ownBlock = some k → k ≠ w.heap.size) := Lib.hid (fun p x k hp hk => Nat.ne_of_lt (HLT.out p x k (hz5 p x k hp hk) hk))
         have hE5 : Ext w0 w5 := Ext.grown (HX2.out.trans (((Ext.refl w2).drew).alloc _)) hgrow5 (fun k hk => by have h9 := (HBK.out _ hk).1; omega)
         have hW5 : hi ≤ w5.heap.size := Nat.le_trans HW.out (Nat.le_trans (((Ext.refl w2).drew).alloc _).size hgrow5.size)
         have hM5' : Hid (w5.heap[M]? = some (.cells #[.slice (some ⟨Bv, 0, none⟩) Q cv, .int .i64 σ.u, .slice ag σ.G.length cg, .int .i64 σ.s] 58 (0, 0))) := hM5
         have HV5 : Hid (w5.ownsRow lo 52 2 (.slice (some ⟨Bv, 0, none⟩) Q cv) Q (VU σ.V)) := hV5
         have HB5 : Hid (w5.heap[w.heap.size]? = some (.cells #[.int .u64 x1, .bool x2] 52 (0, 0))) := hB5
         have HE5 : Hid (Ext w0 w5) := hE5
         have zM5 : ∀ k, w5.cell? ⟨M, k, none⟩ = (#[.slice (some ⟨Bv, 0, none⟩) Q cv, .int .i64 σ.u, .slice ag σ.G.length cg, .int .i64 σ.s] : Array Value)[k]? := fun k => cell_of_row _ _ k _ _ _ hM5
         have fM5 : ∀ k, w5.frozen? ⟨M, k, none⟩ = false := fun k => frozen_of_row _ _ k _ _ hM5
         have lM5 : M < w5.heap.size := (Array.getElem?_eq_some_iff.1 hM5).1
         obtain ⟨a5, c5, rfl, _, _, _⟩ := own_shape hown5
         clear hown5 hgrow5 hiff5 hloc5 hV5 hB5 hz1 hz2 hz3 hz4 hz5 hE5 hM5)
    all_goals
      have hi1 : i < G1.length := by rw [hG2, hiL]; simp
      have hgc8 : (gAt G1 i).c < 8 ∧ (gAt G1 i).L.length ≤ 400 := by
        rw [hG2, hiL, gAt_new]
        exact ⟨by show (0 : Nat) < 8; decide, Nat.zero_le _⟩
      have HTM0 := Lib.hid (heap_set_at hM5'.out 2 (.slice a5 (σ.G.length + 1) c5))
      obtain ⟨wT, hwT⟩ : ∃ x, x = w5.setCell ⟨M, 2, none⟩ (.slice a5 (σ.G.length + 1) c5) := ⟨_, rfl⟩
      have hC2 : wT.heap[M]? = some (.cells #[.slice (some ⟨Bv, 0, none⟩) Q cv, .int .i64 σ.u, .slice a5 (σ.G.length + 1) c5, .int .i64 σ.s] 58 (0, 0)) := by rw [hwT]; exact HTM0.out
      have h1 : wT.ownsRow hi 55 5 (.slice a5 (σ.G.length + 1) c5) G1.length zs := by rw [hwT, hG2]; exact own_set HZ1.out (by show M < hi; omega) _
      have h2 : zs.length = G1.length * 5 := by rw [hG2]; exact HZ2.out
      have h3 : DG wT (.slice a5 (σ.G.length + 1) c5) zs := ⟨HZ3.out.1, HZ3.out.2.1, fun p x k hp hk => by rw [hwT, setCell_sz]; exact HZ3.out.2.2 p x k hp hk⟩
      have h4 : ∀ i, i < G1.length → EG wT hi zs i (gAt G1 i) := by
        rw [hwT, hG2]
        intro i hi'
        obtain ⟨s, e0, e1, e2, e3, e4, o⟩ := HZ4.out i hi'
        exact ⟨s, e0, e1, e2, e3, e4, own_set o (by show M < hi; omega) _⟩
      have HX2 : Hid (Ext w0 wT) := by rw [hwT]; exact Lib.hid (HE5.out.setCell h0 _)
      have HB2 : Hid (wT.heap[w.heap.size]? = some (.cells #[.int .u64 x1, .bool x2] 52 (0, 0))) := by rw [hwT]; exact Lib.hid (heap_set_ne (by show w.heap.size ≠ M; omega) HB5.out)
      have HV2 : Hid (wT.ownsRow lo 52 2 (.slice (some ⟨Bv, 0, none⟩) Q cv) Q (VU σ.V)) := by rw [hwT]; exact Lib.hid (own_set HV5.out (by show M < lo; omega) _)
      have HW2 : Hid (hi ≤ wT.heap.size) := by rw [hwT, setCell_sz]; exact Lib.hid hW5
      have lM2 := (Array.getElem?_eq_some_iff.1 hC2).1
      have lB2 := (Array.getElem?_eq_some_iff.1 HB2.out).1
      have H2 := Lib.hid h2
      have H3 := Lib.hid h3
      have H4 := Lib.hid h4
      obtain ⟨ag2, cg2, ee, _, _, hg3⟩ := own_shape h1
      have hgl1 : G1.length = σ.G.length + 1 := by rw [hG2]; simp
      injection ee with ee1 _ ee3
      subst ee1 ee3
      obtain ⟨Bg, rfl, hb1', hb2', hb3', hb4'⟩ := hg3 (by omega)
      have H1 : Hid (wT.ownsRow hi 55 5 (.slice (some ⟨Bg, 0, none⟩) (σ.G.length + 1) c5) G1.length zs) := Lib.hid h1
      have hBgw : Bg ≠ w.heap.size := hK5.out Bg rfl
      have HN1 : Hid (σ.G.length + 1 = G1.length) := Lib.hid hgl1.symm
      rw [← hwT]
      rw [← hiL]
      have hiG : i < σ.G.length + 1 := by omega
      clear h1 h2 h3 h4 hg3 hf hG2 hG1 hii zM2 zB2 fM2 HFI HFL HM2 hb3' hb4' hM5' HV5 HB5 HE5 zM5 fM5 lM5 HTM0 hwT HGR2 HZ HW HVL HBK HC2 hiL HZ1 HZ2 HZ3 HZ4 hK5 hgl1
      go_upto_region 5 with fail
  all_goals
    obtain ⟨s, e0, e1, e2, e3, e4, os⟩ := H4.out i hi1
    obtain ⟨ag3, cg3, ee, _, _, hg3⟩ := own_shape H1.out
    injection ee with ee1 _ ee3
    subst ee1 ee3
    obtain ⟨_, eB, hB1', hB2', hB3', hB4'⟩ := hg3 (by omega)
    cases eB
    obtain ⟨sa, cs, rfl, _, _, _⟩ := own_shape os
    have y4 := hB3' _ _ e4
    have zMT := fun k => cell_of_row _ _ k _ _ _ hC2
    have HOS := Lib.hid os
    have HSB : Hid (∀ k, (Value.slice sa (gAt G1 i).L.length cs).ownBlock = some k → k ≠ Bg ∧ hi ≤ k) := Lib.hid (fun k hk => ⟨fun e => H3.out.1 _ _ k e4 hk (by rw [e]; rfl), (os.lt k hk).1⟩)
    clear os e0 e1 e2 e3 hB3' hg3
    try clear hnl
    try clear hgl1
    clear hxa HC0
    generalize hgg : gAt G1 i = g at *
    have hx3 := (Ext.refl wT).alloc (.cells #[.int .i64 j] 3 (0, 0))
    have HX3 := Lib.hid hx3
    have HOS3 := Lib.hid (own_ext HOS.out hx3)
    have HMJ := Lib.hid (heap_alloc_new wT (.cells #[.int .i64 j] 3 (0, 0)))
    have hb3 : hi ≤ (wT.alloc (.cells #[.int .i64 j] 3 (0, 0))).heap.size := Nat.le_trans HW2.out hx3.size
    clear hx3
    have HG0 := Lib.hid (fun (W : World) (hX : Ext wT W) => (⟨own_ext H1.out hX, ⟨H3.out.1, H3.out.2.1, fun p x k hp hk => Nat.lt_of_lt_of_le (H3.out.2.2 p x k hp hk) hX.size⟩, fun j hj => by
      obtain ⟨s, e0, e1, e2, e3, e4, o⟩ := H4.out j hj
      exact ⟨s, e0, e1, e2, e3, e4, own_ext o hX⟩⟩ : W.ownsRow hi 55 5 _ G1.length zs ∧ DG W _ zs ∧ ∀ j, j < G1.length → EG W hi zs j (gAt G1 j)))
    have E4 := Lib.hid e4
    have HM2' := Lib.hid hC2
    go_upto_region 7 with (at_builtin; go_loud (refine wpList_append_rvt (base := hi) rfl elt_IF rfl (.slice sa g.L.length cs) g.L.length (g.L.map Int.ofNat) rfl HOS3.out _ 1 [(j : Int)] rfl (rv_heap HMJ.out rfl rfl (by omega) (by decide)) (by omega) hb3 ?_); intro v6 w6 hown6 hgrow6 hiff6 hloc6; have hG6 := own_farM (HG0.out _ HX3.out).1 hgrow6 (fun k hk he => (HSB.out k he).1 (by cases hk; rfl)); obtain ⟨_, _, ea6, _, _, hg6⟩ := own_shape hG6; injection ea6 with ea61 _ ea63; subst ea61 ea63; obtain ⟨_, eB6, _, _, hB6, fB6⟩ := hg6 (by omega); cases eB6; have y46 := hB6 _ _ E4.out; have HG6 := Lib.hid hG6; have HM6 := Lib.hid (heap_grown hgrow6 (k := M) (row_farM HM2'.out HX3.out) (fun e => by have h9 := (HSB.out _ e.symm).2; omega)); have HB6 := Lib.hid (heap_grown hgrow6 (k := w.heap.size) (row_farM HB2.out HX3.out) (fun e => HNB.out _ _ _ E4.out e.symm rfl)); have HL6 := Lib.hid hloc6; have HO6 := Lib.hid hown6; have HR6 := Lib.hid hgrow6; obtain ⟨a6, c6, rfl, _, _, _⟩ := own_shape hown6; clear hg6 hG6 hown6 hgrow6 hiff6 hloc6 hB6)
    obtain ⟨w7, hw7⟩ : ∃ x, x = w6.setCell ⟨Bg, i * 5 + 4, none⟩ (.slice a6 (g.L.length + 1) c6) := ⟨_, rfl⟩
    have HG7 := Lib.hid (GRS.app (lo := hi) (at' := j) HN1.out (HG0.out _ HX3.out).1 H2.out (HG0.out _ HX3.out).2.1 (HG0.out _ HX3.out).2.2 hi1 E4.out HR6.out HL6.out (by rw [hgg]; exact HO6.out))
    rw [← hw7] at HG7
    have hM7 := heap_set_ne (p := ⟨Bg, i * 5 + 4, none⟩) (u := .slice a6 (g.L.length + 1) c6) (by show M ≠ Bg; omega) HM6.out
    rw [← hw7] at hM7
    have hB7 := heap_set_ne (p := ⟨Bg, i * 5 + 4, none⟩) (u := .slice a6 (g.L.length + 1) c6) (fun e => hBgw e.symm) HB6.out
    rw [← hw7] at hB7
    have HV7 : Hid (w7.ownsRow lo 52 2 (.slice (some ⟨Bv, 0, none⟩) Q cv) Q (VU σ.V)) := by
      rw [hw7]
      exact Lib.hid (own_setm (own_farM (own_ext HV2.out HX3.out) HR6.out (fun k hk he => by have h9 := (HSB.out _ he).2; have h8 := HMS.out.vhi k hk; omega)) (fun k hk e => by have h8 := HMS.out.vhi k hk; have e' : k = Bg := e; omega) _)
    have HE7 : Hid (Ext w0 w7) := by
      rw [hw7]
      exact Lib.hid ((Ext.grown (HX2.out.trans HX3.out) HR6.out (fun k hk => by have h9 := (HSB.out _ hk).2; omega)).setCell (by show w0.heap.size ≤ Bg; omega) _)
    have HW7 : Hid (hi ≤ w7.heap.size) := by
      rw [hw7, setCell_sz]
      exact Lib.hid (Nat.le_trans hb3 HR6.out.size)
    rw [← hw7]
    clear hw7 HG0 HR6 HL6 HO6 HM6 HB6 HG6 y46 fB6 y4 HX3 HOS HOS3 HMJ hb3 zMT hB4' HM2' HX2 HB2 HV2 HW2 hC2 E4 HSB H1 H2 H3 H4 HNB lM2 lB2 hs2
    obtain ⟨zs7, q1, q2, q3, q4⟩ := HG7.out
    obtain ⟨s7, e0, e1, e2, e3, e4, os⟩ := q4 i (by rw [List.length_set]; exact hi1)
    rw [gAt_set hi1, if_pos rfl] at e1 e3
    obtain ⟨ag4, cg4, ee, _, _, hg4⟩ := own_shape q1
    injection ee with ee1 _ ee3
    subst ee1 ee3
    obtain ⟨_, eB, hB1q, hB2q, hB3q, hB4q⟩ := hg4 (by rw [List.length_set]; omega)
    cases eB
    have y1 := hB3q _ _ e1
    have y3 := hB3q _ _ e3
    simp only at y1 y3
    have zM7 := fun k => cell_of_row _ _ k _ _ _ hM7
    have fM7 := fun k => frozen_of_row _ _ k _ _ hM7
    have lM7 := (Array.getElem?_eq_some_iff.1 hM7).1
    have zB7 := fun k => cell_of_row _ _ k _ _ _ hB7
    have lB7 := (Array.getElem?_eq_some_iff.1 hB7).1
    have HM7 := Lib.hid hM7
    have hMB : M ≠ Bg := by omega
    have hBM : Bg ≠ M := by omega
    have HHI := Lib.hid hi1
    rw [hgg] at y1 y3
    clear hM7 hB7 q1 q2 q3 q4 e0 e1 e2 e3 e4 os hg4 hB3q
    have hgc := hgc8.1
    have HS8 := HI.out.sb
    have HCF := Lib.hid (fun (W : World) (cap : Nat) (h : GRS W hi (.slice (some ⟨Bg, 0, none⟩) _ cap) _) (cc : Nat) => GRS.coef (w := W) (lo := hi) (Bg := Bg) (G := G1.set i { g with L := g.L ++ [j] }) (HN1.out.trans (List.length_set).symm) h (i := i) (by rw [List.length_set]; exact hi1) cc)
    rw [hgg] at HG7
    have hGn : gAt (G1.set i { g with L := g.L ++ [j] }) i = { g with L := g.L ++ [j] } := by rw [gAt_set hi1, if_pos rfl]
    have hBvg : Hid (∀ k, (Value.slice (some ⟨Bv, 0, none⟩) Q cv).ownBlock = some k → k ≠ Bg) := Lib.hid (fun k (hk : (Value.slice (some ⟨Bv, 0, none⟩) Q cv).ownBlock = some k) e => by have h8 := HMS.out.vhi k hk; omega)
    have hBvM : Hid (∀ k, (Value.slice (some ⟨Bv, 0, none⟩) Q cv).ownBlock = some k → k ≠ M) := Lib.hid (fun k (hk : (Value.slice (some ⟨Bv, 0, none⟩) Q cv).ownBlock = some k) e => by have h8 := (HV0.lt k hk).1; omega)
    have HMO := Lib.hid (fun d => mo_set hi1 d j c)
    rw [hgg] at HMO
    cases hd : (x2 != g.p)
    focus
      have hp : x2 = g.p := by simpa using hd
      rw [hd] at HRG
      have HMO2 := Lib.hid (HMO.out false)
      subst x2
      clear hd HMO hgg
      go_region
      all_goals go_wp2
      (try simp only [Exit.inBlock, Exit.then])
      refine bodyPost_end (results_none rfl _ _ _) rfl ?_
      have hr : rotG σ j a c = ⟨σ.V, σ.u, G1.set i (moG g false j c), σ.s⟩ := by rw [HRG.out]; rfl
      refine ⟨rfl, ?_, ?_⟩
      · rw [hr]
        apply Exists.intro
        refine ⟨heap_drewM (heap_set_ne hMB HM7.out), own_ext (own_setm HV7.out hBvg.out _) (Ext.refl _).drew, HMS.out.vhi, ?_, hml, hlh, ?_⟩
        · have h9 := HCF.out w7 _ HG7.out ((g.c + c) % 8)
          have h8 := HMO2.out
          rw [hGn] at h9
          rw [hGn] at h8
          rw [← h8]
          exact h9.ext (Ext.refl _).drew
        · show hi ≤ (w7.setCell _ _).heap.size
          rw [setCell_sz]
          exact HW7.out
      · exact (HE7.out.setCell (by show w0.heap.size ≤ Bg; omega) _).drew
    focus
      have hp1 : x2 ≠ g.p := by simpa using hd
      rw [hd] at HRG
      have HMO2 := Lib.hid (HMO.out true)
      have hp2 : (x2 == g.p) = false := by simpa using hp1
      clear hd HMO hgg
      go_region
      all_goals go_wp2
      (try simp only [Exit.inBlock, Exit.then])
      refine bodyPost_end (results_none rfl _ _ _) rfl ?_
      have hr : rotG σ j a c = ⟨σ.V, σ.u, G1.set i (moG g true j c), (σ.s + c) % 8⟩ := by rw [HRG.out]; rfl
      have hc8 : (8 : Int) - c = ((8 - c : Nat) : Int) := by omega
      refine ⟨rfl, ?_, ?_⟩
      · rw [hr]
        apply Exists.intro
        refine ⟨heap_drewM (heap_set_ne hMB (heap_set_at HM7.out 3 _)), own_ext (own_setm (own_setm HV7.out hBvM.out _) hBvg.out _) (Ext.refl _).drew, HMS.out.vhi, ?_, hml, hlh, ?_⟩
        · have h9 := HCF.out _ _ (HG7.out.setn (p := ⟨M, 3, none⟩) (by show M < hi; omega) (.int .i64 ((σ.s + c) % 8))) ((g.c + (8 - c)) % 8)
          have h8 := HMO2.out
          rw [hGn] at h9
          rw [hGn] at h8
          simp only [if_true] at h8
          rw [← h8, hc8]
          exact h9.ext (Ext.refl _).drew
        · show hi ≤ ((w7.setCell _ _).setCell _ _).heap.size
          rw [setCell_sz, setCell_sz]
          exact HW7.out
      · exact ((HE7.out.setCell (by show w0.heap.size ≤ M; omega) _).setCell (by show w0.heap.size ≤ Bg; omega) _).drew


open Go.RowKit Go.Lib
set_option linter.unusedVariables false
set_option linter.unusedSimpArgs false

theorem gOk_neM {q : Nat} {k a b : Int} (hg : gOk q k a b = true) (hk : k = 11) : a ≠ b := by
  subst hk
  unfold gOk at hg
  rw [if_neg (by rw [Wn_iff]; omega), if_pos (by rw [Wn_iff]; omega)] at hg
  simp only [Bool.and_eq_true, bne_iff_ne, ne_eq] at hg
  exact hg.2.2
theorem gOk_abM {q : Nat} {k a b : Int} (hg : gOk q k a b = true) (hq : 1 ≤ q) : 1 ≤ k ∧ k ≤ 12 ∧ 0 ≤ a ∧ a < q ∧ 0 ≤ b ∧ b < q := by
  unfold gOk at hg
  by_cases h1 : Wn k 1 8 = true
  · rw [if_pos h1] at hg
    simp only [Bool.and_eq_true, beq_iff_eq] at hg
    have := Wn_iff.1 hg.1
    have := Wn_iff.1 h1
    omega
  · rw [if_neg h1] at hg
    by_cases h2 : Wn k 9 11 = true
    · rw [if_pos h2] at hg
      simp only [Bool.and_eq_true] at hg
      have := Wn_iff.1 hg.1
      have := Wn_iff.1 hg.2.1
      have := Wn_iff.1 h2
      omega
    · rw [if_neg h2] at hg
      simp only [Bool.and_eq_true, beq_iff_eq] at hg
      omega
theorem bits_xor_u64M (a b : Nat) (ha : a < 2 ^ 60) (hb : b < 2 ^ 60) : bits .xor .u64 (a : Int) (b : Int) = ((a ^^^ b : Nat) : Int) := by
  have hx : a ^^^ b < 2 ^ 60 := Nat.xor_lt_two_pow ha hb
  have h1 : (BitVec.ofInt 64 (a : Int)).toNat = a := by
    rw [BitVec.ofInt_natCast, BitVec.toNat_ofNat]; exact Nat.mod_eq_of_lt (by omega)
  have h2 : (BitVec.ofInt 64 (b : Int)).toNat = b := by
    rw [BitVec.ofInt_natCast, BitVec.toNat_ofNat]; exact Nat.mod_eq_of_lt (by omega)
  show IntKind.u64.wrap ((BitVec.ofInt 64 (a : Int) ^^^ BitVec.ofInt 64 (b : Int)).toNat : Int) = _
  rw [BitVec.toNat_xor, h1, h2]
  exact IntWalk.u64_in _ (by omega)
/-- the program's state, whatever slice holds the groups -/
def MSX (w : World) (M lo hi Q : Nat) (vv : Value) (σ : Fs) : Prop := ∃ gv, MS w M lo hi Q vv gv σ
/-- the same, with the values' cells themselves -/
structure MSR (w : World) (M lo hi Q : Nat) (vv gv : Value) (L : List Value) (u s : Nat) (G : List Gp) : Prop where
  cell : w.heap[M]? = some (.cells #[vv, .int .i64 u, gv, .int .i64 s] 58 (0, 0))
  vals : w.ownsRow lo 52 2 vv Q L
  vhi : ∀ k, vv.ownBlock = some k → k < hi
  grp : GRS w hi gv G
  ml : M < lo
  lh : lo ≤ hi
  hw : hi ≤ w.heap.size
theorem MS.msr {w : World} {M lo hi Q : Nat} {vv gv : Value} {σ : Fs} (h : MS w M lo hi Q vv gv σ) : MSR w M lo hi Q vv gv (VU σ.V) σ.u σ.s σ.G := ⟨h.cell, h.vals, h.vhi, h.grp, h.ml, h.lh, h.hw⟩
theorem MSR.ms {w : World} {M lo hi Q : Nat} {vv gv : Value} {L : List Value} {u s : Nat} {G : List Gp} {V : List (Nat × Bool)} (h : MSR w M lo hi Q vv gv L u s G) (hL : VU V = L) : MS w M lo hi Q vv gv ⟨V, u, G, s⟩ := ⟨h.cell, by rw [hL]; exact h.vals, h.vhi, h.grp, h.ml, h.lh, h.hw⟩
theorem MSR.ext {w w' : World} {M lo hi Q : Nat} {vv gv : Value} {L : List Value} {u s : Nat} {G : List Gp} (h : MSR w M lo hi Q vv gv L u s G) (hx : Ext w w') : MSR w' M lo hi Q vv gv L u s G :=
  ⟨row_farM h.cell hx, own_ext h.vals hx, h.vhi, h.grp.ext hx, h.ml, h.lh, Nat.le_trans h.hw hx.size⟩
theorem MSR.store {w : World} {M lo hi Q Bv cv : Nat} {gv : Value} {L : List Value} {u s : Nat} {G : List Gp} (h : MSR w M lo hi Q (.slice (some ⟨Bv, 0, none⟩) Q cv) gv L u s G) (i : Nat) (x : Value) : MSR (w.setCell ⟨Bv, i, none⟩ x) M lo hi Q (.slice (some ⟨Bv, 0, none⟩) Q cv) gv (L.set i x) u s G :=
  ⟨heap_set_ne (by have h1 := (h.vals.lt Bv rfl).1; have h2 := h.ml; show M ≠ Bv; omega) h.cell, (h.vals.stored i x).1, h.vhi, h.grp.setn (h.vhi Bv rfl) _, h.ml, h.lh, by rw [setCell_sz]; exact h.hw⟩
theorem MSR.used {w : World} {M lo hi Q : Nat} {vv gv : Value} {L : List Value} {u s : Nat} {G : List Gp} (h : MSR w M lo hi Q vv gv L u s G) (u' : Nat) : MSR (w.setCell ⟨M, 1, none⟩ (.int .i64 u')) M lo hi Q vv gv L u' s G :=
  ⟨heap_set_at h.cell 1 _, own_set h.vals (by have := h.ml; show M < lo; omega) _, h.vhi, h.grp.setn (by have := h.ml; have := h.lh; show M < hi; omega) _, h.ml, h.lh, by rw [setCell_sz]; exact h.hw⟩
def stOk (k : Int) (u : Nat) : Bool := !(k == 1 && u == 60)

set_option maxRecDepth 20000 in
set_option maxHeartbeats 4000000 in
theorem step_any (M lo hi Q : Nat) {vv : Value} {σ : Fs} (j : Nat) (k0 a0 b0 : Int) (w : World) (h : MSX w M lo hi Q vv σ) (hI : FsI Q j σ) (hg : gOk Q k0 a0 b0 = true) (hq : 1 ≤ Q ∧ Q ≤ 5) (hj : j ≤ 400) (w0 : World) (h0 : w0.heap.size ≤ M) (hx : Ext w0 w) :
    Calls Try.prog 50 #[.pointer (some ⟨M, 0, none⟩), .int .i64 j, .agg #[.int .i64 k0, .int .i64 a0, .int .i64 b0]] w fun e w' => e = .returned (.bool (stOk k0 σ.u)) ∧ (stOk k0 σ.u = true → MSX w' M lo hi Q vv (stepF σ j k0 a0 b0)) ∧ Ext w0 w' := by
  have hab := gOk_abM hg hq.1
  have hne0 := Lib.hid (gOk_neM hg)
  obtain ⟨hk1, hk2, ha1, ha2, hb1, hb2⟩ := hab
  obtain ⟨a, rfl⟩ : ∃ a : Nat, a0 = a := ⟨a0.toNat, by omega⟩
  obtain ⟨b, rfl⟩ : ∃ b : Nat, b0 = b := ⟨b0.toNat, by omega⟩
  have haQ : a < Q := by omega
  have hbQ : b < Q := by omega
  have hVl : σ.V.length = Q := hI.vl
  have hub := hI.ub
  have hSO : Hid (stOk k0 σ.u = !(k0 == 1 && σ.u == 60)) := rfl
  have HI := Lib.hid hI
  have HX0 := Lib.hid hx
  obtain ⟨gv, hm⟩ := h
  have hml := hm.ml
  have hlh := hm.lh
  obtain ⟨av, cv, rfl, _, _, hv3⟩ := own_shape hm.vals
  obtain ⟨ag, cg, rfl⟩ := hm.grp.shape
  obtain ⟨Bv, rfl, hv1, hv2, _, _⟩ := hv3 (by omega)
  have hvh : Bv < hi := hm.vhi Bv rfl
  have hHW := hm.hw
  obtain ⟨w1, hw1⟩ : ∃ x, x = w.alloc (.cells #[.int .i64 k0, .int .i64 a, .int .i64 b] 47 (0, 0)) := ⟨_, rfl⟩
  have HX1 : Hid (Ext w w1) := by rw [hw1]; exact (Ext.refl _).alloc _
  have hB1 : Hid (w1.heap[w.heap.size]? = some (.cells #[.int .i64 k0, .int .i64 a, .int .i64 b] 47 (0, 0))) := by rw [hw1]; exact heap_alloc_new _ _
  have HM := Lib.hid (fun W (hX : Ext w1 W) => hm.ext (HX1.out.trans hX))
  have HC := Lib.hid (fun W (hX : Ext w1 W) => (HM.out W hX).cell)
  have HB := Lib.hid (fun W (hX : Ext w1 W) => row_farM hB1.out hX)
  rcases hxa : vAt σ.V a with ⟨x1, x2⟩
  rcases hxb : vAt σ.V b with ⟨y1, y2⟩
  have HY := Lib.hid (fun W (hX : Ext w1 W) => (show W.cell? ⟨Bv, a * 2, none⟩ = some (.int .u64 (x1 : Int)) ∧ W.cell? ⟨Bv, a * 2 + 1, none⟩ = some (.bool x2) ∧ W.cell? ⟨Bv, b * 2, none⟩ = some (.int .u64 (y1 : Int)) ∧ W.cell? ⟨Bv, b * 2 + 1, none⟩ = some (.bool y2) ∧ (∀ k, W.frozen? ⟨Bv, k, none⟩ = false) ∧ Bv < W.heap.size from by
    have hV := (HM.out W hX).vals
    have p1 := VU_at (V := σ.V) (i := a) (by omega)
    have p2 := VU_at (V := σ.V) (i := b) (by omega)
    rw [hxa] at p1
    rw [hxb] at p2
    exact ⟨(hV.cellAt (a * 2) (by omega)).trans p1.1, (hV.cellAt (a * 2 + 1) (by omega)).trans p1.2, (hV.cellAt (b * 2) (by omega)).trans p2.1, (hV.cellAt (b * 2 + 1) (by omega)).trans p2.2, fun k => hV.frozenAt k, (hV.lt Bv rfl).2⟩))
  have hC1 := HC.out w1 (Ext.refl _)
  have zM1 := fun k => cell_of_row _ _ k _ _ _ hC1
  have zB1 := fun k => cell_of_row _ _ k _ _ _ hB1.out
  have lM1 := (Array.getElem?_eq_some_iff.1 hC1).1
  have lB1 := (Array.getElem?_eq_some_iff.1 hB1.out).1
  have hMw : M < w.heap.size := by omega
  have hMB : M ≠ w.heap.size := by omega
  have hvw : Bv ≠ w.heap.size := by omega
  have hvM : Bv ≠ M := by omega
  have hMv : M ≠ Bv := by omega
  have hML : M < hi := by omega
  have haQ' : (a : Int) < Q := by omega
  have hbQ' : (b : Int) < Q := by omega
  have HGM := Lib.hid hm
  have HR := Lib.hid (fun W (hX : Ext w1 W) => (HM.out W hX).msr)
  have hb0 : w0.heap.size ≤ Bv := by omega
  clear hv3 hI hx hm hg hC1
  have hcs : k0 = 1 ∨ (k0 = 2 ∨ k0 = 3) ∨ k0 = 9 ∨ k0 = 11 ∨ (k0 = 10 ∨ k0 = 12) ∨ (4 ≤ k0 ∧ k0 ≤ 8) := by omega
  rcases hcs with rfl | hk0 | rfl | rfl | hk0 | hk0
  · have hst : stepF σ j 1 a b = ⟨σ.V.set a (2 ^ σ.u, false), σ.u + 1, σ.G, σ.s⟩ := by simp [stepF]
    by_cases hu : σ.u = 60
    · have hso : stOk 1 σ.u = false := by rw [hSO.out, hu]; rfl
      go_enter Try.func50, Try.ntmps50
      go_upto_region 1 with fail
      rw [← hw1]
      clear hw1
      go_wp2_with fail
      go_ret
      refine ⟨(by rw [hso]; rfl), (fun h => by rw [hso] at h; cases h), HX0.out.trans HX1.out⟩
    · have hso : stOk 1 σ.u = true := by rw [hSO.out]; simp [hu]
      obtain ⟨p, hp⟩ : ∃ p : Nat, p = 2 ^ σ.u := ⟨_, rfl⟩
      have hp2 : (2 : Int) ^ σ.u = (p : Int) := by rw [hp]; simp
      have hp3 : p ≤ 1152921504606846976 := by rw [hp]; exact Nat.le_trans (Nat.pow_le_pow_right (by decide) hub) (by decide)
      rw [← hp] at hst
      have HVS : Hid (VU (σ.V.set a (p, false)) = ((VU σ.V).set (a * 2) (.int .u64 (p : Int))).set (a * 2 + 1) (.bool false)) := VU_set (by omega)
      clear hp
      go_enter Try.func50, Try.ntmps50
      go_upto_region 1 with fail
      rw [← hw1]
      clear hw1
      go_upto_region 8 with fail
      refine still_tail_at2 13 (by kernel_rfl) (by kernel_rfl) (fun wD hD => ?_)
      simp only [List.take_succ_cons, List.take_zero, List.drop_succ_cons, List.drop_zero]
      have HXD : Hid (Ext w1 wD) := by rw [hD]; exact (Ext.refl w1).drew
      have hCD := HC.out wD HXD.out
      have zMD := fun k => cell_of_row _ _ k _ _ _ hCD
      have fMD := fun k => frozen_of_row _ _ k _ _ hCD
      have zBD := fun k => cell_of_row _ _ k _ _ _ (HB.out wD HXD.out)
      obtain ⟨d0, d1, d2, d3, fD, lD⟩ := HY.out wD HXD.out
      have HRD := Lib.hid (HR.out wD HXD.out)
      have lMD := (Array.getElem?_eq_some_iff.1 hCD).1
      clear hD hCD
      repeat still_step
      refine wpStill_nil ?_
      go_wp2_with fail
      go_ret
      refine ⟨(by rw [hso]; rfl), (fun _ => ?_), (((HX0.out.trans (HX1.out.trans HXD.out)).setCell hb0 _).setCell hb0 _).setCell h0 _⟩
      rw [hst]
      exact ⟨_, (((HRD.out.store (a * 2) _).store (a * 2 + 1) _).used (σ.u + 1)).ms HVS.out⟩
  · have hso : stOk k0 σ.u = true := by rw [hSO.out]; rcases hk0 with rfl | rfl <;> rfl
    have hst : stepF σ j k0 a b = ⟨σ.V.set a (x1, !x2), σ.u, σ.G, σ.s⟩ := by rcases hk0 with rfl | rfl <;> simp [stepF, hxa, hxb]
    have HVS : Hid (VU (σ.V.set a (x1, !x2)) = (VU σ.V).set (a * 2 + 1) (.bool (!x2))) := VU_set1 (by omega) hxa
    go_enter Try.func50, Try.ntmps50
    go_upto_region 1 with fail
    rw [← hw1]
    clear hw1
    go_upto_region 12 with fail
    all_goals refine still_tail_at2 18 (by kernel_rfl) (by kernel_rfl) (fun wD hD => ?_)
    all_goals simp only [List.take_succ_cons, List.take_zero, List.drop_succ_cons, List.drop_zero]
    all_goals
      have HXD : Hid (Ext w1 wD) := by rw [hD]; exact (Ext.refl w1).drew
      have hCD := HC.out wD HXD.out
      have zMD := fun k => cell_of_row _ _ k _ _ _ hCD
      have fMD := fun k => frozen_of_row _ _ k _ _ hCD
      have zBD := fun k => cell_of_row _ _ k _ _ _ (HB.out wD HXD.out)
      obtain ⟨d0, d1, d2, d3, fD, lD⟩ := HY.out wD HXD.out
      have HRD := Lib.hid (HR.out wD HXD.out)
      have lMD := (Array.getElem?_eq_some_iff.1 hCD).1
      clear hD hCD
      repeat still_step
      refine wpStill_nil ?_
      go_wp2_with fail
      go_ret
      refine ⟨(by rw [hso]; rfl), (fun _ => ?_), (HX0.out.trans (HX1.out.trans HXD.out)).setCell hb0 _⟩
      rw [hst]
      exact ⟨_, (HRD.out.store (a * 2 + 1) _).ms HVS.out⟩
  · have hso : Hid (stOk 9 σ.u = true) := rfl
    have hst : stepF σ j 9 a b = ⟨σ.V.set b (y1 ^^^ x1, y2 != x2), σ.u, σ.G, σ.s⟩ := by simp [stepF, hxa, hxb]
    obtain ⟨x9, hx9⟩ : ∃ t, t = y1 ^^^ x1 := ⟨_, rfl⟩
    have hxl : x1 < 2 ^ 60 := by have h1 := HI.out.vb a haQ; rw [hxa] at h1; exact Nat.lt_of_lt_of_le h1 (Nat.pow_le_pow_right (by decide) HI.out.ub)
    have hyl : y1 < 2 ^ 60 := by have h1 := HI.out.vb b hbQ; rw [hxb] at h1; exact Nat.lt_of_lt_of_le h1 (Nat.pow_le_pow_right (by decide) HI.out.ub)
    have hw9 : bits .xor .u64 (y1 : Int) (x1 : Int) = (x9 : Int) := by rw [hx9]; exact bits_xor_u64M y1 x1 hyl hxl
    rw [← hx9] at hst
    have HVS : Hid (VU (σ.V.set b (x9, y2 != x2)) = ((VU σ.V).set (b * 2) (.int .u64 (x9 : Int))).set (b * 2 + 1) (.bool (y2 != x2))) := VU_set (by omega)
    clear hx9
    go_enter Try.func50, Try.ntmps50
    go_upto_region 1 with fail
    rw [← hw1]
    clear hw1
    go_upto_region 14 with fail
    refine still_tail_at2 21 (by kernel_rfl) (by kernel_rfl) (fun wD hD => ?_)
    simp only [List.take_succ_cons, List.take_zero, List.drop_succ_cons, List.drop_zero]
    have HXD : Hid (Ext w1 wD) := by rw [hD]; exact (Ext.refl w1).drew
    have hCD := HC.out wD HXD.out
    have zMD := fun k => cell_of_row _ _ k _ _ _ hCD
    have fMD := fun k => frozen_of_row _ _ k _ _ hCD
    have zBD := fun k => cell_of_row _ _ k _ _ _ (HB.out wD HXD.out)
    obtain ⟨d0, d1, d2, d3, fD, lD⟩ := HY.out wD HXD.out
    have HRD := Lib.hid (HR.out wD HXD.out)
    have lMD := (Array.getElem?_eq_some_iff.1 hCD).1
    clear hD hCD
    repeat still_step
    refine wpStill_nil ?_
    have hBD := HB.out wD HXD.out
    go_upto_region 15 with fail
    clear zMD fMD zBD d0 d1 d2 d3 fD lD lMD
    refine still_tail_at2 27 (by kernel_rfl) (by kernel_rfl) (fun wE hEE => ?_)
    simp only [List.take_succ_cons, List.take_zero, List.drop_succ_cons, List.drop_zero]
    have HXE : Hid (Ext (wD.setCell ⟨Bv, b * 2, none⟩ (.int .u64 (x9 : Int))) wE) := by rw [hEE]; exact (Ext.refl _).drew
    have HRE := Lib.hid ((HRD.out.store (b * 2) (.int .u64 (x9 : Int))).ext HXE.out)
    have hCE := HRE.out.cell
    have zME := fun k => cell_of_row _ _ k _ _ _ hCE
    have hBE := row_farM (heap_set_ne (p := ⟨Bv, b * 2, none⟩) (u := .int .u64 (x9 : Int)) (fun e => hvw e.symm) hBD) HXE.out
    have zBE := fun k => cell_of_row _ _ k _ _ _ hBE
    have lME := (Array.getElem?_eq_some_iff.1 hCE).1
    have lBE := (Array.getElem?_eq_some_iff.1 hBE).1
    have d1 : wE.cell? ⟨Bv, a * 2 + 1, none⟩ = some (.bool x2) := by
      refine (HRE.out.vals.cellAt (a * 2 + 1) (by omega)).trans ?_
      rw [List.getElem?_set_ne (by omega), (VU_at (V := σ.V) (i := a) (by omega)).2, hxa]
    have d3 : wE.cell? ⟨Bv, b * 2 + 1, none⟩ = some (.bool y2) := by
      refine (HRE.out.vals.cellAt (b * 2 + 1) (by omega)).trans ?_
      rw [List.getElem?_set_ne (by omega), (VU_at (V := σ.V) (i := b) (by omega)).2, hxb]
    have fD : ∀ k, wE.frozen? ⟨Bv, k, none⟩ = false := fun k => HRE.out.vals.frozenAt k
    have lD := (HRE.out.vals.lt Bv rfl).2
    clear hEE hCE hBE hBD
    repeat still_step
    refine wpStill_nil ?_
    go_wp2_with fail
    go_ret
    refine ⟨(by rw [hso.out]; rfl), (fun _ => ?_), (((HX0.out.trans (HX1.out.trans HXD.out)).setCell hb0 _).trans HXE.out).setCell hb0 _⟩
    rw [hst]
    exact ⟨_, (HRE.out.store (b * 2 + 1) _).ms HVS.out⟩
  · have hso : Hid (stOk 11 σ.u = true) := rfl
    have hab := hne0.out rfl
    have hab1 : a ≠ b := fun e => hab (by rw [e])
    have hab2 : b ≠ a := fun e => hab1 e.symm
    have hst : stepF σ j 11 a b = ⟨(σ.V.set a (y1, y2)).set b (x1, x2), σ.u, σ.G, σ.s⟩ := by simp [stepF, hxa, hxb]
    have HVS : Hid (VU ((σ.V.set a (y1, y2)).set b (x1, x2)) = ((((VU σ.V).set (a * 2) (.int .u64 (y1 : Int))).set (a * 2 + 1) (.bool y2)).set (b * 2) (.int .u64 (x1 : Int))).set (b * 2 + 1) (.bool x2)) := by rw [VU_set (by simp only [List.length_set]; omega), VU_set (by omega)]; rfl
    go_enter Try.func50, Try.ntmps50
    go_upto_region 1 with fail
    rw [← hw1]
    clear hw1
    go_upto_region 17 with fail
    have HXD : Hid (Ext w1 w1.drew) := (Ext.refl w1).drew
    have hCD := HC.out w1 (Ext.refl _)
    have zMD := fun k => cell_of_row _ _ k _ _ _ hCD
    have fMD := fun k => frozen_of_row _ _ k _ _ hCD
    have zBD := fun k => cell_of_row _ _ k _ _ _ (HB.out w1 (Ext.refl _))
    obtain ⟨d0, d1, d2, d3, fD, lD⟩ := HY.out w1 (Ext.refl _)
    have HRD := Lib.hid (HR.out w1 (Ext.refl _))
    have lMD := (Array.getElem?_eq_some_iff.1 hCD).1
    clear hCD
    have hwv : w.heap.size ≠ Bv := fun e => hvw e.symm
    have HHX : Hid (Ext w0 w1 ∧ w0.heap.size ≤ Bv) := Lib.hid ⟨HX0.out.trans HX1.out, hb0⟩
    have HK : Hid (∀ W, GX [Bv] w1 W → W.cell? ⟨M, 0, none⟩ = some (.slice (some ⟨Bv, 0, none⟩) Q cv) ∧ W.cell? ⟨w.heap.size, 1, none⟩ = some (.int .i64 a) ∧ W.cell? ⟨w.heap.size, 2, none⟩ = some (.int .i64 b)) := Lib.hid (fun W hX => ⟨(hX.cell _ _ lM1 (by simp; exact hMv)).trans (zM1 0), (hX.cell _ _ lB1 (by simp; exact hwv)).trans (zB1 1), (hX.cell _ _ lB1 (by simp; exact hwv)).trans (zB1 2)⟩)
    refine wp_region_held_drew (S := (fun W => W.cell? ⟨M, 0, none⟩ = some (.slice (some ⟨Bv, 0, none⟩) Q cv) ∧ W.cell? ⟨w.heap.size, 1, none⟩ = some (.int .i64 a) ∧ W.cell? ⟨w.heap.size, 2, none⟩ = some (.int .i64 b))) (by kernel_rfl) ?_ (fun hHeld => ?_)
    focus
      exact HK.out _ (by repeat (first | (with_reducible refine GX.setCell ?_ (by first | (simp; done) | (simp; omega)) _) | with_reducible refine GX.alloc ?_ _ | with_reducible refine GX.drew ?_ | with_reducible refine GX.drewN ?_ _ | with_reducible assumption | with_reducible exact GX.refl _ _ | with_reducible refine GX.ext ?_ (by with_reducible assumption) | with_reducible refine GX.trans ?_ (by with_reducible assumption)))
    refine wpAnyH_take (i := 0) (v := ?_) rfl (by kernel_rfl) (by kernel_rfl) (by kernel_rfl) (fun _ _ _ h => h) (Or.inl ⟨by rfl, ?_⟩) (by assumption) ?_
    rotate_left
    focus
      intro W hSw
      try dsimp only at hSw
      go_simp
      try with_reducible rfl
    try simp only [Act.put, List.setIfInBounds_toArray, List.set_cons_zero, List.set_cons_succ]
    refine wpAnyH_take (i := 1) (v := ?_) rfl (by kernel_rfl) (by kernel_rfl) (by kernel_rfl) (fun _ _ _ h => h) (Or.inl ⟨by rfl, ?_⟩) (by assumption) ?_
    rotate_left
    focus
      intro W hSw
      try dsimp only at hSw
      go_simp
      try with_reducible rfl
    try simp only [Act.put, List.setIfInBounds_toArray, List.set_cons_zero, List.set_cons_succ]
    refine wpAnyH_take (i := 2) (v := ?_) rfl (by kernel_rfl) (by kernel_rfl) (by kernel_rfl) (fun _ _ _ h => h) (Or.inl ⟨by rfl, ?_⟩) (by assumption) ?_
    rotate_left
    focus
      intro W hSw
      try dsimp only at hSw
      go_simp
      try with_reducible rfl
    try simp only [Act.put, List.setIfInBounds_toArray, List.set_cons_zero, List.set_cons_succ]
    refine wpAnyH_take (i := 3) (v := ?_) rfl (by kernel_rfl) (by kernel_rfl) (by kernel_rfl) (fun _ _ _ h => h) (Or.inl ⟨by rfl, ?_⟩) (by assumption) ?_
    rotate_left
    focus
      intro W hSw
      try dsimp only at hSw
      go_simp
      try with_reducible rfl
    try simp only [Act.put, List.setIfInBounds_toArray, List.set_cons_zero, List.set_cons_succ]
    refine wpAnyH_take (i := 4) (v := ?_) rfl (by kernel_rfl) (by kernel_rfl) (by kernel_rfl) (fun _ _ _ h => h) (Or.inl ⟨by rfl, ?_⟩) (by assumption) ?_
    rotate_left
    focus
      intro W hSw
      try dsimp only at hSw
      go_simp
      try with_reducible rfl
    try simp only [Act.put, List.setIfInBounds_toArray, List.set_cons_zero, List.set_cons_succ]
    refine wpAnyH_take (i := 5) (v := ?_) rfl (by kernel_rfl) (by kernel_rfl) (by kernel_rfl) (fun _ _ _ h => h) (Or.inl ⟨by rfl, ?_⟩) (by assumption) ?_
    rotate_left
    focus
      intro W hSw
      try dsimp only at hSw
      go_simp
      try with_reducible rfl
    try simp only [Act.put, List.setIfInBounds_toArray, List.set_cons_zero, List.set_cons_succ]
    refine wpAnyH_take (i := 6) (v := ?_) rfl (by kernel_rfl) (by kernel_rfl) (by kernel_rfl) (fun _ _ _ h => h) (Or.inl ⟨by rfl, ?_⟩) (by assumption) ?_
    rotate_left
    focus
      intro W hSw
      try dsimp only at hSw
      go_simp
      try with_reducible rfl
    try simp only [Act.put, List.setIfInBounds_toArray, List.set_cons_zero, List.set_cons_succ]
    refine wpAnyH_take (i := 7) (v := ?_) rfl (by kernel_rfl) (by kernel_rfl) (by kernel_rfl) (fun _ _ _ h => h) (Or.inl ⟨by rfl, ?_⟩) (by assumption) ?_
    rotate_left
    focus
      intro W hSw
      try dsimp only at hSw
      go_simp
      try with_reducible rfl
    try simp only [Act.put, List.setIfInBounds_toArray, List.set_cons_zero, List.set_cons_succ]
    refine wpAnyH_take (i := 8) (v := ?_) rfl (by kernel_rfl) (by kernel_rfl) (by kernel_rfl) (fun _ _ _ h => h) (Or.inl ⟨by rfl, ?_⟩) (by assumption) ?_
    rotate_left
    focus
      intro W hSw
      try dsimp only at hSw
      go_simp
      try with_reducible rfl
    try simp only [Act.put, List.setIfInBounds_toArray, List.set_cons_zero, List.set_cons_succ]
    refine wpAnyH_take (i := 9) (v := ?_) rfl (by kernel_rfl) (by kernel_rfl) (by kernel_rfl) (fun _ _ _ h => h) (Or.inl ⟨by rfl, ?_⟩) (by assumption) ?_
    rotate_left
    focus
      intro W hSw
      try dsimp only at hSw
      go_simp
      try with_reducible rfl
    try simp only [Act.put, List.setIfInBounds_toArray, List.set_cons_zero, List.set_cons_succ]
    refine wpAnyH_take (i := 10) (v := ?_) rfl (by kernel_rfl) (by kernel_rfl) (by kernel_rfl) (fun _ _ _ h => h) (Or.inl ⟨by rfl, ?_⟩) (by assumption) ?_
    rotate_left
    focus
      intro W hSw
      try dsimp only at hSw
      go_simp
      try with_reducible rfl
    try simp only [Act.put, List.setIfInBounds_toArray, List.set_cons_zero, List.set_cons_succ]
    refine wpAnyH_take (i := 11) (v := ?_) rfl (by kernel_rfl) (by kernel_rfl) (by kernel_rfl) (fun _ _ _ h => h) (Or.inl ⟨by rfl, ?_⟩) (by assumption) ?_
    rotate_left
    focus
      intro W hSw
      try dsimp only at hSw
      go_simp
      try with_reducible rfl
    try simp only [Act.put, List.setIfInBounds_toArray, List.set_cons_zero, List.set_cons_succ]
    refine wpAnyH_take (i := 12) (v := ?_) rfl (by kernel_rfl) (by kernel_rfl) (by kernel_rfl) (fun _ _ _ h => h) (Or.inl ⟨by rfl, ?_⟩) (by assumption) ?_
    rotate_left
    focus
      intro W hSw
      try dsimp only at hSw
      go_simp
      try with_reducible rfl
    try simp only [Act.put, List.setIfInBounds_toArray, List.set_cons_zero, List.set_cons_succ]
    refine wpAnyH_take (i := 13) (v := ?_) rfl (by kernel_rfl) (by kernel_rfl) (by kernel_rfl) (fun _ _ _ h => h) (Or.inl ⟨by rfl, ?_⟩) (by assumption) ?_
    rotate_left
    focus
      intro W hSw
      try dsimp only at hSw
      go_simp
      try with_reducible rfl
    try simp only [Act.put, List.setIfInBounds_toArray, List.set_cons_zero, List.set_cons_succ]
    refine wpAnyH_take (i := 14) (v := ?_) rfl (by kernel_rfl) (by kernel_rfl) (by kernel_rfl) (fun _ _ _ h => h) (Or.inl ⟨by rfl, ?_⟩) (by assumption) ?_
    rotate_left
    focus
      intro W hSw
      try dsimp only at hSw
      go_simp
      try with_reducible rfl
    try simp only [Act.put, List.setIfInBounds_toArray, List.set_cons_zero, List.set_cons_succ]
    refine wpAnyH_take (i := 15) (v := ?_) rfl (by kernel_rfl) (by kernel_rfl) (by kernel_rfl) (fun _ _ _ h => h) (Or.inl ⟨by rfl, ?_⟩) (by assumption) ?_
    rotate_left
    focus
      intro W hSw
      try dsimp only at hSw
      go_simp
      try with_reducible rfl
    try simp only [Act.put, List.setIfInBounds_toArray, List.set_cons_zero, List.set_cons_succ]
    refine wpAnyH_take (i := 16) (v := ?_) rfl (by kernel_rfl) (by kernel_rfl) (by kernel_rfl) (fun _ _ _ h => h) (Or.inl ⟨by rfl, ?_⟩) (by assumption) ?_
    rotate_left
    focus
      intro W hSw
      try dsimp only at hSw
      go_simp
      try with_reducible rfl
    try simp only [Act.put, List.setIfInBounds_toArray, List.set_cons_zero, List.set_cons_succ]
    refine wpAnyH_take (i := 17) (v := ?_) rfl (by kernel_rfl) (by kernel_rfl) (by kernel_rfl) (fun _ _ _ h => h) (Or.inl ⟨by rfl, ?_⟩) (by assumption) ?_
    rotate_left
    focus
      intro W hSw
      try dsimp only at hSw
      go_simp
      try with_reducible rfl
    try simp only [Act.put, List.setIfInBounds_toArray, List.set_cons_zero, List.set_cons_succ]
    refine wpAnyH_take (i := 18) (v := ?_) rfl (by kernel_rfl) (by kernel_rfl) (by kernel_rfl) (fun _ _ _ h => h) (Or.inl ⟨by rfl, ?_⟩) (by assumption) ?_
    rotate_left
    focus
      intro W hSw
      try dsimp only at hSw
      go_simp
      try with_reducible rfl
    try simp only [Act.put, List.setIfInBounds_toArray, List.set_cons_zero, List.set_cons_succ]
    refine wpAnyH_take (i := 20) (v := ?_) rfl (by kernel_rfl) (by kernel_rfl) (by kernel_rfl) (fun _ _ _ h => h) (Or.inl ⟨by rfl, ?_⟩) (by assumption) ?_
    rotate_left
    focus
      intro W hSw
      try dsimp only at hSw
      go_simp
      try with_reducible rfl
    try simp only [Act.put, List.setIfInBounds_toArray, List.set_cons_zero, List.set_cons_succ]
    refine wpAnyH_take (i := 21) (v := ?_) rfl (by kernel_rfl) (by kernel_rfl) (by kernel_rfl) (fun _ _ _ h => h) (Or.inl ⟨by rfl, ?_⟩) (by assumption) ?_
    rotate_left
    focus
      intro W hSw
      try dsimp only at hSw
      go_simp
      try with_reducible rfl
    try simp only [Act.put, List.setIfInBounds_toArray, List.set_cons_zero, List.set_cons_succ]
    refine wpAnyH_take (i := 22) (v := ?_) rfl (by kernel_rfl) (by kernel_rfl) (by kernel_rfl) (fun _ _ _ h => h) (Or.inl ⟨by rfl, ?_⟩) (by assumption) ?_
    rotate_left
    focus
      intro W hSw
      try dsimp only at hSw
      go_simp
      try with_reducible rfl
    try simp only [Act.put, List.setIfInBounds_toArray, List.set_cons_zero, List.set_cons_succ]
    refine wpAnyH_take (i := 23) (v := ?_) rfl (by kernel_rfl) (by kernel_rfl) (by kernel_rfl) (fun _ _ _ h => h) (Or.inl ⟨by rfl, ?_⟩) (by assumption) ?_
    rotate_left
    focus
      intro W hSw
      try dsimp only at hSw
      go_simp
      try with_reducible rfl
    try simp only [Act.put, List.setIfInBounds_toArray, List.set_cons_zero, List.set_cons_succ]
    refine wpAnyH_take (i := 24) (v := ?_) rfl (by kernel_rfl) (by kernel_rfl) (by kernel_rfl) (fun _ _ _ h => h) (Or.inl ⟨by rfl, ?_⟩) (by assumption) ?_
    rotate_left
    focus
      intro W hSw
      try dsimp only at hSw
      go_simp
      try with_reducible rfl
    try simp only [Act.put, List.setIfInBounds_toArray, List.set_cons_zero, List.set_cons_succ]
    refine wpAnyH_take (i := 25) (v := ?_) rfl (by kernel_rfl) (by kernel_rfl) (by kernel_rfl) (fun _ _ _ h => h) (Or.inl ⟨by rfl, ?_⟩) (by assumption) ?_
    rotate_left
    focus
      intro W hSw
      try dsimp only at hSw
      go_simp
      try with_reducible rfl
    try simp only [Act.put, List.setIfInBounds_toArray, List.set_cons_zero, List.set_cons_succ]
    refine wpAnyH_take (i := 26) (v := ?_) rfl (by kernel_rfl) (by kernel_rfl) (by kernel_rfl) (fun _ _ _ h => h) (Or.inl ⟨by rfl, ?_⟩) (by assumption) ?_
    rotate_left
    focus
      intro W hSw
      try dsimp only at hSw
      go_simp
      try with_reducible rfl
    try simp only [Act.put, List.setIfInBounds_toArray, List.set_cons_zero, List.set_cons_succ]
    refine wpAnyH_ready (rs := [19, 27]) (by kernel_rfl) (by simp) ?_
    refine AllReadyH.cons rfl (fun K hK => ?_) ?_
    focus
      go_simp
      refine hK.out _ _ ?_ (fun hHeld => ?_)
      focus
        exact HK.out _ (by repeat (first | (with_reducible refine GX.setCell ?_ (by first | (simp; done) | (simp; omega)) _) | with_reducible refine GX.alloc ?_ _ | with_reducible refine GX.drew ?_ | with_reducible refine GX.drewN ?_ _ | with_reducible assumption | with_reducible exact GX.refl _ _ | with_reducible refine GX.ext ?_ (by with_reducible assumption) | with_reducible refine GX.trans ?_ (by with_reducible assumption)))
      clear hK K
      refine wpAnyH_ready (rs := [27]) (by kernel_rfl) (by simp) ?_
      refine AllReadyH.cons rfl (fun K hK => ?_) AllReadyH.nil
      go_simp
      refine hK.out _ _ ?_ (fun hHeld => ?_)
      focus
        exact HK.out _ (by repeat (first | (with_reducible refine GX.setCell ?_ (by first | (simp; done) | (simp; omega)) _) | with_reducible refine GX.alloc ?_ _ | with_reducible refine GX.drew ?_ | with_reducible refine GX.drewN ?_ _ | with_reducible assumption | with_reducible exact GX.refl _ _ | with_reducible refine GX.ext ?_ (by with_reducible assumption) | with_reducible refine GX.trans ?_ (by with_reducible assumption)))
      clear hK K
      refine wpAnyH_take (i := 28) (v := ?_) rfl (by kernel_rfl) (by kernel_rfl) (by kernel_rfl) (fun _ _ _ h => h) (Or.inl ⟨by rfl, ?_⟩) (by assumption) ?_
      rotate_left
      focus
        intro W hSw
        try dsimp only at hSw
        go_simp
        try with_reducible rfl
      try simp only [Act.put, List.setIfInBounds_toArray, List.set_cons_zero, List.set_cons_succ]
      refine wpAnyH_ready (rs := [29]) (by kernel_rfl) (by simp) ?_
      refine AllReadyH.cons rfl (fun K hK => ?_) AllReadyH.nil
      go_simp
      refine hK.out _ _ ?_ (fun hHeld => ?_)
      focus
        exact HK.out _ (by repeat (first | (with_reducible refine GX.setCell ?_ (by first | (simp; done) | (simp; omega)) _) | with_reducible refine GX.alloc ?_ _ | with_reducible refine GX.drew ?_ | with_reducible refine GX.drewN ?_ _ | with_reducible assumption | with_reducible exact GX.refl _ _ | with_reducible refine GX.ext ?_ (by with_reducible assumption) | with_reducible refine GX.trans ?_ (by with_reducible assumption)))
      clear hK K
      refine wpAnyH_take (i := 30) (v := ?_) rfl (by kernel_rfl) (by kernel_rfl) (by kernel_rfl) (fun _ _ _ h => h) (Or.inl ⟨by rfl, ?_⟩) (by assumption) ?_
      rotate_left
      focus
        intro W hSw
        try dsimp only at hSw
        go_simp
        try with_reducible rfl
      try simp only [Act.put, List.setIfInBounds_toArray, List.set_cons_zero, List.set_cons_succ]
      refine wpAnyH_ready (rs := [31]) (by kernel_rfl) (by simp) ?_
      refine AllReadyH.cons rfl (fun K hK => ?_) AllReadyH.nil
      go_simp
      refine hK.out _ _ ?_ (fun hHeld => ?_)
      focus
        exact HK.out _ (by repeat (first | (with_reducible refine GX.setCell ?_ (by first | (simp; done) | (simp; omega)) _) | with_reducible refine GX.alloc ?_ _ | with_reducible refine GX.drew ?_ | with_reducible refine GX.drewN ?_ _ | with_reducible assumption | with_reducible exact GX.refl _ _ | with_reducible refine GX.ext ?_ (by with_reducible assumption) | with_reducible refine GX.trans ?_ (by with_reducible assumption)))
      clear hK K
      refine wpAnyH_done (by kernel_rfl) ?_ _
    rotate_left
    refine AllReadyH.cons rfl (fun K hK => ?_) AllReadyH.nil
    focus
      go_simp
      refine hK.out _ _ ?_ (fun hHeld => ?_)
      focus
        exact HK.out _ (by repeat (first | (with_reducible refine GX.setCell ?_ (by first | (simp; done) | (simp; omega)) _) | with_reducible refine GX.alloc ?_ _ | with_reducible refine GX.drew ?_ | with_reducible refine GX.drewN ?_ _ | with_reducible assumption | with_reducible exact GX.refl _ _ | with_reducible refine GX.ext ?_ (by with_reducible assumption) | with_reducible refine GX.trans ?_ (by with_reducible assumption)))
      clear hK K
      refine wpAnyH_ready (rs := [19]) (by kernel_rfl) (by simp) ?_
      refine AllReadyH.cons rfl (fun K hK => ?_) AllReadyH.nil
      go_simp
      refine hK.out _ _ ?_ (fun hHeld => ?_)
      focus
        exact HK.out _ (by repeat (first | (with_reducible refine GX.setCell ?_ (by first | (simp; done) | (simp; omega)) _) | with_reducible refine GX.alloc ?_ _ | with_reducible refine GX.drew ?_ | with_reducible refine GX.drewN ?_ _ | with_reducible assumption | with_reducible exact GX.refl _ _ | with_reducible refine GX.ext ?_ (by with_reducible assumption) | with_reducible refine GX.trans ?_ (by with_reducible assumption)))
      clear hK K
      refine wpAnyH_take (i := 28) (v := ?_) rfl (by kernel_rfl) (by kernel_rfl) (by kernel_rfl) (fun _ _ _ h => h) (Or.inl ⟨by rfl, ?_⟩) (by assumption) ?_
      rotate_left
      focus
        intro W hSw
        try dsimp only at hSw
        go_simp
        try with_reducible rfl
      try simp only [Act.put, List.setIfInBounds_toArray, List.set_cons_zero, List.set_cons_succ]
      refine wpAnyH_ready (rs := [29]) (by kernel_rfl) (by simp) ?_
      refine AllReadyH.cons rfl (fun K hK => ?_) AllReadyH.nil
      go_simp
      refine hK.out _ _ ?_ (fun hHeld => ?_)
      focus
        exact HK.out _ (by repeat (first | (with_reducible refine GX.setCell ?_ (by first | (simp; done) | (simp; omega)) _) | with_reducible refine GX.alloc ?_ _ | with_reducible refine GX.drew ?_ | with_reducible refine GX.drewN ?_ _ | with_reducible assumption | with_reducible exact GX.refl _ _ | with_reducible refine GX.ext ?_ (by with_reducible assumption) | with_reducible refine GX.trans ?_ (by with_reducible assumption)))
      clear hK K
      refine wpAnyH_take (i := 30) (v := ?_) rfl (by kernel_rfl) (by kernel_rfl) (by kernel_rfl) (fun _ _ _ h => h) (Or.inl ⟨by rfl, ?_⟩) (by assumption) ?_
      rotate_left
      focus
        intro W hSw
        try dsimp only at hSw
        go_simp
        try with_reducible rfl
      try simp only [Act.put, List.setIfInBounds_toArray, List.set_cons_zero, List.set_cons_succ]
      refine wpAnyH_ready (rs := [31]) (by kernel_rfl) (by simp) ?_
      refine AllReadyH.cons rfl (fun K hK => ?_) AllReadyH.nil
      go_simp
      refine hK.out _ _ ?_ (fun hHeld => ?_)
      focus
        exact HK.out _ (by repeat (first | (with_reducible refine GX.setCell ?_ (by first | (simp; done) | (simp; omega)) _) | with_reducible refine GX.alloc ?_ _ | with_reducible refine GX.drew ?_ | with_reducible refine GX.drewN ?_ _ | with_reducible assumption | with_reducible exact GX.refl _ _ | with_reducible refine GX.ext ?_ (by with_reducible assumption) | with_reducible refine GX.trans ?_ (by with_reducible assumption)))
      clear hK K
      refine wpAnyH_done (by kernel_rfl) ?_ _
    all_goals
      go_wp2_with fail
      go_ret
      refine ⟨(by rw [hso.out]; rfl), (fun _ => ?_), ((((HHX.out.1.setCell HHX.out.2 _).setCell HHX.out.2 _).setCell HHX.out.2 _).setCell HHX.out.2 _).drew⟩
      try rw [hst]
      exact ⟨_, (((((HRD.out.store (a * 2) _).store (a * 2 + 1) _).store (b * 2) _).store (b * 2 + 1) _).ext (Ext.refl _).drew).ms HVS.out⟩
  · have hso : stOk k0 σ.u = true := by rw [hSO.out]; rcases hk0 with rfl | rfl <;> rfl
    have hcf : cfK k0 = 0 := by rcases hk0 with rfl | rfl <;> rfl
    have hst : stepF σ j k0 a b = σ := by rcases hk0 with rfl | rfl <;> rfl
    go_enter Try.func50, Try.ntmps50
    go_upto_region 1 with fail
    rw [← hw1]
    clear hw1
    go_wp2_with fail
    refine (rotationCoef_any _ _).mono ?_
    rintro e w9 ⟨rfl, rfl⟩
    rw [hcf]
    go_wp2
    go_ret
    refine ⟨(by rw [hso]; rfl), (fun _ => ?_), HX0.out.trans HX1.out⟩
    rw [hst]
    exact ⟨_, HM.out _ (Ext.refl _)⟩
  · obtain ⟨c, hcf⟩ : ∃ c, cfK k0 = c := ⟨_, rfl⟩
    have hc1 : 1 ≤ c ∧ c ≤ 7 := by
      have h : k0 = 4 ∨ k0 = 5 ∨ k0 = 6 ∨ k0 = 7 ∨ k0 = 8 := by omega
      rcases h with rfl | rfl | rfl | rfl | rfl <;> (subst hcf; decide)
    have hst : stepF σ j k0 a b = rotG σ j a c := by
      unfold stepF
      rw [if_neg (by omega), if_neg (by omega), if_neg (by omega), if_neg (by omega), if_pos (by omega), hcf]
      rfl
    have hso : stOk k0 σ.u = true := by
      rw [hSO.out]
      have : (k0 == 1) = false := by simp; omega
      rw [this]; rfl
    have HRO := Lib.hid (rotate_any M lo hi Q j a c w1 (HM.out w1 (Ext.refl _)) HI.out haQ hq.2 hj hc1 w0 h0 (HX0.out.trans HX1.out))
    go_enter Try.func50, Try.ntmps50
    go_upto_region 1 with fail
    rw [← hw1]
    clear hw1
    go_wp2_with fail
    refine (rotationCoef_any _ _).mono ?_
    rintro e w9 ⟨rfl, rfl⟩
    rw [hcf]
    go_wp2_with fail
    refine HRO.out.mono ?_
    rintro e w9 ⟨rfl, hm9, hx9⟩
    have HM9 := Lib.hid hm9
    clear hm9
    go_wp2
    go_ret
    refine ⟨(by rw [hso]; rfl), (fun _ => ?_), hx9⟩
    rw [hst]
    exact HM9.out

end Go.Proofs.Ytbddgeoaaklgpaa
