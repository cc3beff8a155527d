/- Replacements of runs: the program's side. -/
import Derived.Test.YtlbcjbeafampcaaRrL
import Derived.Test.YtlbcjbeafampcaaRunP
import Derived.Test.YtlbcjbeafampcaaLt
import Derived.Test.YtlbcjbeafampcaaWra
namespace Go.Proofs.Ytlbcjbeafampcaa
open Go.RowKit Go.Lib
set_option linter.unusedVariables false
set_option linter.unusedSimpArgs false

theorem elt_gR : Elt Try.prog 29 73 3 24 := elt_of (z := .agg #[.int .i64 0, .int .i64 0, .int .i64 0]) Try.underlying29 (by kernel_rfl) rfl (by decide) (by decide)
theorem own_gxn {S : List Nat} {w w' : World} {base : Nat} {e : TypeId} {size : Nat} {v : Value} {n : Nat} {xs : List Value} (h : w.ownsRow base e size v n xs) (hg : GX S w w') (hS : ∀ k, v.ownBlock = some k → k ∉ S) : w'.ownsRow base e size v n xs := by
  refine ⟨h.1, ?_⟩
  rcases h.2 with hn | ⟨g, cap, cur, hv, hb, hh, r⟩
  · exact .inl hn
  · have hl := (Array.getElem?_eq_some_iff.1 hh).1
    exact .inr ⟨g, cap, cur, hv, hb, (hg.heap hl (hS g (by rw [hv]; rfl))).trans hh, r⟩
theorem row_farR {w W : World} {k : Nat} {o : Obj} (h : w.heap[k]? = some o) (hx : Ext w W) : W.heap[k]? = some o := (hx.heap (Array.getElem?_eq_some_iff.1 h).1).trans h

set_option maxRecDepth 20000 in
set_option maxHeartbeats 1000000 in
theorem cloneG_any {n : Nat} {v : Value} {xs : List Int} (hn : n ≤ 2000000) (w : World) (h : RV w 3 v n xs) :
    Calls Try.prog 50 #[v] w fun e w' => ∃ v', e = .returned v' ∧ w'.ownsRow w.heap.size 73 3 v' n (IL xs) ∧ Ext w w' := by
  have HR := Lib.hid (h.ext ((Ext.refl w).alloc (.cells #[] 73 (0, 0))))
  obtain ⟨hl, a, cap, rfl, c1, c2, H⟩ := h
  cases a with
  | none =>
    have hn0 : n = 0 := by
      rcases Nat.eq_zero_or_pos n with h | h
      · exact h
      · obtain ⟨_, _, h3, _⟩ := H h; cases h3
    subst hn0
    have hx : xs = [] := List.eq_nil_of_length_eq_zero (by omega)
    subst hx
    have heq : ∀ w, (binOp .eql 29 (.slice none 0 cap) (.slice none 0 0)).run Try.prog w = .ok (.bool true) w := fun w => by simpa using run_eql_slice_nil w 29 73 none 0 cap 0 0 Try.underlying29
    clear H HR
    go_enter Try.func50, Try.ntmps50
    go_wp2
    go_ret
    exact ⟨_, rfl, own_nil _ _ _ _, (by repeat (first | exact Ext.refl _ | assumption | refine Ext.alloc ?_ _ | refine Ext.drew ?_ | refine Ext.drewN ?_ _ | refine Ext.setCell ?_ (by first | omega | (dsimp only; omega) | (simp; done) | (simp; omega)) _ | refine Ext.trans ?_ (by assumption)))⟩
  | some ad =>
    have heq : ∀ w, (binOp .eql 29 (.slice (some ad) n cap) (.slice none 0 0)).run Try.prog w = .ok (.bool false) w := fun w => by simpa using run_eql_slice_nil w 29 73 (some ad) n cap 0 0 Try.underlying29
    clear H
    have HO : Hid ((w.alloc (.cells #[] 73)).ownsRow w.heap.size 73 3 (.slice (some ⟨w.heap.size, 0, none⟩) 0 0) 0 (IL [])) := World.ownsRow_lit _ _ 0 (Nat.le_refl _) (by decide) rfl
    go_enter Try.func50, Try.ntmps50
    go_wp2_with (at_builtin; go_loud (refine wpList_append_rv rfl elt_gR rfl _ 0 [] rfl HO.out _ n xs rfl HR.out (by omega) (by simp) ?_); intro v4 w4 hown4 hgrow4 hiff4)
    go_ret
    exact ⟨_, rfl, by simpa using hown4, ext_grownB ((Ext.refl w).alloc _) hgrow4 HO.out (Nat.le_refl _)⟩

set_option maxRecDepth 20000 in
set_option maxHeartbeats 8000000 in
theorem runReplacement_any (q at' : Int) {v1 v2 v3 : Value} {n m l : Nat} {xs ys zs : List Int} (hn : n ≤ 2000000) (hm : m ≤ 2000000) (hl : l ≤ 2000000) (w : World) (h1 : RV w 3 v1 n xs) (h2 : RV w 1 v2 m ys) (h3 : RV w 3 v3 l zs) :
    Calls Try.prog 19 #[.agg #[.int .i64 q, v1], .int .i64 at', v2, v3] w fun e w' => ∃ u0 u1, e = .returned (.tuple #[.agg #[.int .i64 (rrT q xs n at' ys m zs l), u0, u1], .bool (rrOk q xs n at' ys m zs l)]) ∧
      w'.ownsRow w.heap.size 73 3 u0 (rrOn q xs n at' ys m zs l) (IL (rrO q xs n at' ys m zs l)) ∧ w'.ownsRow w.heap.size 73 3 u1 (rrWn q xs n at' ys m zs l) (IL (rrW q xs n at' ys m zs l)) ∧ (∀ k, u0.ownBlock = some k → u1.ownBlock = some k → False) ∧ Ext w w' := by
  have HRA := fun w' (hx : Ext w w') => Lib.hid (runAt_any q at' hn hm w' (h1.ext hx) (h2.ext hx))
  have HIS := fun k a b w' (hx : Ext w w') => Lib.hid (isInside_any k a b hm w' (h2.ext hx))
  have HVV := Lib.hid (rr_vals q xs n at' ys m zs l)
  have HO : Hid (rrOk q xs n at' ys m zs l = (raOk q xs n at' ys m && (gIns q ys m zs l && (decide (rrK q xs n at' ys m ≤ 40) && decide (l + rrM q xs n at' ys m ≤ 40))))) := rfl
  have H3 := Lib.hid h3
  obtain ⟨hlx, a1, cap1, rfl, p1, p2, hhx⟩ := h1
  obtain ⟨_, a2, cap2, rfl, p3, p4, hhy⟩ := h2
  obtain ⟨hlz, a3, cap3, rfl, p5, p6, hhz⟩ := h3
  have HX := Lib.hid hhx
  have HLX := Lib.hid hlx
  have HZ := Lib.hid hhz
  have HLZ := Lib.hid hlz
  clear hhx hhy hhz hlx hlz
  cases g1 : raOk q xs n at' ys m
  case false =>
    rw [g1] at HRA
    have HN0 : Hid (rrOk q xs n at' ys m zs l = false) := HO.out.trans (by rw [g1]; rfl)
    clear HO g1
    go_enter Try.func19, Try.ntmps19
    go_wp2_with fail
    refine (HRA _ (by repeat (first | exact Ext.refl _ | assumption | refine Ext.alloc ?_ _ | refine Ext.drew ?_ | refine Ext.drewN ?_ _ | refine Ext.setCell ?_ (by first | omega | (dsimp only; omega) | (simp; done) | (simp; omega)) _ | refine Ext.trans ?_ (by assumption)))).out.mono ?_
    rintro e w1 ⟨v, rfl, o1, hx1⟩
    have hR : w1.heap[w.heap.size + 1]? = some (.cells #[.int .i64 0, .slice none 0 0, .slice none 0 0] 45 (0, 0)) := (hx1.heap (by simp)).trans (heap_alloc_at _ _ _ (by simp))
    obtain ⟨ar, cr, rfl, _, _, _⟩ := own_shape o1
    clear o1
    have zR := fun k => cell_of_row _ _ k _ _ _ hR
    have fR := fun k => frozen_of_row _ _ k _ _ hR
    have lR := (Array.getElem?_eq_some_iff.1 hR).1
    have HN : Hid (rrOk q xs n at' ys m zs l = false) := HN0.out
    obtain ⟨e1, e2, e3, e4, e5⟩ := HVV.out.no HN.out
    have HE12 := Lib.hid (And.intro e1 (And.intro e2 (And.intro e3 (And.intro e4 e5))))
    have HEE := Lib.hid (show Ext w w1 from (by repeat (first | (with_reducible refine Ext.setCell ?_ (by first | (simp; done) | (simp; omega)) _) | with_reducible refine Ext.alloc ?_ _ | with_reducible refine Ext.drew ?_ | with_reducible refine Ext.drewN ?_ _ | with_reducible assumption | with_reducible exact Ext.refl _ | with_reducible refine Ext.trans ?_ (by with_reducible assumption))))
    clear e1 e2 e3 e4 e5
    go_wp2
    refine bodyPost_ret (v := .tuple #[.agg #[.int .i64 0, .slice none 0 0, .slice none 0 0], .bool false]) (by simp [results, Try.results19, go_sem, *]) rfl ?_
    obtain ⟨e1, e2, e3, e4, e5⟩ := HE12.out
    rw [HN.out, e1, e2, e3, e4, e5]
    have hee := HEE.out
    exact ⟨_, _, rfl, own_nil _ _ _ _, own_nil _ _ _ _, (fun k hk => by simp [Value.ownBlock] at hk), (by repeat (first | (with_reducible refine Ext.setCell ?_ (by first | (simp; done) | (simp; omega)) _) | with_reducible refine Ext.alloc ?_ _ | with_reducible refine Ext.drew ?_ | with_reducible refine Ext.drewN ?_ _ | with_reducible assumption | with_reducible exact Ext.refl _ | with_reducible refine Ext.trans ?_ (by with_reducible assumption)))⟩
  have hf := ra_facts g1
  have HNX : Hid (rrX q xs n at' ys m = nwL xs (raL q xs n at' ys m) (raL q xs n at' ys m).length at'.toNat (rrK q xs n at' ys m)) := rfl
  have HNM : Hid (rrM q xs n at' ys m = nwN (raL q xs n at' ys m) (raL q xs n at' ys m).length at'.toNat (rrK q xs n at' ys m)) := rfl
  have hK : rrK q xs n at' ys m = (lastR (raL q xs n at' ys m)).toNat + 1 - at'.toNat := rfl
  rw [g1] at HRA
  rw [g1, Bool.true_and] at HO
  clear g1
  generalize at'.toNat = a at *
  generalize (lastR (raL q xs n at' ys m)).toNat = b at *
  generalize raL q xs n at' ys m = L at *
  generalize rrK q xs n at' ys m = K at *
  generalize rrX q xs n at' ys m = X at *
  generalize rrM q xs n at' ys m = M at *
  obtain ⟨ha, f1, f2, ⟨f3, f4⟩, f5, f6, f7, f8, f9, f10⟩ := hf
  subst ha
  have hgv : Wn q 1 5 = true := Wn_iff.2 ⟨f3, f4⟩
  have HVG := fun k a b w' => Lib.hid (isValidGate_any q k a b w')
  simp only [hgv, Bool.true_and] at HVG
  clear hgv
  generalize hc : L.length = c at *
  have HLL := Lib.hid hc
  have HFS := Lib.hid (And.intro f7 f8)
  clear hc f7 f8
  obtain ⟨c0, rfl⟩ : ∃ c0, c = c0 + 1 := ⟨c - 1, by omega⟩
  go_enter Try.func19, Try.ntmps19
  go_wp2_with fail
  refine (HRA _ (by repeat (first | exact Ext.refl _ | assumption | refine Ext.alloc ?_ _ | refine Ext.drew ?_ | refine Ext.drewN ?_ _ | refine Ext.setCell ?_ (by first | omega | (dsimp only; omega) | (simp; done) | (simp; omega)) _ | refine Ext.trans ?_ (by assumption)))).out.mono ?_
  rintro e w1 ⟨v, rfl, o1, hx1⟩
  have hA1 : Hid (w1.heap[w.heap.size]? = some (.cells #[.int .i64 q, .slice a1 n cap1] 31 (0, 0))) := (hx1.heap (by simp; omega)).trans (heap_alloc_lt (heap_alloc_new _ _))
  have hR1 : Hid (w1.heap[w.heap.size + 1]? = some (.cells #[.int .i64 0, .slice none 0 0, .slice none 0 0] 45 (0, 0))) := (hx1.heap (by simp)).trans (heap_alloc_at _ _ _ (by simp))
  have hE1 : Ext w w1 := (by repeat (first | (with_reducible refine Ext.setCell ?_ (by first | (simp; done) | (simp; omega)) _) | with_reducible refine Ext.alloc ?_ _ | with_reducible refine Ext.drew ?_ | with_reducible refine Ext.drewN ?_ _ | with_reducible assumption | with_reducible exact Ext.refl _ | with_reducible refine Ext.trans ?_ (by with_reducible assumption)))
  have hs1 : w.heap.size + 2 ≤ w1.heap.size := by have := hx1.size; simp at this; exact this
  have HO1 := Lib.hid o1
  obtain ⟨ar, cr, rfl, r1, r2, r3⟩ := own_shape o1
  obtain ⟨gr, rfl, r4, r5, r6, r7⟩ := r3 f5
  have hzr : w1.cell? ⟨gr, c0, none⟩ = some (.int .i64 b) := by
    have h8 := HFS.out.2
    rw [Nat.add_sub_cancel] at h8
    rw [← h8]
    exact r6 c0 _ (at3_get (by have := HLL.out; omega))
  have HZR := Lib.hid hzr
  have HE1 := Lib.hid hE1
  clear o1 r3 r6 r7 hx1 hzr hE1 HRA
  go_wp2
  go_loopw [13, 29] (fun _ i wr => ∃ j : Nat, j ≤ l ∧ i = .int .i64 j ∧ Hid (gIns q ys m zs j = true) ∧ Ext w1 wr) (fun _ i _ => l - (intOf i).toNat)
  case atStart => exact ⟨0, by omega, rfl, rfl, Ext.refl _⟩
  case round =>
    obtain ⟨j, hj, rfl, HG, hE⟩ := hrel
    have HE := Lib.hid (HE1.out.trans hE)
    have HEr := Lib.hid hE
    have hsr := hE.size
    have hA := row_farR hA1.out hE
    have hR := row_farR hR1.out hE
    have HAA := Lib.hid hA
    have HRR := Lib.hid hR
    clear hE
    have zA := fun k => cell_of_row _ _ k _ _ _ hA
    have lA := (Array.getElem?_eq_some_iff.1 hA).1
    have zR := fun k => cell_of_row _ _ k _ _ _ hR
    have fR := fun k => frozen_of_row _ _ k _ _ hR
    have lR := (Array.getElem?_eq_some_iff.1 hR).1
    clear hA hR
    by_cases hlt : j < l
    case neg =>
      obtain rfl : l = j := by omega
      obtain ⟨bx, offx, rfl, hbx, hcx⟩ := HX.out (by omega)
      obtain ⟨wA, rfl⟩ : ∃ wA : World, wA = wr := ⟨_, rfl⟩
      have HCX := Lib.hid hcx
      have zr := (HEr.out.cells.1 gr c0 r5).trans HZR.out
      have lr : gr < wA.heap.size := by have := HEr.out.size; omega
      have hkj : ((c0 + 1 : Nat) : Int) - 1 = c0 := by omega
      have hkj2 : (c0 : Int) + 1 - 1 = c0 := by omega
      have hRW := (RV.ext (w' := wA) ⟨HLX.out, _, cap1, rfl, p1, p2, fun _ => ⟨bx, offx, rfl, hbx, hcx⟩⟩ HE.out).part a (b + 1 - a) (cap1 - a) (by omega) (by omega) (by omega)
      have HCL := Lib.hid (cloneG_any (by omega) wA hRW)
      have hlo : ((xs.drop (a * 3)).take ((b + 1 - a) * 3)).length = (b + 1 - a) * 3 := hRW.1
      rw [← hK] at HCL hlo
      have HKK := Lib.hid hK
      have HLO := Lib.hid hlo
      have pE : (cap1 = a) = False := eq_false (by omega)
      have q1 : (a : Int) ≤ b + 1 := by omega
      have q2 : (b : Int) + 1 ≤ cap1 := by omega
      have q3 : (a : Int) ≤ cap1 := by omega
      have q4 : ((b : Int) + 1).toNat = b + 1 := by omega
      clear hRW hcx hlo hK
      go_wp2_with fail
      rw [← HKK.out]
      refine HCL.out.mono ?_
      rintro e w2 ⟨vO, rfl, oO, hx2⟩
      have hE2 : Ext w w2 := HE.out.trans hx2
      have HC3 := Lib.hid (cloneG_any hl w2 (H3.out.ext hE2))
      have HOO := Lib.hid oO
      obtain ⟨aO, cO, rfl, cO1, cO2, _⟩ := own_shape oO
      have hs2 := hx2.size
      have HX2 := Lib.hid hx2
      have HE2 := Lib.hid hE2
      clear oO hx2 hE2 zr lr q1 q2 q3 q4 pE zA lA zR fR lR
      go_wp2_with fail
      refine HC3.out.mono ?_
      rintro e w3 ⟨vN, rfl, oN, hx3⟩
      have HON := Lib.hid oN
      obtain ⟨aN0, cN0, rfl, _, _, _⟩ := own_shape oN
      have hs3 := hx3.size
      have HX3 := Lib.hid hx3
      have hA2 : Hid (w2.heap[w.heap.size]? = some (.cells #[.int .i64 q, .slice (some ⟨bx, offx, none⟩) n cap1] 31 (0, 0))) := row_farR HAA.out HX2.out
      have hR2 : Hid (w2.heap[w.heap.size + 1]? = some (.cells #[.int .i64 0, .slice none 0 0, .slice none 0 0] 45 (0, 0))) := row_farR HRR.out HX2.out
      have HRUN : Hid (∀ W, Ext w2 W → RV W 1 (.slice (some ⟨gr, 0, none⟩) (c0 + 1) cr) (c0 + 1) L) := fun W hW => (RV.own HO1.out (by have := HLL.out; omega)).ext ((HEr.out.trans HX2.out).trans hW)
      clear oN hx3 HCL HC3 HVG HIS HZ HLZ
      generalize hB : w3.heap.size = B at *
      go_wp2
      go_loopw [16] (fun i wr => ∃ (j : Nat) (v : Value), j ≤ K ∧ i = .int .i64 ((a : Int) + (j : Int)) ∧ Hid (wr.heap[B]? = some (.cells #[.int .i64 a, .slice aO K cO, v] 45 (0, 0))) ∧ Hid (wr.ownsRow w2.heap.size 73 3 v (l + nwN L (c0 + 1) a j) (IL (zs ++ nwL xs L (c0 + 1) a j))) ∧ Hid (∀ k, v.ownBlock = some k → k ≠ B) ∧ Ext w2 wr) (fun i _ => (a + K - intOf i).toNat)
      case atStart => exact ⟨0, _, by omega, by simp, (by rw [← hB]; exact heap_alloc_new _ _), (by unfold Hid; simp only [nwL, nwN, List.append_nil, Nat.add_zero]; exact own_ext HON.out ((Ext.refl w3).alloc _)), (fun k hk => by have := (HON.out.lt k hk).2; omega), HX3.out.alloc _⟩
      case round =>
        obtain ⟨j, v, hjK, rfl, HB, HW, HNB, hE⟩ := hrel
        obtain ⟨I, hI0⟩ : ∃ I : Nat, I = a + j := ⟨_, rfl⟩
        have hI : (a : Int) + (j : Int) = (I : Int) := by omega
        have HI0 := Lib.hid hI0
        clear hI0
        have hsr2 := hE.size
        have HEr2 := Lib.hid hE
        have HEw := Lib.hid (HE2.out.trans hE)
        have hA := row_farR hA2.out hE
        have hR := row_farR hR2.out hE
        have hBB := HB.out
        clear hE
        have zA := fun k => cell_of_row _ _ k _ _ _ hA
        have lA := (Array.getElem?_eq_some_iff.1 hA).1
        have zR := fun k => cell_of_row _ _ k _ _ _ hR
        have fR := fun k => frozen_of_row _ _ k _ _ hR
        have lR := (Array.getElem?_eq_some_iff.1 hR).1
        have zB := fun k => cell_of_row _ _ k _ _ _ hBB
        have fB := fun k => frozen_of_row _ _ k _ _ hBB
        have lB := (Array.getElem?_eq_some_iff.1 hBB).1
        clear hA hR hBB
        by_cases hltK : j < K
        case neg =>
          obtain rfl : K = j := by omega
          have hnb : ¬ ((I : Int) ≤ b) := by have := HKK.out; have := HI0.out; omega
          have hMM : M = nwN L (c0 + 1) a K := HNM.out
          rw [← hMM] at HW
          obtain ⟨aN, cN, rfl, cN1, cN2, _⟩ := own_shape HW.out
          by_cases hk1 : K ≤ 40
          case neg =>
            have hk1' : (40 : Int) < K := by omega
            have HN : Hid (rrOk q xs n (a : Int) ys m zs l = false) := HO.out.trans (by rw [decide_eq_false hk1]; simp)
            obtain ⟨e1, e2, e3, e4, e5⟩ := HVV.out.no HN.out
            have HE12 := Lib.hid (And.intro e1 (And.intro e2 (And.intro e3 (And.intro e4 e5))))
            have HEE := Lib.hid (show Ext w wr from HEw.out)
            clear e1 e2 e3 e4 e5
            go_wp2
            refine bodyPost_ret (v := .tuple #[.agg #[.int .i64 0, .slice none 0 0, .slice none 0 0], .bool false]) (by simp [results, Try.results19, go_sem, *]) rfl ?_
            obtain ⟨e1, e2, e3, e4, e5⟩ := HE12.out
            rw [HN.out, e1, e2, e3, e4, e5]
            have hee := HEE.out
            exact ⟨_, _, rfl, own_nil _ _ _ _, own_nil _ _ _ _, (fun k hk => by simp [Value.ownBlock] at hk), (by repeat (first | (with_reducible refine Ext.setCell ?_ (by first | (simp; done) | (simp; omega)) _) | with_reducible refine Ext.alloc ?_ _ | with_reducible refine Ext.drew ?_ | with_reducible refine Ext.drewN ?_ _ | with_reducible assumption | with_reducible exact Ext.refl _ | with_reducible refine Ext.trans ?_ (by with_reducible assumption)))⟩
          have hk1' : ¬ ((40 : Int) < K) := by omega
          by_cases hk2 : l + M ≤ 40
          case neg =>
            have hk2' : (40 : Int) < ((l + M : Nat) : Int) := by omega
            have HN : Hid (rrOk q xs n (a : Int) ys m zs l = false) := HO.out.trans (by rw [decide_eq_false hk2]; simp)
            obtain ⟨e1, e2, e3, e4, e5⟩ := HVV.out.no HN.out
            have HE12 := Lib.hid (And.intro e1 (And.intro e2 (And.intro e3 (And.intro e4 e5))))
            have HEE := Lib.hid (show Ext w wr from HEw.out)
            clear e1 e2 e3 e4 e5
            go_wp2
            refine bodyPost_ret (v := .tuple #[.agg #[.int .i64 0, .slice none 0 0, .slice none 0 0], .bool false]) (by simp [results, Try.results19, go_sem, *]) rfl ?_
            obtain ⟨e1, e2, e3, e4, e5⟩ := HE12.out
            rw [HN.out, e1, e2, e3, e4, e5]
            have hee := HEE.out
            exact ⟨_, _, rfl, own_nil _ _ _ _, own_nil _ _ _ _, (fun k hk => by simp [Value.ownBlock] at hk), (by repeat (first | (with_reducible refine Ext.setCell ?_ (by first | (simp; done) | (simp; omega)) _) | with_reducible refine Ext.alloc ?_ _ | with_reducible refine Ext.drew ?_ | with_reducible refine Ext.drewN ?_ _ | with_reducible assumption | with_reducible exact Ext.refl _ | with_reducible refine Ext.trans ?_ (by with_reducible assumption)))⟩
          have hk2' : ¬ ((40 : Int) < ((l + M : Nat) : Int)) := by omega
          have HY : Hid (rrOk q xs n (a : Int) ys m zs l = true) := HO.out.trans (by rw [HG.out, decide_eq_true hk1, decide_eq_true hk2]; rfl)
          obtain ⟨e1, e2, e3, e4, e5⟩ := HVV.out.yes HY.out
          have HE12 := Lib.hid (And.intro e1 (And.intro e2 (And.intro e3 (And.intro e4 e5))))
          clear e1 e2 e3 e4 e5
          go_wp2
          refine bodyPost_ret (v := .tuple #[.agg #[.int .i64 a, .slice aO K cO, .slice aN (l + M) cN], .bool true]) (by simp [results, Try.results19, go_sem, *]) rfl ?_
          obtain ⟨e1, e2, e3, e4, e5⟩ := HE12.out
          rw [HY.out, e1, e2, e3, e4, e5, HNX.out]
          have hee := HEw.out
          have o0 := own_ext HOO.out HEr2.out
          have o1 := HW.out
          refine ⟨_, _, rfl, ?_, ?_, ?_, (by repeat (first | (with_reducible refine Ext.setCell ?_ (by first | (simp; done) | (simp; omega)) _) | with_reducible refine Ext.alloc ?_ _ | with_reducible refine Ext.drew ?_ | with_reducible refine Ext.drewN ?_ _ | with_reducible assumption | with_reducible exact Ext.refl _ | with_reducible refine Ext.trans ?_ (by with_reducible assumption)))⟩
          · refine own_base (base := wA.heap.size) ?_ (by omega)
            exact own_set (own_set (own_set o0 (by simp; omega) _) (by simp; omega) _) (by simp; omega) _
          · refine own_base (base := w2.heap.size) ?_ (by omega)
            exact own_set (own_set (own_set o1 (by simp; omega) _) (by simp; omega) _) (by simp; omega) _
          · intro k h1 h2
            have := (HOO.out.lt k h1).2
            have := (HW.out.lt k h2).1
            omega
        have hlb : (I : Int) ≤ b := by have := HKK.out; have := HI0.out; omega
        have HRW := HRUN.out wr HEr2.out
        have HCN := Lib.hid (contains_any (I : Int) (by omega) wr HRW)
        clear HRW
        cases hh : hasTo L (I : Int) (c0 + 1)
        case true =>
          rw [hh] at HCN
          have HNW := Lib.hid (nwL_yes (xs := xs) (hI ▸ hh))
          clear hh
          go_wp2_with fail
          refine HCN.out.mono ?_
          rintro e w4 ⟨rfl, rfl⟩
          go_wp2
          go_roundw
          case rel => exact ⟨j + 1, v, by omega, congrArg (Value.int .i64) (by omega), HB, (by unfold Hid; rw [HNW.out.1, HNW.out.2]; exact HW.out), HNB, HEr2.out⟩
          case measure => simp [intOf]; omega
        rw [hh] at HCN
        have HNW := Lib.hid (nwL_no (xs := xs) (hI ▸ hh))
        have hajn : I < n := by omega
        have hajn' : (I : Int) < n := by omega
        rw [← HI0.out] at HNW
        have zg0 : wr.cell? ⟨bx, offx + I * 3, none⟩ = some (.int .i64 (at3 xs (I * 3))) := (HEw.out.cells.1 _ _ hbx).trans (HCX.out _ _ (at3_get (by have := HLX.out; omega)))
        have zg1 : wr.cell? ⟨bx, offx + I * 3 + 1, none⟩ = some (.int .i64 (at3 xs (I * 3 + 1))) := by rw [Nat.add_assoc]; exact (HEw.out.cells.1 _ _ hbx).trans (HCX.out _ _ (at3_get (by have := HLX.out; omega)))
        have zg2 : wr.cell? ⟨bx, offx + I * 3 + 2, none⟩ = some (.int .i64 (at3 xs (I * 3 + 2))) := by rw [Nat.add_assoc]; exact (HEw.out.cells.1 _ _ hbx).trans (HCX.out _ _ (at3_get (by have := HLX.out; omega)))
        have lbx : bx < wr.heap.size := by have := HEw.out.size; omega
        have hbB : bx ≠ B := by have := HE2.out.size; omega
        have hwB : w.heap.size ≠ B := by omega
        clear hh
        generalize at3 xs (I * 3) = x0 at *
        generalize at3 xs (I * 3 + 1) = x1 at *
        generalize at3 xs (I * 3 + 2) = x2 at *
        go_wp2_with fail
        refine HCN.out.mono ?_
        rintro e w4 ⟨rfl, rfl⟩
        go_wp2
        refine Wr.wp_region_wra (m := 100) (fun n => .slice (some ⟨n, 0, none⟩) 1 1) 73 #[.int .i64 x0, .int .i64 x1, .int .i64 x2] [⟨B, 45, #[.int .i64 a, .slice aO K cO, v]⟩] (by kernel_rfl) (by kernel_rfl) rfl (by simp; try omega) ?_ ?_
        · intro s hs
          rcases s with _ | s
          · exact (show (World.heap _)[B]? = some (Obj.cells #[.int .i64 a, .slice aO K cO, v] 45 (0, 0)) from HB.out)
          · simp at hs
            try omega
        refine Wr.wa_old (w.heap.size) (by first | omega | (simp; done) | (simp; omega)) (by first | (simp; done) | (simp; omega)) (fun hold0 => ?_)
        refine Wr.wa_old (bx) (by first | omega | (simp; done) | (simp; omega)) (by first | (simp; done) | (simp; omega)) (fun hold1 => ?_)
        (refine Wr.wa_plain ?_; apply Exists.intro; refine ⟨?_, ?_⟩; (first | (go_simp; (try intro x); (try go_bits); rfl)); simp only [Act.put, List.setIfInBounds_toArray, List.set_cons_succ, List.set_cons_zero, List.nil_append, List.cons_append])
        refine Wr.wa_read 0 (B) 45 #[.int .i64 a, .slice aO K cO, v] (by simp) rfl rfl rfl (fun hr => ?_)
        apply Exists.intro
        refine ⟨?_, ?_⟩
        · go_simp
          (try intro x)
          (try go_bits)
          rfl
        clear hr
        simp only [Act.put, List.setIfInBounds_toArray, List.set_cons_succ, List.set_cons_zero, List.nil_append, List.cons_append]
        (refine Wr.wa_plain ?_; apply Exists.intro; refine ⟨?_, ?_⟩; (first | (go_simp; (try intro x); (try go_bits); rfl)); simp only [Act.put, List.setIfInBounds_toArray, List.set_cons_succ, List.set_cons_zero, List.nil_append, List.cons_append])
        (refine Wr.wa_plain ?_; apply Exists.intro; refine ⟨?_, ?_⟩; (first | (go_simp; (try intro x); (try go_bits); rfl)); simp only [Act.put, List.setIfInBounds_toArray, List.set_cons_succ, List.set_cons_zero, List.nil_append, List.cons_append])
        (refine Wr.wa_plain ?_; apply Exists.intro; refine ⟨?_, ?_⟩; (first | (go_simp; (try intro x); (try go_bits); rfl)); simp only [Act.put, List.setIfInBounds_toArray, List.set_cons_succ, List.set_cons_zero, List.nil_append, List.cons_append])
        (refine Wr.wa_plain ?_; apply Exists.intro; refine ⟨?_, ?_⟩; (first | (go_simp; (try intro x); (try go_bits); rfl)); simp only [Act.put, List.setIfInBounds_toArray, List.set_cons_succ, List.set_cons_zero, List.nil_append, List.cons_append])
        (refine Wr.wa_plain ?_; apply Exists.intro; refine ⟨?_, ?_⟩; (first | (go_simp; (try intro x); (try go_bits); rfl)); simp only [Act.put, List.setIfInBounds_toArray, List.set_cons_succ, List.set_cons_zero, List.nil_append, List.cons_append])
        refine Wr.wa_stop (fun _ => by kernel_rfl) (by kernel_rfl) (by rfl) (fun W hW => ?_) (fun w5 B5 hg5 hs5 hB5 hm5 => ?_)
        · first | (go_simp; done) | (go_simp; rfl)
        simp only [Act.put, List.setIfInBounds_toArray, List.set_cons_succ, List.set_cons_zero, List.nil_append, List.cons_append]
        have hb5_0 : w5.heap[B]? = some (.cells #[.int .i64 a, .slice aO K cO, v] 45 (0, 0)) := hs5 0 (by simp)
        clear hs5
        simp only [List.map_cons, List.map_nil] at hg5
        have hO5 := Lib.hid (own_gxn HW.out hg5 (fun k hk => by have := HNB.out k hk; simpa using this))
        have HB5 := Lib.hid hb5_0
        have HM5 := Lib.hid hm5
        have hE5 := Lib.hid (((GX.ofExt (S := [B]) HEr2.out).trans hg5).toExt (by simp; omega))
        have hs5 := hE5.out.size
        have lB5 : B < w5.heap.size := (Array.getElem?_eq_some_iff.1 hb5_0).1
        have hnw := nw_le L (c0 + 1) a j
        have hn4 : l + nwN L (c0 + 1) a j ≤ 3000000 := by omega
        clear hg5 hb5_0 hm5 zA lA zR fR lR zB fB lB zg0 zg1 zg2 hnw
        go_wp2_with (at_builtin; go_loud (refine wpList_append_rvt (base := w2.heap.size) rfl elt_gR rfl _ (l + nwN L (c0 + 1) a j) (zs ++ nwL xs L (c0 + 1) a j) rfl hO5.out _ 1 [x0, x1, x2] rfl (rv_heap HM5.out rfl rfl (by omega) (by decide)) (by omega) (by omega) ?_); intro v6 w6 hown6 hgrow6 hiff6 hloc6; obtain ⟨a6, c6, rfl, _, _, _⟩ := own_shape hown6; have hB6 := heap_grown hgrow6 HB5.out (fun e => HNB.out B e.symm rfl); have zB6 := fun k => cell_of_row _ _ k _ _ _ hB6; have fB6 := fun k => frozen_of_row _ _ k _ _ hB6; have lB6 := (Array.getElem?_eq_some_iff.1 hB6).1; have HB6 := Lib.hid hB6; clear hB6)
        go_roundw
        case rel =>
          have hNB6 : ∀ k, (Value.slice a6 (l + nwN L (c0 + 1) a j + 1) c6).ownBlock = some k → k ≠ B := fun k hk => by
            rcases hloc6 with h | h
            · exact HNB.out k (h ▸ hk)
            · rw [h] at hk
              simp at hk
              omega
          refine ⟨j + 1, _, by omega, congrArg (Value.int .i64) (by omega), ?_, ?_, hNB6, ?_⟩
          · unfold Hid
            exact heap_set_at HB6.out 2 _
          · unfold Hid
            rw [HNW.out.1, HNW.out.2, ← List.append_assoc, ← Nat.add_assoc]
            exact own_gxn hown6 ((GX.refl [B] w6).setCell (.inl (by simp)) _) (fun k hk => by have := hNB6 k hk; simpa using this)
          · exact (ext_grownB hE5.out hgrow6 hO5.out (Nat.le_refl _)).setCell (by simp; omega) _
        case measure => simp [intOf]; omega
    have hlt' : (j : Int) < l := by omega
    have HS : Hid (gIns q ys m zs (j + 1) = (gIns q ys m zs j && gIn q ys m (at3 zs (j * 3)) (at3 zs (j * 3 + 1)) (at3 zs (j * 3 + 2)))) := rfl
    have HF : Hid (gIn q ys m (at3 zs (j * 3)) (at3 zs (j * 3 + 1)) (at3 zs (j * 3 + 2)) = false → gIns q ys m zs l = false) := fun h => allTo_false (f := fun j => gIn q ys m (at3 zs (j * 3)) (at3 zs (j * 3 + 1)) (at3 zs (j * 3 + 2))) h hlt
    obtain ⟨b, off, rfl, hbk, hcell⟩ := HZ.out (by omega)
    have hbr : b < wr.heap.size := by have := HE.out.size; omega
    have z0 : wr.cell? ⟨b, off + j * 3, none⟩ = some (.int .i64 (at3 zs (j * 3))) := (HE.out.cells.1 b (off + (j * 3)) hbk).trans (hcell _ _ (at3_get (by have := HLZ.out; omega)))
    have z1 : wr.cell? ⟨b, off + j * 3 + 1, none⟩ = some (.int .i64 (at3 zs (j * 3 + 1))) := (HE.out.cells.1 b (off + (j * 3 + 1)) hbk).trans (hcell _ _ (at3_get (by have := HLZ.out; omega)))
    have z2 : wr.cell? ⟨b, off + j * 3 + 2, none⟩ = some (.int .i64 (at3 zs (j * 3 + 2))) := (HE.out.cells.1 b (off + (j * 3 + 2)) hbk).trans (hcell _ _ (at3_get (by have := HLZ.out; omega)))
    clear hcell
    generalize at3 zs (j * 3) = k0 at *
    generalize at3 zs (j * 3 + 1) = k1 at *
    generalize at3 zs (j * 3 + 2) = k2 at *
    have HGI : Hid (gIn q ys m k0 k1 k2 = (gOk q k0 k1 k2 && (k0 == 12 || insQ ys m k0 k1 k2))) := rfl
    have HV := HVG k0 k1 k2
    have HI := HIS k0 k1 k2
    generalize gIn q ys m k0 k1 k2 = gi at *
    cases hg : gOk q k0 k1 k2
    case false =>
      rw [hg] at HV HGI
      obtain rfl : gi = false := HGI.out
      clear hg HGI HI
      go_wp2_with fail
      refine (HV _).out.mono ?_
      rintro e w2 ⟨rfl, hx2⟩
      clear zA lA zR fR lR
      have hR := (hx2.heap (k := w.heap.size + 1) (by simp; omega)).trans (heap_alloc_lt HRR.out)
      have zR := fun k => cell_of_row _ _ k _ _ _ hR
      have fR := fun k => frozen_of_row _ _ k _ _ hR
      have lR := (Array.getElem?_eq_some_iff.1 hR).1
      clear hR
      have HN : Hid (rrOk q xs n (a : Int) ys m zs l = false) := HO.out.trans (by rw [HF.out (by first | rfl | trivial)]; rfl)
      obtain ⟨e1, e2, e3, e4, e5⟩ := HVV.out.no HN.out
      have HE12 := Lib.hid (And.intro e1 (And.intro e2 (And.intro e3 (And.intro e4 e5))))
      have HEE := Lib.hid (show Ext w w2 from (HE.out.alloc _).trans hx2)
      clear e1 e2 e3 e4 e5
      go_wp2
      refine bodyPost_ret (v := .tuple #[.agg #[.int .i64 0, .slice none 0 0, .slice none 0 0], .bool false]) (by simp [results, Try.results19, go_sem, *]) rfl ?_
      obtain ⟨e1, e2, e3, e4, e5⟩ := HE12.out
      rw [HN.out, e1, e2, e3, e4, e5]
      have hee := HEE.out
      exact ⟨_, _, rfl, own_nil _ _ _ _, own_nil _ _ _ _, (fun k hk => by simp [Value.ownBlock] at hk), (by repeat (first | (with_reducible refine Ext.setCell ?_ (by first | (simp; done) | (simp; omega)) _) | with_reducible refine Ext.alloc ?_ _ | with_reducible refine Ext.drew ?_ | with_reducible refine Ext.drewN ?_ _ | with_reducible assumption | with_reducible exact Ext.refl _ | with_reducible refine Ext.trans ?_ (by with_reducible assumption)))⟩
    rw [hg] at HV HGI
    clear hg
    go_wp2_with fail
    refine (HV _).out.mono ?_
    rintro e w2 ⟨rfl, hx2⟩
    clear zA lA zR fR lR
    have hG := (hx2.heap (k := wr.heap.size) (by simp)).trans (heap_alloc_new _ _)
    have hR := (hx2.heap (k := w.heap.size + 1) (by simp; omega)).trans (heap_alloc_lt HRR.out)
    have hE2 := Lib.hid ((HE.out.alloc _).trans hx2)
    have hEr2 := Lib.hid ((HEr.out.alloc _).trans hx2)
    have HG2 := Lib.hid hG
    have HR2 := Lib.hid hR
    clear hx2
    have zG := fun k => cell_of_row _ _ k _ _ _ hG
    have lG := (Array.getElem?_eq_some_iff.1 hG).1
    have zR := fun k => cell_of_row _ _ k _ _ _ hR
    have fR := fun k => frozen_of_row _ _ k _ _ hR
    have lR := (Array.getElem?_eq_some_iff.1 hR).1
    clear hG hR
    by_cases h12 : k0 = 12
    case pos =>
      have HT : Hid (gi = true) := HGI.out.trans (by rw [h12]; rfl)
      clear HGI HI
      go_wp2
      go_roundw
      case rel => exact ⟨j + 1, by omega, by go_num, by unfold Hid; rw [HS.out, HG.out, HT.out]; rfl, hEr2.out⟩
      case measure => simp [intOf]; omega
    have h12' : (k0 == 12) = false := by simpa using h12
    rw [h12'] at HGI
    cases hi : insQ ys m k0 k1 k2
    case true =>
      rw [hi] at HI HGI
      obtain rfl : gi = true := HGI.out
      clear hi HGI
      go_wp2_with fail
      refine (HI _ hE2.out).out.mono ?_
      rintro e w3 ⟨rfl, hx3⟩
      clear zG lG zR fR lR
      go_wp2
      go_roundw
      case rel => exact ⟨j + 1, by omega, by go_num, by unfold Hid; rw [HS.out, HG.out]; rfl, hEr2.out.trans hx3⟩
      case measure => simp [intOf]; omega
    case false =>
      rw [hi] at HI HGI
      obtain rfl : gi = false := HGI.out
      clear hi HGI
      go_wp2_with fail
      refine (HI _ hE2.out).out.mono ?_
      rintro e w3 ⟨rfl, hx3⟩
      clear zG lG zR fR lR
      have hR := row_farR HR2.out hx3
      have zR := fun k => cell_of_row _ _ k _ _ _ hR
      have fR := fun k => frozen_of_row _ _ k _ _ hR
      have lR := (Array.getElem?_eq_some_iff.1 hR).1
      clear hR
      have HN : Hid (rrOk q xs n (a : Int) ys m zs l = false) := HO.out.trans (by rw [HF.out (by first | rfl | trivial)]; rfl)
      obtain ⟨e1, e2, e3, e4, e5⟩ := HVV.out.no HN.out
      have HE12 := Lib.hid (And.intro e1 (And.intro e2 (And.intro e3 (And.intro e4 e5))))
      have HEE := Lib.hid (show Ext w w3 from hE2.out.trans hx3)
      clear e1 e2 e3 e4 e5
      go_wp2
      refine bodyPost_ret (v := .tuple #[.agg #[.int .i64 0, .slice none 0 0, .slice none 0 0], .bool false]) (by simp [results, Try.results19, go_sem, *]) rfl ?_
      obtain ⟨e1, e2, e3, e4, e5⟩ := HE12.out
      rw [HN.out, e1, e2, e3, e4, e5]
      have hee := HEE.out
      exact ⟨_, _, rfl, own_nil _ _ _ _, own_nil _ _ _ _, (fun k hk => by simp [Value.ownBlock] at hk), (by repeat (first | (with_reducible refine Ext.setCell ?_ (by first | (simp; done) | (simp; omega)) _) | with_reducible refine Ext.alloc ?_ _ | with_reducible refine Ext.drew ?_ | with_reducible refine Ext.drewN ?_ _ | with_reducible assumption | with_reducible exact Ext.refl _ | with_reducible refine Ext.trans ?_ (by with_reducible assumption)))⟩

end Go.Proofs.Ytlbcjbeafampcaa
