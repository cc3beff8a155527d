/- The program's SameTrace and DepthOf. -/
import Derived.Test.YtbddgeoaaklgpaaTrO
import Derived.Test.YtbddgeoaaklgpaaTrV
namespace Go.Proofs.Ytbddgeoaaklgpaa
open Go.RowKit Go.Lib
set_option linter.unusedVariables false
set_option linter.unusedSimpArgs false

set_option maxRecDepth 20000 in
set_option maxHeartbeats 8000000 in
theorem sameTrace_any (p q : Nat) {v1 v2 : Value} {n m : Nat} {xs ys : List Int} (hn : n < 20) (hm : m < 20) (w : World) (h1 : RV w 3 v1 n xs) (h2 : RV w 3 v2 m ys) :
    Calls Try.prog 14 #[.agg #[.int .i64 p, v1], .agg #[.int .i64 q, v2]] w fun e w' => e = .returned (.tuple #[.bool (stV p xs n q ys m), .bool (stK p xs n q ys m)]) ∧ Ext w w' := by
  have HF1 := fun w' (hx : Ext w w') => Lib.hid (foataOf_any p hn w' (h1.ext hx))
  have HF2 := fun w' (hx : Ext w w') => Lib.hid (foataOf_any q hm w' (h2.ext hx))
  have HK : Hid (stK p xs n q ys m = (cOk p xs n && (cOk q ys m && ((p : Int) == q)))) := rfl
  have HW : Hid (stV p xs n q ys m = (stK p xs n q ys m && eqC p n (foL p xs n) q m (foL q ys m))) := rfl
  have HY1 : Hid (cOk p xs n = true → foN p xs n = n ∧ foQ p xs n = p) := Lib.hid (fun hc => ⟨by unfold foN; rw [if_pos hc], by unfold foQ; rw [if_pos hc]⟩)
  have HY2 : Hid (cOk q ys m = true → foN q ys m = m ∧ foQ q ys m = q) := Lib.hid (fun hc => ⟨by unfold foN; rw [if_pos hc], by unfold foQ; rw [if_pos hc]⟩)
  have HL1 := Lib.hid (foL_len p xs n)
  have HL2 := Lib.hid (foL_len q ys m)
  have HE := fun (F1 F2 : List Int) (u1 u2 : Value) w' (r1 : RV w' 3 u1 n F1) (r2 : RV w' 3 u2 m F2) => Lib.hid (equalCircuits_any (p : Int) (q : Int) (by omega) (by omega) w' r1 r2)
  obtain ⟨_, a1, c1, rfl, _, _, _⟩ := h1
  obtain ⟨_, a2, c2, rfl, _, _, _⟩ := h2
  generalize stV p xs n q ys m = V at *
  generalize stK p xs n q ys m = K at *
  generalize foL p xs n = F1 at *
  generalize foL q ys m = F2 at *
  generalize foN p xs n = N1 at *
  generalize foN q ys m = N2 at *
  generalize foQ p xs n = Q1 at *
  generalize foQ q ys m = Q2 at *
  generalize hk1 : cOk p xs n = g1 at *
  generalize hk2 : cOk q ys m = g2 at *
  clear hk1 hk2
  obtain ⟨W1, hW1⟩ : ∃ W1, W1 = (w.alloc (.cells #[.int .i64 p, .slice a1 n c1] 25 (0, 0))).alloc (.cells #[.int .i64 q, .slice a2 m c2] 25 (0, 0)) := ⟨_, rfl⟩
  have HA : Hid (W1.heap[w.heap.size]? = some (.cells #[.int .i64 p, .slice a1 n c1] 25 (0, 0))) := by rw [hW1]; exact heap_alloc_lt (heap_alloc_new _ _)
  have HB : Hid (W1.heap[w.heap.size + 1]? = some (.cells #[.int .i64 q, .slice a2 m c2] 25 (0, 0))) := by rw [hW1]; exact heap_alloc_at _ _ _ (by simp)
  have HE0 : Hid (Ext w W1) := by rw [hW1]; exact ((Ext.refl w).alloc _).alloc _
  have hs0 : w.heap.size + 1 < W1.heap.size := by rw [hW1]; simp
  have hs1 : w.heap.size < W1.heap.size := by omega
  have z1 := fun k => cell_of_row _ _ k _ _ _ HA.out
  go_enter Try.func14, Try.ntmps14
  go_upto_region 1 with fail
  rw [← hW1]
  clear hW1
  go_wp2_with fail
  refine (HF1 _ HE0.out).out.mono ?_
  rintro e w2 ⟨vx, rfl, o2, hx2⟩
  obtain ⟨ax, cx, rfl, _, _, _⟩ := own_shape o2
  have R2 := Lib.hid (RV.own o2 HL1.out)
  have X2 := Lib.hid hx2
  have hb2 := (X2.out.heap hs0).trans HB.out
  have z2 := fun k => cell_of_row _ _ k _ _ _ hb2
  have l2 := (Array.getElem?_eq_some_iff.1 hb2).1
  clear hx2 z1 o2 hb2
  go_wp2_with fail
  refine (HF2 _ (HE0.out.trans (X2.out.alloc _))).out.mono ?_
  rintro e w3 ⟨vy, rfl, o3, hx3⟩
  obtain ⟨ay, cy, rfl, _, _, _⟩ := own_shape o3
  have R3 := Lib.hid (RV.own o3 HL2.out)
  have X3 : Hid (Ext W1 w3) := (X2.out.alloc _).trans hx3
  have R23 : Hid (RV w3 3 (.slice ax N1 cx) N1 F1) := R2.out.ext (((Ext.refl _).alloc _).trans hx3)
  have ha3 := (X3.out.heap hs1).trans HA.out
  have hb3 := (X3.out.heap hs0).trans HB.out
  have hc3 : w3.heap[w2.heap.size]? = some (.cells #[.int .i64 Q1, .slice ax N1 cx] 25 (0, 0)) := (hx3.heap (by simp)).trans (heap_alloc_new _ _)
  have y1 := fun k => cell_of_row _ _ k _ _ _ ha3
  have y2 := fun k => cell_of_row _ _ k _ _ _ hb3
  have y3 := fun k => cell_of_row _ _ k _ _ _ hc3
  have l1 := (Array.getElem?_eq_some_iff.1 ha3).1
  have l2 := (Array.getElem?_eq_some_iff.1 hb3).1
  have l3 := (Array.getElem?_eq_some_iff.1 hc3).1
  have hXX : Hid (Ext w w3) := HE0.out.trans X3.out
  clear hx3 z2 o3 hb3 ha3 hc3 HF1 HF2 R2 X2 HA HB
  cases g1
  · obtain rfl : K = false := by rw [HK.out]; rfl
    obtain rfl : V = false := by rw [HW.out]; rfl
    clear HK HW HY1 HY2 HE
    go_wp2
    go_ret2
    exact ⟨rfl, hXX.out.alloc _⟩
  cases g2
  · obtain rfl : K = false := by rw [HK.out]; rfl
    obtain rfl : V = false := by rw [HW.out]; rfl
    clear HK HW HY1 HY2 HE
    go_wp2
    go_ret2
    exact ⟨rfl, hXX.out.alloc _⟩
  by_cases hpq : p = q
  case neg =>
    have hb : ((p : Int) == q) = false := by simp; omega
    obtain rfl : K = false := by rw [HK.out, hb]; rfl
    obtain rfl : V = false := by rw [HW.out]; rfl
    clear HK HW HY1 HY2 HE
    go_wp2
    go_ret2
    exact ⟨rfl, hXX.out.alloc _⟩
  subst hpq
  obtain rfl : K = true := by rw [HK.out]; simp
  obtain ⟨rfl, rfl⟩ := HY1.out (by first | rfl | trivial)
  obtain ⟨rfl, rfl⟩ := HY2.out (by first | rfl | trivial)
  have HW2 : Hid (eqC p N1 F1 p N2 F2 = V) := by unfold Hid; rw [HW.out]; simp
  have HE' := HE F1 F2
  rw [HW2.out] at HE'
  clear HK HW HW2 HY1 HY2 HE
  go_wp2_with fail
  refine (HE' _ _ _ (R23.out.ext (by repeat (first | (with_reducible refine Ext.setCell ?_ (by first | (simp; done) | (simp; omega)) _) | with_reducible refine Ext.alloc ?_ _ | with_reducible refine Ext.drew ?_ | with_reducible refine Ext.drewN ?_ _ | with_reducible assumption | with_reducible exact Ext.refl _ | with_reducible refine Ext.trans ?_ (by with_reducible assumption)))) (R3.out.ext (by repeat (first | (with_reducible refine Ext.setCell ?_ (by first | (simp; done) | (simp; omega)) _) | with_reducible refine Ext.alloc ?_ _ | with_reducible refine Ext.drew ?_ | with_reducible refine Ext.drewN ?_ _ | with_reducible assumption | with_reducible exact Ext.refl _ | with_reducible refine Ext.trans ?_ (by with_reducible assumption))))).out.mono ?_
  rintro e w5 ⟨rfl, hx5⟩
  go_wp2
  go_ret2
  exact ⟨rfl, hXX.out.trans (((Ext.refl _).alloc _).trans hx5)⟩

/-- the greatest of numbers that are not negative -/
def mxI (L : List Int) : Nat → Int
  | 0 => 0
  | j + 1 => max (mxI L j) (at3 L j)
theorem mxI_ly (xs : List Int) (m : Nat) : mxI (lyL xs m) m = (tD (clG xs m) : Nat) := by
  have app : ∀ (P Q : List (Nat × G3)), tmx (P ++ Q) = max (tmx P) (tmx Q) := fun P Q => by
    induction P with
    | nil => simp [tmx]
    | cons x P ih => show max x.1 (tmx (P ++ Q)) = max (max x.1 (tmx P)) (tmx Q); rw [ih]; omega
  have key : ∀ j, j ≤ m → mxI (lyL xs m) j = (tmx (tpl S0 (clG xs j)) : Nat) := by
    intro j
    induction j with
    | zero => intro _; rfl
    | succ j ih =>
      intro hj
      show max (mxI (lyL xs m) j) (at3 (lyL xs m) j) = _
      rw [ih (by omega), lyL_at (by omega), tpl_succ, app]
      show _ = ((max (tmx (tpl S0 (clG xs j))) (max (lyA xs j) 0) : Nat) : Int)
      omega
  exact key m (Nat.le_refl _)
theorem mxI_nn (xs : List Int) (m : Nat) : ∀ j, j ≤ m → 0 ≤ mxI (lyL xs m) j ∧ mxI (lyL xs m) j ≤ 500 + m
  | 0, _ => ⟨by show (0 : Int) ≤ 0; omega, by show (0 : Int) ≤ _; omega⟩
  | j + 1, hj => by
    obtain ⟨h1, h2⟩ := mxI_nn xs m j (by omega)
    have h3 := lyA_bd xs j
    have e : mxI (lyL xs m) (j + 1) = max (mxI (lyL xs m) j) (at3 (lyL xs m) j) := rfl
    rw [e, lyL_at (by omega)]
    omega

set_option maxRecDepth 20000 in
set_option maxHeartbeats 2000000 in
theorem maxI_any {v : Value} {m : Nat} {xs : List Int} (hm : m ≤ 400) (w : World) (h : RV w 1 v (m + 1) (lyL xs m ++ [0])) :
    Calls Try.prog 48 #[v] w fun e w' => e = .returned (.int .i64 (tD (clG xs m) : Nat)) ∧ Ext w w' := by
  rw [← mxI_ly]
  obtain ⟨hl, a, cap, rfl, c1, c2, H⟩ := h
  have HH := Lib.hid H
  have HL := Lib.hid hl
  have HNN := Lib.hid (mxI_nn xs m)
  have hA : ∀ j, j < m → at3 (lyL xs m ++ [0]) j = at3 (lyL xs m) j := fun j hj => by
    unfold at3
    rw [List.getD_eq_getElem?_getD, List.getD_eq_getElem?_getD, List.getElem?_append_left (by rw [lyL_len]; exact hj)]
  have hZ : at3 (lyL xs m ++ [0]) m = 0 := by
    unfold at3
    rw [List.getD_eq_getElem?_getD, List.getElem?_append_right (by rw [lyL_len]; omega), lyL_len, Nat.sub_self]
    rfl
  have hP : ∀ j, j < m → 0 ≤ at3 (lyL xs m) j := fun j hj => by rw [lyL_at hj]; omega
  have HA := Lib.hid hA
  have HZ := Lib.hid hZ
  have HP := Lib.hid hP
  have HS : Hid (∀ j, mxI (lyL xs m) (j + 1) = max (mxI (lyL xs m) j) (at3 (lyL xs m) j)) := Lib.hid (fun j => rfl)
  clear H hl hA hZ hP
  generalize lyL xs m ++ [0] = L at *
  have hE := Ext.refl w
  obtain ⟨b, off, rfl, hbk, hcell⟩ := HH.out (by omega)
  have HCELL := Lib.hid hcell
  clear hcell
  have hbr : b < w.heap.size := by have := hE.size; omega
  have z0 : w.cell? ⟨b, off + 0, none⟩ = some (.int .i64 (at3 L (0))) := (hE.cells.1 b (off + (0)) hbk).trans (HCELL.out _ _ (at3_get (by have := HL.out; omega)))
  rw [Nat.add_zero] at z0
  have h0 : at3 L 0 = mxI (lyL xs m) (min 1 m) := by
    by_cases h : 0 < m
    · rw [HA.out 0 h, show min 1 m = 0 + 1 by omega, HS.out 0]
      have := HP.out 0 h
      show _ = max 0 _
      omega
    · obtain rfl : m = 0 := by omega
      rw [HZ.out]; rfl
  rw [h0] at z0
  have H0 := Lib.hid h0
  clear h0 hE
  have hcap0 : 0 < cap := by omega
  have HSP : Hid (∀ j, j ≤ m → max (mxI (lyL xs m) (min j m)) (at3 L j) = mxI (lyL xs m) (min (j + 1) m)) := Lib.hid (fun j hj => by
    by_cases h : j < m
    · rw [HA.out j h, show min (j + 1) m = min j m + 1 by omega, HS.out, show min j m = j by omega]
    · obtain rfl : j = m := by omega
      have := (HNN.out j (Nat.le_refl _)).1
      rw [HZ.out, show min j j = j by omega, show min (j + 1) j = j by omega]
      omega)
  have hlen : ¬ ((m + 1 : Nat) : Int) < 1 := by omega
  have hlen2 : ¬ (m : Int) + 1 < 1 := by omega
  clear HA HZ HP HS
  go_enter Try.func48, Try.ntmps48
  go_wp2
  go_loopw [3, 4] (fun s3 s4 wr => ∃ j : Nat, 1 ≤ j ∧ j ≤ m + 1 ∧ s4 = .int .i64 j ∧ s3 = .int .i64 (mxI (lyL xs m) (min j m)) ∧ Ext w wr) (fun _ s4 _ => m + 1 - (intOf s4).toNat)
  case atStart => exact ⟨1, by omega, by omega, rfl, rfl, Ext.refl _⟩
  case round =>
    obtain ⟨j, h1, h2, rfl, rfl, hE⟩ := hrel
    have hn := HNN.out (min j m) (by omega)
    by_cases hlt : j < m + 1
    · have hlt' : (j : Int) < (m : Int) + 1 := by omega
      have HSj := Lib.hid (HSP.out j (by omega))
      have hbrv : b < wr.heap.size := by have := hE.size; omega
      have zv0 : wr.cell? ⟨b, off + j, none⟩ = some (.int .i64 (at3 L (j))) := (hE.cells.1 b (off + (j)) hbk).trans (HCELL.out _ _ (at3_get (by have := HL.out; omega)))
      have hjc : j < cap := by omega
      clear HSP HNN H0
      generalize mxI (lyL xs m) (min j m) = x at *
      generalize at3 L j = y at *
      have hyb : y ≤ x ∨ x < y := by omega
      go_wp2
      go_roundw
      case rel => exact ⟨j + 1, by omega, by omega, by go_num, by rw [← HSj.out]; congr 1; split <;> omega, hE⟩
      case measure => simp [intOf]; omega
    · obtain rfl : j = m + 1 := by omega
      have e : min (m + 1) m = m := by omega
      rw [e]
      clear HSP
      go_wp2
      go_ret
      exact ⟨rfl, hE⟩

set_option maxRecDepth 20000 in
set_option maxHeartbeats 2000000 in
theorem depthOf_any (q : Nat) {v : Value} {m : Nat} {xs : List Int} (hc : cOk q xs m = true) (w : World) (h : RV w 3 v m xs) :
    Calls Try.prog 19 #[.agg #[.int .i64 q, v]] w fun e w' => e = .returned (.tuple #[.int .i64 (tD (clG xs m) : Nat), .bool true]) ∧ Ext w w' := by
  have hm := (cOk_q1 hc).2.2
  have HV := fun w' (hx : Ext w w') => Lib.hid (isValidCircuit_any (q : Int) (by omega) w' (h.ext hx))
  have HF := fun w' (hx : Ext w w') => Lib.hid (layers_any q hc w' (h.ext hx))
  have HM := fun (v : Value) w' (hR : RV w' 1 v (m + 1) (lyL xs m ++ [0])) => Lib.hid (maxI_any hm w' hR)
  have hll := lyL_len xs m
  rw [hc] at HV
  obtain ⟨_, a, cap, rfl, _, _, _⟩ := h
  clear hc
  generalize tD (clG xs m) = D at *
  generalize lyL xs m = L at *
  go_enter Try.func19, Try.ntmps19
  go_wp2_with fail
  refine (HV _ (by repeat (first | (with_reducible refine Ext.setCell ?_ (by first | (simp; done) | (simp; omega)) _) | with_reducible refine Ext.alloc ?_ _ | with_reducible refine Ext.drew ?_ | with_reducible refine Ext.drewN ?_ _ | with_reducible assumption | with_reducible exact Ext.refl _ | with_reducible refine Ext.trans ?_ (by with_reducible assumption)))).out.mono ?_
  rintro e w1 ⟨rfl, hx1⟩
  obtain ⟨hc1, hf1⟩ := hx1.cells
  have hz1 := hx1.size
  try simp at hz1
  have hs1_0 := sz1 (a := w.heap.size) (b := w1.heap.size) (by omega)
  have X1' : Ext w w1 := (by repeat (first | (with_reducible refine Ext.setCell ?_ (by first | (simp; done) | (simp; omega)) _) | with_reducible refine Ext.alloc ?_ _ | with_reducible refine Ext.drew ?_ | with_reducible refine Ext.drewN ?_ _ | with_reducible assumption | with_reducible exact Ext.refl _ | with_reducible refine Ext.trans ?_ (by with_reducible assumption)))
  have X1 := Lib.hid X1'
  clear X1'
  go_wp2_with fail
  refine (HF _ X1.out).out.mono ?_
  rintro e w2 ⟨va, rfl, oa, hx2⟩
  obtain ⟨aa, ca, rfl, _, _, _⟩ := own_shape oa
  have OA := Lib.hid oa
  have X2 : Hid (Ext w w2) := X1.out.trans hx2
  have hs := hx2.size
  clear oa hx2
  go_upto_region 4 with (first | (at_builtin; refine wpList_append_rvt (base := w1.heap.size) rfl elt_iT rfl (.slice aa m ca) m L rfl (own_ext OA.out ((Ext.refl _).alloc _)) (.slice (some ⟨w2.heap.size, 0, none⟩) 1 1) 1 [0] rfl (rv_heap (heap_alloc_new _ _) rfl rfl (by omega) (by decide)) (by omega) (by simp; omega) ?_; intro v5 w5 hown5 hgrow5 hiff5 hloc5; obtain ⟨a5, c5, rfl, _, _, _⟩ := own_shape hown5; have HO5 := Lib.hid hown5; have HX5 : Hid (Ext w w5) := (ext_grownB (X2.out.alloc _) hgrow5 (own_ext OA.out ((Ext.refl _).alloc _)) X1.out.size); clear hown5 hgrow5 hiff5 hloc5) | (go_at_call 48; refine (HM _ _ (RV.own HO5.out (by rw [List.length_append, hll]; simp))).out.mono ?_; rintro e w6 ⟨rfl, hx6⟩; have X6 : Hid (Ext w w6) := HX5.out.trans hx6))
  go_ret2
  exact ⟨rfl, X6.out⟩

end Go.Proofs.Ytbddgeoaaklgpaa
