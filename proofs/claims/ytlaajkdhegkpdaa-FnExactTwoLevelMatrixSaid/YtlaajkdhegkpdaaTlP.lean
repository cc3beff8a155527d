/- Two-level matrices: the program's side. -/
import Derived.Test.YtlaajkdhegkpdaaTlL
import Derived.Test.YtlaajkdhegkpdaaTlS
import Derived.Test.YtlaajkdhegkpdaaCpT
import Derived.Test.YtlaajkdhegkpdaaDyO
import Derived.Test.YtlaajkdhegkpdaaDyU
import Derived.Test.YtlaajkdhegkpdaaMin
import Derived.Test.YtlaajkdhegkpdaaMade
import Derived.Test.YtlaajkdhegkpdaaMoTwo
import Derived.Deep.Cut
namespace Go.Proofs.Ytlaajkdhegkpdaa
open Go.RowKit Go.Lib
set_option linter.unusedVariables false
set_option linter.unusedSimpArgs false

theorem mfin_heap {ops : Array Oper} {kl : List Kd} {w0 W : World} {σ : Nat → Nat} (h : MFin ops kl w0 W σ) (i s : Nat) {mk : Nat → Value} {t : TypeId} {c c1 : Array Value} (hk : Kd.at kl i = .maker mk t c s c1) (hi : i < ops.size) (cs : Array Value) (he : (if s < ops.size then c1 else c) = cs) :
    W.heap[σ i]? = some (.cells cs t (0, 0)) := by
  have h2 := (h.blk i mk t c s c1 hi hk).2
  rwa [he] at h2

set_option maxHeartbeats 2000000 in
theorem mulOmegaK_any (X : R4) (hX : X.rg = true) (k : Nat) (hk : k ≤ 7) (K' : Int) (hK' : K' = k ∨ K' = k + 8) (w : World) :
    Calls Try.prog 44 #[.agg #[.int .i64 X.a, .int .i64 X.b, .int .i64 X.c, .int .i64 X.d], .int .i64 K'] w fun en w' =>
      en = .returned (.tuple #[.agg #[.int .i64 (turns k X).a, .int .i64 (turns k X).b, .int .i64 (turns k X).c, .int .i64 (turns k X).d], .bool true]) ∧ Ext w w' := by
  have t1 : Int.tmod K' 8 = k := by
    rcases hK' with h | h
    · rw [h]; exact Int.tmod_eq_of_lt (by omega) (by omega)
    · rw [h, show ((k : Int) + 8) = ((k + 8 : Nat) : Int) by push_cast; rfl, show (8 : Int) = ((8 : Nat) : Int) from rfl, ← Int.ofNat_tmod]; omega
  have hKb : 0 ≤ K' ∧ K' ≤ 15 := by omega
  clear hK'
  have t2 : Int.tmod ((k : Int) + 8) 8 = k := by
    have : ((k : Int) + 8) = ((k + 8 : Nat) : Int) := by push_cast; rfl
    rw [this, show (8 : Int) = ((8 : Nat) : Int) from rfl, ← Int.ofNat_tmod]
    omega
  have HW : ∀ w', Hid (Calls Try.prog 27 #[.int .i64 K', .int .i64 (-1000), .int .i64 1000] w' fun e w'' => e = .returned (.bool true) ∧ w' = w'') := fun w' => by
    have := within_any K' (-1000) 1000 w'
    rw [show Wn K' (-1000) 1000 = true by unfold Wn; simp; omega] at this
    exact this
  have HV : ∀ w', Hid (Calls Try.prog 50 #[.agg #[.int .i64 X.a, .int .i64 X.b, .int .i64 X.c, .int .i64 X.d]] w' fun e w'' => e = .returned (.bool true) ∧ Ext w' w'') := fun w' => by
    have := isValidRing_any X.a X.b X.c X.d w'
    rw [show Rg X.a X.b X.c X.d = true from hX] at this
    exact this
  have HX := Lib.hid hX
  clear hX
  go_enter Try.func44, Try.ntmps44
  go_wp2_with fail
  refine ((HW _).out).mono ?_
  rintro e w' ⟨rfl, rfl⟩
  go_wp2_with fail
  refine ((HV _).out).mono ?_
  rintro e w1 ⟨rfl, hx1⟩
  obtain ⟨hc1, hf1⟩ := hx1.cells
  have hz1 := hx1.size
  try simp at hz1
  have hs1_0 := sz2 (a := w.heap.size) (b := w1.heap.size) (by omega)
  have hS1 : w1.heap[w.heap.size]? = some (.cells #[.int .i64 X.a, .int .i64 X.b, .int .i64 X.c, .int .i64 X.d] 42 (0, 0)) := (hx1.heap (by simp <;> omega)).trans (heap_alloc_lt (heap_alloc_new _ _))
  have hR1 : w1.heap[w.heap.size + 1]? = some (.cells #[.int .i64 0, .int .i64 0, .int .i64 0, .int .i64 0] 42 (0, 0)) := (hx1.heap (by simp <;> omega)).trans (heap_alloc_at _ _ _ (by simp))
  have hE1 : Ext w w1 := (by repeat (first | exact Ext.refl _ | assumption | refine Ext.alloc ?_ _ | refine Ext.drew ?_ | refine Ext.drewN ?_ _ | refine Ext.setCell ?_ (by first | omega | (dsimp only; omega) | (simp; done) | (simp; omega)) _ | refine Ext.trans ?_ (by assumption)))
  go_wp2
  go_loopw [19] (fun s1 wr => ∃ (m : Nat), m ≤ k ∧ s1 = .int .i64 m ∧ Hid (wr.heap[w.heap.size]? = some (.cells #[.int .i64 (turns m X).a, .int .i64 (turns m X).b, .int .i64 (turns m X).c, .int .i64 (turns m X).d] 42 (0, 0))) ∧
    Hid (wr.heap[w.heap.size + 1]? = some (.cells #[.int .i64 0, .int .i64 0, .int .i64 0, .int .i64 0] 42 (0, 0))) ∧ Ext w wr) (fun s1 _ => k - (intOf s1).toNat)
  case atStart => exact ⟨0, by omega, rfl, hS1, hR1, hE1⟩
  case round =>
    clear t1 t2 hc1 hf1
    obtain ⟨m, hm, rfl, HS, HR, hE⟩ := hrel
    have lS := (Array.getElem?_eq_some_iff.1 HS.out).1
    have lR := (Array.getElem?_eq_some_iff.1 HR.out).1
    have HT : Hid (turns (m + 1) X = ⟨-(turns m X).d, (turns m X).a, (turns m X).b, (turns m X).c⟩) := rfl
    obtain ⟨b1, b2, b3, b4⟩ := Rg_bd ((rg_turns X m).trans HX.out)
    have HZ : Hid (m = k → turns m X = turns k X) := fun h => by rw [h]
    generalize turns m X = Y at *
    obtain ⟨a, b, c, d⟩ := Y
    dsimp only at b1 b2 b3 b4
    have zS : ∀ q, wr.cell? ⟨w.heap.size, q, none⟩ = (#[.int .i64 a, .int .i64 b, .int .i64 c, .int .i64 d] : Array Value)[q]? := fun q => cell_of_row _ _ _ _ _ _ HS.out
    have fS : ∀ q, wr.frozen? ⟨w.heap.size, q, none⟩ = false := fun q => frozen_of_row _ _ _ _ _ HS.out
    have zR : ∀ q, wr.cell? ⟨w.heap.size + 1, q, none⟩ = (#[.int .i64 0, .int .i64 0, .int .i64 0, .int .i64 0] : Array Value)[q]? := fun q => cell_of_row _ _ _ _ _ _ HR.out
    have fR : ∀ q, wr.frozen? ⟨w.heap.size + 1, q, none⟩ = false := fun q => frozen_of_row _ _ _ _ _ HR.out
    by_cases hlt : m < k
    · have hlt' : (m : Int) < k := by omega
      go_wp2
      go_roundw
      case rel =>
        refine ⟨m + 1, by omega, by go_num, ?_, heap_sets4 (by omega) HR.out, (by repeat (first | exact Ext.refl _ | assumption | refine Ext.alloc ?_ _ | refine Ext.drew ?_ | refine Ext.drewN ?_ _ | refine Ext.setCell ?_ (by first | omega | (dsimp only; omega) | (simp; done) | (simp; omega)) _ | refine Ext.trans ?_ (by assumption)))⟩
        unfold Hid
        rw [HT.out]
        exact heap_set4 HS.out
      case measure => simp [intOf]; omega
    · obtain rfl : m = k := by omega
      have HY := Lib.hid (HZ.out rfl)
      go_wp2
      refine bodyPost_ret (v := .tuple #[.agg #[.int .i64 a, .int .i64 b, .int .i64 c, .int .i64 d], .bool true]) (by simp [results, Try.results44, go_sem, *]) rfl ?_
      rw [← HY.out]
      exact ⟨rfl, (by repeat (first | (with_reducible refine Ext.setCell ?_ (by first | (simp; done) | (simp; omega)) _) | with_reducible refine Ext.alloc ?_ _ | with_reducible refine Ext.drew ?_ | with_reducible refine Ext.drewN ?_ _ | with_reducible assumption | with_reducible exact Ext.refl _ | with_reducible refine Ext.trans ?_ (by with_reducible assumption)))⟩

theorem phaseK_any (M : Nat) (hM : M < 12) (w : World) :
    Calls Try.prog 30 #[.int .i64 M] w fun en w' =>
      en = .returned (.agg #[.int .i64 (om M).a, .int .i64 (om M).b, .int .i64 (om M).c, .int .i64 (om M).d, .int .i64 0]) ∧ Ext w w' := by
  have HM := fun w' => Lib.hid (mulOmegaK_any R4.one (by decide) (M % 8) (by omega) (M : Int) (by omega) w')
  rw [show turns (M % 8) R4.one = om M from rfl] at HM
  generalize om M = Y at *
  unfold R4.one at HM
  dsimp only at HM
  go_enter Try.func30, Try.ntmps30
  go_wp2_with fail
  refine ((HM _).out).mono ?_
  rintro e w1 ⟨rfl, hx1⟩
  obtain ⟨hc1, hf1⟩ := hx1.cells
  have hz1 := hx1.size
  try simp at hz1
  have hs1_0 := sz1 (a := w.heap.size) (b := w1.heap.size) (by omega)
  go_wp2
  refine bodyPost_ret (v := .agg #[.int .i64 Y.a, .int .i64 Y.b, .int .i64 Y.c, .int .i64 Y.d, .int .i64 0]) (by simp [results, Try.results30, go_sem, *]) rfl ?_
  exact ⟨rfl, (by repeat (first | (with_reducible refine Ext.setCell ?_ (by first | (simp; done) | (simp; omega)) _) | with_reducible refine Ext.alloc ?_ _ | with_reducible refine Ext.drew ?_ | with_reducible refine Ext.drewN ?_ _ | with_reducible assumption | with_reducible exact Ext.refl _ | with_reducible refine Ext.trans ?_ (by with_reducible assumption)))⟩

theorem mulH_any (M : Nat) (w : World) :
    Calls Try.prog 29 #[.agg #[.int .i64 1, .int .i64 0, .int .i64 0, .int .i64 0, .int .i64 1], .agg #[.int .i64 (om M).a, .int .i64 (om M).b, .int .i64 (om M).c, .int .i64 (om M).d, .int .i64 0]] w fun en w' =>
      en = .returned (.tuple #[.agg #[.int .i64 (om M).a, .int .i64 (om M).b, .int .i64 (om M).c, .int .i64 (om M).d, .int .i64 1], .bool true]) ∧ Ext w w' := by
  have h := mulDyadic_any R4.one 1 (om M) 0 w
  obtain ⟨h1, h2, h3⟩ := mu_phase (x := R4.one) (e := 1) (by decide) (M % 8)
  have e2 : muX R4.one 1 (om M) 0 = om M := h2
  have e1 : muOk R4.one 1 (om M) 0 = true := h1
  have e3 : muE R4.one 1 (om M) 0 = 1 := h3
  rw [e1, e2, e3] at h
  exact h

theorem small_any (b : Bool) (w : World) : Calls Try.prog 32 #[.bool b] w fun e w' => e = .returned (.int .i64 (if b then 1 else 0)) ∧ w = w' := by
  cases b
  · go_enter Try.func32, Try.ntmps32
    go_wp2
    go_ret
    exact ⟨rfl, rfl⟩
  · go_enter Try.func32, Try.ntmps32
    go_wp2
    go_ret
    exact ⟨rfl, rfl⟩

set_option maxRecDepth 20000 in
set_option maxHeartbeats 8000000 in
theorem levelCell_any (K : Int) (I J M i j : Nat) (hM : M < 8) (hK : K = 1 ∨ (K = 2 ∧ I < J) ∨ (K = 3 ∧ I < J)) (w : World) :
    Calls Try.prog 16 #[.agg #[.int .i64 K, .int .i64 I, .int .i64 J, .int .i64 M], .int .i64 i, .int .i64 j] w fun en w' =>
      en = .returned (.agg #[.int .i64 (tlX K I J M i j).a, .int .i64 (tlX K I J M i j).b, .int .i64 (tlX K I J M i j).c, .int .i64 (tlX K I J M i j).d, .int .i64 (tlE K I J M i j : Nat)]) ∧ Ext w w' := by
  have HP := fun w' => Lib.hid (phaseK_any M (by omega) w')
  have HQ := fun w' => Lib.hid (phaseK_any (M + 4) (by omega) w')
  rw [show ((M + 4 : Nat) : Int) = (M : Int) + 4 by push_cast; rfl] at HQ
  have HMP := fun w' => Lib.hid (mulH_any M w')
  have HMQ := fun w' => Lib.hid (mulH_any (M + 4) w')
  have HSM := fun b w' => Lib.hid (small_any b w')
  have HWH := fun n w' => Lib.hid (whole_any n w')
  obtain ⟨Pm, hPm⟩ : ∃ Pm, om M = Pm := ⟨_, rfl⟩
  obtain ⟨Qm, hQm⟩ : ∃ Qm, om (M + 4) = Qm := ⟨_, rfl⟩
  simp only [hPm] at HP HMP
  simp only [hQm] at HQ HMQ
  have HPm := Lib.hid hPm
  have HQm := Lib.hid hQm
  clear hPm hQm
  have hM4 : (M : Int) + 4 ≤ 12 := by omega
  obtain ⟨w1, hw1⟩ : ∃ w1, w1 = ((w.alloc (.cells #[.int .i64 K, .int .i64 I, .int .i64 J, .int .i64 M] 29)).alloc (.cells #[.int .i64 0, .int .i64 0, .int .i64 0, .int .i64 0, .int .i64 0] 44)).alloc (.cells #[.int .i64 1, .int .i64 0, .int .i64 0, .int .i64 0, .int .i64 1] 44) := ⟨_, rfl⟩
  have hT1 : Hid (w1.heap[w.heap.size]? = some (.cells #[.int .i64 K, .int .i64 I, .int .i64 J, .int .i64 M] 29 (0, 0))) := by rw [hw1]; exact heap_alloc_lt (heap_alloc_lt (heap_alloc_new _ _))
  have hR1 : Hid (w1.heap[w.heap.size + 1]? = some (.cells #[.int .i64 0, .int .i64 0, .int .i64 0, .int .i64 0, .int .i64 0] 44 (0, 0))) := by rw [hw1]; exact heap_alloc_lt (heap_alloc_at _ _ _ (by simp))
  have hH1 : Hid (w1.heap[w.heap.size + 2]? = some (.cells #[.int .i64 1, .int .i64 0, .int .i64 0, .int .i64 0, .int .i64 1] 44 (0, 0))) := by rw [hw1]; exact heap_alloc_at _ _ _ (by simp)
  have HE1 : Hid (Ext w w1) := by rw [hw1]; exact (((Ext.refl w).alloc _).alloc _).alloc _
  go_enter Try.func16, Try.ntmps16
  go_upto_region 2 with fail
  rw [← hw1]
  clear hw1
  have zT := fun q => cell_of_row _ _ q _ _ _ hT1.out
  have lT := (Array.getElem?_eq_some_iff.1 hT1.out).1
  have zH := fun q => cell_of_row _ _ q _ _ _ hH1.out
  have lH := (Array.getElem?_eq_some_iff.1 hH1.out).1
  go_wp2
  refine wp_region_madeC (m := 131) (by kernel_rfl) (by kernel_rfl) rfl (fun hxc => ?_)
  repeat (refine mw_quiet ?_; apply Exists.intro; refine ⟨fun σ => ?_, ?_⟩; (first | (go_simp; rfl) | (go_simp; intro x; first | (go_at_call 30; with_reducible exact (HP _).out) | (go_at_call 29; with_reducible exact (HMP _).out) | (go_at_call 30; exact (HP _).out) | (go_at_call 29; exact (HMP _).out))); simp only [Act.put, List.setIfInBounds_toArray, List.set_cons_succ, List.set_cons_zero, List.nil_append, List.cons_append])
  refine mw_maker (fun n => .pointer (some ⟨n, 0, none⟩)) 44 #[.int .i64 0, .int .i64 0, .int .i64 0, .int .i64 0, .int .i64 0] 9 #[.int .i64 Pm.a, .int .i64 Pm.b, .int .i64 Pm.c, .int .i64 Pm.d, .int .i64 1] rfl (fun σ x => ?_) ?_
  · go_simp
  simp only [Act.put, List.setIfInBounds_toArray, List.set_cons_succ, List.set_cons_zero, List.nil_append, List.cons_append, List.length_cons, List.length_nil, Nat.reduceAdd]
  repeat (refine mw_quiet ?_; apply Exists.intro; refine ⟨fun σ => ?_, ?_⟩; (first | (go_simp; rfl) | (go_simp; intro x; first | (go_at_call 30; with_reducible exact (HP _).out) | (go_at_call 29; with_reducible exact (HMP _).out) | (go_at_call 30; exact (HP _).out) | (go_at_call 29; exact (HMP _).out))); simp only [Act.put, List.setIfInBounds_toArray, List.set_cons_succ, List.set_cons_zero, List.nil_append, List.cons_append])
  refine mw_store 8 rfl rfl (fun σ x hb hc => ?_) ?_
  · have hcell : ∀ k, x.w.cell? ⟨σ 8, k, none⟩ = (#[.int .i64 0, .int .i64 0, .int .i64 0, .int .i64 0, .int .i64 0] : Array Value)[k]? := fun k => cell_of_row _ _ _ _ _ _ hc
    have hfr : ∀ k, x.w.frozen? ⟨σ 8, k, none⟩ = false := fun k => frozen_of_row _ _ _ _ _ hc
    apply Exists.intro
    refine ⟨?_, ?_⟩
    · go_simp
      rfl
    · exact (((((Fill.start hc).set 0 _).set 1 _).set 2 _).set 3 _).set 4 _
  simp only [Act.put, List.nil_append, List.cons_append]
  repeat (refine mw_quiet ?_; apply Exists.intro; refine ⟨fun σ => ?_, ?_⟩; (first | (go_simp; rfl) | (go_simp; intro x; first | (go_at_call 30; with_reducible exact (HP _).out) | (go_at_call 29; with_reducible exact (HMP _).out) | (go_at_call 30; exact (HP _).out) | (go_at_call 29; exact (HMP _).out))); simp only [Act.put, List.setIfInBounds_toArray, List.set_cons_succ, List.set_cons_zero, List.nil_append, List.cons_append])
  refine ⟨by kernel_rfl, fun σ w2 hF2 => ?_⟩
  have hx2 := hF2.ext
  obtain ⟨hm2_8, hl2_8, hq2_8, hr2_8⟩ := mfin_blk hF2 8 9 rfl (by decide) #[.int .i64 Pm.a, .int .i64 Pm.b, .int .i64 Pm.c, .int .i64 Pm.d, .int .i64 1] rfl
  have hh2_8 := Lib.hid (mfin_heap hF2 8 9 rfl (by decide) #[.int .i64 Pm.a, .int .i64 Pm.b, .int .i64 Pm.c, .int .i64 Pm.d, .int .i64 1] rfl)
  dsimp only
  generalize σ 8 = B2_8 at *
  clear hF2 hxc
  obtain ⟨hc2, hf2⟩ := hx2.cells
  have hz2 := hx2.size
  try simp at hz2
  have hkp2 : ∀ {q : Nat} {o : Obj}, w1.heap[q]? = some o → w2.heap[q]? = some o := fun h => (hx2.heap (Array.getElem?_eq_some_iff.1 h).1).trans h
  have hT2 := Lib.hid (hkp2 hT1.out)
  have hR2 := Lib.hid (hkp2 hR1.out)
  have hH2 := Lib.hid (hkp2 hH1.out)
  have HE2 := Lib.hid (HE1.out.trans hx2)
  clear zT zH lT lH hkp2 hx2 hT1 hR1 hH1 HE1
  try clear hc2 hf2
  have zT := fun q => cell_of_row _ _ q _ _ _ hT2.out
  have lT := (Array.getElem?_eq_some_iff.1 hT2.out).1
  have zH := fun q => cell_of_row _ _ q _ _ _ hH2.out
  have lH := (Array.getElem?_eq_some_iff.1 hH2.out).1
  have hwa : IntKind.i64.wrap ((M : Int) + 4) = (M : Int) + 4 := IntWalk.i64_in _ (by omega)
  have hwb : wrap64 ((M : Int) + 4) = (M : Int) + 4 := by rw [← IntWalk.i64_left]; exact hwa
  go_upto_region 3 with fail
  go_wp2
  refine wp_region_madeC (m := 131) (by kernel_rfl) (by kernel_rfl) rfl (fun hxc => ?_)
  repeat (refine mw_quiet ?_; apply Exists.intro; refine ⟨fun σ => ?_, ?_⟩; (first | (go_simp; rfl) | (go_simp; intro x; first | (go_at_call 30; with_reducible exact (HQ _).out) | (go_at_call 29; with_reducible exact (HMQ _).out) | (go_at_call 30; exact (HQ _).out) | (go_at_call 29; exact (HMQ _).out))); simp only [Act.put, List.setIfInBounds_toArray, List.set_cons_succ, List.set_cons_zero, List.nil_append, List.cons_append])
  refine mw_maker (fun n => .pointer (some ⟨n, 0, none⟩)) 44 #[.int .i64 0, .int .i64 0, .int .i64 0, .int .i64 0, .int .i64 0] 10 #[.int .i64 Qm.a, .int .i64 Qm.b, .int .i64 Qm.c, .int .i64 Qm.d, .int .i64 1] rfl (fun σ x => ?_) ?_
  · go_simp
  simp only [Act.put, List.setIfInBounds_toArray, List.set_cons_succ, List.set_cons_zero, List.nil_append, List.cons_append, List.length_cons, List.length_nil, Nat.reduceAdd]
  repeat (refine mw_quiet ?_; apply Exists.intro; refine ⟨fun σ => ?_, ?_⟩; (first | (go_simp; rfl) | (go_simp; intro x; first | (go_at_call 30; with_reducible exact (HQ _).out) | (go_at_call 29; with_reducible exact (HMQ _).out) | (go_at_call 30; exact (HQ _).out) | (go_at_call 29; exact (HMQ _).out))); simp only [Act.put, List.setIfInBounds_toArray, List.set_cons_succ, List.set_cons_zero, List.nil_append, List.cons_append])
  refine mw_store 9 rfl rfl (fun σ x hb hc => ?_) ?_
  · have hcell : ∀ k, x.w.cell? ⟨σ 9, k, none⟩ = (#[.int .i64 0, .int .i64 0, .int .i64 0, .int .i64 0, .int .i64 0] : Array Value)[k]? := fun k => cell_of_row _ _ _ _ _ _ hc
    have hfr : ∀ k, x.w.frozen? ⟨σ 9, k, none⟩ = false := fun k => frozen_of_row _ _ _ _ _ hc
    apply Exists.intro
    refine ⟨?_, ?_⟩
    · go_simp
      rfl
    · exact (((((Fill.start hc).set 0 _).set 1 _).set 2 _).set 3 _).set 4 _
  simp only [Act.put, List.nil_append, List.cons_append]
  repeat (refine mw_quiet ?_; apply Exists.intro; refine ⟨fun σ => ?_, ?_⟩; (first | (go_simp; rfl) | (go_simp; intro x; first | (go_at_call 30; with_reducible exact (HQ _).out) | (go_at_call 29; with_reducible exact (HMQ _).out) | (go_at_call 30; exact (HQ _).out) | (go_at_call 29; exact (HMQ _).out))); simp only [Act.put, List.setIfInBounds_toArray, List.set_cons_succ, List.set_cons_zero, List.nil_append, List.cons_append])
  refine ⟨by kernel_rfl, fun σ w3 hF3 => ?_⟩
  have hx3 := hF3.ext
  obtain ⟨hm3_9, hl3_9, hq3_9, hr3_9⟩ := mfin_blk hF3 9 10 rfl (by decide) #[.int .i64 Qm.a, .int .i64 Qm.b, .int .i64 Qm.c, .int .i64 Qm.d, .int .i64 1] rfl
  have hh3_9 := Lib.hid (mfin_heap hF3 9 10 rfl (by decide) #[.int .i64 Qm.a, .int .i64 Qm.b, .int .i64 Qm.c, .int .i64 Qm.d, .int .i64 1] rfl)
  dsimp only
  generalize σ 9 = B3_9 at *
  clear hF3 hxc
  obtain ⟨hc3, hf3⟩ := hx3.cells
  have hz3 := hx3.size
  try simp at hz3
  have hkp3 : ∀ {q : Nat} {o : Obj}, w2.heap[q]? = some o → w3.heap[q]? = some o := fun h => (hx3.heap (Array.getElem?_eq_some_iff.1 h).1).trans h
  have hT3 := Lib.hid (hkp3 hT2.out)
  have hR3 := Lib.hid (hkp3 hR2.out)
  have hH3 := Lib.hid (hkp3 hH2.out)
  have hU3 := Lib.hid (hkp3 hh2_8.out)
  have hV3 := hh3_9
  have HE3 := Lib.hid (HE2.out.trans hx3)
  clear zT zH lT lH hkp3 hx3 hT2 hR2 hH2 HE2 hh2_8 hh3_9
  try clear hc3 hf3
  try clear hm2_8 hl2_8 hq2_8 hr2_8
  try clear hm3_9 hl3_9 hq3_9 hr3_9
  have zT := fun q => cell_of_row _ _ q _ _ _ hT3.out
  have lT := (Array.getElem?_eq_some_iff.1 hT3.out).1
  have zH := fun q => cell_of_row _ _ q _ _ _ hH3.out
  have lH := (Array.getElem?_eq_some_iff.1 hH3.out).1
  have zU := fun q => cell_of_row _ _ q _ _ _ hU3.out
  have lU := (Array.getElem?_eq_some_iff.1 hU3.out).1
  have zV := fun q => cell_of_row _ _ q _ _ _ hV3.out
  have lV := (Array.getElem?_eq_some_iff.1 hV3.out).1
  have zR := fun q => cell_of_row _ _ q _ _ _ hR3.out
  have fR := fun q => frozen_of_row _ _ q _ _ hR3.out
  have lR := (Array.getElem?_eq_some_iff.1 hR3.out).1
  clear hwa hwb HMP HMQ HQ
  rcases hK with rfl | ⟨rfl, hIJ⟩ | ⟨rfl, hIJ⟩
  · by_cases hi : i = I
    · subst hi
      by_cases hj : j = i
      · subst hj
        have HV : Hid (tlX 1 j J M j j = Pm ∧ tlE 1 j J M j j = 0) := by constructor <;> simp [tlX, tlE, oz, HPm.out, HQm.out]
        go_wp2_with fail
        refine (HP _).out.mono ?_
        rintro e w4 ⟨rfl, hx4⟩
        have hR4 := (hx4.heap lR).trans hR3.out
        clear zT lT zH lH zU lU zV lV zR fR lR
        have zR := fun q => cell_of_row _ _ q _ _ _ hR4
        have fR := fun q => frozen_of_row _ _ q _ _ hR4
        have lR := (Array.getElem?_eq_some_iff.1 hR4).1
        clear hR4
        go_wp2
        refine bodyPost_ret (v := .agg #[.int .i64 Pm.a, .int .i64 Pm.b, .int .i64 Pm.c, .int .i64 Pm.d, .int .i64 0]) (by simp [results, Try.results16, go_sem, *]) rfl ?_
        rw [HV.out.1, HV.out.2]
        have hee := HE3.out
        exact ⟨rfl, (by repeat (first | (with_reducible refine Ext.setCell ?_ (by first | (simp; done) | (simp; omega)) _) | with_reducible refine Ext.alloc ?_ _ | with_reducible refine Ext.drew ?_ | with_reducible refine Ext.drewN ?_ _ | with_reducible assumption | with_reducible exact Ext.refl _ | with_reducible refine Ext.trans ?_ (by with_reducible assumption)))⟩
      · have nij : ¬ (i : Int) = (j : Int) := by omega
        have nji : ¬ (j : Int) = (i : Int) := by omega
        have hj2 : ¬ i = j := fun e => hj e.symm
        have HV : Hid (tlX 1 i J M i j = R4.zero ∧ tlE 1 i J M i j = 0) := by constructor <;> simp [tlX, tlE, oz, HPm.out, HQm.out, hj, hj2]
        go_wp2_with fail
        refine (HSM _ _).out.mono ?_
        rintro e w' ⟨rfl, rfl⟩
        go_wp2_with fail
        refine (HWH _ _).out.mono ?_
        rintro e w4 ⟨rfl, hx4⟩
        have hR4 := (hx4.heap lR).trans hR3.out
        clear zT lT zH lH zU lU zV lV zR fR lR
        have zR := fun q => cell_of_row _ _ q _ _ _ hR4
        have fR := fun q => frozen_of_row _ _ q _ _ hR4
        have lR := (Array.getElem?_eq_some_iff.1 hR4).1
        clear hR4
        go_wp2
        refine bodyPost_ret (v := .agg #[.int .i64 0, .int .i64 0, .int .i64 0, .int .i64 0, .int .i64 0]) (by simp [results, Try.results16, go_sem, *]) rfl ?_
        rw [HV.out.1, HV.out.2]
        have hee := HE3.out
        exact ⟨rfl, (by repeat (first | (with_reducible refine Ext.setCell ?_ (by first | (simp; done) | (simp; omega)) _) | with_reducible refine Ext.alloc ?_ _ | with_reducible refine Ext.drew ?_ | with_reducible refine Ext.drewN ?_ _ | with_reducible assumption | with_reducible exact Ext.refl _ | with_reducible refine Ext.trans ?_ (by with_reducible assumption)))⟩
    · have niI : ¬ (i : Int) = (I : Int) := by omega
      by_cases hj : i = j
      · subst hj
        have HV : Hid (tlX 1 I J M i i = R4.one ∧ tlE 1 I J M i i = 0) := by constructor <;> simp [tlX, tlE, oz, HPm.out, HQm.out, hi]
        go_wp2_with fail
        refine (HSM _ _).out.mono ?_
        rintro e w' ⟨rfl, rfl⟩
        go_wp2_with fail
        refine (HWH _ _).out.mono ?_
        rintro e w4 ⟨rfl, hx4⟩
        have hR4 := (hx4.heap lR).trans hR3.out
        clear zT lT zH lH zU lU zV lV zR fR lR
        have zR := fun q => cell_of_row _ _ q _ _ _ hR4
        have fR := fun q => frozen_of_row _ _ q _ _ hR4
        have lR := (Array.getElem?_eq_some_iff.1 hR4).1
        clear hR4
        go_wp2
        refine bodyPost_ret (v := .agg #[.int .i64 1, .int .i64 0, .int .i64 0, .int .i64 0, .int .i64 0]) (by simp [results, Try.results16, go_sem, *]) rfl ?_
        rw [HV.out.1, HV.out.2]
        have hee := HE3.out
        exact ⟨rfl, (by repeat (first | (with_reducible refine Ext.setCell ?_ (by first | (simp; done) | (simp; omega)) _) | with_reducible refine Ext.alloc ?_ _ | with_reducible refine Ext.drew ?_ | with_reducible refine Ext.drewN ?_ _ | with_reducible assumption | with_reducible exact Ext.refl _ | with_reducible refine Ext.trans ?_ (by with_reducible assumption)))⟩
      · have nij : ¬ (i : Int) = (j : Int) := by omega
        have HV : Hid (tlX 1 I J M i j = R4.zero ∧ tlE 1 I J M i j = 0) := by constructor <;> simp [tlX, tlE, oz, HPm.out, HQm.out, hi, hj]
        go_wp2_with fail
        refine (HSM _ _).out.mono ?_
        rintro e w' ⟨rfl, rfl⟩
        go_wp2_with fail
        refine (HWH _ _).out.mono ?_
        rintro e w4 ⟨rfl, hx4⟩
        have hR4 := (hx4.heap lR).trans hR3.out
        clear zT lT zH lH zU lU zV lV zR fR lR
        have zR := fun q => cell_of_row _ _ q _ _ _ hR4
        have fR := fun q => frozen_of_row _ _ q _ _ hR4
        have lR := (Array.getElem?_eq_some_iff.1 hR4).1
        clear hR4
        go_wp2
        refine bodyPost_ret (v := .agg #[.int .i64 0, .int .i64 0, .int .i64 0, .int .i64 0, .int .i64 0]) (by simp [results, Try.results16, go_sem, *]) rfl ?_
        rw [HV.out.1, HV.out.2]
        have hee := HE3.out
        exact ⟨rfl, (by repeat (first | (with_reducible refine Ext.setCell ?_ (by first | (simp; done) | (simp; omega)) _) | with_reducible refine Ext.alloc ?_ _ | with_reducible refine Ext.drew ?_ | with_reducible refine Ext.drewN ?_ _ | with_reducible assumption | with_reducible exact Ext.refl _ | with_reducible refine Ext.trans ?_ (by with_reducible assumption)))⟩
  · by_cases hi : i = I ∨ i = J
    · by_cases hj : j = I ∨ j = J
      · have nIJ : ¬ I = J := by omega
        have nJI : ¬ J = I := by omega
        have nIJ' : ¬ (I : Int) = (J : Int) := by omega
        have nJI' : ¬ (J : Int) = (I : Int) := by omega
        rcases hi with rfl | rfl <;> rcases hj with rfl | rfl
        · skip
          have HV : Hid (tlX 2 j J M j j = R4.zero ∧ tlE 2 j J M j j = 0) := by constructor <;> simp [tlX, tlE, oz, HPm.out, HQm.out, nIJ, nJI]
          go_wp2_with fail
          refine (HSM _ _).out.mono ?_
          rintro e w' ⟨rfl, rfl⟩
          go_wp2_with fail
          refine (HWH _ _).out.mono ?_
          rintro e w4 ⟨rfl, hx4⟩
          have hR4 := (hx4.heap lR).trans hR3.out
          clear zT lT zH lH zU lU zV lV zR fR lR
          have zR := fun q => cell_of_row _ _ q _ _ _ hR4
          have fR := fun q => frozen_of_row _ _ q _ _ hR4
          have lR := (Array.getElem?_eq_some_iff.1 hR4).1
          clear hR4
          go_wp2
          refine bodyPost_ret (v := .agg #[.int .i64 0, .int .i64 0, .int .i64 0, .int .i64 0, .int .i64 0]) (by simp [results, Try.results16, go_sem, *]) rfl ?_
          rw [HV.out.1, HV.out.2]
          have hee := HE3.out
          exact ⟨rfl, (by repeat (first | (with_reducible refine Ext.setCell ?_ (by first | (simp; done) | (simp; omega)) _) | with_reducible refine Ext.alloc ?_ _ | with_reducible refine Ext.drew ?_ | with_reducible refine Ext.drewN ?_ _ | with_reducible assumption | with_reducible exact Ext.refl _ | with_reducible refine Ext.trans ?_ (by with_reducible assumption)))⟩
        · skip
          have HV : Hid (tlX 2 i j M i j = R4.one ∧ tlE 2 i j M i j = 0) := by constructor <;> simp [tlX, tlE, oz, HPm.out, HQm.out, nIJ, nJI]
          go_wp2_with fail
          refine (HSM _ _).out.mono ?_
          rintro e w' ⟨rfl, rfl⟩
          go_wp2_with fail
          refine (HWH _ _).out.mono ?_
          rintro e w4 ⟨rfl, hx4⟩
          have hR4 := (hx4.heap lR).trans hR3.out
          clear zT lT zH lH zU lU zV lV zR fR lR
          have zR := fun q => cell_of_row _ _ q _ _ _ hR4
          have fR := fun q => frozen_of_row _ _ q _ _ hR4
          have lR := (Array.getElem?_eq_some_iff.1 hR4).1
          clear hR4
          go_wp2
          refine bodyPost_ret (v := .agg #[.int .i64 1, .int .i64 0, .int .i64 0, .int .i64 0, .int .i64 0]) (by simp [results, Try.results16, go_sem, *]) rfl ?_
          rw [HV.out.1, HV.out.2]
          have hee := HE3.out
          exact ⟨rfl, (by repeat (first | (with_reducible refine Ext.setCell ?_ (by first | (simp; done) | (simp; omega)) _) | with_reducible refine Ext.alloc ?_ _ | with_reducible refine Ext.drew ?_ | with_reducible refine Ext.drewN ?_ _ | with_reducible assumption | with_reducible exact Ext.refl _ | with_reducible refine Ext.trans ?_ (by with_reducible assumption)))⟩
        · skip
          have HV : Hid (tlX 2 j i M i j = R4.one ∧ tlE 2 j i M i j = 0) := by constructor <;> simp [tlX, tlE, oz, HPm.out, HQm.out, nIJ, nJI]
          go_wp2_with fail
          refine (HSM _ _).out.mono ?_
          rintro e w' ⟨rfl, rfl⟩
          go_wp2_with fail
          refine (HWH _ _).out.mono ?_
          rintro e w4 ⟨rfl, hx4⟩
          have hR4 := (hx4.heap lR).trans hR3.out
          clear zT lT zH lH zU lU zV lV zR fR lR
          have zR := fun q => cell_of_row _ _ q _ _ _ hR4
          have fR := fun q => frozen_of_row _ _ q _ _ hR4
          have lR := (Array.getElem?_eq_some_iff.1 hR4).1
          clear hR4
          go_wp2
          refine bodyPost_ret (v := .agg #[.int .i64 1, .int .i64 0, .int .i64 0, .int .i64 0, .int .i64 0]) (by simp [results, Try.results16, go_sem, *]) rfl ?_
          rw [HV.out.1, HV.out.2]
          have hee := HE3.out
          exact ⟨rfl, (by repeat (first | (with_reducible refine Ext.setCell ?_ (by first | (simp; done) | (simp; omega)) _) | with_reducible refine Ext.alloc ?_ _ | with_reducible refine Ext.drew ?_ | with_reducible refine Ext.drewN ?_ _ | with_reducible assumption | with_reducible exact Ext.refl _ | with_reducible refine Ext.trans ?_ (by with_reducible assumption)))⟩
        · skip
          have HV : Hid (tlX 2 I j M j j = R4.zero ∧ tlE 2 I j M j j = 0) := by constructor <;> simp [tlX, tlE, oz, HPm.out, HQm.out, nIJ, nJI]
          go_wp2_with fail
          refine (HSM _ _).out.mono ?_
          rintro e w' ⟨rfl, rfl⟩
          go_wp2_with fail
          refine (HWH _ _).out.mono ?_
          rintro e w4 ⟨rfl, hx4⟩
          have hR4 := (hx4.heap lR).trans hR3.out
          clear zT lT zH lH zU lU zV lV zR fR lR
          have zR := fun q => cell_of_row _ _ q _ _ _ hR4
          have fR := fun q => frozen_of_row _ _ q _ _ hR4
          have lR := (Array.getElem?_eq_some_iff.1 hR4).1
          clear hR4
          go_wp2
          refine bodyPost_ret (v := .agg #[.int .i64 0, .int .i64 0, .int .i64 0, .int .i64 0, .int .i64 0]) (by simp [results, Try.results16, go_sem, *]) rfl ?_
          rw [HV.out.1, HV.out.2]
          have hee := HE3.out
          exact ⟨rfl, (by repeat (first | (with_reducible refine Ext.setCell ?_ (by first | (simp; done) | (simp; omega)) _) | with_reducible refine Ext.alloc ?_ _ | with_reducible refine Ext.drew ?_ | with_reducible refine Ext.drewN ?_ _ | with_reducible assumption | with_reducible exact Ext.refl _ | with_reducible refine Ext.trans ?_ (by with_reducible assumption)))⟩
      · have hj1 : ¬ j = I := fun e => hj (.inl e)
        have hj2 : ¬ j = J := fun e => hj (.inr e)
        have nj1 : ¬ (j : Int) = (I : Int) := by omega
        have nj2 : ¬ (j : Int) = (J : Int) := by omega
        have nj3 : ¬ (I : Int) = (j : Int) := by omega
        have nj4 : ¬ (J : Int) = (j : Int) := by omega
        have nj5 : ¬ I = j := by omega
        have nj6 : ¬ J = j := by omega
        have nJI' : ¬ (J : Int) = (I : Int) := by omega
        have nJI : ¬ J = I := by omega
        clear hj
        have bj1 : ((j : Int) == (I : Int)) = false := beq_false_of_ne nj1
        have bj2 : ((j : Int) == (J : Int)) = false := beq_false_of_ne nj2
        rcases hi with rfl | rfl
        · skip
          have HV : Hid (tlX 2 i J M i j = R4.zero ∧ tlE 2 i J M i j = 0) := by constructor <;> simp [tlX, tlE, oz, HPm.out, HQm.out, hj1, hj2, nj5, nj6, nJI]
          go_wp2_with fail
          refine (HSM _ _).out.mono ?_
          rintro e w' ⟨rfl, rfl⟩
          go_wp2_with fail
          refine (HWH _ _).out.mono ?_
          rintro e w4 ⟨rfl, hx4⟩
          have hR4 := (hx4.heap lR).trans hR3.out
          clear zT lT zH lH zU lU zV lV zR fR lR
          have zR := fun q => cell_of_row _ _ q _ _ _ hR4
          have fR := fun q => frozen_of_row _ _ q _ _ hR4
          have lR := (Array.getElem?_eq_some_iff.1 hR4).1
          clear hR4
          go_wp2
          refine bodyPost_ret (v := .agg #[.int .i64 0, .int .i64 0, .int .i64 0, .int .i64 0, .int .i64 0]) (by simp [results, Try.results16, go_sem, *]) rfl ?_
          rw [HV.out.1, HV.out.2]
          have hee := HE3.out
          exact ⟨rfl, (by repeat (first | (with_reducible refine Ext.setCell ?_ (by first | (simp; done) | (simp; omega)) _) | with_reducible refine Ext.alloc ?_ _ | with_reducible refine Ext.drew ?_ | with_reducible refine Ext.drewN ?_ _ | with_reducible assumption | with_reducible exact Ext.refl _ | with_reducible refine Ext.trans ?_ (by with_reducible assumption)))⟩
        · skip
          have HV : Hid (tlX 2 I i M i j = R4.zero ∧ tlE 2 I i M i j = 0) := by constructor <;> simp [tlX, tlE, oz, HPm.out, HQm.out, hj1, hj2, nj5, nj6, nJI]
          go_wp2_with fail
          refine (HSM _ _).out.mono ?_
          rintro e w' ⟨rfl, rfl⟩
          go_wp2_with fail
          refine (HWH _ _).out.mono ?_
          rintro e w4 ⟨rfl, hx4⟩
          have hR4 := (hx4.heap lR).trans hR3.out
          clear zT lT zH lH zU lU zV lV zR fR lR
          have zR := fun q => cell_of_row _ _ q _ _ _ hR4
          have fR := fun q => frozen_of_row _ _ q _ _ hR4
          have lR := (Array.getElem?_eq_some_iff.1 hR4).1
          clear hR4
          go_wp2
          refine bodyPost_ret (v := .agg #[.int .i64 0, .int .i64 0, .int .i64 0, .int .i64 0, .int .i64 0]) (by simp [results, Try.results16, go_sem, *]) rfl ?_
          rw [HV.out.1, HV.out.2]
          have hee := HE3.out
          exact ⟨rfl, (by repeat (first | (with_reducible refine Ext.setCell ?_ (by first | (simp; done) | (simp; omega)) _) | with_reducible refine Ext.alloc ?_ _ | with_reducible refine Ext.drew ?_ | with_reducible refine Ext.drewN ?_ _ | with_reducible assumption | with_reducible exact Ext.refl _ | with_reducible refine Ext.trans ?_ (by with_reducible assumption)))⟩
    · have hi1 : ¬ i = I := fun e => hi (.inl e)
      have hi2 : ¬ i = J := fun e => hi (.inr e)
      have ni1 : ¬ (i : Int) = (I : Int) := by omega
      have ni2 : ¬ (i : Int) = (J : Int) := by omega
      clear hi
      by_cases hj : i = j
      · subst hj
        have HV : Hid (tlX 2 I J M i i = R4.one ∧ tlE 2 I J M i i = 0) := by constructor <;> simp [tlX, tlE, oz, HPm.out, HQm.out, hi1, hi2]
        go_wp2_with fail
        refine (HSM _ _).out.mono ?_
        rintro e w' ⟨rfl, rfl⟩
        go_wp2_with fail
        refine (HWH _ _).out.mono ?_
        rintro e w4 ⟨rfl, hx4⟩
        have hR4 := (hx4.heap lR).trans hR3.out
        clear zT lT zH lH zU lU zV lV zR fR lR
        have zR := fun q => cell_of_row _ _ q _ _ _ hR4
        have fR := fun q => frozen_of_row _ _ q _ _ hR4
        have lR := (Array.getElem?_eq_some_iff.1 hR4).1
        clear hR4
        go_wp2
        refine bodyPost_ret (v := .agg #[.int .i64 1, .int .i64 0, .int .i64 0, .int .i64 0, .int .i64 0]) (by simp [results, Try.results16, go_sem, *]) rfl ?_
        rw [HV.out.1, HV.out.2]
        have hee := HE3.out
        exact ⟨rfl, (by repeat (first | (with_reducible refine Ext.setCell ?_ (by first | (simp; done) | (simp; omega)) _) | with_reducible refine Ext.alloc ?_ _ | with_reducible refine Ext.drew ?_ | with_reducible refine Ext.drewN ?_ _ | with_reducible assumption | with_reducible exact Ext.refl _ | with_reducible refine Ext.trans ?_ (by with_reducible assumption)))⟩
      · have nij : ¬ (i : Int) = (j : Int) := by omega
        have HV : Hid (tlX 2 I J M i j = R4.zero ∧ tlE 2 I J M i j = 0) := by constructor <;> simp [tlX, tlE, oz, HPm.out, HQm.out, hi1, hi2, hj]
        go_wp2_with fail
        refine (HSM _ _).out.mono ?_
        rintro e w' ⟨rfl, rfl⟩
        go_wp2_with fail
        refine (HWH _ _).out.mono ?_
        rintro e w4 ⟨rfl, hx4⟩
        have hR4 := (hx4.heap lR).trans hR3.out
        clear zT lT zH lH zU lU zV lV zR fR lR
        have zR := fun q => cell_of_row _ _ q _ _ _ hR4
        have fR := fun q => frozen_of_row _ _ q _ _ hR4
        have lR := (Array.getElem?_eq_some_iff.1 hR4).1
        clear hR4
        go_wp2
        refine bodyPost_ret (v := .agg #[.int .i64 0, .int .i64 0, .int .i64 0, .int .i64 0, .int .i64 0]) (by simp [results, Try.results16, go_sem, *]) rfl ?_
        rw [HV.out.1, HV.out.2]
        have hee := HE3.out
        exact ⟨rfl, (by repeat (first | (with_reducible refine Ext.setCell ?_ (by first | (simp; done) | (simp; omega)) _) | with_reducible refine Ext.alloc ?_ _ | with_reducible refine Ext.drew ?_ | with_reducible refine Ext.drewN ?_ _ | with_reducible assumption | with_reducible exact Ext.refl _ | with_reducible refine Ext.trans ?_ (by with_reducible assumption)))⟩
  · by_cases hi : i = I ∨ i = J
    · by_cases hj : j = I ∨ j = J
      · have nIJ : ¬ I = J := by omega
        have nJI : ¬ J = I := by omega
        have nIJ' : ¬ (I : Int) = (J : Int) := by omega
        have nJI' : ¬ (J : Int) = (I : Int) := by omega
        rcases hi with rfl | rfl <;> rcases hj with rfl | rfl
        · skip
          have HV : Hid (tlX 3 j J M j j = R4.one ∧ tlE 3 j J M j j = 1) := by constructor <;> simp [tlX, tlE, oz, HPm.out, HQm.out, nIJ, nJI]
          go_wp2
          refine bodyPost_ret (v := .agg #[.int .i64 1, .int .i64 0, .int .i64 0, .int .i64 0, .int .i64 1]) (by simp [results, Try.results16, go_sem, *]) rfl ?_
          rw [HV.out.1, HV.out.2]
          have hee := HE3.out
          exact ⟨rfl, (by repeat (first | (with_reducible refine Ext.setCell ?_ (by first | (simp; done) | (simp; omega)) _) | with_reducible refine Ext.alloc ?_ _ | with_reducible refine Ext.drew ?_ | with_reducible refine Ext.drewN ?_ _ | with_reducible assumption | with_reducible exact Ext.refl _ | with_reducible refine Ext.trans ?_ (by with_reducible assumption)))⟩
        · skip
          have HV : Hid (tlX 3 i j M i j = Pm ∧ tlE 3 i j M i j = 1) := by constructor <;> simp [tlX, tlE, oz, HPm.out, HQm.out, nIJ, nJI]
          go_wp2
          refine bodyPost_ret (v := .agg #[.int .i64 Pm.a, .int .i64 Pm.b, .int .i64 Pm.c, .int .i64 Pm.d, .int .i64 1]) (by simp [results, Try.results16, go_sem, *]) rfl ?_
          rw [HV.out.1, HV.out.2]
          have hee := HE3.out
          exact ⟨rfl, (by repeat (first | (with_reducible refine Ext.setCell ?_ (by first | (simp; done) | (simp; omega)) _) | with_reducible refine Ext.alloc ?_ _ | with_reducible refine Ext.drew ?_ | with_reducible refine Ext.drewN ?_ _ | with_reducible assumption | with_reducible exact Ext.refl _ | with_reducible refine Ext.trans ?_ (by with_reducible assumption)))⟩
        · skip
          have HV : Hid (tlX 3 j i M i j = R4.one ∧ tlE 3 j i M i j = 1) := by constructor <;> simp [tlX, tlE, oz, HPm.out, HQm.out, nIJ, nJI]
          go_wp2
          refine bodyPost_ret (v := .agg #[.int .i64 1, .int .i64 0, .int .i64 0, .int .i64 0, .int .i64 1]) (by simp [results, Try.results16, go_sem, *]) rfl ?_
          rw [HV.out.1, HV.out.2]
          have hee := HE3.out
          exact ⟨rfl, (by repeat (first | (with_reducible refine Ext.setCell ?_ (by first | (simp; done) | (simp; omega)) _) | with_reducible refine Ext.alloc ?_ _ | with_reducible refine Ext.drew ?_ | with_reducible refine Ext.drewN ?_ _ | with_reducible assumption | with_reducible exact Ext.refl _ | with_reducible refine Ext.trans ?_ (by with_reducible assumption)))⟩
        · skip
          have HV : Hid (tlX 3 I j M j j = Qm ∧ tlE 3 I j M j j = 1) := by constructor <;> simp [tlX, tlE, oz, HPm.out, HQm.out, nIJ, nJI]
          go_wp2
          refine bodyPost_ret (v := .agg #[.int .i64 Qm.a, .int .i64 Qm.b, .int .i64 Qm.c, .int .i64 Qm.d, .int .i64 1]) (by simp [results, Try.results16, go_sem, *]) rfl ?_
          rw [HV.out.1, HV.out.2]
          have hee := HE3.out
          exact ⟨rfl, (by repeat (first | (with_reducible refine Ext.setCell ?_ (by first | (simp; done) | (simp; omega)) _) | with_reducible refine Ext.alloc ?_ _ | with_reducible refine Ext.drew ?_ | with_reducible refine Ext.drewN ?_ _ | with_reducible assumption | with_reducible exact Ext.refl _ | with_reducible refine Ext.trans ?_ (by with_reducible assumption)))⟩
      · have hj1 : ¬ j = I := fun e => hj (.inl e)
        have hj2 : ¬ j = J := fun e => hj (.inr e)
        have nj1 : ¬ (j : Int) = (I : Int) := by omega
        have nj2 : ¬ (j : Int) = (J : Int) := by omega
        have nj3 : ¬ (I : Int) = (j : Int) := by omega
        have nj4 : ¬ (J : Int) = (j : Int) := by omega
        have nj5 : ¬ I = j := by omega
        have nj6 : ¬ J = j := by omega
        have nJI' : ¬ (J : Int) = (I : Int) := by omega
        have nJI : ¬ J = I := by omega
        clear hj
        have bj1 : ((j : Int) == (I : Int)) = false := beq_false_of_ne nj1
        have bj2 : ((j : Int) == (J : Int)) = false := beq_false_of_ne nj2
        rcases hi with rfl | rfl
        · skip
          have HV : Hid (tlX 3 i J M i j = R4.zero ∧ tlE 3 i J M i j = 0) := by constructor <;> simp [tlX, tlE, oz, HPm.out, HQm.out, hj1, hj2, nj5, nj6, nJI]
          go_wp2_with fail
          refine (HSM _ _).out.mono ?_
          rintro e w' ⟨rfl, rfl⟩
          go_wp2_with fail
          refine (HWH _ _).out.mono ?_
          rintro e w4 ⟨rfl, hx4⟩
          have hR4 := (hx4.heap lR).trans hR3.out
          clear zT lT zH lH zU lU zV lV zR fR lR
          have zR := fun q => cell_of_row _ _ q _ _ _ hR4
          have fR := fun q => frozen_of_row _ _ q _ _ hR4
          have lR := (Array.getElem?_eq_some_iff.1 hR4).1
          clear hR4
          go_wp2
          refine bodyPost_ret (v := .agg #[.int .i64 0, .int .i64 0, .int .i64 0, .int .i64 0, .int .i64 0]) (by simp [results, Try.results16, go_sem, *]) rfl ?_
          rw [HV.out.1, HV.out.2]
          have hee := HE3.out
          exact ⟨rfl, (by repeat (first | (with_reducible refine Ext.setCell ?_ (by first | (simp; done) | (simp; omega)) _) | with_reducible refine Ext.alloc ?_ _ | with_reducible refine Ext.drew ?_ | with_reducible refine Ext.drewN ?_ _ | with_reducible assumption | with_reducible exact Ext.refl _ | with_reducible refine Ext.trans ?_ (by with_reducible assumption)))⟩
        · skip
          have HV : Hid (tlX 3 I i M i j = R4.zero ∧ tlE 3 I i M i j = 0) := by constructor <;> simp [tlX, tlE, oz, HPm.out, HQm.out, hj1, hj2, nj5, nj6, nJI]
          go_wp2_with fail
          refine (HSM _ _).out.mono ?_
          rintro e w' ⟨rfl, rfl⟩
          go_wp2_with fail
          refine (HWH _ _).out.mono ?_
          rintro e w4 ⟨rfl, hx4⟩
          have hR4 := (hx4.heap lR).trans hR3.out
          clear zT lT zH lH zU lU zV lV zR fR lR
          have zR := fun q => cell_of_row _ _ q _ _ _ hR4
          have fR := fun q => frozen_of_row _ _ q _ _ hR4
          have lR := (Array.getElem?_eq_some_iff.1 hR4).1
          clear hR4
          go_wp2
          refine bodyPost_ret (v := .agg #[.int .i64 0, .int .i64 0, .int .i64 0, .int .i64 0, .int .i64 0]) (by simp [results, Try.results16, go_sem, *]) rfl ?_
          rw [HV.out.1, HV.out.2]
          have hee := HE3.out
          exact ⟨rfl, (by repeat (first | (with_reducible refine Ext.setCell ?_ (by first | (simp; done) | (simp; omega)) _) | with_reducible refine Ext.alloc ?_ _ | with_reducible refine Ext.drew ?_ | with_reducible refine Ext.drewN ?_ _ | with_reducible assumption | with_reducible exact Ext.refl _ | with_reducible refine Ext.trans ?_ (by with_reducible assumption)))⟩
    · have hi1 : ¬ i = I := fun e => hi (.inl e)
      have hi2 : ¬ i = J := fun e => hi (.inr e)
      have ni1 : ¬ (i : Int) = (I : Int) := by omega
      have ni2 : ¬ (i : Int) = (J : Int) := by omega
      clear hi
      by_cases hj : i = j
      · subst hj
        have HV : Hid (tlX 3 I J M i i = R4.one ∧ tlE 3 I J M i i = 0) := by constructor <;> simp [tlX, tlE, oz, HPm.out, HQm.out, hi1, hi2]
        go_wp2_with fail
        refine (HSM _ _).out.mono ?_
        rintro e w' ⟨rfl, rfl⟩
        go_wp2_with fail
        refine (HWH _ _).out.mono ?_
        rintro e w4 ⟨rfl, hx4⟩
        have hR4 := (hx4.heap lR).trans hR3.out
        clear zT lT zH lH zU lU zV lV zR fR lR
        have zR := fun q => cell_of_row _ _ q _ _ _ hR4
        have fR := fun q => frozen_of_row _ _ q _ _ hR4
        have lR := (Array.getElem?_eq_some_iff.1 hR4).1
        clear hR4
        go_wp2
        refine bodyPost_ret (v := .agg #[.int .i64 1, .int .i64 0, .int .i64 0, .int .i64 0, .int .i64 0]) (by simp [results, Try.results16, go_sem, *]) rfl ?_
        rw [HV.out.1, HV.out.2]
        have hee := HE3.out
        exact ⟨rfl, (by repeat (first | (with_reducible refine Ext.setCell ?_ (by first | (simp; done) | (simp; omega)) _) | with_reducible refine Ext.alloc ?_ _ | with_reducible refine Ext.drew ?_ | with_reducible refine Ext.drewN ?_ _ | with_reducible assumption | with_reducible exact Ext.refl _ | with_reducible refine Ext.trans ?_ (by with_reducible assumption)))⟩
      · have nij : ¬ (i : Int) = (j : Int) := by omega
        have HV : Hid (tlX 3 I J M i j = R4.zero ∧ tlE 3 I J M i j = 0) := by constructor <;> simp [tlX, tlE, oz, HPm.out, HQm.out, hi1, hi2, hj]
        go_wp2_with fail
        refine (HSM _ _).out.mono ?_
        rintro e w' ⟨rfl, rfl⟩
        go_wp2_with fail
        refine (HWH _ _).out.mono ?_
        rintro e w4 ⟨rfl, hx4⟩
        have hR4 := (hx4.heap lR).trans hR3.out
        clear zT lT zH lH zU lU zV lV zR fR lR
        have zR := fun q => cell_of_row _ _ q _ _ _ hR4
        have fR := fun q => frozen_of_row _ _ q _ _ hR4
        have lR := (Array.getElem?_eq_some_iff.1 hR4).1
        clear hR4
        go_wp2
        refine bodyPost_ret (v := .agg #[.int .i64 0, .int .i64 0, .int .i64 0, .int .i64 0, .int .i64 0]) (by simp [results, Try.results16, go_sem, *]) rfl ?_
        rw [HV.out.1, HV.out.2]
        have hee := HE3.out
        exact ⟨rfl, (by repeat (first | (with_reducible refine Ext.setCell ?_ (by first | (simp; done) | (simp; omega)) _) | with_reducible refine Ext.alloc ?_ _ | with_reducible refine Ext.drew ?_ | with_reducible refine Ext.drewN ?_ _ | with_reducible assumption | with_reducible exact Ext.refl _ | with_reducible refine Ext.trans ?_ (by with_reducible assumption)))⟩

end Go.Proofs.Ytlaajkdhegkpdaa
