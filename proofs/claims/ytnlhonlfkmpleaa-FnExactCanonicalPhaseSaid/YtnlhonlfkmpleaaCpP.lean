/- CanonicalPhase: the program's side, joined. -/
import Derived.Test.YtnlhonlfkmpleaaCpI
namespace Go.Proofs.Ytnlhonlfkmpleaa
open Go.RowKit Go.Lib
set_option linter.unusedVariables false
set_option linter.unusedSimpArgs false

theorem heap_keepE {W W' : World} {k : Nat} {x : Obj} (hx : Ext W W') (h : W.heap[k]? = some x) : W'.heap[k]? = some x := (hx.heap (Array.getElem?_eq_some_iff.1 h).1).trans h

theorem mfin_heap {ops : Array Oper} {kl : List Kd} {w0 W : World} {σ : Nat → Nat} (h : MFin ops kl w0 W σ) (i s : Nat) {mk : Nat → Value} {t : TypeId} {c c1 : Array Value} (hk : Kd.at kl i = .maker mk t c s c1) (hi : i < ops.size) (cs : Array Value) (he : (if s < ops.size then c1 else c) = cs) :
    W.heap[σ i]? = some (.cells cs t (0, 0)) := by
  have h2 := (h.blk i mk t c s c1 hi hk).2
  rwa [he] at h2

set_option maxRecDepth 20000 in
set_option maxHeartbeats 8000000 in
theorem canonicalPhase_any (r c : Int) {v : Value} {n : Nat} {xs : List Int} (hn : n ≤ 2000000) (w : World) (h : RV w 5 v n xs) :
    Calls Try.prog 46 #[.agg #[.int .i64 r, .int .i64 c, v]] w fun en w' => ∃ v', en = .returned (.tuple #[.agg #[.int .i64 (ifZ (cpOk r c n xs) r), .int .i64 (ifZ (cpOk r c n xs) c), v'], .int .i64 (ifZ (cpOk r c n xs) (cpK n xs : Nat)), .bool (cpOk r c n xs)]) ∧
      w'.ownsRow w.heap.size 34 5 v' (ifN (cpOk r c n xs) n) (IL (ifL (cpOk r c n xs) (cpM xs (cpK n xs) n))) ∧ Ext w w' := by
  have HI := fun w' (hx : Ext w w') => Lib.hid (indexNz_any hn w' (h.ext hx))
  have HV := fun w' (hx : Ext w w') => Lib.hid (isValidMatrix_any r c hn w' (h.ext hx))
  have HO : Hid (cpOk r c n xs = (mGood r c n xs && decide (0 ≤ fz xs n))) := rfl
  have HSC := fun hg k hk w' (hx : Ext w w') => Lib.hid (scaleMatrix_phase r c hn hg k hk w' (h.ext hx))
  obtain ⟨hl, a1, cap1, rfl, c1, c2, H⟩ := h
  have HX := Lib.hid H
  have HLX := Lib.hid hl
  clear H hl c1 c2
  have hfz := fz_bd xs n
  cases g1 : mGood r c n xs
  · rw [g1] at HV HO
    have HF : Hid (cpOk r c n xs = false) := HO.out.trans (by simp)
    generalize fz xs n = f at *
    clear hfz HSC
    go_enter Try.func46, Try.ntmps46
    go_wp2_with fail
    refine (HI _ (by repeat (first | exact Ext.refl _ | assumption | refine Ext.alloc ?_ _ | refine Ext.drew ?_ | refine Ext.drewN ?_ _ | refine Ext.setCell ?_ (by first | omega | (dsimp only; omega) | (simp; done) | (simp; omega)) _ | refine Ext.trans ?_ (by assumption)))).out.mono ?_
    rintro e w1 ⟨rfl, hx1⟩
    obtain ⟨hc1, hf1⟩ := hx1.cells
    have hz1 := hx1.size
    try simp at hz1
    have hs1_0 := sz2 (a := w.heap.size) (b := w1.heap.size) (by omega)
    go_wp2_with fail
    refine (HV _ (by repeat (first | exact Ext.refl _ | assumption | refine Ext.alloc ?_ _ | refine Ext.drew ?_ | refine Ext.drewN ?_ _ | refine Ext.setCell ?_ (by first | omega | (dsimp only; omega) | (simp; done) | (simp; omega)) _ | refine Ext.trans ?_ (by assumption)))).out.mono ?_
    rintro e w2 ⟨rfl, hx2⟩
    obtain ⟨hc2, hf2⟩ := hx2.cells
    have hz2 := hx2.size
    try simp at hz2
    have hs2_0 := sz2 (a := w.heap.size) (b := w2.heap.size) (by omega)
    go_wp2
    refine bodyPost_ret (v := .tuple #[.agg #[.int .i64 0, .int .i64 0, .slice none 0 0], .int .i64 0, .bool false]) (by simp [results, Try.results46, go_sem, *]) rfl ?_
    rw [HF.out]
    exact ⟨_, rfl, own_nil _ _ _ _, (by repeat (first | (with_reducible refine Ext.setCell ?_ (by first | (simp; done) | (simp; omega)) _) | with_reducible refine Ext.alloc ?_ _ | with_reducible refine Ext.drew ?_ | with_reducible refine Ext.drewN ?_ _ | with_reducible assumption | with_reducible exact Ext.refl _ | with_reducible refine Ext.trans ?_ (by with_reducible assumption)))⟩
  by_cases g2 : 0 ≤ fz xs n
  case neg =>
    rw [g1] at HV HO
    have HF : Hid (cpOk r c n xs = false) := HO.out.trans (by simp [g2])
    have hf : fz xs n = -1 := by omega
    rw [hf] at HI
    clear hfz HSC g2 hf
    go_enter Try.func46, Try.ntmps46
    go_wp2_with fail
    refine (HI _ (by repeat (first | exact Ext.refl _ | assumption | refine Ext.alloc ?_ _ | refine Ext.drew ?_ | refine Ext.drewN ?_ _ | refine Ext.setCell ?_ (by first | omega | (dsimp only; omega) | (simp; done) | (simp; omega)) _ | refine Ext.trans ?_ (by assumption)))).out.mono ?_
    rintro e w1 ⟨rfl, hx1⟩
    obtain ⟨hc1, hf1⟩ := hx1.cells
    have hz1 := hx1.size
    try simp at hz1
    have hs1_0 := sz2 (a := w.heap.size) (b := w1.heap.size) (by omega)
    go_wp2_with fail
    refine (HV _ (by repeat (first | exact Ext.refl _ | assumption | refine Ext.alloc ?_ _ | refine Ext.drew ?_ | refine Ext.drewN ?_ _ | refine Ext.setCell ?_ (by first | omega | (dsimp only; omega) | (simp; done) | (simp; omega)) _ | refine Ext.trans ?_ (by assumption)))).out.mono ?_
    rintro e w2 ⟨rfl, hx2⟩
    obtain ⟨hc2, hf2⟩ := hx2.cells
    have hz2 := hx2.size
    try simp at hz2
    have hs2_0 := sz2 (a := w.heap.size) (b := w2.heap.size) (by omega)
    go_wp2
    refine bodyPost_ret (v := .tuple #[.agg #[.int .i64 0, .int .i64 0, .slice none 0 0], .int .i64 0, .bool false]) (by simp [results, Try.results46, go_sem, *]) rfl ?_
    rw [HF.out]
    exact ⟨_, rfl, own_nil _ _ _ _, (by repeat (first | (with_reducible refine Ext.setCell ?_ (by first | (simp; done) | (simp; omega)) _) | with_reducible refine Ext.alloc ?_ _ | with_reducible refine Ext.drew ?_ | with_reducible refine Ext.drewN ?_ _ | with_reducible assumption | with_reducible exact Ext.refl _ | with_reducible refine Ext.trans ?_ (by with_reducible assumption)))⟩
  obtain ⟨j, hj⟩ : ∃ j : Nat, fz xs n = j := ⟨(fz xs n).toNat, by omega⟩
  have hjn : j < n := by omega
  have hjn' : (j : Int) < n := by omega
  have hXr : (dyAt xs j).rg = true := (GD_rg (mOk_at (mGood_facts g1).2.2.2 hjn)).1
  have HKK : Hid (cpK n xs = cpB (dyAt xs j) 7) := by unfold Hid cpK; rw [hj]; rfl
  have HSC := HSC g1 (cpK n xs) (by rw [HKK.out]; exact cpB_le _ _)
  rw [g1] at HV HO
  rw [hj] at HI HO
  have HT : Hid (cpOk r c n xs = true) := HO.out.trans (by simp)
  have HPH := fun w' => Lib.hid (phase_any (cpK n xs) (by rw [HKK.out]; exact cpB_le _ _) w')
  have HMO := fun k hk w' => Lib.hid (mulOmega_any (dyAt xs j) hXr k hk w')
  have HCR := fun k w' => Lib.hid (compareRings_any (turns (k + 1) (dyAt xs j)) (turns (cpB (dyAt xs j) k) (dyAt xs j)) w')
  have HLT : Hid (∀ k, decide (0 < cmpTo [(turns (k + 1) (dyAt xs j)).a, (turns (k + 1) (dyAt xs j)).b, (turns (k + 1) (dyAt xs j)).c, (turns (k + 1) (dyAt xs j)).d] [(turns (cpB (dyAt xs j) k) (dyAt xs j)).a, (turns (cpB (dyAt xs j) k) (dyAt xs j)).b, (turns (cpB (dyAt xs j) k) (dyAt xs j)).c, (turns (cpB (dyAt xs j) k) (dyAt xs j)).d] 4) = rLt (turns (cpB (dyAt xs j) k) (dyAt xs j)) (turns (k + 1) (dyAt xs j))) := fun k => cmp_lt _ _
  have HBS : Hid (∀ k, cpB (dyAt xs j) (k + 1) = if rLt (turns (cpB (dyAt xs j) k) (dyAt xs j)) (turns (k + 1) (dyAt xs j)) then k + 1 else cpB (dyAt xs j) k) := fun _ => rfl
  clear hfz g1 g2 hj hXr HO
  have HDX : Hid (dyAt xs j = ⟨at3 xs (j * 5), at3 xs (j * 5 + 1), at3 xs (j * 5 + 2), at3 xs (j * 5 + 3)⟩) := rfl
  generalize cpK n xs = KK at *
  obtain ⟨X, hX⟩ : ∃ X, dyAt xs j = X := ⟨_, rfl⟩
  simp only [hX] at HKK HMO HCR HLT HBS HDX
  clear hX
  generalize turns KK R4.one = P at *
  go_enter Try.func46, Try.ntmps46
  go_wp2_with fail
  refine (HI _ (by repeat (first | exact Ext.refl _ | assumption | refine Ext.alloc ?_ _ | refine Ext.drew ?_ | refine Ext.drewN ?_ _ | refine Ext.setCell ?_ (by first | omega | (dsimp only; omega) | (simp; done) | (simp; omega)) _ | refine Ext.trans ?_ (by assumption)))).out.mono ?_
  rintro e w1 ⟨rfl, hx1⟩
  obtain ⟨hc1, hf1⟩ := hx1.cells
  have hz1 := hx1.size
  try simp at hz1
  have hs1_0 := sz2 (a := w.heap.size) (b := w1.heap.size) (by omega)
  go_wp2_with fail
  refine (HV _ (by repeat (first | exact Ext.refl _ | assumption | refine Ext.alloc ?_ _ | refine Ext.drew ?_ | refine Ext.drewN ?_ _ | refine Ext.setCell ?_ (by first | omega | (dsimp only; omega) | (simp; done) | (simp; omega)) _ | refine Ext.trans ?_ (by assumption)))).out.mono ?_
  rintro e w2 ⟨rfl, hx2⟩
  have hA2 : w2.heap[w.heap.size]? = some (.cells #[.int .i64 r, .int .i64 c, .slice a1 n cap1] 51 (0, 0)) := (hx2.heap (by omega)).trans ((hx1.heap (by simp <;> omega)).trans (heap_alloc_lt (heap_alloc_new _ _)))
  have hR2 : w2.heap[w.heap.size + 1]? = some (.cells #[.int .i64 0, .int .i64 0, .slice none 0 0] 51 (0, 0)) := (hx2.heap (by omega)).trans ((hx1.heap (by simp <;> omega)).trans (heap_alloc_at _ _ _ (by simp)))
  have hE2 : Ext w w2 := (by repeat (first | (with_reducible refine Ext.setCell ?_ (by first | (simp; done) | (simp; omega)) _) | with_reducible refine Ext.alloc ?_ _ | with_reducible refine Ext.drew ?_ | with_reducible refine Ext.drewN ?_ _ | with_reducible assumption | with_reducible exact Ext.refl _ | with_reducible refine Ext.trans ?_ (by with_reducible assumption)))
  have HA2 := Lib.hid hA2
  have HR2 := Lib.hid hR2
  have lA2 := (Array.getElem?_eq_some_iff.1 hA2).1
  have lR2 := (Array.getElem?_eq_some_iff.1 hR2).1
  have zA2 : ∀ q, w2.cell? ⟨w.heap.size, q, none⟩ = (#[.int .i64 r, .int .i64 c, .slice a1 n cap1] : Array Value)[q]? := fun q => cell_of_row _ _ _ _ _ _ hA2
  clear hA2 hR2 HI HV hc1 hf1 hx1 hx2
  obtain ⟨bx, offx, rfl, hbx, hcx⟩ := HX.out (by omega)
  have HCX : Hid (∀ W, Ext w W → W.cell? ⟨bx, offx + j * 5, none⟩ = some (.int .i64 X.a) ∧ W.cell? ⟨bx, offx + j * 5 + 1, none⟩ = some (.int .i64 X.b) ∧ W.cell? ⟨bx, offx + j * 5 + 2, none⟩ = some (.int .i64 X.c) ∧ W.cell? ⟨bx, offx + j * 5 + 3, none⟩ = some (.int .i64 X.d)) := by
    intro W hW
    have e := HDX.out
    have l0 := HLX.out
    refine ⟨?_, ?_, ?_, ?_⟩
    · rw [hW.cells.1 _ _ hbx, hcx _ _ (at3_get (by omega)), e]
    · rw [Nat.add_assoc, hW.cells.1 _ _ hbx, hcx _ _ (at3_get (by omega)), e]
    · rw [Nat.add_assoc, hW.cells.1 _ _ hbx, hcx _ _ (at3_get (by omega)), e]
    · rw [Nat.add_assoc, hW.cells.1 _ _ hbx, hcx _ _ (at3_get (by omega)), e]
  clear hcx HDX
  obtain ⟨zx0, zx1, zx2, zx3⟩ := HCX.out w2 hE2
  have hbx2 : bx < w2.heap.size := by have := hE2.size; omega
  go_wp2
  refine wp_region_madeC (m := 61) (by kernel_rfl) (by kernel_rfl) rfl (fun hxc => ?_)
  repeat (refine mw_quiet ?_; apply Exists.intro; refine ⟨fun σ => ?_, ?_⟩; (first | (go_simp; rfl) | fail); simp only [Act.put, List.setIfInBounds_toArray, List.set_cons_succ, List.set_cons_zero, List.nil_append, List.cons_append])
  refine mw_maker (fun n => .pointer (some ⟨n, 0, none⟩)) 32 #[.int .i64 0, .int .i64 0, .int .i64 0, .int .i64 0] 8 #[.int .i64 X.a, .int .i64 X.b, .int .i64 X.c, .int .i64 X.d] rfl (fun σ x => ?_) ?_
  · go_simp
  simp only [Act.put, List.setIfInBounds_toArray, List.set_cons_succ, List.set_cons_zero, List.nil_append, List.cons_append, List.length_cons, List.length_nil, Nat.reduceAdd]
  repeat (refine mw_quiet ?_; apply Exists.intro; refine ⟨fun σ => ?_, ?_⟩; (first | (go_simp; rfl) | fail); simp only [Act.put, List.setIfInBounds_toArray, List.set_cons_succ, List.set_cons_zero, List.nil_append, List.cons_append])
  refine mw_store 6 rfl rfl (fun σ x hb hc => ?_) ?_
  · have hcell : ∀ k, x.w.cell? ⟨σ 6, k, none⟩ = (#[.int .i64 0, .int .i64 0, .int .i64 0, .int .i64 0] : Array Value)[k]? := fun k => cell_of_row _ _ _ _ _ _ hc
    have hfr : ∀ k, x.w.frozen? ⟨σ 6, k, none⟩ = false := fun k => frozen_of_row _ _ _ _ _ hc
    apply Exists.intro
    refine ⟨?_, ?_⟩
    · go_simp
      rfl
    · exact ((((Fill.start hc).set 0 _).set 1 _).set 2 _).set 3 _
  simp only [Act.put, List.nil_append, List.cons_append]
  repeat (refine mw_quiet ?_; apply Exists.intro; refine ⟨fun σ => ?_, ?_⟩; (first | (go_simp; rfl) | fail); simp only [Act.put, List.setIfInBounds_toArray, List.set_cons_succ, List.set_cons_zero, List.nil_append, List.cons_append])
  refine ⟨by kernel_rfl, fun σ w3 hF3 => ?_⟩
  have hx3 := hF3.ext
  obtain ⟨hm3_6, hl3_6, hq3_6, hr3_6⟩ := mfin_blk hF3 6 8 rfl (by decide) #[.int .i64 X.a, .int .i64 X.b, .int .i64 X.c, .int .i64 X.d] rfl
  have hh3_6 := Lib.hid (mfin_heap hF3 6 8 rfl (by decide) #[.int .i64 X.a, .int .i64 X.b, .int .i64 X.c, .int .i64 X.d] rfl)
  dsimp only
  generalize σ 6 = B3_6 at *
  clear hF3 hxc
  obtain ⟨hc3, hf3⟩ := hx3.cells
  have hz3 := hx3.size
  try simp at hz3
  clear hc3 hf3 hq3_6 hr3_6
  have HA3 : Hid (w3.heap[w.heap.size]? = _) := (hx3.heap lA2).trans HA2.out
  have HR3 : Hid (w3.heap[w.heap.size + 1]? = _) := (hx3.heap lR2).trans HR2.out
  have HE3 := Lib.hid (hE2.trans hx3)
  have gB : w.heap.size + 1 < B3_6 := by omega
  clear hx3 zx0 zx1 zx2 zx3 zA2 hbx2 HA2 HR2 hE2 hz3 lA2 lR2 hm3_6 hl3_6
  go_wp2
  go_loopw [6, 8, 9, 10] (fun s6 s8 _ _ wr => ∃ k : Nat, k ≤ 7 ∧ s8 = .int .i64 ((k : Int) + 1) ∧ s6 = .int .i64 (cpB X k : Nat) ∧
    Hid (wr.heap[B3_6]? = some (.cells #[.int .i64 (turns (cpB X k) X).a, .int .i64 (turns (cpB X k) X).b, .int .i64 (turns (cpB X k) X).c, .int .i64 (turns (cpB X k) X).d] 32 (0, 0))) ∧
    Hid (wr.heap[w.heap.size]? = some (.cells #[.int .i64 r, .int .i64 c, .slice (some ⟨bx, offx, none⟩) n cap1] 51 (0, 0))) ∧
    Hid (wr.heap[w.heap.size + 1]? = some (.cells #[.int .i64 0, .int .i64 0, .slice none 0 0] 51 (0, 0))) ∧ Ext w wr) (fun _ s8 _ _ _ => 8 - (intOf s8).toNat)
  case atStart => exact ⟨0, by omega, rfl, rfl, hh3_6, HA3, HR3, HE3.out⟩
  case round =>
    clear hh3_6 HA3 HR3 HE3
    obtain ⟨k, hk, rfl, rfl, HB, HA, HR, hE⟩ := hrel
    obtain ⟨zx0, zx1, zx2, zx3⟩ := HCX.out wr hE
    have lA := (Array.getElem?_eq_some_iff.1 HA.out).1
    have lR := (Array.getElem?_eq_some_iff.1 HR.out).1
    have lB := (Array.getElem?_eq_some_iff.1 HB.out).1
    have lx : bx < wr.heap.size := by have := hE.size; omega
    have zA : ∀ q, wr.cell? ⟨w.heap.size, q, none⟩ = (#[.int .i64 r, .int .i64 c, .slice (some ⟨bx, offx, none⟩) n cap1] : Array Value)[q]? := fun q => cell_of_row _ _ _ _ _ _ HA.out
    by_cases hlt : k < 7
    · have hlt' : (k : Int) + 1 < 8 := by omega
      have HM := fun w' => HMO (k + 1) (by omega) w'
      rw [show ((k + 1 : Nat) : Int) = (k : Int) + 1 by push_cast; rfl] at HM
      have HC := fun w' => HCR k w'
      have HL := Lib.hid (HLT.out k)
      have HS := Lib.hid (HBS.out k)
      clear HMO HCR HLT HBS HPH HSC
      generalize cmpTo [(turns (k + 1) X).a, (turns (k + 1) X).b, (turns (k + 1) X).c, (turns (k + 1) X).d] [(turns (cpB X k) X).a, (turns (cpB X k) X).b, (turns (cpB X k) X).c, (turns (cpB X k) X).d] 4 = v at *
      generalize rLt (turns (cpB X k) X) (turns (k + 1) X) = o at *
      generalize hY : turns (cpB X k) X = Y at *
      have HY := Lib.hid hY
      clear hY
      obtain ⟨Z, hZ⟩ : ∃ Z, turns (k + 1) X = Z := ⟨_, rfl⟩
      simp only [hZ] at HM HC
      have HZ := Lib.hid hZ
      clear hZ
      generalize hb : cpB X k = b at *
      have HBK := Lib.hid hb
      clear hb
      have zB : ∀ q, wr.cell? ⟨B3_6, q, none⟩ = (#[.int .i64 Y.a, .int .i64 Y.b, .int .i64 Y.c, .int .i64 Y.d] : Array Value)[q]? := fun q => cell_of_row _ _ _ _ _ _ HB.out
      have fB : ∀ q, wr.frozen? ⟨B3_6, q, none⟩ = false := fun q => frozen_of_row _ _ _ _ _ HB.out
      go_wp2_with fail
      refine ((HM _).out).mono ?_
      rintro e w4 ⟨rfl, hx4⟩
      obtain ⟨hc4, hf4⟩ := hx4.cells
      have hz4 := hx4.size
      try simp at hz4
      have lB4 : B3_6 < w4.heap.size := by have := hx4.size; omega
      have lA4 : w.heap.size < w4.heap.size := by omega
      go_wp2_with fail
      refine ((HC _).out).mono ?_
      rintro e w5 ⟨rfl, hx5⟩
      obtain ⟨hc5, hf5⟩ := hx5.cells
      have hz5 := hx5.size
      try simp at hz5
      have hs5_0 := sz1 (a := w4.heap.size) (b := w5.heap.size) (by omega)
      have hE5 : Ext w w5 := (by repeat (first | (with_reducible refine Ext.setCell ?_ (by first | (simp; done) | (simp; omega)) _) | with_reducible refine Ext.alloc ?_ _ | with_reducible refine Ext.drew ?_ | with_reducible refine Ext.drewN ?_ _ | with_reducible assumption | with_reducible exact Ext.refl _ | with_reducible refine Ext.trans ?_ (by with_reducible assumption)))
      have hB5 := Lib.hid ((hx5.heap (by simp; omega)).trans (heap_alloc_lt (o := .cells #[.int .i64 Z.a, .int .i64 Z.b, .int .i64 Z.c, .int .i64 Z.d] 32 (0, 0)) ((hx4.heap lB).trans HB.out)))
      have hA5 := Lib.hid ((hx5.heap (by simp; omega)).trans (heap_alloc_lt (o := .cells #[.int .i64 Z.a, .int .i64 Z.b, .int .i64 Z.c, .int .i64 Z.d] 32 (0, 0)) ((hx4.heap lA).trans HA.out)))
      have hR5 := Lib.hid ((hx5.heap (by simp; omega)).trans (heap_alloc_lt (o := .cells #[.int .i64 Z.a, .int .i64 Z.b, .int .i64 Z.c, .int .i64 Z.d] 32 (0, 0)) ((hx4.heap lR).trans HR.out)))
      cases o
      · have hv : ¬ 0 < v := by simpa using HL.out
        go_wp2
        go_roundw
        case rel => 
          have e : cpB X (k + 1) = b := HS.out.trans (if_neg (by simp))
          refine ⟨k + 1, by omega, by go_num, by rw [e], ?_, hA5, hR5, hE5⟩
          rw [e, HY.out]
          exact hB5
        case measure => simp [intOf]; omega
      · have hv : 0 < v := by simpa using HL.out
        go_wp2
        go_region
        all_goals
          go_wp2
          go_roundw
          case rel =>
            have e : cpB X (k + 1) = k + 1 := HS.out.trans (by simp)
            refine ⟨k + 1, by omega, by go_num, by rw [e]; go_num, ?_, heap_sets4 (by omega) hA5.out, heap_sets4 (by omega) hR5.out, (by repeat (first | (with_reducible refine Ext.setCell ?_ (by first | (simp; done) | (simp; omega)) _) | with_reducible refine Ext.alloc ?_ _ | with_reducible refine Ext.drew ?_ | with_reducible refine Ext.drewN ?_ _ | with_reducible assumption | with_reducible exact Ext.refl _ | with_reducible refine Ext.trans ?_ (by with_reducible assumption)))⟩
            rw [e, HZ.out]
            exact heap_set4 hB5.out
          case measure => simp [intOf]; omega
    · obtain rfl : k = 7 := by omega
      clear HMO HCR HLT HBS
      unfold Hid at HKK
      rw [← HKK]
      clear HKK
      clear zx0 zx1 zx2 zx3 HCX
      have HSC2 : Hid (∀ W, Ext w W → Calls Try.prog 99 #[.agg #[.int .i64 r, .int .i64 c, .slice (some ⟨bx, offx, none⟩) n cap1], .agg #[.int .i64 P.a, .int .i64 P.b, .int .i64 P.c, .int .i64 P.d, .int .i64 0]] W fun en w' => ∃ v bs, en = .returned (.tuple #[.agg #[.int .i64 r, .int .i64 c, v], .bool true]) ∧ bs = W.heap.size ∧
          w'.ownsRow bs 34 5 v n (IL (cpM xs KK n)) ∧ Ext W w') := fun W hW => (HSC W hW).out.mono fun e w' ⟨v, h1, h2, h3⟩ => ⟨v, _, h1, rfl, h2, h3⟩
      clear HSC
      have zR : ∀ q, wr.cell? ⟨w.heap.size + 1, q, none⟩ = (#[.int .i64 0, .int .i64 0, .slice none 0 0] : Array Value)[q]? := fun q => cell_of_row _ _ _ _ _ _ HR.out
      have fR : ∀ q, wr.frozen? ⟨w.heap.size + 1, q, none⟩ = false := fun q => frozen_of_row _ _ _ _ _ HR.out
      have HK : Hid (∀ W, Ext wr W → W.cell? ⟨w.heap.size, 0, none⟩ = some (.int .i64 r) ∧ W.cell? ⟨w.heap.size, 1, none⟩ = some (.int .i64 c) ∧ W.cell? ⟨w.heap.size, 2, none⟩ = some (.slice (some ⟨bx, offx, none⟩) n cap1) ∧ W.cell? ⟨w.heap.size + 1, 0, none⟩ = some (.int .i64 0) ∧ W.frozen? ⟨w.heap.size + 1, 0, none⟩ = false ∧ W.cell? ⟨w.heap.size + 1, 1, none⟩ = some (.int .i64 0) ∧ W.frozen? ⟨w.heap.size + 1, 1, none⟩ = false ∧ W.cell? ⟨w.heap.size + 1, 2, none⟩ = some (.slice none 0 0) ∧ W.frozen? ⟨w.heap.size + 1, 2, none⟩ = false) := fun W hW => by
        have z := fun q => cell_of_row W w.heap.size q _ _ _ ((hW.heap lA).trans HA.out)
        have y := fun q => cell_of_row W (w.heap.size + 1) q _ _ _ ((hW.heap lR).trans HR.out)
        have f := fun q => frozen_of_row W (w.heap.size + 1) q _ _ ((hW.heap lR).trans HR.out)
        exact ⟨z 0, z 1, z 2, y 0, f 0, y 1, f 1, y 2, f 2⟩
      clear HB
      go_wp2
      go_region_held3 (fun w' => w'.cell? ⟨w.heap.size, 0, none⟩ = some (.int .i64 r) ∧ w'.cell? ⟨w.heap.size, 1, none⟩ = some (.int .i64 c) ∧ w'.cell? ⟨w.heap.size, 2, none⟩ = some (.slice (some ⟨bx, offx, none⟩) n cap1) ∧ w'.cell? ⟨w.heap.size + 1, 0, none⟩ = some (.int .i64 0) ∧ w'.frozen? ⟨w.heap.size + 1, 0, none⟩ = false ∧ w'.cell? ⟨w.heap.size + 1, 1, none⟩ = some (.int .i64 0) ∧ w'.frozen? ⟨w.heap.size + 1, 1, none⟩ = false ∧ w'.cell? ⟨w.heap.size + 1, 2, none⟩ = some (.slice none 0 0) ∧ w'.frozen? ⟨w.heap.size + 1, 2, none⟩ = false) (exact HK.out _ (by repeat (first | (with_reducible refine Ext.setCell ?_ (by first | (simp; done) | (simp; omega)) _) | with_reducible refine Ext.alloc ?_ _ | with_reducible refine Ext.drew ?_ | with_reducible refine Ext.drewN ?_ _ | with_reducible assumption | with_reducible exact Ext.refl _ | with_reducible refine Ext.trans ?_ (by with_reducible assumption)))) (first
        | (go_at_call 100; refine (HPH _).out.mono ?_; rintro e w4 ⟨rfl, hx4⟩; obtain ⟨hc4, hf4⟩ := hx4.cells; have hz4 := hx4.size; try simp at hz4)
        | (go_at_call 99; refine (HSC2.out _ (by repeat (first | (with_reducible refine Ext.setCell ?_ (by first | (simp; done) | (simp; omega)) _) | with_reducible refine Ext.alloc ?_ _ | with_reducible refine Ext.drew ?_ | with_reducible refine Ext.drewN ?_ _ | with_reducible assumption | with_reducible exact Ext.refl _ | with_reducible refine Ext.trans ?_ (by with_reducible assumption)))).mono ?_; rintro e w5 ⟨v5, bs, rfl, hbs, o5, hx5⟩; (try simp at hbs); obtain ⟨a5, cap5, rfl, q5, q6, q7⟩ := own_shape o5; have O5 := Lib.hid o5; obtain ⟨hc5, hf5⟩ := hx5.cells; have hz5 := hx5.size; (try simp at hz5); (try have hs4 : wr.heap.size < w4.heap.size := by omega); (try have hs5 : wr.heap.size < w5.heap.size := by omega); (try have hs6 : w4.heap.size < w5.heap.size := by omega); clear o5 q7))
      all_goals
        go_wp2
        refine bodyPost_ret (v := .tuple #[.agg #[.int .i64 r, .int .i64 c, .slice a5 n cap5], .int .i64 KK, .bool true]) (by simp [results, Try.results46, go_sem, *]) rfl ?_
        rw [HT.out]
        refine ⟨_, rfl, (by refine own_base (base := bs) ?_ (by first | omega | (simp; omega)); repeat (first | (with_reducible exact O5.out) | (with_reducible refine own_set ?_ (by first | omega | (simp; done) | (simp; omega)) _) | (with_reducible refine own_ext ?_ ((Ext.refl _).alloc _)) | (with_reducible refine own_ext ?_ (Ext.refl _).drew) | (with_reducible refine own_ext ?_ ((Ext.refl _).drewN _)) | (exact O5.out))), (by repeat (first | (with_reducible refine Ext.setCell ?_ (by first | (simp; done) | (simp; omega)) _) | with_reducible refine Ext.alloc ?_ _ | with_reducible refine Ext.drew ?_ | with_reducible refine Ext.drewN ?_ _ | with_reducible assumption | with_reducible exact Ext.refl _ | with_reducible refine Ext.trans ?_ (by with_reducible assumption)))⟩

end Go.Proofs.Ytnlhonlfkmpleaa
