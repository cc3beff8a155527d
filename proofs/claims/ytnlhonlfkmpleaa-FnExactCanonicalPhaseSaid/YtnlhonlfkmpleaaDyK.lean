/- Dyadic numbers: the laws on the sum and the difference. -/
import Derived.Test.YtnlhonlfkmpleaaDyJ
namespace Go.Proofs.Ytnlhonlfkmpleaa
open Go.RowKit Go.Lib
set_option linter.unusedVariables false
set_option linter.unusedSimpArgs false

theorem raise_neg : ∀ (k : Nat) (Y : R4), raiseV k Y.neg = (raiseV k Y).neg ∧ raiseB k Y.neg = raiseB k Y
  | 0, _ => ⟨rfl, rfl⟩
  | k + 1, Y => by
    have e1 : Y.neg.root = Y.root.neg := by
      simp only [R4.neg, R4.root, R4.mk.injEq]
      omega
    have e2 : Y.root.neg.rg = Y.root.rg := by
      cases h : Y.root.rg
      · cases h2 : Y.root.neg.rg
        · rfl
        · have := rg_neg h2
          simp only [R4.neg, Int.neg_neg] at this
          rw [← h]
          exact this.symm
      · exact rg_neg h
    have e3 : Y.root.neg.clip = Y.root.clip.neg := by
      cases h : Y.root.rg
      · rw [clip_false (e2.trans h), clip_false h]; rfl
      · rw [clip_true (e2.trans h), clip_true h]
    obtain ⟨h1, h2⟩ := raise_neg k Y.root.clip
    have f1 : raiseV (k + 1) Y.neg = raiseV k Y.neg.root.clip := rfl
    have f2 : raiseB (k + 1) Y.neg = (!Y.neg.root.rg || raiseB k Y.neg.root.clip) := rfl
    have f3 : raiseV (k + 1) Y = raiseV k Y.root.clip := rfl
    have f4 : raiseB (k + 1) Y = (!Y.root.rg || raiseB k Y.root.clip) := rfl
    rw [f1, f2, f3, f4, e1, e3, e2, h1, h2]
    exact ⟨rfl, rfl⟩
theorem sub_eq (A B : R4) : A.sub B = A.add B.neg := by
  simp only [R4.sub, R4.add, R4.neg, R4.mk.injEq]
  omega
theorem cbS_sub (X : R4) (m : Nat) (Y : R4) (n : Nat) : cbS R4.sub X m Y n = dyS X m Y.neg n := by
  unfold cbS dyS
  rw [sub_eq, (raise_neg _ _).1]
theorem cbBad_sub (X : R4) (m : Nat) (Y : R4) (n : Nat) : cbBad R4.sub X m Y n = dyBad X m Y.neg n := by
  unfold cbBad dyBad
  rw [cbS_sub, (raise_neg _ _).2]
theorem cbOk_sub (X : R4) (e : Int) (Y : R4) (j : Int) : cbOk R4.sub X e Y j = adOk X e Y.neg j := by
  unfold cbOk adOk
  rw [cbBad_sub, neg_valid]
theorem cbX_sub (X : R4) (e : Int) (Y : R4) (j : Int) : cbX R4.sub X e Y j = adX X e Y.neg j ∧ cbE R4.sub X e Y j = adE X e Y.neg j := by
  unfold cbX adX cbE adE dyX dyE
  rw [cbOk_sub, cbS_sub]
  exact ⟨rfl, rfl⟩
theorem cb_add (X : R4) (e : Int) (Y : R4) (j : Int) : cbOk R4.add X e Y j = adOk X e Y j ∧ cbX R4.add X e Y j = adX X e Y j ∧ cbE R4.add X e Y j = adE X e Y j := ⟨rfl, rfl, rfl⟩

theorem addDyadic_any (X : R4) (e : Int) (Y : R4) (j : Int) (w : World) :
    Calls Try.prog 20 #[.agg #[.int .i64 X.a, .int .i64 X.b, .int .i64 X.c, .int .i64 X.d, .int .i64 e], .agg #[.int .i64 Y.a, .int .i64 Y.b, .int .i64 Y.c, .int .i64 Y.d, .int .i64 j]] w fun en w' =>
      en = .returned (.tuple #[.agg #[.int .i64 (adX X e Y j).a, .int .i64 (adX X e Y j).b, .int .i64 (adX X e Y j).c, .int .i64 (adX X e Y j).d, .int .i64 (adE X e Y j)], .bool (adOk X e Y j)]) ∧ Ext w w' := by
  have H := fun w' => Lib.hid (combined_add X e Y j w')
  obtain ⟨e1, e2, e3⟩ := cb_add X e Y j
  simp only [e1, e2, e3] at H
  clear e1 e2 e3
  generalize adX X e Y j = Q at *
  generalize adE X e Y j = q at *
  generalize adOk X e Y j = o at *
  go_enter Try.func20, Try.ntmps20
  go_wp2_with fail
  refine ((H _).out).mono ?_
  rintro e w1 ⟨rfl, hx1⟩
  obtain ⟨hc1, hf1⟩ := hx1.cells
  have hz1 := hx1.size
  try simp at hz1
  have hs1_0 := sz3 (a := w.heap.size) (b := w1.heap.size) (by omega)
  go_wp2
  refine bodyPost_ret (v := .tuple #[.agg #[.int .i64 Q.a, .int .i64 Q.b, .int .i64 Q.c, .int .i64 Q.d, .int .i64 q], .bool o]) (by simp [results, Try.results20, go_sem, *]) rfl ⟨rfl, ?_⟩
  exact (by repeat (first | (with_reducible refine Ext.setCell ?_ (by first | (simp; done) | (simp; omega)) _) | with_reducible refine Ext.alloc ?_ _ | with_reducible refine Ext.drew ?_ | with_reducible refine Ext.drewN ?_ _ | with_reducible assumption | with_reducible exact Ext.refl _ | with_reducible refine Ext.trans ?_ (by with_reducible assumption)))

theorem subDyadic_any (X : R4) (e : Int) (Y : R4) (j : Int) (w : World) :
    Calls Try.prog 23 #[.agg #[.int .i64 X.a, .int .i64 X.b, .int .i64 X.c, .int .i64 X.d, .int .i64 e], .agg #[.int .i64 Y.a, .int .i64 Y.b, .int .i64 Y.c, .int .i64 Y.d, .int .i64 j]] w fun en w' =>
      en = .returned (.tuple #[.agg #[.int .i64 (adX X e Y.neg j).a, .int .i64 (adX X e Y.neg j).b, .int .i64 (adX X e Y.neg j).c, .int .i64 (adX X e Y.neg j).d, .int .i64 (adE X e Y.neg j)], .bool (adOk X e Y.neg j)]) ∧ Ext w w' := by
  have H := fun w' => Lib.hid (combined_sub X e Y j w')
  simp only [cbOk_sub, (cbX_sub X e Y j).1, (cbX_sub X e Y j).2] at H
  generalize adX X e Y.neg j = Q at *
  generalize adE X e Y.neg j = q at *
  generalize adOk X e Y.neg j = o at *
  go_enter Try.func23, Try.ntmps23
  go_wp2_with fail
  refine ((H _).out).mono ?_
  rintro e w1 ⟨rfl, hx1⟩
  obtain ⟨hc1, hf1⟩ := hx1.cells
  have hz1 := hx1.size
  try simp at hz1
  have hs1_0 := sz3 (a := w.heap.size) (b := w1.heap.size) (by omega)
  go_wp2
  refine bodyPost_ret (v := .tuple #[.agg #[.int .i64 Q.a, .int .i64 Q.b, .int .i64 Q.c, .int .i64 Q.d, .int .i64 q], .bool o]) (by simp [results, Try.results23, go_sem, *]) rfl ⟨rfl, ?_⟩
  exact (by repeat (first | (with_reducible refine Ext.setCell ?_ (by first | (simp; done) | (simp; omega)) _) | with_reducible refine Ext.alloc ?_ _ | with_reducible refine Ext.drew ?_ | with_reducible refine Ext.drewN ?_ _ | with_reducible assumption | with_reducible exact Ext.refl _ | with_reducible refine Ext.trans ?_ (by with_reducible assumption)))

theorem law_AddDyadic (a b c d e f g h i j : Int) (w : World) :
    Calls Try.prog 4 #[.agg #[.int .i64 a, .int .i64 b, .int .i64 c, .int .i64 d, .int .i64 e], .agg #[.int .i64 f, .int .i64 g, .int .i64 h, .int .i64 i, .int .i64 j]] w fun e w' => e = .returned (.bool true) ∧ Ext w w' := by
  have HS := fun w' => Lib.hid (s_addDyadic_any ⟨a, b, c, d⟩ e ⟨f, g, h, i⟩ j w')
  have HI := fun w' => Lib.hid (addDyadic_any ⟨a, b, c, d⟩ e ⟨f, g, h, i⟩ j w')
  simp only at HS HI
  generalize adX ⟨a, b, c, d⟩ e ⟨f, g, h, i⟩ j = Q at *
  generalize adE ⟨a, b, c, d⟩ e ⟨f, g, h, i⟩ j = q at *
  generalize adOk ⟨a, b, c, d⟩ e ⟨f, g, h, i⟩ j = o at *
  go_enter Try.func4, Try.ntmps4
  go_wp2
  refine wp_region_madeC (m := 34) (by kernel_rfl) (by kernel_rfl) rfl (fun hxc => ?_)
  repeat (refine mw_quiet ?_; apply Exists.intro; refine ⟨fun σ => ?_, ?_⟩; (first | (go_simp; rfl) | (go_simp; intro x; first | (go_at_call 19; with_reducible exact toDyadic_any _ _ _ _ _ _) | (go_at_call 18; with_reducible exact (HS _).out) | (go_at_call 19; exact toDyadic_any _ _ _ _ _ _) | (go_at_call 18; exact (HS _).out))); simp only [Act.put, List.setIfInBounds_toArray, List.set_cons_succ, List.set_cons_zero, List.nil_append, List.cons_append])
  refine mw_maker (fun n => .pointer (some ⟨n, 0, none⟩)) 34 #[.int .i64 0, .int .i64 0, .int .i64 0, .int .i64 0, .int .i64 0] 9 #[.int .i64 Q.a, .int .i64 Q.b, .int .i64 Q.c, .int .i64 Q.d, .int .i64 q] rfl (fun σ x => ?_) ?_
  · go_simp
  simp only [Act.put, List.setIfInBounds_toArray, List.set_cons_succ, List.set_cons_zero, List.nil_append, List.cons_append, List.length_cons, List.length_nil, Nat.reduceAdd]
  repeat (refine mw_quiet ?_; apply Exists.intro; refine ⟨fun σ => ?_, ?_⟩; (first | (go_simp; rfl) | (go_simp; intro x; first | (go_at_call 19; with_reducible exact toDyadic_any _ _ _ _ _ _) | (go_at_call 18; with_reducible exact (HS _).out) | (go_at_call 19; exact toDyadic_any _ _ _ _ _ _) | (go_at_call 18; exact (HS _).out))); simp only [Act.put, List.setIfInBounds_toArray, List.set_cons_succ, List.set_cons_zero, List.nil_append, List.cons_append])
  refine mw_store 8 rfl rfl (fun σ x hb hc => ?_) ?_
  · have hcell : ∀ k, x.w.cell? ⟨σ 8, k, none⟩ = (#[.int .i64 0, .int .i64 0, .int .i64 0, .int .i64 0, .int .i64 0] : Array Value)[k]? := fun k => cell_of_row _ _ _ _ _ _ hc
    have hfr : ∀ k, x.w.frozen? ⟨σ 8, k, none⟩ = false := fun k => frozen_of_row _ _ _ _ _ hc
    apply Exists.intro
    refine ⟨?_, ?_⟩
    · go_simp
      rfl
    · exact (((((Fill.start hc).set 0 _).set 1 _).set 2 _).set 3 _).set 4 _
  simp only [Act.put, List.nil_append, List.cons_append]
  repeat (refine mw_quiet ?_; apply Exists.intro; refine ⟨fun σ => ?_, ?_⟩; (first | (go_simp; rfl) | (go_simp; intro x; first | (go_at_call 19; with_reducible exact toDyadic_any _ _ _ _ _ _) | (go_at_call 18; with_reducible exact (HS _).out) | (go_at_call 19; exact toDyadic_any _ _ _ _ _ _) | (go_at_call 18; exact (HS _).out))); simp only [Act.put, List.setIfInBounds_toArray, List.set_cons_succ, List.set_cons_zero, List.nil_append, List.cons_append])
  refine ⟨by kernel_rfl, fun σ w1 hF1 => ?_⟩
  have hx1 := hF1.ext
  obtain ⟨hm1_8, hl1_8, hq1_8, hr1_8⟩ := mfin_blk hF1 8 9 rfl (by decide) #[.int .i64 Q.a, .int .i64 Q.b, .int .i64 Q.c, .int .i64 Q.d, .int .i64 q] rfl
  dsimp only
  generalize σ 8 = B1_8 at *
  clear hF1 hxc
  obtain ⟨hc1, hf1⟩ := hx1.cells
  have hz1 := hx1.size
  try simp at hz1
  have hs1_0 := sz2 (a := w.heap.size) (b := w1.heap.size) (by omega)
  go_wp2
  refine wp_region_madeC (m := 34) (by kernel_rfl) (by kernel_rfl) rfl (fun hxc => ?_)
  repeat (refine mw_quiet ?_; apply Exists.intro; refine ⟨fun σ => ?_, ?_⟩; (first | (go_simp; rfl) | (go_simp; intro x; first | (go_at_call 19; with_reducible exact toDyadic_any _ _ _ _ _ _) | (go_at_call 20; with_reducible exact (HI _).out) | (go_at_call 19; exact toDyadic_any _ _ _ _ _ _) | (go_at_call 20; exact (HI _).out))); simp only [Act.put, List.setIfInBounds_toArray, List.set_cons_succ, List.set_cons_zero, List.nil_append, List.cons_append])
  refine mw_maker (fun n => .pointer (some ⟨n, 0, none⟩)) 34 #[.int .i64 0, .int .i64 0, .int .i64 0, .int .i64 0, .int .i64 0] 9 #[.int .i64 Q.a, .int .i64 Q.b, .int .i64 Q.c, .int .i64 Q.d, .int .i64 q] rfl (fun σ x => ?_) ?_
  · go_simp
  simp only [Act.put, List.setIfInBounds_toArray, List.set_cons_succ, List.set_cons_zero, List.nil_append, List.cons_append, List.length_cons, List.length_nil, Nat.reduceAdd]
  repeat (refine mw_quiet ?_; apply Exists.intro; refine ⟨fun σ => ?_, ?_⟩; (first | (go_simp; rfl) | (go_simp; intro x; first | (go_at_call 19; with_reducible exact toDyadic_any _ _ _ _ _ _) | (go_at_call 20; with_reducible exact (HI _).out) | (go_at_call 19; exact toDyadic_any _ _ _ _ _ _) | (go_at_call 20; exact (HI _).out))); simp only [Act.put, List.setIfInBounds_toArray, List.set_cons_succ, List.set_cons_zero, List.nil_append, List.cons_append])
  refine mw_store 8 rfl rfl (fun σ x hb hc => ?_) ?_
  · have hcell : ∀ k, x.w.cell? ⟨σ 8, k, none⟩ = (#[.int .i64 0, .int .i64 0, .int .i64 0, .int .i64 0, .int .i64 0] : Array Value)[k]? := fun k => cell_of_row _ _ _ _ _ _ hc
    have hfr : ∀ k, x.w.frozen? ⟨σ 8, k, none⟩ = false := fun k => frozen_of_row _ _ _ _ _ hc
    apply Exists.intro
    refine ⟨?_, ?_⟩
    · go_simp
      rfl
    · exact (((((Fill.start hc).set 0 _).set 1 _).set 2 _).set 3 _).set 4 _
  simp only [Act.put, List.nil_append, List.cons_append]
  repeat (refine mw_quiet ?_; apply Exists.intro; refine ⟨fun σ => ?_, ?_⟩; (first | (go_simp; rfl) | (go_simp; intro x; first | (go_at_call 19; with_reducible exact toDyadic_any _ _ _ _ _ _) | (go_at_call 20; with_reducible exact (HI _).out) | (go_at_call 19; exact toDyadic_any _ _ _ _ _ _) | (go_at_call 20; exact (HI _).out))); simp only [Act.put, List.setIfInBounds_toArray, List.set_cons_succ, List.set_cons_zero, List.nil_append, List.cons_append])
  refine ⟨by kernel_rfl, fun σ w2 hF2 => ?_⟩
  have hx2 := hF2.ext
  obtain ⟨hm2_8, hl2_8, hq2_8, hr2_8⟩ := mfin_blk hF2 8 9 rfl (by decide) #[.int .i64 Q.a, .int .i64 Q.b, .int .i64 Q.c, .int .i64 Q.d, .int .i64 q] rfl
  dsimp only
  generalize σ 8 = B2_8 at *
  clear hF2 hxc
  obtain ⟨hc2, hf2⟩ := hx2.cells
  have hz2 := hx2.size
  try simp at hz2
  have hs2_0 := sz2 (a := w.heap.size) (b := w2.heap.size) (by omega)
  go_wp2_with fail
  refine (eqDyadic_same _ _ _ _ _ _).mono ?_
  rintro e w3 ⟨rfl, hx3⟩
  obtain ⟨hc3, hf3⟩ := hx3.cells
  have hz3 := hx3.size
  try simp at hz3
  have hs3_0 := sz2 (a := w.heap.size) (b := w3.heap.size) (by omega)
  go_wp2
  go_ret
  exact ⟨rfl, (by repeat (first | exact Ext.refl _ | assumption | refine Ext.alloc ?_ _ | refine Ext.drew ?_ | refine Ext.drewN ?_ _ | refine Ext.setCell ?_ (by first | omega | (dsimp only; omega) | (simp; done) | (simp; omega)) _ | refine Ext.trans ?_ (by assumption)))⟩

theorem law_SubDyadic (a b c d e f g h i j : Int) (w : World) :
    Calls Try.prog 5 #[.agg #[.int .i64 a, .int .i64 b, .int .i64 c, .int .i64 d, .int .i64 e], .agg #[.int .i64 f, .int .i64 g, .int .i64 h, .int .i64 i, .int .i64 j]] w fun e w' => e = .returned (.bool true) ∧ Ext w w' := by
  have HS := fun w' => Lib.hid (s_subDyadic_any ⟨a, b, c, d⟩ e ⟨f, g, h, i⟩ j w')
  have HI := fun w' => Lib.hid (subDyadic_any ⟨a, b, c, d⟩ e ⟨f, g, h, i⟩ j w')
  simp only at HS HI
  generalize adX ⟨a, b, c, d⟩ e (R4.neg ⟨f, g, h, i⟩) j = Q at *
  generalize adE ⟨a, b, c, d⟩ e (R4.neg ⟨f, g, h, i⟩) j = q at *
  generalize adOk ⟨a, b, c, d⟩ e (R4.neg ⟨f, g, h, i⟩) j = o at *
  go_enter Try.func5, Try.ntmps5
  go_wp2
  refine wp_region_madeC (m := 34) (by kernel_rfl) (by kernel_rfl) rfl (fun hxc => ?_)
  repeat (refine mw_quiet ?_; apply Exists.intro; refine ⟨fun σ => ?_, ?_⟩; (first | (go_simp; rfl) | (go_simp; intro x; first | (go_at_call 19; with_reducible exact toDyadic_any _ _ _ _ _ _) | (go_at_call 22; with_reducible exact (HS _).out) | (go_at_call 19; exact toDyadic_any _ _ _ _ _ _) | (go_at_call 22; exact (HS _).out))); simp only [Act.put, List.setIfInBounds_toArray, List.set_cons_succ, List.set_cons_zero, List.nil_append, List.cons_append])
  refine mw_maker (fun n => .pointer (some ⟨n, 0, none⟩)) 34 #[.int .i64 0, .int .i64 0, .int .i64 0, .int .i64 0, .int .i64 0] 9 #[.int .i64 Q.a, .int .i64 Q.b, .int .i64 Q.c, .int .i64 Q.d, .int .i64 q] rfl (fun σ x => ?_) ?_
  · go_simp
  simp only [Act.put, List.setIfInBounds_toArray, List.set_cons_succ, List.set_cons_zero, List.nil_append, List.cons_append, List.length_cons, List.length_nil, Nat.reduceAdd]
  repeat (refine mw_quiet ?_; apply Exists.intro; refine ⟨fun σ => ?_, ?_⟩; (first | (go_simp; rfl) | (go_simp; intro x; first | (go_at_call 19; with_reducible exact toDyadic_any _ _ _ _ _ _) | (go_at_call 22; with_reducible exact (HS _).out) | (go_at_call 19; exact toDyadic_any _ _ _ _ _ _) | (go_at_call 22; exact (HS _).out))); simp only [Act.put, List.setIfInBounds_toArray, List.set_cons_succ, List.set_cons_zero, List.nil_append, List.cons_append])
  refine mw_store 8 rfl rfl (fun σ x hb hc => ?_) ?_
  · have hcell : ∀ k, x.w.cell? ⟨σ 8, k, none⟩ = (#[.int .i64 0, .int .i64 0, .int .i64 0, .int .i64 0, .int .i64 0] : Array Value)[k]? := fun k => cell_of_row _ _ _ _ _ _ hc
    have hfr : ∀ k, x.w.frozen? ⟨σ 8, k, none⟩ = false := fun k => frozen_of_row _ _ _ _ _ hc
    apply Exists.intro
    refine ⟨?_, ?_⟩
    · go_simp
      rfl
    · exact (((((Fill.start hc).set 0 _).set 1 _).set 2 _).set 3 _).set 4 _
  simp only [Act.put, List.nil_append, List.cons_append]
  repeat (refine mw_quiet ?_; apply Exists.intro; refine ⟨fun σ => ?_, ?_⟩; (first | (go_simp; rfl) | (go_simp; intro x; first | (go_at_call 19; with_reducible exact toDyadic_any _ _ _ _ _ _) | (go_at_call 22; with_reducible exact (HS _).out) | (go_at_call 19; exact toDyadic_any _ _ _ _ _ _) | (go_at_call 22; exact (HS _).out))); simp only [Act.put, List.setIfInBounds_toArray, List.set_cons_succ, List.set_cons_zero, List.nil_append, List.cons_append])
  refine ⟨by kernel_rfl, fun σ w1 hF1 => ?_⟩
  have hx1 := hF1.ext
  obtain ⟨hm1_8, hl1_8, hq1_8, hr1_8⟩ := mfin_blk hF1 8 9 rfl (by decide) #[.int .i64 Q.a, .int .i64 Q.b, .int .i64 Q.c, .int .i64 Q.d, .int .i64 q] rfl
  dsimp only
  generalize σ 8 = B1_8 at *
  clear hF1 hxc
  obtain ⟨hc1, hf1⟩ := hx1.cells
  have hz1 := hx1.size
  try simp at hz1
  have hs1_0 := sz2 (a := w.heap.size) (b := w1.heap.size) (by omega)
  go_wp2
  refine wp_region_madeC (m := 34) (by kernel_rfl) (by kernel_rfl) rfl (fun hxc => ?_)
  repeat (refine mw_quiet ?_; apply Exists.intro; refine ⟨fun σ => ?_, ?_⟩; (first | (go_simp; rfl) | (go_simp; intro x; first | (go_at_call 19; with_reducible exact toDyadic_any _ _ _ _ _ _) | (go_at_call 23; with_reducible exact (HI _).out) | (go_at_call 19; exact toDyadic_any _ _ _ _ _ _) | (go_at_call 23; exact (HI _).out))); simp only [Act.put, List.setIfInBounds_toArray, List.set_cons_succ, List.set_cons_zero, List.nil_append, List.cons_append])
  refine mw_maker (fun n => .pointer (some ⟨n, 0, none⟩)) 34 #[.int .i64 0, .int .i64 0, .int .i64 0, .int .i64 0, .int .i64 0] 9 #[.int .i64 Q.a, .int .i64 Q.b, .int .i64 Q.c, .int .i64 Q.d, .int .i64 q] rfl (fun σ x => ?_) ?_
  · go_simp
  simp only [Act.put, List.setIfInBounds_toArray, List.set_cons_succ, List.set_cons_zero, List.nil_append, List.cons_append, List.length_cons, List.length_nil, Nat.reduceAdd]
  repeat (refine mw_quiet ?_; apply Exists.intro; refine ⟨fun σ => ?_, ?_⟩; (first | (go_simp; rfl) | (go_simp; intro x; first | (go_at_call 19; with_reducible exact toDyadic_any _ _ _ _ _ _) | (go_at_call 23; with_reducible exact (HI _).out) | (go_at_call 19; exact toDyadic_any _ _ _ _ _ _) | (go_at_call 23; exact (HI _).out))); simp only [Act.put, List.setIfInBounds_toArray, List.set_cons_succ, List.set_cons_zero, List.nil_append, List.cons_append])
  refine mw_store 8 rfl rfl (fun σ x hb hc => ?_) ?_
  · have hcell : ∀ k, x.w.cell? ⟨σ 8, k, none⟩ = (#[.int .i64 0, .int .i64 0, .int .i64 0, .int .i64 0, .int .i64 0] : Array Value)[k]? := fun k => cell_of_row _ _ _ _ _ _ hc
    have hfr : ∀ k, x.w.frozen? ⟨σ 8, k, none⟩ = false := fun k => frozen_of_row _ _ _ _ _ hc
    apply Exists.intro
    refine ⟨?_, ?_⟩
    · go_simp
      rfl
    · exact (((((Fill.start hc).set 0 _).set 1 _).set 2 _).set 3 _).set 4 _
  simp only [Act.put, List.nil_append, List.cons_append]
  repeat (refine mw_quiet ?_; apply Exists.intro; refine ⟨fun σ => ?_, ?_⟩; (first | (go_simp; rfl) | (go_simp; intro x; first | (go_at_call 19; with_reducible exact toDyadic_any _ _ _ _ _ _) | (go_at_call 23; with_reducible exact (HI _).out) | (go_at_call 19; exact toDyadic_any _ _ _ _ _ _) | (go_at_call 23; exact (HI _).out))); simp only [Act.put, List.setIfInBounds_toArray, List.set_cons_succ, List.set_cons_zero, List.nil_append, List.cons_append])
  refine ⟨by kernel_rfl, fun σ w2 hF2 => ?_⟩
  have hx2 := hF2.ext
  obtain ⟨hm2_8, hl2_8, hq2_8, hr2_8⟩ := mfin_blk hF2 8 9 rfl (by decide) #[.int .i64 Q.a, .int .i64 Q.b, .int .i64 Q.c, .int .i64 Q.d, .int .i64 q] rfl
  dsimp only
  generalize σ 8 = B2_8 at *
  clear hF2 hxc
  obtain ⟨hc2, hf2⟩ := hx2.cells
  have hz2 := hx2.size
  try simp at hz2
  have hs2_0 := sz2 (a := w.heap.size) (b := w2.heap.size) (by omega)
  go_wp2_with fail
  refine (eqDyadic_same _ _ _ _ _ _).mono ?_
  rintro e w3 ⟨rfl, hx3⟩
  obtain ⟨hc3, hf3⟩ := hx3.cells
  have hz3 := hx3.size
  try simp at hz3
  have hs3_0 := sz2 (a := w.heap.size) (b := w3.heap.size) (by omega)
  go_wp2
  go_ret
  exact ⟨rfl, (by repeat (first | exact Ext.refl _ | assumption | refine Ext.alloc ?_ _ | refine Ext.drew ?_ | refine Ext.drewN ?_ _ | refine Ext.setCell ?_ (by first | omega | (dsimp only; omega) | (simp; done) | (simp; omega)) _ | refine Ext.trans ?_ (by assumption)))⟩

end Go.Proofs.Ytnlhonlfkmpleaa
