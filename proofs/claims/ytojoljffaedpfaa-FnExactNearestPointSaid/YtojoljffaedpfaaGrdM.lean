/- The law on NearestPoint. -/
import Derived.Test.YtojoljffaedpfaaGrdO
import Derived.Test.YtojoljffaedpfaaMul2
namespace Go.Proofs.Ytojoljffaedpfaa
open Go.RowKit Go.Lib
set_option linter.unusedVariables false
set_option linter.unusedSimpArgs false

set_option maxRecDepth 20000 in
set_option maxHeartbeats 4000000 in
theorem law_NearestPoint (lo hi den lo' hi' den' p q : Int) (w : World) :
    Calls Try.prog 4 #[.agg #[.int .i64 lo, .int .i64 hi, .int .i64 den], .agg #[.int .i64 lo', .int .i64 hi', .int .i64 den'], .agg #[.int .i64 p, .int .i64 q]] w fun e w' => e = .returned (.bool true) ∧ Ext w w' := by
  have HT1 := fun w => Lib.hid (toRange_any lo hi den w)
  have HT2 := fun w => Lib.hid (toRange_any lo' hi' den' w)
  have HT3 := fun w => Lib.hid (toRoot2_any p q w)
  have HS := fun w => Lib.hid (s_nearest_any lo hi den lo' hi' den' p q w)
  have HI := fun w => Lib.hid (nearest_any lo hi den lo' hi' den' p q w)
  generalize (npV lo hi den lo' hi' den' p q).1 = V1 at *
  generalize (npV lo hi den lo' hi' den' p q).2 = V2 at *
  generalize npOk lo hi den lo' hi' den' p q = o at *
  go_enter Try.func4, Try.ntmps4
  go_wp2
  refine wp_region_madeC (m := 40) (by kernel_rfl) (by kernel_rfl) rfl (fun hxc => ?_)
  repeat (refine mw_quiet ?_; apply Exists.intro; refine ⟨fun σ => ?_, ?_⟩; (first | (go_simp; rfl) | (go_simp; intro x; first | (go_at_call 9; with_reducible exact (HT1 _).out) | (go_at_call 9; with_reducible exact (HT2 _).out) | (go_at_call 15; with_reducible exact (HT3 _).out) | (go_at_call 14; with_reducible exact (HS _).out) | (go_at_call 9; exact (HT1 _).out) | (go_at_call 9; exact (HT2 _).out) | (go_at_call 15; exact (HT3 _).out) | (go_at_call 14; exact (HS _).out))); simp only [Act.put, List.setIfInBounds_toArray, List.set_cons_succ, List.set_cons_zero, List.nil_append, List.cons_append])
  refine mw_maker (fun n => .pointer (some ⟨n, 0, none⟩)) 34 #[.int .i64 0, .int .i64 0] 11 #[.int .i64 V1, .int .i64 V2] rfl (fun σ x => ?_) ?_
  · go_simp
  simp only [Act.put, List.setIfInBounds_toArray, List.set_cons_succ, List.set_cons_zero, List.nil_append, List.cons_append, List.length_cons, List.length_nil, Nat.reduceAdd]
  repeat (refine mw_quiet ?_; apply Exists.intro; refine ⟨fun σ => ?_, ?_⟩; (first | (go_simp; rfl) | (go_simp; intro x; first | (go_at_call 9; with_reducible exact (HT1 _).out) | (go_at_call 9; with_reducible exact (HT2 _).out) | (go_at_call 15; with_reducible exact (HT3 _).out) | (go_at_call 14; with_reducible exact (HS _).out) | (go_at_call 9; exact (HT1 _).out) | (go_at_call 9; exact (HT2 _).out) | (go_at_call 15; exact (HT3 _).out) | (go_at_call 14; exact (HS _).out))); simp only [Act.put, List.setIfInBounds_toArray, List.set_cons_succ, List.set_cons_zero, List.nil_append, List.cons_append])
  refine mw_store 10 rfl rfl (fun σ x hb hc => ?_) ?_
  · have hcell : ∀ k, x.w.cell? ⟨σ 10, k, none⟩ = (#[.int .i64 0, .int .i64 0] : Array Value)[k]? := fun k => cell_of_row _ _ _ _ _ _ hc
    have hfr : ∀ k, x.w.frozen? ⟨σ 10, k, none⟩ = false := fun k => frozen_of_row _ _ _ _ _ hc
    apply Exists.intro
    refine ⟨?_, ?_⟩
    · go_simp
      rfl
    · exact ((Fill.start hc).set 0 _).set 1 _
  simp only [Act.put, List.nil_append, List.cons_append]
  repeat (refine mw_quiet ?_; apply Exists.intro; refine ⟨fun σ => ?_, ?_⟩; (first | (go_simp; rfl) | (go_simp; intro x; first | (go_at_call 9; with_reducible exact (HT1 _).out) | (go_at_call 9; with_reducible exact (HT2 _).out) | (go_at_call 15; with_reducible exact (HT3 _).out) | (go_at_call 14; with_reducible exact (HS _).out) | (go_at_call 9; exact (HT1 _).out) | (go_at_call 9; exact (HT2 _).out) | (go_at_call 15; exact (HT3 _).out) | (go_at_call 14; exact (HS _).out))); simp only [Act.put, List.setIfInBounds_toArray, List.set_cons_succ, List.set_cons_zero, List.nil_append, List.cons_append])
  refine ⟨by kernel_rfl, fun σ w1 hF1 => ?_⟩
  have hx1 := hF1.ext
  obtain ⟨hm1_10, hl1_10, hq1_10, hr1_10⟩ := mfin_blk hF1 10 11 rfl (by decide) #[.int .i64 V1, .int .i64 V2] rfl
  dsimp only
  generalize σ 10 = B1_10 at *
  clear hF1 hxc
  obtain ⟨hc1, hf1⟩ := hx1.cells
  have hz1 := hx1.size
  try simp at hz1
  have hs1_0 := sz3 (a := w.heap.size) (b := w1.heap.size) (by omega)
  go_wp2
  refine wp_region_madeC (m := 40) (by kernel_rfl) (by kernel_rfl) rfl (fun hxc => ?_)
  repeat (refine mw_quiet ?_; apply Exists.intro; refine ⟨fun σ => ?_, ?_⟩; (first | (go_simp; rfl) | (go_simp; intro x; first | (go_at_call 9; with_reducible exact (HT1 _).out) | (go_at_call 9; with_reducible exact (HT2 _).out) | (go_at_call 15; with_reducible exact (HT3 _).out) | (go_at_call 16; with_reducible exact (HI _).out) | (go_at_call 9; exact (HT1 _).out) | (go_at_call 9; exact (HT2 _).out) | (go_at_call 15; exact (HT3 _).out) | (go_at_call 16; exact (HI _).out))); simp only [Act.put, List.setIfInBounds_toArray, List.set_cons_succ, List.set_cons_zero, List.nil_append, List.cons_append])
  refine mw_maker (fun n => .pointer (some ⟨n, 0, none⟩)) 34 #[.int .i64 0, .int .i64 0] 11 #[.int .i64 V1, .int .i64 V2] rfl (fun σ x => ?_) ?_
  · go_simp
  simp only [Act.put, List.setIfInBounds_toArray, List.set_cons_succ, List.set_cons_zero, List.nil_append, List.cons_append, List.length_cons, List.length_nil, Nat.reduceAdd]
  repeat (refine mw_quiet ?_; apply Exists.intro; refine ⟨fun σ => ?_, ?_⟩; (first | (go_simp; rfl) | (go_simp; intro x; first | (go_at_call 9; with_reducible exact (HT1 _).out) | (go_at_call 9; with_reducible exact (HT2 _).out) | (go_at_call 15; with_reducible exact (HT3 _).out) | (go_at_call 16; with_reducible exact (HI _).out) | (go_at_call 9; exact (HT1 _).out) | (go_at_call 9; exact (HT2 _).out) | (go_at_call 15; exact (HT3 _).out) | (go_at_call 16; exact (HI _).out))); simp only [Act.put, List.setIfInBounds_toArray, List.set_cons_succ, List.set_cons_zero, List.nil_append, List.cons_append])
  refine mw_store 10 rfl rfl (fun σ x hb hc => ?_) ?_
  · have hcell : ∀ k, x.w.cell? ⟨σ 10, k, none⟩ = (#[.int .i64 0, .int .i64 0] : Array Value)[k]? := fun k => cell_of_row _ _ _ _ _ _ hc
    have hfr : ∀ k, x.w.frozen? ⟨σ 10, k, none⟩ = false := fun k => frozen_of_row _ _ _ _ _ hc
    apply Exists.intro
    refine ⟨?_, ?_⟩
    · go_simp
      rfl
    · exact ((Fill.start hc).set 0 _).set 1 _
  simp only [Act.put, List.nil_append, List.cons_append]
  repeat (refine mw_quiet ?_; apply Exists.intro; refine ⟨fun σ => ?_, ?_⟩; (first | (go_simp; rfl) | (go_simp; intro x; first | (go_at_call 9; with_reducible exact (HT1 _).out) | (go_at_call 9; with_reducible exact (HT2 _).out) | (go_at_call 15; with_reducible exact (HT3 _).out) | (go_at_call 16; with_reducible exact (HI _).out) | (go_at_call 9; exact (HT1 _).out) | (go_at_call 9; exact (HT2 _).out) | (go_at_call 15; exact (HT3 _).out) | (go_at_call 16; exact (HI _).out))); simp only [Act.put, List.setIfInBounds_toArray, List.set_cons_succ, List.set_cons_zero, List.nil_append, List.cons_append])
  refine ⟨by kernel_rfl, fun σ w2 hF2 => ?_⟩
  have hx2 := hF2.ext
  obtain ⟨hm2_10, hl2_10, hq2_10, hr2_10⟩ := mfin_blk hF2 10 11 rfl (by decide) #[.int .i64 V1, .int .i64 V2] rfl
  dsimp only
  generalize σ 10 = B2_10 at *
  clear hF2 hxc
  obtain ⟨hc2, hf2⟩ := hx2.cells
  have hz2 := hx2.size
  try simp at hz2
  have hs2_0 := sz3 (a := w.heap.size) (b := w2.heap.size) (by omega)
  go_wp2_with fail
  refine (eqRoot2_same _ _ _).mono ?_
  rintro e w3 ⟨rfl, hx3⟩
  obtain ⟨hc3, hf3⟩ := hx3.cells
  have hz3 := hx3.size
  try simp at hz3
  have hs3_0 := sz3 (a := w.heap.size) (b := w3.heap.size) (by omega)
  go_wp2
  go_ret
  exact ⟨rfl, (by repeat (first | (with_reducible refine Ext.setCell ?_ (by first | (simp; done) | (simp; omega)) _) | with_reducible refine Ext.alloc ?_ _ | with_reducible refine Ext.drew ?_ | with_reducible refine Ext.drewN ?_ _ | with_reducible assumption | with_reducible exact Ext.refl _ | with_reducible refine Ext.trans ?_ (by with_reducible assumption)))⟩

end Go.Proofs.Ytojoljffaedpfaa
