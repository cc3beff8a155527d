/- Dyadic numbers: the reference's difference. -/
import Derived.Test.YtnlhonlfkmpleaaDyC
namespace Go.Proofs.Ytnlhonlfkmpleaa
open Go.RowKit Go.Lib
set_option linter.unusedVariables false
set_option linter.unusedSimpArgs false

theorem rg_neg {Y : R4} (h : Y.rg = true) : Y.neg.rg = true := by
  obtain ⟨a, b, c, d⟩ := Rg_bd h
  exact Rg_mk (by simp only [R4.neg]; omega)

set_option maxRecDepth 20000 in
set_option maxHeartbeats 1000000 in
theorem s_subDyadic_any (X : R4) (e : Int) (Y : R4) (j : Int) (w : World) :
    Calls Try.prog 22 #[.agg #[.int .i64 X.a, .int .i64 X.b, .int .i64 X.c, .int .i64 X.d, .int .i64 e], .agg #[.int .i64 Y.a, .int .i64 Y.b, .int .i64 Y.c, .int .i64 Y.d, .int .i64 j]] w fun en w' =>
      en = .returned (.tuple #[.agg #[.int .i64 (adX X e Y.neg j).a, .int .i64 (adX X e Y.neg j).b, .int .i64 (adX X e Y.neg j).c, .int .i64 (adX X e Y.neg j).d, .int .i64 (adE X e Y.neg j)], .bool (adOk X e Y.neg j)]) ∧ Ext w w' := by
  have HG1 : ∀ w', Hid (Calls Try.prog 52 #[.agg #[.int .i64 X.a, .int .i64 X.b, .int .i64 X.c, .int .i64 X.d, .int .i64 e]] w' fun en w'' => en = .returned (.bool (GD X e)) ∧ Ext w' w'') := fun w' => l2Good_any X.a X.b X.c X.d e w'
  have HG2 : ∀ w', Hid (Calls Try.prog 52 #[.agg #[.int .i64 Y.a, .int .i64 Y.b, .int .i64 Y.c, .int .i64 Y.d, .int .i64 j]] w' fun en w'' => en = .returned (.bool (GD Y j)) ∧ Ext w' w'') := fun w' => l2Good_any Y.a Y.b Y.c Y.d j w'
  cases h1 : GD X e
  · have HO : Hid (adOk X e Y.neg j = false) := by unfold Hid adOk; rw [h1]; rfl
    have HZ := Lib.hid (ad_false HO.out)
    rw [h1] at HG1
    go_enter Try.func22, Try.ntmps22
    go_wp2_with fail
    refine ((HG1 _).out).mono ?_
    rintro e w1 ⟨rfl, hx1⟩
    obtain ⟨hc1, hf1⟩ := hx1.cells
    have hz1 := hx1.size
    try simp at hz1
    have hs1_0 := sz3 (a := w.heap.size) (b := w1.heap.size) (by omega)
    go_wp2
    refine bodyPost_ret (v := .tuple #[.agg #[.int .i64 0, .int .i64 0, .int .i64 0, .int .i64 0, .int .i64 0], .bool false]) (by simp [results, Try.results22, go_sem, *]) rfl ?_
    exact ⟨by rw [HZ.out.1, HZ.out.2, HO.out]; rfl, (by repeat (first | (with_reducible refine Ext.setCell ?_ (by first | (simp; done) | (simp; omega)) _) | with_reducible refine Ext.alloc ?_ _ | with_reducible refine Ext.drew ?_ | with_reducible refine Ext.drewN ?_ _ | with_reducible assumption | with_reducible exact Ext.refl _ | with_reducible refine Ext.trans ?_ (by with_reducible assumption)))⟩
  cases h2 : GD Y j
  · have HO : Hid (adOk X e Y.neg j = false) := by unfold Hid adOk; rw [neg_valid, h2, Bool.and_false]; rfl
    have HZ := Lib.hid (ad_false HO.out)
    rw [h1] at HG1
    rw [h2] at HG2
    go_enter Try.func22, Try.ntmps22
    go_wp2_with fail
    refine ((HG1 _).out).mono ?_
    rintro e w1 ⟨rfl, hx1⟩
    obtain ⟨hc1, hf1⟩ := hx1.cells
    have hz1 := hx1.size
    try simp at hz1
    have hs1_0 := sz3 (a := w.heap.size) (b := w1.heap.size) (by omega)
    go_wp2_with fail
    refine ((HG2 _).out).mono ?_
    rintro e w2 ⟨rfl, hx2⟩
    obtain ⟨hc2, hf2⟩ := hx2.cells
    have hz2 := hx2.size
    try simp at hz2
    have hs2_0 := sz3 (a := w.heap.size) (b := w2.heap.size) (by omega)
    go_wp2
    refine bodyPost_ret (v := .tuple #[.agg #[.int .i64 0, .int .i64 0, .int .i64 0, .int .i64 0, .int .i64 0], .bool false]) (by simp [results, Try.results22, go_sem, *]) rfl ?_
    exact ⟨by rw [HZ.out.1, HZ.out.2, HO.out]; rfl, (by repeat (first | (with_reducible refine Ext.setCell ?_ (by first | (simp; done) | (simp; omega)) _) | with_reducible refine Ext.alloc ?_ _ | with_reducible refine Ext.drew ?_ | with_reducible refine Ext.drewN ?_ _ | with_reducible assumption | with_reducible exact Ext.refl _ | with_reducible refine Ext.trans ?_ (by with_reducible assumption)))⟩
  have HT := Lib.hid (ad_true h1 (neg_valid.trans h2))
  rw [h1] at HG1
  rw [h2] at HG2
  obtain ⟨r1, r2, r3, -⟩ := GD_rg h1
  obtain ⟨s1, s2, s3, -⟩ := GD_rg h2
  obtain ⟨m, rfl⟩ : ∃ m : Nat, e = m := ⟨e.toNat, by omega⟩
  obtain ⟨n, rfl⟩ : ∃ n : Nat, j = n := ⟨j.toNat, by omega⟩
  have HR1 := Lib.hid r1
  have HS1 := Lib.hid s1
  have HS2 := Lib.hid (rg_neg s1)
  clear r1 s1 h1 h2
  simp only [Int.toNat_natCast] at HT
  have HA := fun (bc : Nat) (w' : World) (h : w'.heap[bc]? = some (.cells #[.bool false] 84 (0, 0))) => Lib.hid (add_any bc false X m Y.neg n HR1.out (by omega) HS2.out (by omega) w' h)
  obtain ⟨Q, hQ⟩ : ∃ Q, dyX X m Y.neg n = Q := ⟨_, rfl⟩
  obtain ⟨q, hq⟩ : ∃ q, dyE X m Y.neg n = q := ⟨_, rfl⟩
  obtain ⟨β, hβ⟩ : ∃ β, dyBad X m Y.neg n = β := ⟨_, rfl⟩
  simp only [hQ, hq, hβ, Bool.false_or] at HT HA
  clear hQ hq hβ
  go_enter Try.func22, Try.ntmps22
  go_wp2_with fail
  refine ((HG1 _).out).mono ?_
  rintro e w1 ⟨rfl, hx1⟩
  obtain ⟨hc1, hf1⟩ := hx1.cells
  have hz1 := hx1.size
  try simp at hz1
  have hs1_0 := sz3 (a := w.heap.size) (b := w1.heap.size) (by omega)
  go_wp2_with fail
  refine ((HG2 _).out).mono ?_
  rintro e w2 ⟨rfl, hx2⟩
  obtain ⟨hc2, hf2⟩ := hx2.cells
  have hz2 := hx2.size
  try simp at hz2
  have hs2_0 := sz3 (a := w.heap.size) (b := w2.heap.size) (by omega)
  have hbx : w2.heap[w.heap.size]? = some (.cells #[.int .i64 X.a, .int .i64 X.b, .int .i64 X.c, .int .i64 X.d, .int .i64 m] 34 (0, 0)) := (hx2.heap (by omega)).trans ((hx1.heap (by simp; omega)).trans (heap_alloc_lt (heap_alloc_lt (heap_alloc_new _ _))))
  have hby : w2.heap[w.heap.size + 1]? = some (.cells #[.int .i64 Y.a, .int .i64 Y.b, .int .i64 Y.c, .int .i64 Y.d, .int .i64 n] 34 (0, 0)) := (hx2.heap (by omega)).trans ((hx1.heap (by simp)).trans (heap_alloc_lt (heap_alloc_at _ _ _ (by simp))))
  have hbr : w2.heap[w.heap.size + 1 + 1]? = some (.cells #[.int .i64 0, .int .i64 0, .int .i64 0, .int .i64 0, .int .i64 0] 34 (0, 0)) := (hx2.heap (by omega)).trans ((hx1.heap (by simp)).trans (heap_alloc_at _ _ _ (by simp)))
  go_wp2
  refine Wr.wp_region_wr (m := 27) [⟨w.heap.size, 34, #[.int .i64 X.a, .int .i64 X.b, .int .i64 X.c, .int .i64 X.d, .int .i64 m]⟩, ⟨w.heap.size + 1, 34, #[.int .i64 Y.a, .int .i64 Y.b, .int .i64 Y.c, .int .i64 Y.d, .int .i64 n]⟩, ⟨w2.heap.size, 84, #[.bool false]⟩, ⟨w.heap.size + 1 + 1, 34, #[.int .i64 0, .int .i64 0, .int .i64 0, .int .i64 0, .int .i64 0]⟩] (by kernel_rfl) (by kernel_rfl) rfl (by simp; try omega) ?_ ?_
  · intro s hs
    rcases s with _ | _ | _ | _ | s
    · exact (show (World.heap _)[w.heap.size]? = some (Obj.cells #[.int .i64 X.a, .int .i64 X.b, .int .i64 X.c, .int .i64 X.d, .int .i64 m] 34 (0, 0)) from heap_alloc_lt hbx)
    · exact (show (World.heap _)[w.heap.size + 1]? = some (Obj.cells #[.int .i64 Y.a, .int .i64 Y.b, .int .i64 Y.c, .int .i64 Y.d, .int .i64 n] 34 (0, 0)) from heap_alloc_lt hby)
    · exact (show (World.heap _)[w2.heap.size]? = some (Obj.cells #[.bool false] 84 (0, 0)) from heap_alloc_new _ _)
    · exact (show (World.heap _)[w.heap.size + 1 + 1]? = some (Obj.cells #[.int .i64 0, .int .i64 0, .int .i64 0, .int .i64 0, .int .i64 0] 34 (0, 0)) from heap_alloc_lt hbr)
    · simp at hs
      try omega
  (refine Wr.ww_plain ?_; apply Exists.intro; refine ⟨?_, ?_⟩; (first | (go_simp; (try intro x); (try go_bits); rfl)); simp only [Act.put, List.setIfInBounds_toArray, List.set_cons_succ, List.set_cons_zero, List.nil_append, List.cons_append])
  (refine Wr.ww_plain ?_; apply Exists.intro; refine ⟨?_, ?_⟩; (first | (go_simp; (try intro x); (try go_bits); rfl)); simp only [Act.put, List.setIfInBounds_toArray, List.set_cons_succ, List.set_cons_zero, List.nil_append, List.cons_append])
  refine Wr.ww_read 0 (w.heap.size) 34 #[.int .i64 X.a, .int .i64 X.b, .int .i64 X.c, .int .i64 X.d, .int .i64 m] (by simp) rfl rfl rfl (fun hr => ?_)
  apply Exists.intro
  refine ⟨?_, ?_⟩
  · go_simp
    (try intro x)
    (try go_bits)
    rfl
  clear hr
  simp only [Act.put, List.setIfInBounds_toArray, List.set_cons_succ, List.set_cons_zero, List.nil_append, List.cons_append]
  refine Wr.ww_read 1 (w.heap.size + 1) 34 #[.int .i64 Y.a, .int .i64 Y.b, .int .i64 Y.c, .int .i64 Y.d, .int .i64 n] (by simp) rfl rfl rfl (fun hr => ?_)
  apply Exists.intro
  refine ⟨?_, ?_⟩
  · go_simp
    (try intro x)
    (try go_bits)
    rfl
  clear hr
  simp only [Act.put, List.setIfInBounds_toArray, List.set_cons_succ, List.set_cons_zero, List.nil_append, List.cons_append]
  (refine Wr.ww_plain ?_; apply Exists.intro; refine ⟨?_, ?_⟩; (first | (go_simp; (try intro x); (try go_bits); rfl) | (go_simp; intro x; go_at_call 59; exact l2Neg_any _ _ HS1.out _)); simp only [Act.put, List.setIfInBounds_toArray, List.set_cons_succ, List.set_cons_zero, List.nil_append, List.cons_append])
  refine Wr.ww_call (.agg #[.int .i64 Q.a, .int .i64 Q.b, .int .i64 Q.c, .int .i64 Q.d, .int .i64 q]) 2 (w2.heap.size) 84 #[.bool false] #[.bool β] rfl (by simp) rfl rfl rfl (fun x => ?_) ?_
  · apply Exists.intro
    apply Exists.intro
    refine ⟨?_, ?_⟩
    · go_simp
      (try go_bits)
      first | rfl | exact ⟨rfl, rfl⟩
    · exact (HA _ _ x.2.2).out
  simp only [Act.put, List.setIfInBounds_toArray, List.set_cons_succ, List.set_cons_zero, List.nil_append, List.cons_append]
  refine Wr.ww_read 2 (w2.heap.size) 84 #[.bool β] (by simp) rfl rfl rfl (fun hr => ?_)
  apply Exists.intro
  refine ⟨?_, ?_⟩
  · go_simp
    intro x
    go_at_call 53
    exact out_any w2.heap.size β _ _ _ _ _ _ x.2.2
  clear hr
  simp only [Act.put, List.setIfInBounds_toArray, List.set_cons_succ, List.set_cons_zero, List.nil_append, List.cons_append]
  (refine Wr.ww_plain ?_; apply Exists.intro; refine ⟨?_, ?_⟩; (first | (go_simp; (try intro x); (try go_bits); rfl)); simp only [Act.put, List.setIfInBounds_toArray, List.set_cons_succ, List.set_cons_zero, List.nil_append, List.cons_append])
  (refine Wr.ww_plain ?_; apply Exists.intro; refine ⟨?_, ?_⟩; (first | (go_simp; (try intro x); (try go_bits); rfl)); simp only [Act.put, List.setIfInBounds_toArray, List.set_cons_succ, List.set_cons_zero, List.nil_append, List.cons_append])
  refine Wr.ww_store 3 (w.heap.size + 1 + 1) 34 #[.int .i64 0, .int .i64 0, .int .i64 0, .int .i64 0, .int .i64 0] #[.int .i64 (ifZ (!β) Q.a), .int .i64 (ifZ (!β) Q.b), .int .i64 (ifZ (!β) Q.c), .int .i64 (ifZ (!β) Q.d), .int .i64 (ifZ (!β) q)] rfl (by simp) rfl rfl rfl (fun x => ?_) ?_
  · have hcell : ∀ kk, x.w.cell? ⟨w.heap.size + 1 + 1, kk, none⟩ = (#[.int .i64 0, .int .i64 0, .int .i64 0, .int .i64 0, .int .i64 0] : Array Value)[kk]? := fun kk => cell_of_row _ _ _ _ _ _ x.2.2
    have hfr : ∀ kk, x.w.frozen? ⟨w.heap.size + 1 + 1, kk, none⟩ = false := fun kk => frozen_of_row _ _ _ _ _ x.2.2
    apply Exists.intro
    refine ⟨?_, ?_⟩
    · go_simp
      (try go_bits)
      rfl
    · exact (((((Fill.start x.2.2).set 0 _).set 1 _).set 2 _).set 3 _).set 4 _
  simp only [Act.put, List.setIfInBounds_toArray, List.set_cons_succ, List.set_cons_zero, List.nil_append, List.cons_append]
  (refine Wr.ww_plain ?_; apply Exists.intro; refine ⟨?_, ?_⟩; (first | (go_simp; (try intro x); (try go_bits); rfl)); simp only [Act.put, List.setIfInBounds_toArray, List.set_cons_succ, List.set_cons_zero, List.nil_append, List.cons_append])
  refine Wr.ww_done (by kernel_rfl) (by kernel_rfl) (fun w3 hg3 hs3 => ?_)
  have hb3_0 : w3.heap[w.heap.size]? = some (.cells #[.int .i64 X.a, .int .i64 X.b, .int .i64 X.c, .int .i64 X.d, .int .i64 m] 34 (0, 0)) := hs3 0 (by simp)
  have hb3_1 : w3.heap[w.heap.size + 1]? = some (.cells #[.int .i64 Y.a, .int .i64 Y.b, .int .i64 Y.c, .int .i64 Y.d, .int .i64 n] 34 (0, 0)) := hs3 1 (by simp)
  have hb3_2 : w3.heap[w2.heap.size]? = some (.cells #[.bool β] 84 (0, 0)) := hs3 2 (by simp)
  have hb3_3 : w3.heap[w.heap.size + 1 + 1]? = some (.cells #[.int .i64 (ifZ (!β) Q.a), .int .i64 (ifZ (!β) Q.b), .int .i64 (ifZ (!β) Q.c), .int .i64 (ifZ (!β) Q.d), .int .i64 (ifZ (!β) q)] 34 (0, 0)) := hs3 3 (by simp)
  clear hs3
  simp only [List.map_cons, List.map_nil] at hg3
  have hcR : ∀ i, w3.cell? ⟨w.heap.size + 1 + 1, i, none⟩ = (#[.int .i64 (ifZ (!β) Q.a), .int .i64 (ifZ (!β) Q.b), .int .i64 (ifZ (!β) Q.c), .int .i64 (ifZ (!β) Q.d), .int .i64 (ifZ (!β) q)] : Array Value)[i]? := fun i => cell_of_row _ _ _ _ _ _ hb3_3
  go_wp2
  refine bodyPost_ret (v := .tuple #[.agg #[.int .i64 (ifZ (!β) Q.a), .int .i64 (ifZ (!β) Q.b), .int .i64 (ifZ (!β) Q.c), .int .i64 (ifZ (!β) Q.d), .int .i64 (ifZ (!β) q)], .bool (!β)]) (by simp [results, Try.results22, go_sem, *]) rfl ?_
  refine ⟨by rw [HT.out.1, HT.out.2.1, HT.out.2.2.1, HT.out.2.2.2.1, HT.out.2.2.2.2.1, HT.out.2.2.2.2.2], ?_⟩
  have hE2 : Ext w w2 := ((((Ext.refl w).alloc _).alloc _).alloc _).trans (hx1.trans hx2)
  exact ((GX.ofExt hE2 (S := [])).join (((GX.refl _ w2).alloc _).trans hg3) (by simp; omega)).toExt (by simp)

end Go.Proofs.Ytnlhonlfkmpleaa
