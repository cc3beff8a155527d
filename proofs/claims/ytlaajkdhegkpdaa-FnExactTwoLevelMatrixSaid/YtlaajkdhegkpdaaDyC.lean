/- Dyadic numbers: the reference's sum and difference. -/
import Derived.Test.YtlaajkdhegkpdaaDyB
namespace Go.Proofs.Ytlaajkdhegkpdaa
open Go.RowKit Go.Lib
set_option linter.unusedVariables false
set_option linter.unusedSimpArgs false

def adOk (X : R4) (e : Int) (Y : R4) (j : Int) : Bool := GD X e && GD Y j && !dyBad X e.toNat Y j.toNat
def adX (X : R4) (e : Int) (Y : R4) (j : Int) : R4 := if adOk X e Y j then dyX X e.toNat Y j.toNat else R4.zero
def adE (X : R4) (e : Int) (Y : R4) (j : Int) : Int := if adOk X e Y j then (dyE X e.toNat Y j.toNat : Int) else 0

theorem ad_false {X : R4} {e : Int} {Y : R4} {j : Int} (h : adOk X e Y j = false) : adX X e Y j = R4.zero ∧ adE X e Y j = 0 := by
  unfold adX adE
  rw [h]
  exact ⟨rfl, rfl⟩
theorem ad_true {X : R4} {e : Int} {Y : R4} {j : Int} (h : GD X e = true) (h2 : GD Y j = true) :
    adOk X e Y j = !dyBad X e.toNat Y j.toNat ∧ (adX X e Y j).a = ifZ (!dyBad X e.toNat Y j.toNat) ((dyX X e.toNat Y j.toNat).a) ∧ (adX X e Y j).b = ifZ (!dyBad X e.toNat Y j.toNat) ((dyX X e.toNat Y j.toNat).b) ∧
    (adX X e Y j).c = ifZ (!dyBad X e.toNat Y j.toNat) ((dyX X e.toNat Y j.toNat).c) ∧ (adX X e Y j).d = ifZ (!dyBad X e.toNat Y j.toNat) ((dyX X e.toNat Y j.toNat).d) ∧ adE X e Y j = ifZ (!dyBad X e.toNat Y j.toNat) ((dyE X e.toNat Y j.toNat : Int)) := by
  have e1 : adOk X e Y j = !dyBad X e.toNat Y j.toNat := by unfold adOk; rw [h, h2]; rfl
  unfold adX adE
  rw [e1]
  cases dyBad X e.toNat Y j.toNat
  · exact ⟨rfl, rfl, rfl, rfl, rfl, rfl⟩
  · exact ⟨rfl, rfl, rfl, rfl, rfl, rfl⟩

/-- the opposite of the second number -/
theorem neg_valid {Y : R4} {j : Int} : GD Y.neg j = GD Y j := by
  have e1 : Y.neg.rg = Y.rg := by
    unfold R4.rg R4.neg Rg Cf Wn
    congr 1
    · congr 1
      · congr 1
        all_goals (rw [Bool.eq_iff_iff]; simp; omega)
      · rw [Bool.eq_iff_iff]; simp; omega
    · rw [Bool.eq_iff_iff]; simp; omega
  have e2 : Y.neg.ev = Y.ev := by
    unfold R4.ev R4.neg evR
    have h1 : ∀ x y : Int, (Int.tmod (-x + -y) 2 == 0) = (Int.tmod (x + y) 2 == 0) := by
      intro x y
      rw [show -x + -y = -(x + y) by omega, Int.neg_tmod]
      rw [Bool.eq_iff_iff]
      simp
    simp only [h1]
  unfold GD
  rw [e1, e2]

theorem l2Neg_any (Y : R4) (j : Int) (h : Y.rg = true) (w : World) :
    Calls Try.prog 25 #[.agg #[.int .i64 Y.a, .int .i64 Y.b, .int .i64 Y.c, .int .i64 Y.d, .int .i64 j]] w fun en w' =>
      en = .returned (.agg #[.int .i64 Y.neg.a, .int .i64 Y.neg.b, .int .i64 Y.neg.c, .int .i64 Y.neg.d, .int .i64 j]) ∧ Ext w w' := by
  obtain ⟨a, b, c, d⟩ := Y
  simp only [R4.neg]
  have H := Lib.hid (show Rg a b c d = true from h)
  clear h
  go_enter Try.func25, Try.ntmps25
  go_wp2
  refine Wr.wp_region_wr (m := 9) [⟨w.heap.size, 44, #[.int .i64 a, .int .i64 b, .int .i64 c, .int .i64 d, .int .i64 j]⟩, ⟨w.heap.size + 1, 44, #[.int .i64 0, .int .i64 0, .int .i64 0, .int .i64 0, .int .i64 0]⟩] (by kernel_rfl) (by kernel_rfl) rfl (by simp; try omega) ?_ ?_
  · intro s hs
    rcases s with _ | _ | s
    · exact (show (World.heap _)[w.heap.size]? = some (Obj.cells #[.int .i64 a, .int .i64 b, .int .i64 c, .int .i64 d, .int .i64 j] 44 (0, 0)) from heap_alloc_lt (heap_alloc_new _ _))
    · exact (show (World.heap _)[w.heap.size + 1]? = some (Obj.cells #[.int .i64 0, .int .i64 0, .int .i64 0, .int .i64 0, .int .i64 0] 44 (0, 0)) from heap_alloc_at _ _ _ (by simp))
    · simp at hs
      try omega
  (refine Wr.ww_plain ?_; apply Exists.intro; refine ⟨?_, ?_⟩; (first | (go_simp; (try intro x); (try go_bits); rfl)); simp only [Act.put, List.setIfInBounds_toArray, List.set_cons_succ, List.set_cons_zero, List.nil_append, List.cons_append])
  refine Wr.ww_read 0 (w.heap.size) 44 #[.int .i64 a, .int .i64 b, .int .i64 c, .int .i64 d, .int .i64 j] (by simp) rfl rfl rfl (fun hr => ?_)
  apply Exists.intro
  refine ⟨?_, ?_⟩
  · go_simp
    (try intro x)
    (try go_bits)
    rfl
  clear hr
  simp only [Act.put, List.setIfInBounds_toArray, List.set_cons_succ, List.set_cons_zero, List.nil_append, List.cons_append]
  (refine Wr.ww_plain ?_; apply Exists.intro; refine ⟨?_, ?_⟩; (first | (go_simp; (try intro x); (try go_bits); rfl) | (go_simp; intro x; go_at_call 40; exact l1Neg_any _ _ _ _ H.out _)); simp only [Act.put, List.setIfInBounds_toArray, List.set_cons_succ, List.set_cons_zero, List.nil_append, List.cons_append])
  (refine Wr.ww_plain ?_; apply Exists.intro; refine ⟨?_, ?_⟩; (first | (go_simp; (try intro x); (try go_bits); rfl)); simp only [Act.put, List.setIfInBounds_toArray, List.set_cons_succ, List.set_cons_zero, List.nil_append, List.cons_append])
  refine Wr.ww_read 0 (w.heap.size) 44 #[.int .i64 a, .int .i64 b, .int .i64 c, .int .i64 d, .int .i64 j] (by simp) rfl rfl rfl (fun hr => ?_)
  apply Exists.intro
  refine ⟨?_, ?_⟩
  · go_simp
    (try intro x)
    (try go_bits)
    rfl
  clear hr
  simp only [Act.put, List.setIfInBounds_toArray, List.set_cons_succ, List.set_cons_zero, List.nil_append, List.cons_append]
  (refine Wr.ww_plain ?_; apply Exists.intro; refine ⟨?_, ?_⟩; (first | (go_simp; (try intro x); (try go_bits); rfl)); simp only [Act.put, List.setIfInBounds_toArray, List.set_cons_succ, List.set_cons_zero, List.nil_append, List.cons_append])
  refine Wr.ww_store 1 (w.heap.size + 1) 44 #[.int .i64 0, .int .i64 0, .int .i64 0, .int .i64 0, .int .i64 0] #[.int .i64 (-a), .int .i64 (-b), .int .i64 (-c), .int .i64 (-d), .int .i64 j] rfl (by simp) rfl rfl rfl (fun x => ?_) ?_
  · have hcell : ∀ kk, x.w.cell? ⟨w.heap.size + 1, kk, none⟩ = (#[.int .i64 0, .int .i64 0, .int .i64 0, .int .i64 0, .int .i64 0] : Array Value)[kk]? := fun kk => cell_of_row _ _ _ _ _ _ x.2.2
    have hfr : ∀ kk, x.w.frozen? ⟨w.heap.size + 1, kk, none⟩ = false := fun kk => frozen_of_row _ _ _ _ _ x.2.2
    apply Exists.intro
    refine ⟨?_, ?_⟩
    · go_simp
      (try go_bits)
      rfl
    · exact (((((Fill.start x.2.2).set 0 _).set 1 _).set 2 _).set 3 _).set 4 _
  simp only [Act.put, List.setIfInBounds_toArray, List.set_cons_succ, List.set_cons_zero, List.nil_append, List.cons_append]
  refine Wr.ww_done (by kernel_rfl) (by kernel_rfl) (fun w1 hg1 hs1 => ?_)
  have hb1_0 : w1.heap[w.heap.size]? = some (.cells #[.int .i64 a, .int .i64 b, .int .i64 c, .int .i64 d, .int .i64 j] 44 (0, 0)) := hs1 0 (by simp)
  have hb1_1 : w1.heap[w.heap.size + 1]? = some (.cells #[.int .i64 (-a), .int .i64 (-b), .int .i64 (-c), .int .i64 (-d), .int .i64 j] 44 (0, 0)) := hs1 1 (by simp)
  clear hs1
  simp only [List.map_cons, List.map_nil] at hg1
  have hcR : ∀ i, w1.cell? ⟨w.heap.size + 1, i, none⟩ = (#[.int .i64 (-a), .int .i64 (-b), .int .i64 (-c), .int .i64 (-d), .int .i64 j] : Array Value)[i]? := fun i => cell_of_row _ _ _ _ _ _ hb1_1
  go_wp2
  refine bodyPost_ret (v := .agg #[.int .i64 (-a), .int .i64 (-b), .int .i64 (-c), .int .i64 (-d), .int .i64 j]) (by simp [results, Try.results25, go_sem, *]) rfl ?_
  exact ⟨rfl, (((GX.refl [w.heap.size, w.heap.size + 1] w).alloc _).alloc _ |>.trans hg1).toExt (by simp)⟩

end Go.Proofs.Ytlaajkdhegkpdaa
