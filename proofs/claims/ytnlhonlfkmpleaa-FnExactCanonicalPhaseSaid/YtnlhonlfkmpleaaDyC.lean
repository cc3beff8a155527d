/- Dyadic numbers: the reference's sum and difference. -/
import Derived.Test.YtnlhonlfkmpleaaDyB
namespace Go.Proofs.Ytnlhonlfkmpleaa
open Go.RowKit Go.Lib
set_option linter.unusedVariables false
set_option linter.unusedSimpArgs false

def adOk (X : R4) (e : Int) (Y : R4) (j : Int) : Bool := GD X e && GD Y j && !dyBad X e.toNat Y j.toNat
def adX (X : R4) (e : Int) (Y : R4) (j : Int) : R4 := if adOk X e Y j then dyX X e.toNat Y j.toNat else R4.zero
def adE (X : R4) (e : Int) (Y : R4) (j : Int) : Int := if adOk X e Y j then (dyE X e.toNat Y j.toNat : Int) else 0

theorem out_any (bc : Nat) (β : Bool) (a b c d e : Int) (w : World) (hb : w.heap[bc]? = some (.cells #[.bool β] 84 (0, 0))) :
    Calls Try.prog 53 #[.pointer (some ⟨bc, 0, none⟩), .agg #[.int .i64 a, .int .i64 b, .int .i64 c, .int .i64 d, .int .i64 e]] w fun en w' =>
      en = .returned (.tuple #[.agg #[.int .i64 (ifZ (!β) a), .int .i64 (ifZ (!β) b), .int .i64 (ifZ (!β) c), .int .i64 (ifZ (!β) d), .int .i64 (ifZ (!β) e)], .bool (!β)]) ∧ Ext w w' := by
  have hlt : bc < w.heap.size := (Array.getElem?_eq_some_iff.1 hb).1
  have hc : ∀ j, w.cell? ⟨bc, j, none⟩ = (#[.bool β] : Array Value)[j]? := fun j => cell_of_row _ _ _ _ _ _ hb
  cases β
  · go_enter Try.func53, Try.ntmps53
    go_wp2
    refine bodyPost_ret (v := .tuple #[.agg #[.int .i64 a, .int .i64 b, .int .i64 c, .int .i64 d, .int .i64 e], .bool true]) (by simp [results, Try.results53, go_sem, *]) rfl ⟨rfl, ?_⟩
    exact (by repeat (first | (with_reducible refine Ext.setCell ?_ (by first | (simp; done) | (simp; omega)) _) | with_reducible refine Ext.alloc ?_ _ | with_reducible refine Ext.drew ?_ | with_reducible refine Ext.drewN ?_ _ | with_reducible assumption | with_reducible exact Ext.refl _ | with_reducible refine Ext.trans ?_ (by with_reducible assumption)))
  · go_enter Try.func53, Try.ntmps53
    go_wp2
    refine bodyPost_ret (v := .tuple #[.agg #[.int .i64 0, .int .i64 0, .int .i64 0, .int .i64 0, .int .i64 0], .bool false]) (by simp [results, Try.results53, go_sem, *]) rfl ⟨rfl, ?_⟩
    exact (by repeat (first | (with_reducible refine Ext.setCell ?_ (by first | (simp; done) | (simp; omega)) _) | with_reducible refine Ext.alloc ?_ _ | with_reducible refine Ext.drew ?_ | with_reducible refine Ext.drewN ?_ _ | with_reducible assumption | with_reducible exact Ext.refl _ | with_reducible refine Ext.trans ?_ (by with_reducible assumption)))

theorem ad_false {X : R4} {e : Int} {Y : R4} {j : Int} (h : adOk X e Y j = false) : adX X e Y j = R4.zero ∧ adE X e Y j = 0 := by
  unfold adX adE
  rw [h]
  exact ⟨rfl, rfl⟩
theorem ad_true {X : R4} {e : Int} {Y : R4} {j : Int} (h : GD X e = true) (h2 : GD Y j = true) :
    adOk X e Y j = !dyBad X e.toNat Y j.toNat ∧ (adX X e Y j).a = ifZ (!dyBad X e.toNat Y j.toNat) ((dyX X e.toNat Y j.toNat).a) ∧ (adX X e Y j).b = ifZ (!dyBad X e.toNat Y j.toNat) ((dyX X e.toNat Y j.toNat).b) ∧
    (adX X e Y j).c = ifZ (!dyBad X e.toNat Y j.toNat) ((dyX X e.toNat Y j.toNat).c) ∧ (adX X e Y j).d = ifZ (!dyBad X e.toNat Y j.toNat) ((dyX X e.toNat Y j.toNat).d) ∧ adE X e Y j = ifZ (!dyBad X e.toNat Y j.toNat) ((dyE X e.toNat Y j.toNat : Int)) := by
  have e1 : adOk X e Y j = !dyBad X e.toNat Y j.toNat := by unfold adOk; rw [h, h2]; rfl
  unfold adX adE
  rw [e1]
  cases dyBad X e.toNat Y j.toNat
  · exact ⟨rfl, rfl, rfl, rfl, rfl, rfl⟩
  · exact ⟨rfl, rfl, rfl, rfl, rfl, rfl⟩

set_option maxHeartbeats 1000000 in
theorem s_addDyadic_any (X : R4) (e : Int) (Y : R4) (j : Int) (w : World) :
    Calls Try.prog 18 #[.agg #[.int .i64 X.a, .int .i64 X.b, .int .i64 X.c, .int .i64 X.d, .int .i64 e], .agg #[.int .i64 Y.a, .int .i64 Y.b, .int .i64 Y.c, .int .i64 Y.d, .int .i64 j]] w fun en w' =>
      en = .returned (.tuple #[.agg #[.int .i64 (adX X e Y j).a, .int .i64 (adX X e Y j).b, .int .i64 (adX X e Y j).c, .int .i64 (adX X e Y j).d, .int .i64 (adE X e Y j)], .bool (adOk X e Y j)]) ∧ Ext w w' := by
  have HG1 : ∀ w', Hid (Calls Try.prog 52 #[.agg #[.int .i64 X.a, .int .i64 X.b, .int .i64 X.c, .int .i64 X.d, .int .i64 e]] w' fun en w'' => en = .returned (.bool (GD X e)) ∧ Ext w' w'') := fun w' => l2Good_any X.a X.b X.c X.d e w'
  have HG2 : ∀ w', Hid (Calls Try.prog 52 #[.agg #[.int .i64 Y.a, .int .i64 Y.b, .int .i64 Y.c, .int .i64 Y.d, .int .i64 j]] w' fun en w'' => en = .returned (.bool (GD Y j)) ∧ Ext w' w'') := fun w' => l2Good_any Y.a Y.b Y.c Y.d j w'
  cases h1 : GD X e
  · have HO : Hid (adOk X e Y j = false) := by unfold Hid adOk; rw [h1]; rfl
    have HZ := Lib.hid (ad_false HO.out)
    rw [h1] at HG1
    go_enter Try.func18, Try.ntmps18
    go_wp2_with fail
    refine ((HG1 _).out).mono ?_
    rintro e w1 ⟨rfl, hx1⟩
    obtain ⟨hc1, hf1⟩ := hx1.cells
    have hz1 := hx1.size
    try simp at hz1
    have hs1_0 := sz3 (a := w.heap.size) (b := w1.heap.size) (by omega)
    go_wp2
    refine bodyPost_ret (v := .tuple #[.agg #[.int .i64 0, .int .i64 0, .int .i64 0, .int .i64 0, .int .i64 0], .bool false]) (by simp [results, Try.results18, go_sem, *]) rfl ?_
    exact ⟨by rw [HZ.out.1, HZ.out.2, HO.out]; rfl, (by repeat (first | (with_reducible refine Ext.setCell ?_ (by first | (simp; done) | (simp; omega)) _) | with_reducible refine Ext.alloc ?_ _ | with_reducible refine Ext.drew ?_ | with_reducible refine Ext.drewN ?_ _ | with_reducible assumption | with_reducible exact Ext.refl _ | with_reducible refine Ext.trans ?_ (by with_reducible assumption)))⟩
  cases h2 : GD Y j
  · have HO : Hid (adOk X e Y j = false) := by unfold Hid adOk; rw [h2, Bool.and_false]; rfl
    have HZ := Lib.hid (ad_false HO.out)
    rw [h1] at HG1
    rw [h2] at HG2
    go_enter Try.func18, Try.ntmps18
    go_wp2_with fail
    refine ((HG1 _).out).mono ?_
    rintro e w1 ⟨rfl, hx1⟩
    obtain ⟨hc1, hf1⟩ := hx1.cells
    have hz1 := hx1.size
    try simp at hz1
    have hs1_0 := sz3 (a := w.heap.size) (b := w1.heap.size) (by omega)
    go_wp2_with fail
    refine ((HG2 _).out).mono ?_
    rintro e w2 ⟨rfl, hx2⟩
    obtain ⟨hc2, hf2⟩ := hx2.cells
    have hz2 := hx2.size
    try simp at hz2
    have hs2_0 := sz3 (a := w.heap.size) (b := w2.heap.size) (by omega)
    go_wp2
    refine bodyPost_ret (v := .tuple #[.agg #[.int .i64 0, .int .i64 0, .int .i64 0, .int .i64 0, .int .i64 0], .bool false]) (by simp [results, Try.results18, go_sem, *]) rfl ?_
    exact ⟨by rw [HZ.out.1, HZ.out.2, HO.out]; rfl, (by repeat (first | (with_reducible refine Ext.setCell ?_ (by first | (simp; done) | (simp; omega)) _) | with_reducible refine Ext.alloc ?_ _ | with_reducible refine Ext.drew ?_ | with_reducible refine Ext.drewN ?_ _ | with_reducible assumption | with_reducible exact Ext.refl _ | with_reducible refine Ext.trans ?_ (by with_reducible assumption)))⟩
  have HT := Lib.hid (ad_true h1 h2)
  rw [h1] at HG1
  rw [h2] at HG2
  obtain ⟨r1, r2, r3, -⟩ := GD_rg h1
  obtain ⟨s1, s2, s3, -⟩ := GD_rg h2
  obtain ⟨m, rfl⟩ : ∃ m : Nat, e = m := ⟨e.toNat, by omega⟩
  obtain ⟨n, rfl⟩ : ∃ n : Nat, j = n := ⟨j.toNat, by omega⟩
  have HR1 := Lib.hid r1
  have HS1 := Lib.hid s1
  clear r1 s1 h1 h2
  simp only [Int.toNat_natCast] at HT
  have HA := fun (bc : Nat) (w' : World) (h : w'.heap[bc]? = some (.cells #[.bool false] 84 (0, 0))) => Lib.hid (add_any bc false X m Y n HR1.out (by omega) HS1.out (by omega) w' h)
  obtain ⟨Q, hQ⟩ : ∃ Q, dyX X m Y n = Q := ⟨_, rfl⟩
  obtain ⟨q, hq⟩ : ∃ q, dyE X m Y n = q := ⟨_, rfl⟩
  obtain ⟨β, hβ⟩ : ∃ β, dyBad X m Y n = β := ⟨_, rfl⟩
  simp only [hQ, hq, hβ, Bool.false_or] at HT HA
  clear hQ hq hβ
  go_enter Try.func18, Try.ntmps18
  go_wp2_with fail
  refine ((HG1 _).out).mono ?_
  rintro e w1 ⟨rfl, hx1⟩
  obtain ⟨hc1, hf1⟩ := hx1.cells
  have hz1 := hx1.size
  try simp at hz1
  have hs1_0 := sz3 (a := w.heap.size) (b := w1.heap.size) (by omega)
  go_wp2_with fail
  refine ((HG2 _).out).mono ?_
  rintro e w2 ⟨rfl, hx2⟩
  obtain ⟨hc2, hf2⟩ := hx2.cells
  have hz2 := hx2.size
  try simp at hz2
  have hs2_0 := sz3 (a := w.heap.size) (b := w2.heap.size) (by omega)
  go_wp2_with fail
  refine (HA w2.heap.size _ (heap_alloc_new _ _)).out.mono ?_
  rintro en w3 ⟨rfl, hg3, hb3⟩
  have hx3 : Ext w2 w3 := (((GX.refl [w2.heap.size] w2).alloc _).trans (GX.ofGrown hg3)).toExt (by simp)
  have hl3 : w2.heap.size < w3.heap.size := (Array.getElem?_eq_some_iff.1 hb3).1
  obtain ⟨hc3, hf3⟩ := hx3.cells
  have hz3 := hx3.size
  try simp at hz3
  have hs3_0 := sz3 (a := w.heap.size) (b := w3.heap.size) (by omega)
  go_wp2_with fail
  refine (out_any w2.heap.size β _ _ _ _ _ _ hb3).mono ?_
  rintro en w4 ⟨rfl, hx4⟩
  obtain ⟨hc4, hf4⟩ := hx4.cells
  have hz4 := hx4.size
  try simp at hz4
  have hs4_0 := sz3 (a := w.heap.size) (b := w4.heap.size) (by omega)
  go_wp2
  refine bodyPost_ret (v := .tuple #[.agg #[.int .i64 (ifZ (!β) Q.a), .int .i64 (ifZ (!β) Q.b), .int .i64 (ifZ (!β) Q.c), .int .i64 (ifZ (!β) Q.d), .int .i64 (ifZ (!β) q)], .bool (!β)]) (by simp [results, Try.results18, go_sem, *]) rfl ?_
  exact ⟨by rw [HT.out.1, HT.out.2.1, HT.out.2.2.1, HT.out.2.2.2.1, HT.out.2.2.2.2.1, HT.out.2.2.2.2.2], (by repeat (first | (with_reducible refine Ext.setCell ?_ (by first | (simp; done) | (simp; omega)) _) | with_reducible refine Ext.alloc ?_ _ | with_reducible refine Ext.drew ?_ | with_reducible refine Ext.drewN ?_ _ | with_reducible assumption | with_reducible exact Ext.refl _ | with_reducible refine Ext.trans ?_ (by with_reducible assumption)))⟩

/-- the opposite of the second number -/
theorem neg_valid {Y : R4} {j : Int} : GD Y.neg j = GD Y j := by
  have e1 : Y.neg.rg = Y.rg := by
    unfold R4.rg R4.neg Rg Cf Wn
    congr 1
    · congr 1
      · congr 1
        all_goals (rw [Bool.eq_iff_iff]; simp; omega)
      · rw [Bool.eq_iff_iff]; simp; omega
    · rw [Bool.eq_iff_iff]; simp; omega
  have e2 : Y.neg.ev = Y.ev := by
    unfold R4.ev R4.neg evR
    have h1 : ∀ x y : Int, (Int.tmod (-x + -y) 2 == 0) = (Int.tmod (x + y) 2 == 0) := by
      intro x y
      rw [show -x + -y = -(x + y) by omega, Int.neg_tmod]
      rw [Bool.eq_iff_iff]
      simp
    simp only [h1]
  unfold GD
  rw [e1, e2]

theorem l2Neg_any (Y : R4) (j : Int) (h : Y.rg = true) (w : World) :
    Calls Try.prog 59 #[.agg #[.int .i64 Y.a, .int .i64 Y.b, .int .i64 Y.c, .int .i64 Y.d, .int .i64 j]] w fun en w' =>
      en = .returned (.agg #[.int .i64 Y.neg.a, .int .i64 Y.neg.b, .int .i64 Y.neg.c, .int .i64 Y.neg.d, .int .i64 j]) ∧ Ext w w' := by
  obtain ⟨a, b, c, d⟩ := Y
  simp only [R4.neg]
  have H := Lib.hid (show Rg a b c d = true from h)
  clear h
  go_enter Try.func59, Try.ntmps59
  go_wp2
  refine Wr.wp_region_wr (m := 9) [⟨w.heap.size, 34, #[.int .i64 a, .int .i64 b, .int .i64 c, .int .i64 d, .int .i64 j]⟩, ⟨w.heap.size + 1, 34, #[.int .i64 0, .int .i64 0, .int .i64 0, .int .i64 0, .int .i64 0]⟩] (by kernel_rfl) (by kernel_rfl) rfl (by simp; try omega) ?_ ?_
  · intro s hs
    rcases s with _ | _ | s
    · exact (show (World.heap _)[w.heap.size]? = some (Obj.cells #[.int .i64 a, .int .i64 b, .int .i64 c, .int .i64 d, .int .i64 j] 34 (0, 0)) from heap_alloc_lt (heap_alloc_new _ _))
    · exact (show (World.heap _)[w.heap.size + 1]? = some (Obj.cells #[.int .i64 0, .int .i64 0, .int .i64 0, .int .i64 0, .int .i64 0] 34 (0, 0)) from heap_alloc_at _ _ _ (by simp))
    · simp at hs
      try omega
  (refine Wr.ww_plain ?_; apply Exists.intro; refine ⟨?_, ?_⟩; (first | (go_simp; (try intro x); (try go_bits); rfl)); simp only [Act.put, List.setIfInBounds_toArray, List.set_cons_succ, List.set_cons_zero, List.nil_append, List.cons_append])
  refine Wr.ww_read 0 (w.heap.size) 34 #[.int .i64 a, .int .i64 b, .int .i64 c, .int .i64 d, .int .i64 j] (by simp) rfl rfl rfl (fun hr => ?_)
  apply Exists.intro
  refine ⟨?_, ?_⟩
  · go_simp
    (try intro x)
    (try go_bits)
    rfl
  clear hr
  simp only [Act.put, List.setIfInBounds_toArray, List.set_cons_succ, List.set_cons_zero, List.nil_append, List.cons_append]
  (refine Wr.ww_plain ?_; apply Exists.intro; refine ⟨?_, ?_⟩; (first | (go_simp; (try intro x); (try go_bits); rfl) | (go_simp; intro x; go_at_call 109; exact l1Neg_any _ _ _ _ H.out _)); simp only [Act.put, List.setIfInBounds_toArray, List.set_cons_succ, List.set_cons_zero, List.nil_append, List.cons_append])
  (refine Wr.ww_plain ?_; apply Exists.intro; refine ⟨?_, ?_⟩; (first | (go_simp; (try intro x); (try go_bits); rfl)); simp only [Act.put, List.setIfInBounds_toArray, List.set_cons_succ, List.set_cons_zero, List.nil_append, List.cons_append])
  refine Wr.ww_read 0 (w.heap.size) 34 #[.int .i64 a, .int .i64 b, .int .i64 c, .int .i64 d, .int .i64 j] (by simp) rfl rfl rfl (fun hr => ?_)
  apply Exists.intro
  refine ⟨?_, ?_⟩
  · go_simp
    (try intro x)
    (try go_bits)
    rfl
  clear hr
  simp only [Act.put, List.setIfInBounds_toArray, List.set_cons_succ, List.set_cons_zero, List.nil_append, List.cons_append]
  (refine Wr.ww_plain ?_; apply Exists.intro; refine ⟨?_, ?_⟩; (first | (go_simp; (try intro x); (try go_bits); rfl)); simp only [Act.put, List.setIfInBounds_toArray, List.set_cons_succ, List.set_cons_zero, List.nil_append, List.cons_append])
  refine Wr.ww_store 1 (w.heap.size + 1) 34 #[.int .i64 0, .int .i64 0, .int .i64 0, .int .i64 0, .int .i64 0] #[.int .i64 (-a), .int .i64 (-b), .int .i64 (-c), .int .i64 (-d), .int .i64 j] rfl (by simp) rfl rfl rfl (fun x => ?_) ?_
  · have hcell : ∀ kk, x.w.cell? ⟨w.heap.size + 1, kk, none⟩ = (#[.int .i64 0, .int .i64 0, .int .i64 0, .int .i64 0, .int .i64 0] : Array Value)[kk]? := fun kk => cell_of_row _ _ _ _ _ _ x.2.2
    have hfr : ∀ kk, x.w.frozen? ⟨w.heap.size + 1, kk, none⟩ = false := fun kk => frozen_of_row _ _ _ _ _ x.2.2
    apply Exists.intro
    refine ⟨?_, ?_⟩
    · go_simp
      (try go_bits)
      rfl
    · exact (((((Fill.start x.2.2).set 0 _).set 1 _).set 2 _).set 3 _).set 4 _
  simp only [Act.put, List.setIfInBounds_toArray, List.set_cons_succ, List.set_cons_zero, List.nil_append, List.cons_append]
  refine Wr.ww_done (by kernel_rfl) (by kernel_rfl) (fun w1 hg1 hs1 => ?_)
  have hb1_0 : w1.heap[w.heap.size]? = some (.cells #[.int .i64 a, .int .i64 b, .int .i64 c, .int .i64 d, .int .i64 j] 34 (0, 0)) := hs1 0 (by simp)
  have hb1_1 : w1.heap[w.heap.size + 1]? = some (.cells #[.int .i64 (-a), .int .i64 (-b), .int .i64 (-c), .int .i64 (-d), .int .i64 j] 34 (0, 0)) := hs1 1 (by simp)
  clear hs1
  simp only [List.map_cons, List.map_nil] at hg1
  have hcR : ∀ i, w1.cell? ⟨w.heap.size + 1, i, none⟩ = (#[.int .i64 (-a), .int .i64 (-b), .int .i64 (-c), .int .i64 (-d), .int .i64 j] : Array Value)[i]? := fun i => cell_of_row _ _ _ _ _ _ hb1_1
  go_wp2
  refine bodyPost_ret (v := .agg #[.int .i64 (-a), .int .i64 (-b), .int .i64 (-c), .int .i64 (-d), .int .i64 j]) (by simp [results, Try.results59, go_sem, *]) rfl ?_
  exact ⟨rfl, (((GX.refl [w.heap.size, w.heap.size + 1] w).alloc _).alloc _ |>.trans hg1).toExt (by simp)⟩

end Go.Proofs.Ytnlhonlfkmpleaa
