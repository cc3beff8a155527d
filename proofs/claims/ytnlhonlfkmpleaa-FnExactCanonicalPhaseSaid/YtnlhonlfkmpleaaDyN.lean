/- Dyadic numbers: comparing absolute values, the reference's side. -/
import Derived.Test.YtnlhonlfkmpleaaDyM
import Derived.Test.YtnlhonlfkmpleaaSgn
namespace Go.Proofs.Ytnlhonlfkmpleaa
open Go.RowKit Go.Lib
set_option linter.unusedVariables false
set_option linter.unusedSimpArgs false

theorem low_nev : ∀ n x, lowE n x = 0 ∨ (lowX n x).ev = false
  | 0, _ => .inl rfl
  | n + 1, x => by
    unfold lowE lowX
    cases h : x.ev
    · exact .inr (by simpa using h)
    · simpa using low_nev n x.half
theorem low_gd {n : Nat} {x : R4} (hn : n ≤ 60) (h : x.rg = true) : GD (lowX n x) (lowE n x) = true := by
  have h1 := rg_low n x h
  have h2 := lowE_le n x
  unfold GD
  rw [h1]
  rcases low_nev n x with h3 | h3
  · rw [h3]; rfl
  · rw [h3]; simp; omega
theorem mv_gd {X : R4} {m : Nat} {Y : R4} {n : Nat} : GD (mvX X m Y n) (mvE X m Y n) = true := by
  unfold mvX mvE
  split
  · decide
  · exact low_gd (by omega) (rg_clip _)
theorem ns_gd {X : R4} {e : Int} : GD (nsX X e) (nsE X e) = true := by
  unfold nsX nsE
  split
  · exact mv_gd
  · decide
theorem ad_gd {X : R4} {m : Nat} {Y : R4} {n : Nat} (hm : m ≤ 60) (hn : n ≤ 60) : GD (dyX X m Y n) (dyE X m Y n) = true := low_gd (by omega) (rg_clip _)

def caOk (X : R4) (e : Int) (Y : R4) (j : Int) : Bool := nsOk X e && nsOk Y j && !dyBad (nsX X e) (nsE X e).toNat (nsX Y j).neg (nsE Y j).toNat
def caD (X : R4) (e : Int) (Y : R4) (j : Int) : R4 := dyX (nsX X e) (nsE X e).toNat (nsX Y j).neg (nsE Y j).toNat
def caV (X : R4) (e : Int) (Y : R4) (j : Int) : Int := if caOk X e Y j then S2 (caD X e Y j).a (caD X e Y j).b else 0

set_option maxRecDepth 20000 in
set_option maxHeartbeats 1000000 in
theorem s_compareAbs_any (X : R4) (e : Int) (Y : R4) (j : Int) (w : World) :
    Calls Try.prog 28 #[.agg #[.int .i64 X.a, .int .i64 X.b, .int .i64 X.c, .int .i64 X.d, .int .i64 e], .agg #[.int .i64 Y.a, .int .i64 Y.b, .int .i64 Y.c, .int .i64 Y.d, .int .i64 j]] w fun en w' =>
      en = .returned (.tuple #[.int .i64 (caV X e Y j), .bool (caOk X e Y j)]) ∧ Ext w w' := by
  have HN1 := fun w' => Lib.hid (s_normSquare_any X e w')
  have HN2 := fun w' => Lib.hid (s_normSquare_any Y j w')
  have HO : Hid (caOk X e Y j = (nsOk X e && nsOk Y j && !dyBad (nsX X e) (nsE X e).toNat (nsX Y j).neg (nsE Y j).toNat)) := rfl
  have HV : Hid (caV X e Y j = if caOk X e Y j then S2 (caD X e Y j).a (caD X e Y j).b else 0) := rfl
  have HDD : Hid (caD X e Y j = dyX (nsX X e) (nsE X e).toNat (nsX Y j).neg (nsE Y j).toNat) := rfl
  obtain ⟨r1, r2, r3, -⟩ := GD_rg (ns_gd (X := X) (e := e))
  obtain ⟨s1, s2, s3, -⟩ := GD_rg (ns_gd (X := Y) (e := j))
  obtain ⟨A, hA⟩ : ∃ A, nsX X e = A := ⟨_, rfl⟩
  obtain ⟨B, hB⟩ : ∃ B, nsX Y j = B := ⟨_, rfl⟩
  obtain ⟨o1, ho1⟩ : ∃ o, nsOk X e = o := ⟨_, rfl⟩
  obtain ⟨o2, ho2⟩ : ∃ o, nsOk Y j = o := ⟨_, rfl⟩
  obtain ⟨α, hα⟩ : ∃ α : Nat, nsE X e = α := ⟨(nsE X e).toNat, by omega⟩
  obtain ⟨β, hβ⟩ : ∃ β : Nat, nsE Y j = β := ⟨(nsE Y j).toNat, by omega⟩
  simp only [hA, hB, ho1, ho2, hα, hβ, Int.toNat_natCast] at HN1 HN2 HO HDD r1 r2 r3 s1 s2 s3
  have HR1 := Lib.hid r1
  have HS1 := Lib.hid s1
  have HS2 := Lib.hid (rg_neg s1)
  have HDG := Lib.hid (GD_rg (ad_gd (X := A) (m := α) (Y := B.neg) (n := β) (by omega) (by omega))).1
  clear hA hB ho1 ho2 hα hβ r1 s1
  cases o1
  · have HF : Hid (caOk X e Y j = false) := by unfold Hid; rw [HO.out]; rfl
    go_enter Try.func28, Try.ntmps28
    go_wp2_with fail
    refine ((HN1 _).out).mono ?_
    rintro e w1 ⟨rfl, hx1⟩
    obtain ⟨hc1, hf1⟩ := hx1.cells
    have hz1 := hx1.size
    try simp at hz1
    have hs1_0 := sz2 (a := w.heap.size) (b := w1.heap.size) (by omega)
    go_wp2_with fail
    refine ((HN2 _).out).mono ?_
    rintro en w2 ⟨rfl, hx2⟩
    obtain ⟨hc2, hf2⟩ := hx2.cells
    have hz2 := hx2.size
    try simp at hz2
    have hs2_0 := sz2 (a := w.heap.size) (b := w2.heap.size) (by omega)
    go_wp2
    go_ret2
    exact ⟨by rw [HV.out, HF.out]; rfl, (by repeat (first | (with_reducible refine Ext.setCell ?_ (by first | (simp; done) | (simp; omega)) _) | with_reducible refine Ext.alloc ?_ _ | with_reducible refine Ext.drew ?_ | with_reducible refine Ext.drewN ?_ _ | with_reducible assumption | with_reducible exact Ext.refl _ | with_reducible refine Ext.trans ?_ (by with_reducible assumption)))⟩
  cases o2
  · have HF : Hid (caOk X e Y j = false) := by unfold Hid; rw [HO.out]; rfl
    go_enter Try.func28, Try.ntmps28
    go_wp2_with fail
    refine ((HN1 _).out).mono ?_
    rintro e w1 ⟨rfl, hx1⟩
    obtain ⟨hc1, hf1⟩ := hx1.cells
    have hz1 := hx1.size
    try simp at hz1
    have hs1_0 := sz2 (a := w.heap.size) (b := w1.heap.size) (by omega)
    go_wp2_with fail
    refine ((HN2 _).out).mono ?_
    rintro en w2 ⟨rfl, hx2⟩
    obtain ⟨hc2, hf2⟩ := hx2.cells
    have hz2 := hx2.size
    try simp at hz2
    have hs2_0 := sz2 (a := w.heap.size) (b := w2.heap.size) (by omega)
    go_wp2
    go_ret2
    exact ⟨by rw [HV.out, HF.out]; rfl, (by repeat (first | (with_reducible refine Ext.setCell ?_ (by first | (simp; done) | (simp; omega)) _) | with_reducible refine Ext.alloc ?_ _ | with_reducible refine Ext.drew ?_ | with_reducible refine Ext.drewN ?_ _ | with_reducible assumption | with_reducible exact Ext.refl _ | with_reducible refine Ext.trans ?_ (by with_reducible assumption)))⟩
  have HAd := fun (bc : Nat) (w' : World) (h : w'.heap[bc]? = some (.cells #[.bool false] 84 (0, 0))) => Lib.hid (add_any bc false A α B.neg β HR1.out (by omega) HS2.out (by omega) w' h)
  obtain ⟨Q, hQ⟩ : ∃ Q, dyX A α B.neg β = Q := ⟨_, rfl⟩
  obtain ⟨q, hq⟩ : ∃ q, dyE A α B.neg β = q := ⟨_, rfl⟩
  obtain ⟨γ, hγ⟩ : ∃ γ, dyBad A α B.neg β = γ := ⟨_, rfl⟩
  simp only [hQ, hq, hγ, Bool.false_or] at HO HAd HDD HDG
  clear hQ hq hγ
  go_enter Try.func28, Try.ntmps28
  go_wp2_with fail
  refine ((HN1 _).out).mono ?_
  rintro e w1 ⟨rfl, hx1⟩
  obtain ⟨hc1, hf1⟩ := hx1.cells
  have hz1 := hx1.size
  try simp at hz1
  have hs1_0 := sz2 (a := w.heap.size) (b := w1.heap.size) (by omega)
  go_wp2_with fail
  refine ((HN2 _).out).mono ?_
  rintro en w2 ⟨rfl, hx2⟩
  obtain ⟨hc2, hf2⟩ := hx2.cells
  have hz2 := hx2.size
  try simp at hz2
  have hs2_0 := sz2 (a := w.heap.size) (b := w2.heap.size) (by omega)
  have hba : w2.heap[w1.heap.size]? = some (.cells #[.int .i64 A.a, .int .i64 A.b, .int .i64 A.c, .int .i64 A.d, .int .i64 α] 34 (0, 0)) := (hx2.heap (by simp)).trans (heap_alloc_new _ _)
  have hcA : ∀ k, w2.cell? ⟨w1.heap.size, k, none⟩ = (#[.int .i64 A.a, .int .i64 A.b, .int .i64 A.c, .int .i64 A.d, .int .i64 α] : Array Value)[k]? := fun k => cell_of_row _ _ _ _ _ _ hba
  have hlA : w1.heap.size < w2.heap.size := (Array.getElem?_eq_some_iff.1 hba).1
  go_wp2
  refine wp_region_madePC (m := 46) (w2.alloc (.cells #[.int .i64 B.a, .int .i64 B.b, .int .i64 B.c, .int .i64 B.d, .int .i64 β] 34)) (by kernel_rfl) (by kernel_rfl) (by rfl) (by exact (Ext.refl _).alloc _) (fun hxc => ?_)
  repeat (refine mw_quiet ?_; apply Exists.intro; refine ⟨fun σ => ?_, ?_⟩; (first | (go_simp; rfl) | (go_simp; intro x; first | (go_at_call 59; exact l2Neg_any _ _ HS1.out _))); simp only [Act.put, List.setIfInBounds_toArray, List.set_cons_succ, List.set_cons_zero, List.nil_append, List.cons_append])
  refine mw_putc (.agg #[.int .i64 Q.a, .int .i64 Q.b, .int .i64 Q.c, .int .i64 Q.d, .int .i64 q]) (w2.heap.size + 1) 84 #[.bool false] #[.bool γ] rfl (by first | (simp; done) | (simp; omega)) (heap_alloc_at _ _ _ (by simp)) (fun σ x hc => ?_) ?_
  · apply Exists.intro
    apply Exists.intro
    refine ⟨?_, ?_⟩
    · go_simp
      first | rfl | exact ⟨rfl, rfl⟩
    · exact (HAd _ _ hc).out
  simp only [Act.put, List.setIfInBounds_toArray, List.set_cons_succ, List.set_cons_zero, List.nil_append, List.cons_append]
  repeat (refine mw_quiet ?_; apply Exists.intro; refine ⟨fun σ => ?_, ?_⟩; (first | (go_simp; rfl) | (go_simp; intro x; first | (go_at_call 59; exact l2Neg_any _ _ HS1.out _))); simp only [Act.put, List.setIfInBounds_toArray, List.set_cons_succ, List.set_cons_zero, List.nil_append, List.cons_append])
  refine mw_maker (fun n => .pointer (some ⟨n, 0, none⟩)) 34 #[.int .i64 0, .int .i64 0, .int .i64 0, .int .i64 0, .int .i64 0] 6 #[.int .i64 Q.a, .int .i64 Q.b, .int .i64 Q.c, .int .i64 Q.d, .int .i64 q] rfl (fun σ x => ?_) ?_
  · go_simp
  simp only [Act.put, List.setIfInBounds_toArray, List.set_cons_succ, List.set_cons_zero, List.nil_append, List.cons_append, List.length_cons, List.length_nil, Nat.reduceAdd]
  repeat (refine mw_quiet ?_; apply Exists.intro; refine ⟨fun σ => ?_, ?_⟩; (first | (go_simp; rfl) | (go_simp; intro x; first | (go_at_call 59; exact l2Neg_any _ _ HS1.out _))); simp only [Act.put, List.setIfInBounds_toArray, List.set_cons_succ, List.set_cons_zero, List.nil_append, List.cons_append])
  refine mw_store 5 rfl rfl (fun σ x hb hc => ?_) ?_
  · have hcell : ∀ k, x.w.cell? ⟨σ 5, k, none⟩ = (#[.int .i64 0, .int .i64 0, .int .i64 0, .int .i64 0, .int .i64 0] : Array Value)[k]? := fun k => cell_of_row _ _ _ _ _ _ hc
    have hfr : ∀ k, x.w.frozen? ⟨σ 5, k, none⟩ = false := fun k => frozen_of_row _ _ _ _ _ hc
    apply Exists.intro
    refine ⟨?_, ?_⟩
    · go_simp
      rfl
    · exact (((((Fill.start hc).set 0 _).set 1 _).set 2 _).set 3 _).set 4 _
  simp only [Act.put, List.nil_append, List.cons_append]
  repeat (refine mw_quiet ?_; apply Exists.intro; refine ⟨fun σ => ?_, ?_⟩; (first | (go_simp; rfl) | (go_simp; intro x; first | (go_at_call 59; exact l2Neg_any _ _ HS1.out _))); simp only [Act.put, List.setIfInBounds_toArray, List.set_cons_succ, List.set_cons_zero, List.nil_append, List.cons_append])
  refine ⟨by kernel_rfl, fun σ w3 hF3 => ?_⟩
  have hx3 := hF3.ext
  have hP3 := hF3.put 4 (.agg #[.int .i64 Q.a, .int .i64 Q.b, .int .i64 Q.c, .int .i64 Q.d, .int .i64 q]) (w2.heap.size + 1) 84 #[.bool false] #[.bool γ] (by decide) rfl
  obtain ⟨hm3_5, hl3_5, hq3_5, hr3_5⟩ := mfin_blk hF3 5 6 rfl (by decide) #[.int .i64 Q.a, .int .i64 Q.b, .int .i64 Q.c, .int .i64 Q.d, .int .i64 q] rfl
  dsimp only
  generalize σ 5 = B3_5 at *
  clear hF3 hxc
  have hPc3 : ∀ j, w3.cell? ⟨w2.heap.size + 1, j, none⟩ = (#[.bool γ] : Array Value)[j]? := fun j => cell_of_row _ _ _ _ _ _ hP3
  have hPf3 : ∀ j, w3.frozen? ⟨w2.heap.size + 1, j, none⟩ = false := fun j => frozen_of_row _ _ _ _ _ hP3
  obtain ⟨hc3, hf3⟩ := hx3.cells
  have hz3 := hx3.size
  try simp at hz3
  cases γ
  · have HF : Hid (caOk X e Y j = true) := by unfold Hid; rw [HO.out]; rfl
    obtain ⟨c1, c2, -, -⟩ := (show Cf Q.a = true ∧ Cf Q.b = true ∧ Cf Q.c = true ∧ Cf Q.d = true by have := HDG.out; simpa [R4.rg, Rg, Bool.and_eq_true, and_assoc] using this)
    have C1 := Lib.hid c1
    have C2 := Lib.hid c2
    clear c1 c2
    go_wp2_with (go_at_call 67; ((with_reducible refine (l2Sign_any _ _ C1.out C2.out _).mono ?_); rintro e w' ⟨rfl, rfl⟩))
    go_ret2
    refine ⟨by rw [HV.out, HF.out, if_pos rfl, HDD.out]; rfl, ?_⟩
    exact (by repeat (first | (with_reducible refine Ext.setCell ?_ (by first | (simp; done) | (simp; omega)) _) | with_reducible refine Ext.alloc ?_ _ | with_reducible refine Ext.drew ?_ | with_reducible refine Ext.drewN ?_ _ | with_reducible assumption | with_reducible exact Ext.refl _ | with_reducible refine Ext.trans ?_ (by with_reducible assumption)))
  · have HF : Hid (caOk X e Y j = false) := by unfold Hid; rw [HO.out]; rfl
    go_wp2
    go_ret2
    refine ⟨by rw [HV.out, HF.out]; rfl, ?_⟩
    exact (by repeat (first | (with_reducible refine Ext.setCell ?_ (by first | (simp; done) | (simp; omega)) _) | with_reducible refine Ext.alloc ?_ _ | with_reducible refine Ext.drew ?_ | with_reducible refine Ext.drewN ?_ _ | with_reducible assumption | with_reducible exact Ext.refl _ | with_reducible refine Ext.trans ?_ (by with_reducible assumption)))

end Go.Proofs.Ytnlhonlfkmpleaa
