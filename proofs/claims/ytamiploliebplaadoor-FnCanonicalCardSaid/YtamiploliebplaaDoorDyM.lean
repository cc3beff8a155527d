/- Dyadic numbers: products on the reference's side. -/
import Derived.Test.YtamiploliebplaaDoorDyA
import Derived.Test.YtamiploliebplaaDoorSgn
namespace Go.Proofs.YtamiploliebplaaDoor
open Go.RowKit Go.Lib
set_option linter.unusedVariables false
set_option linter.unusedSimpArgs false

theorem rg_conj {X : R4} (h : X.rg = true) : X.conj.rg = true := by
  obtain ⟨a, b, c, d⟩ := Rg_bd h
  exact Rg_mk (by simp only [R4.conj]; omega)
def mvBad (X : R4) (m : Nat) (Y : R4) (n : Nat) : Bool := decide (60 < m + n) || !(X.mul Y).rg
def mvX (X : R4) (m : Nat) (Y : R4) (n : Nat) : R4 := if 60 < m + n then R4.zero else lowX (m + n) (X.mul Y).clip
def mvE (X : R4) (m : Nat) (Y : R4) (n : Nat) : Nat := if 60 < m + n then 0 else lowE (m + n) (X.mul Y).clip

set_option maxRecDepth 20000 in
set_option maxHeartbeats 1000000 in
theorem mul_any (bc : Nat) (b : Bool) (X : R4) (m : Nat) (Y : R4) (n : Nat) (hX : X.rg = true) (hm : m ≤ 60) (hY : Y.rg = true) (hn : n ≤ 60) (w : World) (hb : w.heap[bc]? = some (.cells #[.bool b] 72 (0, 0))) :
    Calls Tryd.prog 39 #[.pointer (some ⟨bc, 0, none⟩), .agg #[.int .i64 X.a, .int .i64 X.b, .int .i64 X.c, .int .i64 X.d, .int .i64 m], .agg #[.int .i64 Y.a, .int .i64 Y.b, .int .i64 Y.c, .int .i64 Y.d, .int .i64 n]] w fun e w' =>
      e = .returned (.agg #[.int .i64 (mvX X m Y n).a, .int .i64 (mvX X m Y n).b, .int .i64 (mvX X m Y n).c, .int .i64 (mvX X m Y n).d, .int .i64 (mvE X m Y n)]) ∧
      w.grownBy w' (some bc) ∧ w'.heap[bc]? = some (.cells #[.bool (b || mvBad X m Y n)] 72 (0, 0)) := by
  have hlt : bc < w.heap.size := (Array.getElem?_eq_some_iff.1 hb).1
  have hne : w.heap.size ≠ bc ∧ w.heap.size + 1 ≠ bc ∧ w.heap.size + 1 + 1 ≠ bc := by omega
  obtain ⟨hne0, hne1, hne2⟩ := hne
  have hmb : 0 ≤ (m : Int) ∧ (m : Int) ≤ 60 := by omega
  have hnb : 0 ≤ (n : Int) ∧ (n : Int) ≤ 60 := by omega
  by_cases h0 : 60 < m + n
  · have h0' : (60 : Int) < (m : Int) + n := by omega
    have HX : Hid (mvX X m Y n = R4.zero ∧ mvE X m Y n = 0 ∧ mvBad X m Y n = true) := by
      unfold Hid mvX mvE mvBad
      rw [if_pos h0, if_pos h0]
      exact ⟨rfl, rfl, by simp [h0]⟩
    have hcc : ∀ k, w.cell? ⟨bc, k, none⟩ = (#[.bool b] : Array Value)[k]? := fun k => cell_of_row _ _ _ _ _ _ hb
    have hff : ∀ k, w.frozen? ⟨bc, k, none⟩ = false := fun k => frozen_of_row _ _ _ _ _ hb
    have hfa : ∀ (A B C : Obj) (k : Nat), (((w.alloc A).alloc B).alloc C).frozen? ⟨bc, k, none⟩ = false := fun A B C k => frozen_of_row _ _ _ _ _ (heap_alloc_lt (heap_alloc_lt (heap_alloc_lt hb)))
    have hca : ∀ (A B C : Obj) (k : Nat), (((w.alloc A).alloc B).alloc C).cell? ⟨bc, k, none⟩ = (#[.bool b] : Array Value)[k]? := fun A B C k => cell_of_row _ _ _ _ _ _ (heap_alloc_lt (heap_alloc_lt (heap_alloc_lt hb)))
    clear h0 hX hY
    go_enter Tryd.func39, Tryd.ntmps39
    go_wp2
    refine bodyPost_ret (v := .agg #[.int .i64 0, .int .i64 0, .int .i64 0, .int .i64 0, .int .i64 0]) (by simp [results, Tryd.results39, go_sem, *]) rfl ?_
    refine ⟨by rw [HX.out.1, HX.out.2.1]; rfl, GX.toGrown (by repeat (first | (with_reducible refine GX.setCell ?_ (by first | (simp; done) | (simp; omega)) _) | with_reducible refine GX.alloc ?_ _ | with_reducible refine GX.drew ?_ | with_reducible refine GX.drewN ?_ _ | with_reducible assumption | with_reducible exact GX.refl _ _ | with_reducible refine GX.ext ?_ (by with_reducible assumption) | with_reducible refine GX.trans ?_ (by with_reducible assumption))), ?_⟩
    rw [HX.out.2.2, show (b || true) = true by cases b <;> rfl]
    iterate 5 (refine heap_set_ne (by simp; omega) ?_)
    exact heap_set_at (heap_alloc_lt (heap_alloc_lt (heap_alloc_lt hb))) 0 _
  · have h0' : ¬ (60 : Int) < (m : Int) + n := by omega
    have HX : Hid (mvX X m Y n = lowX (m + n) (X.mul Y).clip ∧ mvE X m Y n = lowE (m + n) (X.mul Y).clip ∧ mvBad X m Y n = !(X.mul Y).rg) := by
      unfold Hid mvX mvE mvBad
      rw [if_neg h0, if_neg h0]
      exact ⟨rfl, rfl, by simp [h0]⟩
    have HP := Lib.hid (p16 hX hY)
    have HRG : ∀ w' : World, w'.heap[bc]? = some (.cells #[.bool b] 72 (0, 0)) → Hid (Calls Tryd.prog 72 #[.pointer (some ⟨bc, 0, none⟩), .agg #[.int .i64 (X.mul Y).a, .int .i64 (X.mul Y).b, .int .i64 (X.mul Y).c, .int .i64 (X.mul Y).d]] w' fun e w'' =>
        e = .returned (.agg #[.int .i64 (X.mul Y).clip.a, .int .i64 (X.mul Y).clip.b, .int .i64 (X.mul Y).clip.c, .int .i64 (X.mul Y).clip.d]) ∧ w'.grownBy w'' (some bc) ∧ w''.heap[bc]? = some (.cells #[.bool (b || !(X.mul Y).rg)] 72 (0, 0))) :=
      fun w' h => Lib.hid (ring_any bc b _ _ _ _ w' h)
    have HM : ∀ w' : World, Hid (Calls Tryd.prog 73 #[.agg #[.int .i64 X.a, .int .i64 X.b, .int .i64 X.c, .int .i64 X.d], .agg #[.int .i64 Y.a, .int .i64 Y.b, .int .i64 Y.c, .int .i64 Y.d]] w' fun e w'' =>
        e = .returned (.agg #[.int .i64 (X.mul Y).a, .int .i64 (X.mul Y).b, .int .i64 (X.mul Y).c, .int .i64 (X.mul Y).d]) ∧ Ext w' w'') :=
      fun w' => Lib.hid (l1Mul_any _ _ _ _ _ _ _ _ HP.out w')
    have HLW := fun w' : World => Lib.hid (l2Low_any (m + n) (by omega) (X.mul Y).clip (rg_clip _) w')
    simp only [R4.val] at HLW
    push_cast at HLW
    generalize (X.mul Y).rg = g at *
    generalize (X.mul Y).clip = C at *
    generalize X.mul Y = Z at *
    obtain ⟨Q, hQ⟩ : ∃ Q, lowX (m + n) C = Q := ⟨_, rfl⟩
    obtain ⟨q, hq⟩ : ∃ q, lowE (m + n) C = q := ⟨_, rfl⟩
    simp only [hQ, hq] at HLW HX
    clear hQ hq h0 hX hY HP
    go_enter Tryd.func39, Tryd.ntmps39
    have hbx : ((w.alloc (.cells #[.int .i64 X.a, .int .i64 X.b, .int .i64 X.c, .int .i64 X.d, .int .i64 m] 46)).alloc (.cells #[.int .i64 Y.a, .int .i64 Y.b, .int .i64 Y.c, .int .i64 Y.d, .int .i64 n] 46)).heap[w.heap.size]? = some (.cells #[.int .i64 X.a, .int .i64 X.b, .int .i64 X.c, .int .i64 X.d, .int .i64 m] 46 (0, 0)) := heap_alloc_lt (heap_alloc_new _ _)
    have hby : ((w.alloc (.cells #[.int .i64 X.a, .int .i64 X.b, .int .i64 X.c, .int .i64 X.d, .int .i64 m] 46)).alloc (.cells #[.int .i64 Y.a, .int .i64 Y.b, .int .i64 Y.c, .int .i64 Y.d, .int .i64 n] 46)).heap[w.heap.size + 1]? = some (.cells #[.int .i64 Y.a, .int .i64 Y.b, .int .i64 Y.c, .int .i64 Y.d, .int .i64 n] 46 (0, 0)) := heap_alloc_at _ _ _ (by simp)
    go_wp2
    refine Wr.wp_region_wr (m := 30) [⟨w.heap.size, 46, #[.int .i64 X.a, .int .i64 X.b, .int .i64 X.c, .int .i64 X.d, .int .i64 m]⟩, ⟨w.heap.size + 1, 46, #[.int .i64 Y.a, .int .i64 Y.b, .int .i64 Y.c, .int .i64 Y.d, .int .i64 n]⟩, ⟨bc, 72, #[.bool b]⟩, ⟨w.heap.size + 1 + 1, 46, #[.int .i64 0, .int .i64 0, .int .i64 0, .int .i64 0, .int .i64 0]⟩] (by kernel_rfl) (by kernel_rfl) rfl (by simp; try omega) ?_ ?_
    · intro s hs
      rcases s with _ | _ | _ | _ | s
      · exact (show (World.heap _)[w.heap.size]? = some (Obj.cells #[.int .i64 X.a, .int .i64 X.b, .int .i64 X.c, .int .i64 X.d, .int .i64 m] 46 (0, 0)) from heap_alloc_lt hbx)
      · exact (show (World.heap _)[w.heap.size + 1]? = some (Obj.cells #[.int .i64 Y.a, .int .i64 Y.b, .int .i64 Y.c, .int .i64 Y.d, .int .i64 n] 46 (0, 0)) from heap_alloc_lt hby)
      · exact (show (World.heap _)[bc]? = some (Obj.cells #[.bool b] 72 (0, 0)) from heap_alloc_lt (heap_alloc_lt (heap_alloc_lt hb)))
      · exact (show (World.heap _)[w.heap.size + 1 + 1]? = some (Obj.cells #[.int .i64 0, .int .i64 0, .int .i64 0, .int .i64 0, .int .i64 0] 46 (0, 0)) from heap_alloc_at _ _ _ (by simp))
      · simp at hs
        try omega
    (refine Wr.ww_plain ?_; apply Exists.intro; refine ⟨?_, ?_⟩; (first | (go_simp; (try intro x); (try go_bits); rfl)); simp only [Act.put, List.setIfInBounds_toArray, List.set_cons_succ, List.set_cons_zero, List.nil_append, List.cons_append])
    (refine Wr.ww_plain ?_; apply Exists.intro; refine ⟨?_, ?_⟩; (first | (go_simp; (try intro x); (try go_bits); rfl)); simp only [Act.put, List.setIfInBounds_toArray, List.set_cons_succ, List.set_cons_zero, List.nil_append, List.cons_append])
    refine Wr.ww_read 0 (w.heap.size) 46 #[.int .i64 X.a, .int .i64 X.b, .int .i64 X.c, .int .i64 X.d, .int .i64 m] (by simp) rfl rfl rfl (fun hr => ?_)
    apply Exists.intro
    refine ⟨?_, ?_⟩
    · go_simp
      (try intro x)
      (try go_bits)
      rfl
    clear hr
    simp only [Act.put, List.setIfInBounds_toArray, List.set_cons_succ, List.set_cons_zero, List.nil_append, List.cons_append]
    (refine Wr.ww_plain ?_; apply Exists.intro; refine ⟨?_, ?_⟩; (first | (go_simp; (try intro x); (try go_bits); rfl)); simp only [Act.put, List.setIfInBounds_toArray, List.set_cons_succ, List.set_cons_zero, List.nil_append, List.cons_append])
    refine Wr.ww_read 1 (w.heap.size + 1) 46 #[.int .i64 Y.a, .int .i64 Y.b, .int .i64 Y.c, .int .i64 Y.d, .int .i64 n] (by simp) rfl rfl rfl (fun hr => ?_)
    apply Exists.intro
    refine ⟨?_, ?_⟩
    · go_simp
      (try intro x)
      (try go_bits)
      rfl
    clear hr
    simp only [Act.put, List.setIfInBounds_toArray, List.set_cons_succ, List.set_cons_zero, List.nil_append, List.cons_append]
    (refine Wr.ww_plain ?_; apply Exists.intro; refine ⟨?_, ?_⟩; (first | (go_simp; (try intro x); (try go_bits); rfl) | (go_simp; intro x; go_at_call 73; exact (HM _).out)); simp only [Act.put, List.setIfInBounds_toArray, List.set_cons_succ, List.set_cons_zero, List.nil_append, List.cons_append])
    refine Wr.ww_call (.agg #[.int .i64 C.a, .int .i64 C.b, .int .i64 C.c, .int .i64 C.d]) 2 (bc) 72 #[.bool b] #[.bool (or b (!g))] rfl (by simp) rfl rfl rfl (fun x => ?_) ?_
    · apply Exists.intro
      apply Exists.intro
      refine ⟨?_, ?_⟩
      · go_simp
        (try go_bits)
        first | rfl | exact ⟨rfl, rfl⟩
      · exact (HRG _ x.2.2).out
    simp only [Act.put, List.setIfInBounds_toArray, List.set_cons_succ, List.set_cons_zero, List.nil_append, List.cons_append]
    (refine Wr.ww_plain ?_; apply Exists.intro; refine ⟨?_, ?_⟩; (first | (go_simp; (try intro x); (try go_bits); rfl)); simp only [Act.put, List.setIfInBounds_toArray, List.set_cons_succ, List.set_cons_zero, List.nil_append, List.cons_append])
    refine Wr.ww_read 0 (w.heap.size) 46 #[.int .i64 X.a, .int .i64 X.b, .int .i64 X.c, .int .i64 X.d, .int .i64 m] (by simp) rfl rfl rfl (fun hr => ?_)
    apply Exists.intro
    refine ⟨?_, ?_⟩
    · go_simp
      (try intro x)
      (try go_bits)
      rfl
    clear hr
    simp only [Act.put, List.setIfInBounds_toArray, List.set_cons_succ, List.set_cons_zero, List.nil_append, List.cons_append]
    (refine Wr.ww_plain ?_; apply Exists.intro; refine ⟨?_, ?_⟩; (first | (go_simp; (try intro x); (try go_bits); rfl)); simp only [Act.put, List.setIfInBounds_toArray, List.set_cons_succ, List.set_cons_zero, List.nil_append, List.cons_append])
    refine Wr.ww_read 1 (w.heap.size + 1) 46 #[.int .i64 Y.a, .int .i64 Y.b, .int .i64 Y.c, .int .i64 Y.d, .int .i64 n] (by simp) rfl rfl rfl (fun hr => ?_)
    apply Exists.intro
    refine ⟨?_, ?_⟩
    · go_simp
      (try intro x)
      (try go_bits)
      rfl
    clear hr
    simp only [Act.put, List.setIfInBounds_toArray, List.set_cons_succ, List.set_cons_zero, List.nil_append, List.cons_append]
    (refine Wr.ww_plain ?_; apply Exists.intro; refine ⟨?_, ?_⟩; (first | (go_simp; (try intro x); (try go_bits); rfl)); simp only [Act.put, List.setIfInBounds_toArray, List.set_cons_succ, List.set_cons_zero, List.nil_append, List.cons_append])
    (refine Wr.ww_plain ?_; apply Exists.intro; refine ⟨?_, ?_⟩; (first | (go_simp; (try intro x); (try go_bits); rfl) | (go_simp; intro x; go_at_call 71; exact (HLW _).out)); simp only [Act.put, List.setIfInBounds_toArray, List.set_cons_succ, List.set_cons_zero, List.nil_append, List.cons_append])
    refine Wr.ww_store 3 (w.heap.size + 1 + 1) 46 #[.int .i64 0, .int .i64 0, .int .i64 0, .int .i64 0, .int .i64 0] #[.int .i64 Q.a, .int .i64 Q.b, .int .i64 Q.c, .int .i64 Q.d, .int .i64 q] rfl (by simp) rfl rfl rfl (fun x => ?_) ?_
    · have hcell : ∀ kk, x.w.cell? ⟨w.heap.size + 1 + 1, kk, none⟩ = (#[.int .i64 0, .int .i64 0, .int .i64 0, .int .i64 0, .int .i64 0] : Array Value)[kk]? := fun kk => cell_of_row _ _ _ _ _ _ x.2.2
      have hfr : ∀ kk, x.w.frozen? ⟨w.heap.size + 1 + 1, kk, none⟩ = false := fun kk => frozen_of_row _ _ _ _ _ x.2.2
      apply Exists.intro
      refine ⟨?_, ?_⟩
      · go_simp
        (try go_bits)
        rfl
      · exact (((((Fill.start x.2.2).set 0 _).set 1 _).set 2 _).set 3 _).set 4 _
    simp only [Act.put, List.setIfInBounds_toArray, List.set_cons_succ, List.set_cons_zero, List.nil_append, List.cons_append]
    refine Wr.ww_done (by kernel_rfl) (by kernel_rfl) (fun w2 hg2 hs2 => ?_)
    have hb2_0 : w2.heap[w.heap.size]? = some (.cells #[.int .i64 X.a, .int .i64 X.b, .int .i64 X.c, .int .i64 X.d, .int .i64 m] 46 (0, 0)) := hs2 0 (by simp)
    have hb2_1 : w2.heap[w.heap.size + 1]? = some (.cells #[.int .i64 Y.a, .int .i64 Y.b, .int .i64 Y.c, .int .i64 Y.d, .int .i64 n] 46 (0, 0)) := hs2 1 (by simp)
    have hb2_2 : w2.heap[bc]? = some (.cells #[.bool (or b (!g))] 72 (0, 0)) := hs2 2 (by simp)
    have hb2_3 : w2.heap[w.heap.size + 1 + 1]? = some (.cells #[.int .i64 Q.a, .int .i64 Q.b, .int .i64 Q.c, .int .i64 Q.d, .int .i64 q] 46 (0, 0)) := hs2 3 (by simp)
    clear hs2
    simp only [List.map_cons, List.map_nil] at hg2
    have hcR : ∀ j, w2.cell? ⟨w.heap.size + 1 + 1, j, none⟩ = (#[.int .i64 Q.a, .int .i64 Q.b, .int .i64 Q.c, .int .i64 Q.d, .int .i64 q] : Array Value)[j]? := fun j => cell_of_row _ _ _ _ _ _ hb2_3
    go_wp2
    refine bodyPost_ret (v := .agg #[.int .i64 Q.a, .int .i64 Q.b, .int .i64 Q.c, .int .i64 Q.d, .int .i64 q]) (by simp [results, Tryd.results39, go_sem, *]) rfl ?_
    exact ⟨by rw [HX.out.1, HX.out.2.1], GX.toGrown (((((GX.refl [bc] w).alloc _).alloc _).alloc _).join hg2 (by simp; omega)), by rw [HX.out.2.2]; exact hb2_2⟩

def nsOk (X : R4) (e : Int) : Bool := GD X e && !mvBad X e.toNat X.conj e.toNat
def nsX (X : R4) (e : Int) : R4 := if nsOk X e then mvX X e.toNat X.conj e.toNat else R4.zero
def nsE (X : R4) (e : Int) : Int := if nsOk X e then (mvE X e.toNat X.conj e.toNat : Int) else 0
theorem ns_false {X : R4} {e : Int} (h : nsOk X e = false) : nsX X e = R4.zero ∧ nsE X e = 0 := by
  unfold nsX nsE
  rw [h]
  exact ⟨rfl, rfl⟩
theorem ns_true {X : R4} {e : Int} (h : GD X e = true) :
    nsOk X e = !mvBad X e.toNat X.conj e.toNat ∧ (nsX X e).a = ifZ (!mvBad X e.toNat X.conj e.toNat) (mvX X e.toNat X.conj e.toNat).a ∧ (nsX X e).b = ifZ (!mvBad X e.toNat X.conj e.toNat) (mvX X e.toNat X.conj e.toNat).b ∧
    (nsX X e).c = ifZ (!mvBad X e.toNat X.conj e.toNat) (mvX X e.toNat X.conj e.toNat).c ∧ (nsX X e).d = ifZ (!mvBad X e.toNat X.conj e.toNat) (mvX X e.toNat X.conj e.toNat).d ∧ nsE X e = ifZ (!mvBad X e.toNat X.conj e.toNat) (mvE X e.toNat X.conj e.toNat : Int) := by
  have e1 : nsOk X e = !mvBad X e.toNat X.conj e.toNat := by unfold nsOk; rw [h]; rfl
  unfold nsX nsE
  rw [e1]
  cases mvBad X e.toNat X.conj e.toNat
  · exact ⟨rfl, rfl, rfl, rfl, rfl, rfl⟩
  · exact ⟨rfl, rfl, rfl, rfl, rfl, rfl⟩


open Go.RowKit Go.Lib
set_option linter.unusedVariables false
set_option linter.unusedSimpArgs false

theorem low_nev : ∀ n x, lowE n x = 0 ∨ (lowX n x).ev = false
  | 0, _ => .inl rfl
  | n + 1, x => by
    unfold lowE lowX
    cases h : x.ev
    · exact .inr (by simpa using h)
    · simpa using low_nev n x.half
theorem low_gd {n : Nat} {x : R4} (hn : n ≤ 60) (h : x.rg = true) : GD (lowX n x) (lowE n x) = true := by
  have h1 := rg_low n x h
  have h2 := lowE_le n x
  unfold GD
  rw [h1]
  rcases low_nev n x with h3 | h3
  · rw [h3]; rfl
  · rw [h3]; simp; omega
theorem mv_gd {X : R4} {m : Nat} {Y : R4} {n : Nat} : GD (mvX X m Y n) (mvE X m Y n) = true := by
  unfold mvX mvE
  split
  · decide
  · exact low_gd (by omega) (rg_clip _)
theorem ns_gd {X : R4} {e : Int} : GD (nsX X e) (nsE X e) = true := by
  unfold nsX nsE
  split
  · exact mv_gd
  · decide
theorem ad_gd {X : R4} {m : Nat} {Y : R4} {n : Nat} (hm : m ≤ 60) (hn : n ≤ 60) : GD (dyX X m Y n) (dyE X m Y n) = true := low_gd (by omega) (rg_clip _)

def caOk (X : R4) (e : Int) (Y : R4) (j : Int) : Bool := nsOk X e && nsOk Y j && !dyBad (nsX X e) (nsE X e).toNat (nsX Y j).neg (nsE Y j).toNat
def caD (X : R4) (e : Int) (Y : R4) (j : Int) : R4 := dyX (nsX X e) (nsE X e).toNat (nsX Y j).neg (nsE Y j).toNat
def caV (X : R4) (e : Int) (Y : R4) (j : Int) : Int := if caOk X e Y j then S2 (caD X e Y j).a (caD X e Y j).b else 0

end Go.Proofs.YtamiploliebplaaDoor
