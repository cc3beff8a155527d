/- Dyadic numbers: the reference's sum, the loops. -/
import Derived.Test.YtlaajkdhegkpdaaDyA
namespace Go.Proofs.Ytlaajkdhegkpdaa
open Go.RowKit Go.Lib
set_option linter.unusedVariables false
set_option linter.unusedSimpArgs false

/-- the boxes of a sum: both numbers, the result's, the failure's mark -/
structure AR (w : World) (bc : Nat) (wr : World) (X : R4) (k : Nat) (Y : R4) (l : Nat) (β : Bool) : Prop where
  gx : GX [bc] w wr
  x : wr.heap[w.heap.size]? = some (.cells #[.int .i64 X.a, .int .i64 X.b, .int .i64 X.c, .int .i64 X.d, .int .i64 k] 44 (0, 0))
  y : wr.heap[w.heap.size + 1]? = some (.cells #[.int .i64 Y.a, .int .i64 Y.b, .int .i64 Y.c, .int .i64 Y.d, .int .i64 l] 44 (0, 0))
  r : wr.heap[w.heap.size + 2]? = some (.cells #[.int .i64 0, .int .i64 0, .int .i64 0, .int .i64 0, .int .i64 0] 44 (0, 0))
  c : wr.heap[bc]? = some (.cells #[.bool β] 37 (0, 0))
theorem AR.hc {w : World} {bc : Nat} {wr : World} {X : R4} {k : Nat} {Y : R4} {l : Nat} {β : Bool} (h : AR w bc wr X k Y l β) :
    (∀ j, wr.cell? ⟨w.heap.size, j, none⟩ = (#[.int .i64 X.a, .int .i64 X.b, .int .i64 X.c, .int .i64 X.d, .int .i64 k] : Array Value)[j]?) ∧
    (∀ j, wr.cell? ⟨w.heap.size + 1, j, none⟩ = (#[.int .i64 Y.a, .int .i64 Y.b, .int .i64 Y.c, .int .i64 Y.d, .int .i64 l] : Array Value)[j]?) ∧
    (∀ j, wr.frozen? ⟨w.heap.size + 2, j, none⟩ = false) ∧ w.heap.size + 2 < wr.heap.size :=
  ⟨fun k => cell_of_row _ _ _ _ _ _ h.x, fun k => cell_of_row _ _ _ _ _ _ h.y, fun k => frozen_of_row _ _ _ _ _ h.r, (Array.getElem?_eq_some_iff.1 h.r).1⟩

set_option maxRecDepth 20000 in
set_option maxHeartbeats 2000000 in
theorem add_any (bc : Nat) (b : Bool) (X : R4) (m : Nat) (Y : R4) (n : Nat) (hX : X.rg = true) (hm : m ≤ 60) (hY : Y.rg = true) (hn : n ≤ 60) (w : World) (hb : w.heap[bc]? = some (.cells #[.bool b] 37 (0, 0))) :
    Calls Try.prog 24 #[.pointer (some ⟨bc, 0, none⟩), .agg #[.int .i64 X.a, .int .i64 X.b, .int .i64 X.c, .int .i64 X.d, .int .i64 m], .agg #[.int .i64 Y.a, .int .i64 Y.b, .int .i64 Y.c, .int .i64 Y.d, .int .i64 n]] w fun e w' =>
      e = .returned (.agg #[.int .i64 (dyX X m Y n).a, .int .i64 (dyX X m Y n).b, .int .i64 (dyX X m Y n).c, .int .i64 (dyX X m Y n).d, .int .i64 (dyE X m Y n)]) ∧
      w.grownBy w' (some bc) ∧ w'.heap[bc]? = some (.cells #[.bool (b || dyBad X m Y n)] 37 (0, 0)) := by
  have hlt : bc < w.heap.size := (Array.getElem?_eq_some_iff.1 hb).1
  have hne : w.heap.size ≠ bc ∧ w.heap.size + 1 ≠ bc ∧ w.heap.size + 2 ≠ bc := by omega
  obtain ⟨hne0, hne1, hne2⟩ := hne
  have HX := Lib.hid hX
  have HY := Lib.hid hY
  clear hX hY
  go_enter Try.func24, Try.ntmps24
  go_wp2
  go_loopw [8] (fun _ wr => ∃ (k : Nat) (Z : R4) (β : Bool), m ≤ k ∧ k ≤ max m n ∧ Z.rg = true ∧ raiseV (n - k) Z = raiseV (n - m) X ∧ (β || raiseB (n - k) Z) = (b || raiseB (n - m) X) ∧ AR w bc wr Z k Y n β) (fun _ wr => n - (intOf ((wr.cell? ⟨w.heap.size, 4, none⟩).getD undef)).toNat)
  case atStart =>
    refine ⟨m, X, b, Nat.le_refl _, by omega, HX.out, rfl, rfl, (by repeat (first | (with_reducible refine GX.setCell ?_ (by first | (simp; done) | (simp; omega)) _) | with_reducible refine GX.alloc ?_ _ | with_reducible refine GX.drew ?_ | with_reducible refine GX.drewN ?_ _ | with_reducible assumption | with_reducible exact GX.refl _ _ | with_reducible refine GX.ext ?_ (by with_reducible assumption) | with_reducible refine GX.trans ?_ (by with_reducible assumption))), ?_, ?_, ?_, ?_⟩
    · exact heap_alloc_lt (heap_alloc_lt (heap_alloc_new _ _))
    · exact heap_alloc_lt (heap_alloc_at _ _ _ (by simp))
    · exact heap_alloc_at _ _ _ (by simp)
    · exact heap_alloc_lt (heap_alloc_lt (heap_alloc_lt hb))
  case round =>
    obtain ⟨k, ⟨z1, z2, z3, z4⟩, β, hk1, hk2, hZ, hV, hB, hA⟩ := hrel
    have HA := Lib.hid hA
    have HV := Lib.hid hV
    have HB := Lib.hid hB
    have hZ' : Rg z1 z2 z3 z4 = true := hZ
    have HZ := Lib.hid hZ'
    obtain ⟨hcx, hcy, hfr, hsz⟩ := hA.hc
    clear hA hV hB hZ hZ'
    have hl0 : w.heap.size < wr.heap.size := by omega
    have hl1 : w.heap.size + 1 < wr.heap.size := by omega
    have hlc : bc < wr.heap.size := by omega
    by_cases h0 : k < n
    · have h0' : (k : Int) < n := by omega
      have hkb : 0 ≤ (k : Int) ∧ (k : Int) ≤ 60 := by omega
      have HRG : ∀ w' : World, w'.heap[bc]? = some (.cells #[.bool β] 37 (0, 0)) → Hid (Calls Try.prog 35 #[.pointer (some ⟨bc, 0, none⟩), .agg #[.int .i64 (z2 - z4), .int .i64 (z1 + z3), .int .i64 (z2 + z4), .int .i64 (z3 - z1)]] w' fun e w'' =>
          e = .returned (.agg #[.int .i64 (R4.root ⟨z1, z2, z3, z4⟩).clip.a, .int .i64 (R4.root ⟨z1, z2, z3, z4⟩).clip.b, .int .i64 (R4.root ⟨z1, z2, z3, z4⟩).clip.c, .int .i64 (R4.root ⟨z1, z2, z3, z4⟩).clip.d]) ∧ w'.grownBy w'' (some bc) ∧ w''.heap[bc]? = some (.cells #[.bool (β || !(R4.root ⟨z1, z2, z3, z4⟩).rg)] 37 (0, 0))) :=
        fun w' h => Lib.hid (ring_any bc β _ _ _ _ w' h)
      have HC := Lib.hid (rg_clip (R4.root ⟨z1, z2, z3, z4⟩))
      have HS : Hid (raiseV (n - (k + 1)) (R4.root ⟨z1, z2, z3, z4⟩).clip = raiseV (n - k) ⟨z1, z2, z3, z4⟩ ∧ raiseB (n - k) ⟨z1, z2, z3, z4⟩ = (!(R4.root ⟨z1, z2, z3, z4⟩).rg || raiseB (n - (k + 1)) (R4.root ⟨z1, z2, z3, z4⟩).clip)) := by
        rw [show n - k = (n - (k + 1)) + 1 by omega]
        exact ⟨rfl, rfl⟩
      generalize (R4.root ⟨z1, z2, z3, z4⟩).clip = C at *
      generalize (R4.root ⟨z1, z2, z3, z4⟩).rg = g at *
      obtain ⟨c1, c2, c3, c4⟩ := C
      simp only at HRG
      go_wp2
      refine Wr.wp_region_wr (m := 45) [⟨w.heap.size, 44, #[.int .i64 z1, .int .i64 z2, .int .i64 z3, .int .i64 z4, .int .i64 k]⟩, ⟨bc, 37, #[.bool β]⟩] (by kernel_rfl) (by kernel_rfl) rfl (by simp; try omega) ?_ ?_
      · intro s hs
        rcases s with _ | _ | s
        · exact (show (World.heap _)[w.heap.size]? = some (Obj.cells #[.int .i64 z1, .int .i64 z2, .int .i64 z3, .int .i64 z4, .int .i64 k] 44 (0, 0)) from HA.out.x)
        · exact (show (World.heap _)[bc]? = some (Obj.cells #[.bool β] 37 (0, 0)) from HA.out.c)
        · simp at hs
          try omega
      (refine Wr.ww_plain ?_; apply Exists.intro; refine ⟨?_, ?_⟩; (first | (go_simp; (try intro x); (try go_bits); rfl)); simp only [Act.put, List.setIfInBounds_toArray, List.set_cons_succ, List.set_cons_zero, List.nil_append, List.cons_append])
      (refine Wr.ww_plain ?_; apply Exists.intro; refine ⟨?_, ?_⟩; (first | (go_simp; (try intro x); (try go_bits); rfl)); simp only [Act.put, List.setIfInBounds_toArray, List.set_cons_succ, List.set_cons_zero, List.nil_append, List.cons_append])
      refine Wr.ww_read 0 (w.heap.size) 44 #[.int .i64 z1, .int .i64 z2, .int .i64 z3, .int .i64 z4, .int .i64 k] (by simp) rfl rfl rfl (fun hr => ?_)
      apply Exists.intro
      refine ⟨?_, ?_⟩
      · go_simp
        (try intro x)
        (try go_bits)
        rfl
      clear hr
      simp only [Act.put, List.setIfInBounds_toArray, List.set_cons_succ, List.set_cons_zero, List.nil_append, List.cons_append]
      (refine Wr.ww_plain ?_; apply Exists.intro; refine ⟨?_, ?_⟩; (first | (go_simp; (try intro x); (try go_bits); rfl) | (go_simp; intro x; go_at_call 38; exact l1Root_any _ _ _ _ HZ.out _)); simp only [Act.put, List.setIfInBounds_toArray, List.set_cons_succ, List.set_cons_zero, List.nil_append, List.cons_append])
      refine Wr.ww_call (.agg #[.int .i64 c1, .int .i64 c2, .int .i64 c3, .int .i64 c4]) 1 (bc) 37 #[.bool β] #[.bool (or β (!g))] rfl (by simp) rfl rfl rfl (fun x => ?_) ?_
      · apply Exists.intro
        apply Exists.intro
        refine ⟨?_, ?_⟩
        · go_simp
          (try go_bits)
          first | rfl | exact ⟨rfl, rfl⟩
        · exact (HRG _ x.2.2).out
      simp only [Act.put, List.setIfInBounds_toArray, List.set_cons_succ, List.set_cons_zero, List.nil_append, List.cons_append]
      (refine Wr.ww_plain ?_; apply Exists.intro; refine ⟨?_, ?_⟩; (first | (go_simp; (try intro x); (try go_bits); rfl)); simp only [Act.put, List.setIfInBounds_toArray, List.set_cons_succ, List.set_cons_zero, List.nil_append, List.cons_append])
      refine Wr.ww_read 0 (w.heap.size) 44 #[.int .i64 z1, .int .i64 z2, .int .i64 z3, .int .i64 z4, .int .i64 k] (by simp) rfl rfl rfl (fun hr => ?_)
      apply Exists.intro
      refine ⟨?_, ?_⟩
      · go_simp
        (try intro x)
        (try go_bits)
        rfl
      clear hr
      simp only [Act.put, List.setIfInBounds_toArray, List.set_cons_succ, List.set_cons_zero, List.nil_append, List.cons_append]
      (refine Wr.ww_plain ?_; apply Exists.intro; refine ⟨?_, ?_⟩; (first | (go_simp; (try intro x); (try go_bits); rfl)); simp only [Act.put, List.setIfInBounds_toArray, List.set_cons_succ, List.set_cons_zero, List.nil_append, List.cons_append])
      (refine Wr.ww_plain ?_; apply Exists.intro; refine ⟨?_, ?_⟩; (first | (go_simp; (try intro x); (try go_bits); rfl)); simp only [Act.put, List.setIfInBounds_toArray, List.set_cons_succ, List.set_cons_zero, List.nil_append, List.cons_append])
      refine Wr.ww_store 0 (w.heap.size) 44 #[.int .i64 z1, .int .i64 z2, .int .i64 z3, .int .i64 z4, .int .i64 k] #[.int .i64 c1, .int .i64 c2, .int .i64 c3, .int .i64 c4, .int .i64 ((k : Int) + 1)] rfl (by simp) rfl rfl rfl (fun x => ?_) ?_
      · have hcell : ∀ kk, x.w.cell? ⟨w.heap.size, kk, none⟩ = (#[.int .i64 z1, .int .i64 z2, .int .i64 z3, .int .i64 z4, .int .i64 k] : Array Value)[kk]? := fun kk => cell_of_row _ _ _ _ _ _ x.2.2
        have hfr : ∀ kk, x.w.frozen? ⟨w.heap.size, kk, none⟩ = false := fun kk => frozen_of_row _ _ _ _ _ x.2.2
        apply Exists.intro
        refine ⟨?_, ?_⟩
        · go_simp
          (try go_bits)
          rfl
        · exact (((((Fill.start x.2.2).set 0 _).set 1 _).set 2 _).set 3 _).set 4 _
      simp only [Act.put, List.setIfInBounds_toArray, List.set_cons_succ, List.set_cons_zero, List.nil_append, List.cons_append]
      refine Wr.ww_done (by kernel_rfl) (by kernel_rfl) (fun w2 hg2 hs2 => ?_)
      have hb2_0 : w2.heap[w.heap.size]? = some (.cells #[.int .i64 c1, .int .i64 c2, .int .i64 c3, .int .i64 c4, .int .i64 ((k : Int) + 1)] 44 (0, 0)) := hs2 0 (by simp)
      have hb2_1 : w2.heap[bc]? = some (.cells #[.bool (or β (!g))] 37 (0, 0)) := hs2 1 (by simp)
      clear hs2
      simp only [List.map_cons, List.map_nil] at hg2
      go_wp2
      go_roundw
      case rel =>
        refine ⟨k + 1, ⟨c1, c2, c3, c4⟩, (or β (!g)), by omega, by omega, HC.out, HS.out.1.trans HV.out, ?_, ?_⟩
        · rw [← HB.out, HS.out.2, Bool.or_assoc]
        · exact ⟨HA.out.gx.join hg2 (by simp), by have := hb2_0; push_cast; exact this, (hg2.heap hl1 (by simp; omega)).trans HA.out.y, (hg2.heap (by omega) (by simp; omega)).trans HA.out.r, hb2_1⟩
      case measure =>
        rw [cell_of_row _ _ _ _ _ _ hb2_0, hcx 4]
        simp [intOf]
        omega
    · have h0' : ¬ (k : Int) < n := by omega
      have HK : Hid (k = max m n) := by unfold Hid; omega
      have e0 : n - k = 0 := by omega
      have HZV : Hid (raiseV (n - m) X = ⟨z1, z2, z3, z4⟩) := by have := HV.out; rw [e0] at this; exact this.symm
      have HZB : Hid (β = (b || raiseB (n - m) X)) := by unfold Hid; have := HB.out; rw [e0] at this; simpa [raiseB] using this
      have hmn : k - n = m - n := by omega
      clear HV HB
      go_wp2
      go_loopw [22] (fun _ wq => ∃ (l : Nat) (V : R4) (γ : Bool), n ≤ l ∧ l ≤ k ∧ V.rg = true ∧ raiseV (k - l) V = raiseV (m - n) Y ∧ (γ || raiseB (k - l) V) = (β || raiseB (m - n) Y) ∧ AR w bc wq ⟨z1, z2, z3, z4⟩ k V l γ) (fun _ wq => k - (intOf ((wq.cell? ⟨w.heap.size + 1, 4, none⟩).getD undef)).toNat)
      case atStart => exact ⟨n, Y, β, Nat.le_refl _, by omega, HY.out, by rw [hmn], by rw [hmn], HA.out⟩
      case round =>
        clear hcx hcy hfr
        obtain ⟨l, ⟨v1, v2, v3, v4⟩, γ, hl1', hl2', hU, hV, hB, hA⟩ := hrel
        have HA2 := Lib.hid hA
        have HV := Lib.hid hV
        have HB := Lib.hid hB
        have hU' : Rg v1 v2 v3 v4 = true := hU
        have HU := Lib.hid hU'
        obtain ⟨hcx, hcy, hfr, hsz2⟩ := hA.hc
        clear hA hV hB hU hU'
        have hq0 : w.heap.size < wr.heap.size := by omega
        have hq1 : w.heap.size + 1 < wr.heap.size := by omega
        have hqc : bc < wr.heap.size := by omega
        have hkb : 0 ≤ (k : Int) ∧ (k : Int) ≤ 60 := by omega
        by_cases h1 : l < k
        · have h1' : (l : Int) < k := by omega
          have hlb : 0 ≤ (l : Int) ∧ (l : Int) ≤ 60 := by omega
          have HRG : ∀ w' : World, w'.heap[bc]? = some (.cells #[.bool γ] 37 (0, 0)) → Hid (Calls Try.prog 35 #[.pointer (some ⟨bc, 0, none⟩), .agg #[.int .i64 (v2 - v4), .int .i64 (v1 + v3), .int .i64 (v2 + v4), .int .i64 (v3 - v1)]] w' fun e w'' =>
              e = .returned (.agg #[.int .i64 (R4.root ⟨v1, v2, v3, v4⟩).clip.a, .int .i64 (R4.root ⟨v1, v2, v3, v4⟩).clip.b, .int .i64 (R4.root ⟨v1, v2, v3, v4⟩).clip.c, .int .i64 (R4.root ⟨v1, v2, v3, v4⟩).clip.d]) ∧ w'.grownBy w'' (some bc) ∧ w''.heap[bc]? = some (.cells #[.bool (γ || !(R4.root ⟨v1, v2, v3, v4⟩).rg)] 37 (0, 0))) :=
            fun w' h => Lib.hid (ring_any bc γ _ _ _ _ w' h)
          have HC := Lib.hid (rg_clip (R4.root ⟨v1, v2, v3, v4⟩))
          have HS : Hid (raiseV (k - (l + 1)) (R4.root ⟨v1, v2, v3, v4⟩).clip = raiseV (k - l) ⟨v1, v2, v3, v4⟩ ∧ raiseB (k - l) ⟨v1, v2, v3, v4⟩ = (!(R4.root ⟨v1, v2, v3, v4⟩).rg || raiseB (k - (l + 1)) (R4.root ⟨v1, v2, v3, v4⟩).clip)) := by
            rw [show k - l = (k - (l + 1)) + 1 by omega]
            exact ⟨rfl, rfl⟩
          generalize (R4.root ⟨v1, v2, v3, v4⟩).clip = C at *
          generalize (R4.root ⟨v1, v2, v3, v4⟩).rg = g at *
          obtain ⟨c1, c2, c3, c4⟩ := C
          simp only at HRG
          go_wp2
          refine Wr.wp_region_wr (m := 45) [⟨w.heap.size + 1, 44, #[.int .i64 v1, .int .i64 v2, .int .i64 v3, .int .i64 v4, .int .i64 l]⟩, ⟨bc, 37, #[.bool γ]⟩] (by kernel_rfl) (by kernel_rfl) rfl (by simp; try omega) ?_ ?_
          · intro s hs
            rcases s with _ | _ | s
            · exact (show (World.heap _)[w.heap.size + 1]? = some (Obj.cells #[.int .i64 v1, .int .i64 v2, .int .i64 v3, .int .i64 v4, .int .i64 l] 44 (0, 0)) from HA2.out.y)
            · exact (show (World.heap _)[bc]? = some (Obj.cells #[.bool γ] 37 (0, 0)) from HA2.out.c)
            · simp at hs
              try omega
          (refine Wr.ww_plain ?_; apply Exists.intro; refine ⟨?_, ?_⟩; (first | (go_simp; (try intro x); (try go_bits); rfl)); simp only [Act.put, List.setIfInBounds_toArray, List.set_cons_succ, List.set_cons_zero, List.nil_append, List.cons_append])
          (refine Wr.ww_plain ?_; apply Exists.intro; refine ⟨?_, ?_⟩; (first | (go_simp; (try intro x); (try go_bits); rfl)); simp only [Act.put, List.setIfInBounds_toArray, List.set_cons_succ, List.set_cons_zero, List.nil_append, List.cons_append])
          refine Wr.ww_read 0 (w.heap.size + 1) 44 #[.int .i64 v1, .int .i64 v2, .int .i64 v3, .int .i64 v4, .int .i64 l] (by simp) rfl rfl rfl (fun hr => ?_)
          apply Exists.intro
          refine ⟨?_, ?_⟩
          · go_simp
            (try intro x)
            (try go_bits)
            rfl
          clear hr
          simp only [Act.put, List.setIfInBounds_toArray, List.set_cons_succ, List.set_cons_zero, List.nil_append, List.cons_append]
          (refine Wr.ww_plain ?_; apply Exists.intro; refine ⟨?_, ?_⟩; (first | (go_simp; (try intro x); (try go_bits); rfl) | (go_simp; intro x; go_at_call 38; exact l1Root_any _ _ _ _ HU.out _)); simp only [Act.put, List.setIfInBounds_toArray, List.set_cons_succ, List.set_cons_zero, List.nil_append, List.cons_append])
          refine Wr.ww_call (.agg #[.int .i64 c1, .int .i64 c2, .int .i64 c3, .int .i64 c4]) 1 (bc) 37 #[.bool γ] #[.bool (or γ (!g))] rfl (by simp) rfl rfl rfl (fun x => ?_) ?_
          · apply Exists.intro
            apply Exists.intro
            refine ⟨?_, ?_⟩
            · go_simp
              (try go_bits)
              first | rfl | exact ⟨rfl, rfl⟩
            · exact (HRG _ x.2.2).out
          simp only [Act.put, List.setIfInBounds_toArray, List.set_cons_succ, List.set_cons_zero, List.nil_append, List.cons_append]
          (refine Wr.ww_plain ?_; apply Exists.intro; refine ⟨?_, ?_⟩; (first | (go_simp; (try intro x); (try go_bits); rfl)); simp only [Act.put, List.setIfInBounds_toArray, List.set_cons_succ, List.set_cons_zero, List.nil_append, List.cons_append])
          refine Wr.ww_read 0 (w.heap.size + 1) 44 #[.int .i64 v1, .int .i64 v2, .int .i64 v3, .int .i64 v4, .int .i64 l] (by simp) rfl rfl rfl (fun hr => ?_)
          apply Exists.intro
          refine ⟨?_, ?_⟩
          · go_simp
            (try intro x)
            (try go_bits)
            rfl
          clear hr
          simp only [Act.put, List.setIfInBounds_toArray, List.set_cons_succ, List.set_cons_zero, List.nil_append, List.cons_append]
          (refine Wr.ww_plain ?_; apply Exists.intro; refine ⟨?_, ?_⟩; (first | (go_simp; (try intro x); (try go_bits); rfl)); simp only [Act.put, List.setIfInBounds_toArray, List.set_cons_succ, List.set_cons_zero, List.nil_append, List.cons_append])
          (refine Wr.ww_plain ?_; apply Exists.intro; refine ⟨?_, ?_⟩; (first | (go_simp; (try intro x); (try go_bits); rfl)); simp only [Act.put, List.setIfInBounds_toArray, List.set_cons_succ, List.set_cons_zero, List.nil_append, List.cons_append])
          refine Wr.ww_store 0 (w.heap.size + 1) 44 #[.int .i64 v1, .int .i64 v2, .int .i64 v3, .int .i64 v4, .int .i64 l] #[.int .i64 c1, .int .i64 c2, .int .i64 c3, .int .i64 c4, .int .i64 ((l : Int) + 1)] rfl (by simp) rfl rfl rfl (fun x => ?_) ?_
          · have hcell : ∀ kk, x.w.cell? ⟨w.heap.size + 1, kk, none⟩ = (#[.int .i64 v1, .int .i64 v2, .int .i64 v3, .int .i64 v4, .int .i64 l] : Array Value)[kk]? := fun kk => cell_of_row _ _ _ _ _ _ x.2.2
            have hfr : ∀ kk, x.w.frozen? ⟨w.heap.size + 1, kk, none⟩ = false := fun kk => frozen_of_row _ _ _ _ _ x.2.2
            apply Exists.intro
            refine ⟨?_, ?_⟩
            · go_simp
              (try go_bits)
              rfl
            · exact (((((Fill.start x.2.2).set 0 _).set 1 _).set 2 _).set 3 _).set 4 _
          simp only [Act.put, List.setIfInBounds_toArray, List.set_cons_succ, List.set_cons_zero, List.nil_append, List.cons_append]
          refine Wr.ww_done (by kernel_rfl) (by kernel_rfl) (fun w2 hg2 hs2 => ?_)
          have hb2_0 : w2.heap[w.heap.size + 1]? = some (.cells #[.int .i64 c1, .int .i64 c2, .int .i64 c3, .int .i64 c4, .int .i64 ((l : Int) + 1)] 44 (0, 0)) := hs2 0 (by simp)
          have hb2_1 : w2.heap[bc]? = some (.cells #[.bool (or γ (!g))] 37 (0, 0)) := hs2 1 (by simp)
          clear hs2
          simp only [List.map_cons, List.map_nil] at hg2
          go_wp2
          go_roundw
          case rel =>
            refine ⟨l + 1, ⟨c1, c2, c3, c4⟩, (or γ (!g)), by omega, by omega, HC.out, HS.out.1.trans HV.out, ?_, ?_⟩
            · rw [← HB.out, HS.out.2, Bool.or_assoc]
            · exact ⟨HA2.out.gx.join hg2 (by simp), (hg2.heap hq0 (by simp; omega)).trans HA2.out.x, by have := hb2_0; push_cast; exact this, (hg2.heap (by omega) (by simp; omega)).trans HA2.out.r, hb2_1⟩
          case measure =>
            rw [cell_of_row _ _ _ _ _ _ hb2_0, hcy 4]
            simp [intOf]
            omega
        · have h1' : ¬ (l : Int) < k := by omega
          have e1 : k - l = 0 := by omega
          obtain rfl : l = k := by omega
          have HVV : Hid (raiseV (m - n) Y = ⟨v1, v2, v3, v4⟩) := by have := HV.out; rw [e1] at this; exact this.symm
          have HVB : Hid (γ = (β || raiseB (m - n) Y)) := by unfold Hid; have := HB.out; rw [e1] at this; simpa [raiseB] using this
          clear HV HB
          have HD : Hid (dyS X m Y n = ⟨z1 + v1, z2 + v2, z3 + v3, z4 + v4⟩) := by unfold Hid dyS; rw [HZV.out, HVV.out]; rfl
          have HDB : Hid ((b || dyBad X m Y n) = (γ || !(dyS X m Y n).rg)) := by unfold Hid dyBad; rw [HVB.out, HZB.out]; simp [Bool.or_assoc]
          have HRG : ∀ w' : World, w'.heap[bc]? = some (.cells #[.bool γ] 37 (0, 0)) → Hid (Calls Try.prog 35 #[.pointer (some ⟨bc, 0, none⟩), .agg #[.int .i64 (z1 + v1), .int .i64 (z2 + v2), .int .i64 (z3 + v3), .int .i64 (z4 + v4)]] w' fun e w'' =>
              e = .returned (.agg #[.int .i64 (dyS X m Y n).clip.a, .int .i64 (dyS X m Y n).clip.b, .int .i64 (dyS X m Y n).clip.c, .int .i64 (dyS X m Y n).clip.d]) ∧ w'.grownBy w'' (some bc) ∧ w''.heap[bc]? = some (.cells #[.bool (γ || !(dyS X m Y n).rg)] 37 (0, 0))) := by
            rw [HD.out]
            exact fun w' h => Lib.hid (ring_any bc γ _ _ _ _ w' h)
          have HLW : ∀ w' : World, Hid (Calls Try.prog 34 #[.agg #[.int .i64 (dyS X m Y n).clip.a, .int .i64 (dyS X m Y n).clip.b, .int .i64 (dyS X m Y n).clip.c, .int .i64 (dyS X m Y n).clip.d], .int .i64 l] w' fun e w'' =>
              e = .returned (.agg #[.int .i64 (dyX X m Y n).a, .int .i64 (dyX X m Y n).b, .int .i64 (dyX X m Y n).c, .int .i64 (dyX X m Y n).d, .int .i64 (dyE X m Y n)]) ∧ Ext w' w'') := by
            unfold dyX dyE
            rw [← HK.out]
            exact fun w' => Lib.hid (l2Low_any l (by omega) (dyS X m Y n).clip (rg_clip _) w')
          obtain ⟨Q, hQ⟩ : ∃ Q, dyX X m Y n = Q := ⟨_, rfl⟩
          obtain ⟨q, hq⟩ : ∃ q, dyE X m Y n = q := ⟨_, rfl⟩
          simp only [hQ, hq] at HLW
          have HQ := Lib.hid hQ
          have Hq := Lib.hid hq
          clear hQ hq
          generalize (dyS X m Y n).clip = C at *
          generalize (dyS X m Y n).rg = g at *
          obtain ⟨c1, c2, c3, c4⟩ := C
          obtain ⟨q1, q2, q3, q4⟩ := Q
          simp only at HRG HLW
          go_wp2
          refine Wr.wp_region_wr (m := 45) [⟨w.heap.size, 44, #[.int .i64 z1, .int .i64 z2, .int .i64 z3, .int .i64 z4, .int .i64 l]⟩, ⟨w.heap.size + 1, 44, #[.int .i64 v1, .int .i64 v2, .int .i64 v3, .int .i64 v4, .int .i64 l]⟩, ⟨bc, 37, #[.bool γ]⟩, ⟨w.heap.size + 2, 44, #[.int .i64 0, .int .i64 0, .int .i64 0, .int .i64 0, .int .i64 0]⟩] (by kernel_rfl) (by kernel_rfl) rfl (by simp; try omega) ?_ ?_
          · intro s hs
            rcases s with _ | _ | _ | _ | s
            · exact (show (World.heap _)[w.heap.size]? = some (Obj.cells #[.int .i64 z1, .int .i64 z2, .int .i64 z3, .int .i64 z4, .int .i64 l] 44 (0, 0)) from HA2.out.x)
            · exact (show (World.heap _)[w.heap.size + 1]? = some (Obj.cells #[.int .i64 v1, .int .i64 v2, .int .i64 v3, .int .i64 v4, .int .i64 l] 44 (0, 0)) from HA2.out.y)
            · exact (show (World.heap _)[bc]? = some (Obj.cells #[.bool γ] 37 (0, 0)) from HA2.out.c)
            · exact (show (World.heap _)[w.heap.size + 2]? = some (Obj.cells #[.int .i64 0, .int .i64 0, .int .i64 0, .int .i64 0, .int .i64 0] 44 (0, 0)) from HA2.out.r)
            · simp at hs
              try omega
          (refine Wr.ww_plain ?_; apply Exists.intro; refine ⟨?_, ?_⟩; (first | (go_simp; (try intro x); (try go_bits); rfl)); simp only [Act.put, List.setIfInBounds_toArray, List.set_cons_succ, List.set_cons_zero, List.nil_append, List.cons_append])
          (refine Wr.ww_plain ?_; apply Exists.intro; refine ⟨?_, ?_⟩; (first | (go_simp; (try intro x); (try go_bits); rfl)); simp only [Act.put, List.setIfInBounds_toArray, List.set_cons_succ, List.set_cons_zero, List.nil_append, List.cons_append])
          refine Wr.ww_read 0 (w.heap.size) 44 #[.int .i64 z1, .int .i64 z2, .int .i64 z3, .int .i64 z4, .int .i64 l] (by simp) rfl rfl rfl (fun hr => ?_)
          apply Exists.intro
          refine ⟨?_, ?_⟩
          · go_simp
            (try intro x)
            (try go_bits)
            rfl
          clear hr
          simp only [Act.put, List.setIfInBounds_toArray, List.set_cons_succ, List.set_cons_zero, List.nil_append, List.cons_append]
          (refine Wr.ww_plain ?_; apply Exists.intro; refine ⟨?_, ?_⟩; (first | (go_simp; (try intro x); (try go_bits); rfl)); simp only [Act.put, List.setIfInBounds_toArray, List.set_cons_succ, List.set_cons_zero, List.nil_append, List.cons_append])
          refine Wr.ww_read 1 (w.heap.size + 1) 44 #[.int .i64 v1, .int .i64 v2, .int .i64 v3, .int .i64 v4, .int .i64 l] (by simp) rfl rfl rfl (fun hr => ?_)
          apply Exists.intro
          refine ⟨?_, ?_⟩
          · go_simp
            (try intro x)
            (try go_bits)
            rfl
          clear hr
          simp only [Act.put, List.setIfInBounds_toArray, List.set_cons_succ, List.set_cons_zero, List.nil_append, List.cons_append]
          (refine Wr.ww_plain ?_; apply Exists.intro; refine ⟨?_, ?_⟩; (first | (go_simp; (try intro x); (try go_bits); rfl) | (go_simp; intro x; go_at_call 39; exact l1Add_any _ _ _ _ _ _ _ _ HZ.out HU.out _)); simp only [Act.put, List.setIfInBounds_toArray, List.set_cons_succ, List.set_cons_zero, List.nil_append, List.cons_append])
          refine Wr.ww_call (.agg #[.int .i64 c1, .int .i64 c2, .int .i64 c3, .int .i64 c4]) 2 (bc) 37 #[.bool γ] #[.bool (or γ (!g))] rfl (by simp) rfl rfl rfl (fun x => ?_) ?_
          · apply Exists.intro
            apply Exists.intro
            refine ⟨?_, ?_⟩
            · go_simp
              (try go_bits)
              first | rfl | exact ⟨rfl, rfl⟩
            · exact (HRG _ x.2.2).out
          simp only [Act.put, List.setIfInBounds_toArray, List.set_cons_succ, List.set_cons_zero, List.nil_append, List.cons_append]
          (refine Wr.ww_plain ?_; apply Exists.intro; refine ⟨?_, ?_⟩; (first | (go_simp; (try intro x); (try go_bits); rfl)); simp only [Act.put, List.setIfInBounds_toArray, List.set_cons_succ, List.set_cons_zero, List.nil_append, List.cons_append])
          refine Wr.ww_read 0 (w.heap.size) 44 #[.int .i64 z1, .int .i64 z2, .int .i64 z3, .int .i64 z4, .int .i64 l] (by simp) rfl rfl rfl (fun hr => ?_)
          apply Exists.intro
          refine ⟨?_, ?_⟩
          · go_simp
            (try intro x)
            (try go_bits)
            rfl
          clear hr
          simp only [Act.put, List.setIfInBounds_toArray, List.set_cons_succ, List.set_cons_zero, List.nil_append, List.cons_append]
          (refine Wr.ww_plain ?_; apply Exists.intro; refine ⟨?_, ?_⟩; (first | (go_simp; (try intro x); (try go_bits); rfl) | (go_simp; intro x; go_at_call 34; exact (HLW _).out)); simp only [Act.put, List.setIfInBounds_toArray, List.set_cons_succ, List.set_cons_zero, List.nil_append, List.cons_append])
          refine Wr.ww_store 3 (w.heap.size + 2) 44 #[.int .i64 0, .int .i64 0, .int .i64 0, .int .i64 0, .int .i64 0] #[.int .i64 q1, .int .i64 q2, .int .i64 q3, .int .i64 q4, .int .i64 q] rfl (by simp) rfl rfl rfl (fun x => ?_) ?_
          · have hcell : ∀ kk, x.w.cell? ⟨w.heap.size + 2, kk, none⟩ = (#[.int .i64 0, .int .i64 0, .int .i64 0, .int .i64 0, .int .i64 0] : Array Value)[kk]? := fun kk => cell_of_row _ _ _ _ _ _ x.2.2
            have hfr : ∀ kk, x.w.frozen? ⟨w.heap.size + 2, kk, none⟩ = false := fun kk => frozen_of_row _ _ _ _ _ x.2.2
            apply Exists.intro
            refine ⟨?_, ?_⟩
            · go_simp
              (try go_bits)
              rfl
            · exact (((((Fill.start x.2.2).set 0 _).set 1 _).set 2 _).set 3 _).set 4 _
          simp only [Act.put, List.setIfInBounds_toArray, List.set_cons_succ, List.set_cons_zero, List.nil_append, List.cons_append]
          refine Wr.ww_done (by kernel_rfl) (by kernel_rfl) (fun w2 hg2 hs2 => ?_)
          have hb2_0 : w2.heap[w.heap.size]? = some (.cells #[.int .i64 z1, .int .i64 z2, .int .i64 z3, .int .i64 z4, .int .i64 l] 44 (0, 0)) := hs2 0 (by simp)
          have hb2_1 : w2.heap[w.heap.size + 1]? = some (.cells #[.int .i64 v1, .int .i64 v2, .int .i64 v3, .int .i64 v4, .int .i64 l] 44 (0, 0)) := hs2 1 (by simp)
          have hb2_2 : w2.heap[bc]? = some (.cells #[.bool (or γ (!g))] 37 (0, 0)) := hs2 2 (by simp)
          have hb2_3 : w2.heap[w.heap.size + 2]? = some (.cells #[.int .i64 q1, .int .i64 q2, .int .i64 q3, .int .i64 q4, .int .i64 q] 44 (0, 0)) := hs2 3 (by simp)
          clear hs2
          simp only [List.map_cons, List.map_nil] at hg2
          go_wp2
          have hcR : ∀ j, w2.cell? ⟨w.heap.size + 2, j, none⟩ = (#[.int .i64 q1, .int .i64 q2, .int .i64 q3, .int .i64 q4, .int .i64 q] : Array Value)[j]? := fun j => cell_of_row _ _ _ _ _ _ hb2_3
          refine bodyPost_ret (v := .agg #[.int .i64 q1, .int .i64 q2, .int .i64 q3, .int .i64 q4, .int .i64 q]) (by simp [results, Try.results24, go_sem, *]) rfl ?_
          exact ⟨by rw [HQ.out, Hq.out], GX.toGrown (HA2.out.gx.join hg2 (by simp)), by rw [HDB.out]; exact hb2_2⟩

end Go.Proofs.Ytlaajkdhegkpdaa
