/- matrixOf with the closure of GateMatrix. -/
import Derived.Test.YtbddgeoaaklgpaaCopM
namespace Go.Proofs.Ytbddgeoaaklgpaa
open Go.RowKit
set_option linter.unusedVariables false
set_option linter.unusedSimpArgs false

set_option maxRecDepth 20000 in
set_option maxHeartbeats 4000000 in
theorem matrixOf_gate (R C : Nat) (hR : dimB R = true) (hC : dimB C = true) (b1 b2 : Nat) (X : Nat → R4) (E : Nat → Int) (ok : Nat → Bool) (w : World)
    (HCl : ∀ (i j : Nat) (w' : World), i < R → j < C → Ext w w' → Hid (Calls Try.prog 93 #[.int .i64 i, .int .i64 j, .pointer (some ⟨b1, 0, none⟩), .pointer (some ⟨b2, 0, none⟩)] w' fun e w'' => e = .returned (.tuple #[.agg #[.int .i64 (X (i * C + j)).a, .int .i64 (X (i * C + j)).b, .int .i64 (X (i * C + j)).c, .int .i64 (X (i * C + j)).d, .int .i64 (E (i * C + j))], .bool (ok (i * C + j))]) ∧ Ext w' w'')) :
    Calls Try.prog 78 #[.int .i64 R, .int .i64 C, .func (.func 93) #[] #[.pointer (some ⟨b1, 0, none⟩), .pointer (some ⟨b2, 0, none⟩)]] w fun e w' => ∃ v, e = .returned (.tuple #[.agg #[.int .i64 (ifZ (allTo ok (R * C)) R), .int .i64 (ifZ (allTo ok (R * C)) C), v], .bool (allTo ok (R * C))]) ∧
      w'.ownsRow w.heap.size 107 5 v (ifN (allTo ok (R * C)) (R * C)) (IL (ifL (allTo ok (R * C)) (moL X E (R * C)))) ∧ Ext w w' := by
  obtain ⟨i0, hi, iz0, iz1, iz2⟩ := info_parts info_dyadic
  have bR := dim_bd hR
  have bC := dim_bd hC
  have HR := fun w' => Lib.hid (isDim_any R w')
  have HC := fun w' => Lib.hid (isDim_any C w')
  rw [hR] at HR
  rw [hC] at HC
  clear hR hC
  go_enter Try.func78, Try.ntmps78
  go_wp2_with fail
  refine ((HR _).out).mono ?_
  rintro e w' ⟨rfl, rfl⟩
  go_wp2_with fail
  refine ((HC _).out).mono ?_
  rintro e w' ⟨rfl, rfl⟩
  go_wp2
  go_loopw [9, 10, 11, 12, 26, 30] (fun _ _ _ _ i _ wr => ∃ (p : Nat) (v : Value), p ≤ R ∧ i = .int .i64 p ∧ allTo ok (p * C) = true ∧ MR R C w (moL X E (p * C)) (p * C) v wr) (fun _ _ _ _ i _ _ => R - (intOf i).toNat)
  case atStart =>
    refine ⟨0, .slice none 0 0, by omega, rfl, by rw [Nat.zero_mul]; rfl, ?_⟩
    rw [Nat.zero_mul]
    exact ⟨own_nil _ _ _ _, heap_alloc_lt (heap_alloc_new _ _), heap_alloc_at _ _ _ (by simp), (by repeat (first | exact Ext.refl _ | assumption | refine Ext.alloc ?_ _ | refine Ext.drew ?_ | refine Ext.drewN ?_ _ | refine Ext.setCell ?_ (by first | omega | (dsimp only; omega) | (simp; done) | (simp; omega)) _ | refine Ext.trans ?_ (by assumption)))⟩
  case round =>
    obtain ⟨p, v, hp, rfl, hok, hM⟩ := hrel
    have HO := Lib.hid hok
    have HM := Lib.hid hM
    clear hok hM
    by_cases hlt : p < R
    · have hlt' : (p : Int) < R := by omega
      go_wp2
      go_loopw [10, 11, 12, 30] (fun _ _ _ q wq => ∃ (j : Nat) (v : Value), j ≤ C ∧ q = .int .i64 j ∧ allTo ok (p * C + j) = true ∧ MR R C w (moL X E (p * C + j)) (p * C + j) v wq) (fun _ _ _ q _ => C - (intOf q).toNat)
      case atStart => exact ⟨0, v, by omega, rfl, HO.out, HM.out⟩
      case round =>
        clear HM HO
        obtain ⟨j, v, hj, rfl, hok, hM⟩ := hrel
        have HO := Lib.hid hok
        have hsz := hM.lt
        obtain ⟨av, cv, rfl, _, _, _⟩ := own_shape hM.own
        have HM := Lib.hid hM
        clear hok hM
        by_cases hlj : j < C
        · have hlj' : (j : Int) < C := by omega
          have HCC := Lib.hid (HCl p j _ hlt hlj HM.out.ext)
          have HT : Hid (allTo ok (p * C + j + 1) = (allTo ok (p * C + j) && ok (p * C + j))) := rfl
          have hidx : p * C + j < R * C := by
            have : (p + 1) * C ≤ R * C := Nat.mul_le_mul_right C hlt
            rw [Nat.succ_mul] at this
            omega
          have HF : Hid (ok (p * C + j) = false → allTo ok (R * C) = false) := fun h => allTo_false h hidx
          have hRC : p * C + j < 1024 := by
            have := Nat.mul_le_mul (show R ≤ 32 by omega) (show C ≤ 32 by omega)
            omega
          have HL := Lib.hid (moL_succ X E (p * C + j))
          generalize hoo : ok (p * C + j) = o at *
          generalize hX1 : X (p * C + j) = Xp at *
          generalize hE1 : E (p * C + j) = Ep at *
          clear hoo hX1 hE1
          go_wp2_with fail
          refine HCC.out.out.mono ?_
          rintro e w1 ⟨rfl, hx1⟩
          have HM1 : Hid (MR R C w (moL X E (p * C + j)) (p * C + j) (.slice av (p * C + j) cv) w1) := HM.out.keep hx1
          have hs1 : w.heap.size + 1 < w1.heap.size := HM1.out.lt
          have hs0 : w.heap.size < w1.heap.size := by omega
          have z1 : ∀ k, w1.cell? ⟨w.heap.size + 1, k, none⟩ = (#[.int .i64 R, .int .i64 C, .slice av (p * C + j) cv] : Array Value)[k]? := fun k => cell_of_row _ _ _ _ _ _ HM1.out.out
          have f1 : ∀ k, w1.frozen? ⟨w.heap.size + 1, k, none⟩ = false := fun k => frozen_of_row _ _ _ _ _ HM1.out.out
          have z0 : ∀ k, w1.cell? ⟨w.heap.size, k, none⟩ = (#[.int .i64 0, .int .i64 0, .slice none 0 0] : Array Value)[k]? := fun k => cell_of_row _ _ _ _ _ _ HM1.out.res
          have f0 : ∀ k, w1.frozen? ⟨w.heap.size, k, none⟩ = false := fun k => frozen_of_row _ _ _ _ _ HM1.out.res
          cases o
          · have HFF := Lib.hid (HF.out rfl)
            have HE : Hid (Ext w w1) := HM1.out.ext
            go_wp2
            refine bodyPost_ret (v := .tuple #[.agg #[.int .i64 0, .int .i64 0, .slice none 0 0], .bool false]) (by simp [results, Try.results78, go_sem, *]) rfl ?_
            rw [HFF.out]
            have HEE := HE.out
            exact ⟨_, rfl, own_nil _ _ _ _, (by repeat (first | (with_reducible refine Ext.setCell ?_ (by first | (simp; done) | (simp; omega)) _) | with_reducible refine Ext.alloc ?_ _ | with_reducible refine Ext.drew ?_ | with_reducible refine Ext.drewN ?_ _ | with_reducible assumption | with_reducible exact Ext.refl _ | with_reducible refine Ext.trans ?_ (by with_reducible assumption)))⟩
          · have hfar : ∀ k, (Value.slice av (p * C + j) cv).ownBlock = some k → k ≠ w.heap.size + 1 := fun k hk => by have := (HM1.out.own.lt k hk).1; omega
            go_wp2_with (at_builtin; refine wpList_append_lies _ rfl (.tmp 44) (.tmp 46) _ rfl (w.heap.size + 2) 107 i0 (.agg #[.int .i64 0, .int .i64 0, .int .i64 0, .int .i64 0, .int .i64 0]) 5 40 Try.underlying69 hi iz0 iz1 iz2 rfl (by decide) _ (p * C + j) (IL (moL X E (p * C + j))) (by rfl) ((HM1.out.own.alloc _).alloc _) ⟨w1.heap.size + 1, 0, none⟩ 1 1 [.int .i64 Xp.a, .int .i64 Xp.b, .int .i64 Xp.c, .int .i64 Xp.d, .int .i64 Ep] (by rfl) (by rfl) (news3 (by simp) rfl) (by intro u hu; simp at hu; rcases hu with rfl | rfl | rfl | rfl | rfl <;> rfl) (by decide) (by simp only [maxLen] <;> omega) (by omega) (by simp <;> omega) _ (by rfl) ?_; intro g2 cap w2 hown2 hgrow hat hlt2; have f2 : ∀ k, w2.frozen? ⟨w.heap.size + 1, k, none⟩ = false := fun k => (hgrow.frozen_far ⟨w.heap.size + 1, k, none⟩ (by simp <;> omega) (fun e => hfar _ e.symm rfl)).trans ((((Ext.refl w1).alloc _).alloc _).cells.2 _ _ (by omega) |>.trans (f1 k)); have z2 : ∀ k, w2.cell? ⟨w.heap.size + 1, k, none⟩ = (#[.int .i64 R, .int .i64 C, .slice av (p * C + j) cv] : Array Value)[k]? := fun k => (hgrow.cell_far ⟨w.heap.size + 1, k, none⟩ (by simp <;> omega) (fun e => hfar _ e.symm rfl)).trans ((((Ext.refl w1).alloc _).alloc _).cells.1 _ _ (by omega) |>.trans (z1 k)))
            go_roundw
            case rel =>
              refine ⟨j + 1, .slice (some ⟨g2, 0, none⟩) (p * C + j + 1) cap, by omega, by go_num, by rw [← Nat.add_assoc, HT.out, HO.out]; rfl, ?_⟩
              rw [← HL.out] at hown2
              exact HM1.out.step (((Ext.refl w1).alloc _).alloc _) hgrow hown2
            case measure => simp [intOf]; omega
        · obtain rfl : j = C := by omega
          go_wp2
          go_roundw
          case rel =>
            refine ⟨p + 1, .slice av (p * j + j) cv, by omega, by go_num, ?_, ?_⟩
            · rw [Nat.succ_mul]; exact HO.out
            · rw [Nat.succ_mul]; exact HM.out
          case measure => simp [intOf]; omega
    · obtain rfl : p = R := by omega
      obtain ⟨av, cv, rfl, _, _, _⟩ := own_shape HM.out.own
      have hsz := HM.out.lt
      have hs0 : w.heap.size < wr.heap.size := by omega
      have z1 : ∀ k, wr.cell? ⟨w.heap.size + 1, k, none⟩ = (#[.int .i64 p, .int .i64 C, .slice av (p * C) cv] : Array Value)[k]? := fun k => cell_of_row _ _ _ _ _ _ HM.out.out
      have f0 : ∀ k, wr.frozen? ⟨w.heap.size, k, none⟩ = false := fun k => frozen_of_row _ _ _ _ _ HM.out.res
      have z0 : ∀ k, wr.cell? ⟨w.heap.size, k, none⟩ = (#[.int .i64 0, .int .i64 0, .slice none 0 0] : Array Value)[k]? := fun k => cell_of_row _ _ _ _ _ _ HM.out.res
      have HE : Hid (Ext w wr) := HM.out.ext
      have HW := Lib.hid HM.out.own
      go_wp2
      refine bodyPost_ret (v := .tuple #[.agg #[.int .i64 p, .int .i64 C, .slice av (p * C) cv], .bool true]) (by simp [results, Try.results78, go_sem, *]) rfl ?_
      rw [HO.out]
      have HEE := HE.out
      exact ⟨_, rfl, own_base (own_set (own_set (own_set HW.out (by simp) _) (by simp) _) (by simp) _) (by omega), (by repeat (first | (with_reducible refine Ext.setCell ?_ (by first | (simp; done) | (simp; omega)) _) | with_reducible refine Ext.alloc ?_ _ | with_reducible refine Ext.drew ?_ | with_reducible refine Ext.drewN ?_ _ | with_reducible assumption | with_reducible exact Ext.refl _ | with_reducible refine Ext.trans ?_ (by with_reducible assumption)))⟩

set_option maxRecDepth 20000 in
set_option maxHeartbeats 4000000 in
theorem matrixOf_id (R C : Nat) (hR : dimB R = true) (hC : dimB C = true) (X : Nat → R4) (E : Nat → Int) (ok : Nat → Bool) (w : World)
    (HCl : ∀ (i j : Nat) (w' : World), i < R → j < C → Ext w w' → Hid (Calls Try.prog 79 #[.int .i64 i, .int .i64 j] w' fun e w'' => e = .returned (.tuple #[.agg #[.int .i64 (X (i * C + j)).a, .int .i64 (X (i * C + j)).b, .int .i64 (X (i * C + j)).c, .int .i64 (X (i * C + j)).d, .int .i64 (E (i * C + j))], .bool (ok (i * C + j))]) ∧ Ext w' w'')) :
    Calls Try.prog 78 #[.int .i64 R, .int .i64 C, .func (.func 79) #[] #[]] w fun e w' => ∃ v, e = .returned (.tuple #[.agg #[.int .i64 (ifZ (allTo ok (R * C)) R), .int .i64 (ifZ (allTo ok (R * C)) C), v], .bool (allTo ok (R * C))]) ∧
      w'.ownsRow w.heap.size 107 5 v (ifN (allTo ok (R * C)) (R * C)) (IL (ifL (allTo ok (R * C)) (moL X E (R * C)))) ∧ Ext w w' := by
  obtain ⟨i0, hi, iz0, iz1, iz2⟩ := info_parts info_dyadic
  have bR := dim_bd hR
  have bC := dim_bd hC
  have HR := fun w' => Lib.hid (isDim_any R w')
  have HC := fun w' => Lib.hid (isDim_any C w')
  rw [hR] at HR
  rw [hC] at HC
  clear hR hC
  go_enter Try.func78, Try.ntmps78
  go_wp2_with fail
  refine ((HR _).out).mono ?_
  rintro e w' ⟨rfl, rfl⟩
  go_wp2_with fail
  refine ((HC _).out).mono ?_
  rintro e w' ⟨rfl, rfl⟩
  go_wp2
  go_loopw [9, 10, 11, 12, 26, 30] (fun _ _ _ _ i _ wr => ∃ (p : Nat) (v : Value), p ≤ R ∧ i = .int .i64 p ∧ allTo ok (p * C) = true ∧ MR R C w (moL X E (p * C)) (p * C) v wr) (fun _ _ _ _ i _ _ => R - (intOf i).toNat)
  case atStart =>
    refine ⟨0, .slice none 0 0, by omega, rfl, by rw [Nat.zero_mul]; rfl, ?_⟩
    rw [Nat.zero_mul]
    exact ⟨own_nil _ _ _ _, heap_alloc_lt (heap_alloc_new _ _), heap_alloc_at _ _ _ (by simp), (by repeat (first | exact Ext.refl _ | assumption | refine Ext.alloc ?_ _ | refine Ext.drew ?_ | refine Ext.drewN ?_ _ | refine Ext.setCell ?_ (by first | omega | (dsimp only; omega) | (simp; done) | (simp; omega)) _ | refine Ext.trans ?_ (by assumption)))⟩
  case round =>
    obtain ⟨p, v, hp, rfl, hok, hM⟩ := hrel
    have HO := Lib.hid hok
    have HM := Lib.hid hM
    clear hok hM
    by_cases hlt : p < R
    · have hlt' : (p : Int) < R := by omega
      go_wp2
      go_loopw [10, 11, 12, 30] (fun _ _ _ q wq => ∃ (j : Nat) (v : Value), j ≤ C ∧ q = .int .i64 j ∧ allTo ok (p * C + j) = true ∧ MR R C w (moL X E (p * C + j)) (p * C + j) v wq) (fun _ _ _ q _ => C - (intOf q).toNat)
      case atStart => exact ⟨0, v, by omega, rfl, HO.out, HM.out⟩
      case round =>
        clear HM HO
        obtain ⟨j, v, hj, rfl, hok, hM⟩ := hrel
        have HO := Lib.hid hok
        have hsz := hM.lt
        obtain ⟨av, cv, rfl, _, _, _⟩ := own_shape hM.own
        have HM := Lib.hid hM
        clear hok hM
        by_cases hlj : j < C
        · have hlj' : (j : Int) < C := by omega
          have HCC := Lib.hid (HCl p j _ hlt hlj HM.out.ext)
          have HT : Hid (allTo ok (p * C + j + 1) = (allTo ok (p * C + j) && ok (p * C + j))) := rfl
          have hidx : p * C + j < R * C := by
            have : (p + 1) * C ≤ R * C := Nat.mul_le_mul_right C hlt
            rw [Nat.succ_mul] at this
            omega
          have HF : Hid (ok (p * C + j) = false → allTo ok (R * C) = false) := fun h => allTo_false h hidx
          have hRC : p * C + j < 1024 := by
            have := Nat.mul_le_mul (show R ≤ 32 by omega) (show C ≤ 32 by omega)
            omega
          have HL := Lib.hid (moL_succ X E (p * C + j))
          generalize hoo : ok (p * C + j) = o at *
          generalize hX1 : X (p * C + j) = Xp at *
          generalize hE1 : E (p * C + j) = Ep at *
          clear hoo hX1 hE1
          go_wp2_with fail
          refine HCC.out.out.mono ?_
          rintro e w1 ⟨rfl, hx1⟩
          have HM1 : Hid (MR R C w (moL X E (p * C + j)) (p * C + j) (.slice av (p * C + j) cv) w1) := HM.out.keep hx1
          have hs1 : w.heap.size + 1 < w1.heap.size := HM1.out.lt
          have hs0 : w.heap.size < w1.heap.size := by omega
          have z1 : ∀ k, w1.cell? ⟨w.heap.size + 1, k, none⟩ = (#[.int .i64 R, .int .i64 C, .slice av (p * C + j) cv] : Array Value)[k]? := fun k => cell_of_row _ _ _ _ _ _ HM1.out.out
          have f1 : ∀ k, w1.frozen? ⟨w.heap.size + 1, k, none⟩ = false := fun k => frozen_of_row _ _ _ _ _ HM1.out.out
          have z0 : ∀ k, w1.cell? ⟨w.heap.size, k, none⟩ = (#[.int .i64 0, .int .i64 0, .slice none 0 0] : Array Value)[k]? := fun k => cell_of_row _ _ _ _ _ _ HM1.out.res
          have f0 : ∀ k, w1.frozen? ⟨w.heap.size, k, none⟩ = false := fun k => frozen_of_row _ _ _ _ _ HM1.out.res
          cases o
          · have HFF := Lib.hid (HF.out rfl)
            have HE : Hid (Ext w w1) := HM1.out.ext
            go_wp2
            refine bodyPost_ret (v := .tuple #[.agg #[.int .i64 0, .int .i64 0, .slice none 0 0], .bool false]) (by simp [results, Try.results78, go_sem, *]) rfl ?_
            rw [HFF.out]
            have HEE := HE.out
            exact ⟨_, rfl, own_nil _ _ _ _, (by repeat (first | (with_reducible refine Ext.setCell ?_ (by first | (simp; done) | (simp; omega)) _) | with_reducible refine Ext.alloc ?_ _ | with_reducible refine Ext.drew ?_ | with_reducible refine Ext.drewN ?_ _ | with_reducible assumption | with_reducible exact Ext.refl _ | with_reducible refine Ext.trans ?_ (by with_reducible assumption)))⟩
          · have hfar : ∀ k, (Value.slice av (p * C + j) cv).ownBlock = some k → k ≠ w.heap.size + 1 := fun k hk => by have := (HM1.out.own.lt k hk).1; omega
            go_wp2_with (at_builtin; refine wpList_append_lies _ rfl (.tmp 44) (.tmp 46) _ rfl (w.heap.size + 2) 107 i0 (.agg #[.int .i64 0, .int .i64 0, .int .i64 0, .int .i64 0, .int .i64 0]) 5 40 Try.underlying69 hi iz0 iz1 iz2 rfl (by decide) _ (p * C + j) (IL (moL X E (p * C + j))) (by rfl) ((HM1.out.own.alloc _).alloc _) ⟨w1.heap.size + 1, 0, none⟩ 1 1 [.int .i64 Xp.a, .int .i64 Xp.b, .int .i64 Xp.c, .int .i64 Xp.d, .int .i64 Ep] (by rfl) (by rfl) (news3 (by simp) rfl) (by intro u hu; simp at hu; rcases hu with rfl | rfl | rfl | rfl | rfl <;> rfl) (by decide) (by simp only [maxLen] <;> omega) (by omega) (by simp <;> omega) _ (by rfl) ?_; intro g2 cap w2 hown2 hgrow hat hlt2; have f2 : ∀ k, w2.frozen? ⟨w.heap.size + 1, k, none⟩ = false := fun k => (hgrow.frozen_far ⟨w.heap.size + 1, k, none⟩ (by simp <;> omega) (fun e => hfar _ e.symm rfl)).trans ((((Ext.refl w1).alloc _).alloc _).cells.2 _ _ (by omega) |>.trans (f1 k)); have z2 : ∀ k, w2.cell? ⟨w.heap.size + 1, k, none⟩ = (#[.int .i64 R, .int .i64 C, .slice av (p * C + j) cv] : Array Value)[k]? := fun k => (hgrow.cell_far ⟨w.heap.size + 1, k, none⟩ (by simp <;> omega) (fun e => hfar _ e.symm rfl)).trans ((((Ext.refl w1).alloc _).alloc _).cells.1 _ _ (by omega) |>.trans (z1 k)))
            go_roundw
            case rel =>
              refine ⟨j + 1, .slice (some ⟨g2, 0, none⟩) (p * C + j + 1) cap, by omega, by go_num, by rw [← Nat.add_assoc, HT.out, HO.out]; rfl, ?_⟩
              rw [← HL.out] at hown2
              exact HM1.out.step (((Ext.refl w1).alloc _).alloc _) hgrow hown2
            case measure => simp [intOf]; omega
        · obtain rfl : j = C := by omega
          go_wp2
          go_roundw
          case rel =>
            refine ⟨p + 1, .slice av (p * j + j) cv, by omega, by go_num, ?_, ?_⟩
            · rw [Nat.succ_mul]; exact HO.out
            · rw [Nat.succ_mul]; exact HM.out
          case measure => simp [intOf]; omega
    · obtain rfl : p = R := by omega
      obtain ⟨av, cv, rfl, _, _, _⟩ := own_shape HM.out.own
      have hsz := HM.out.lt
      have hs0 : w.heap.size < wr.heap.size := by omega
      have z1 : ∀ k, wr.cell? ⟨w.heap.size + 1, k, none⟩ = (#[.int .i64 p, .int .i64 C, .slice av (p * C) cv] : Array Value)[k]? := fun k => cell_of_row _ _ _ _ _ _ HM.out.out
      have f0 : ∀ k, wr.frozen? ⟨w.heap.size, k, none⟩ = false := fun k => frozen_of_row _ _ _ _ _ HM.out.res
      have z0 : ∀ k, wr.cell? ⟨w.heap.size, k, none⟩ = (#[.int .i64 0, .int .i64 0, .slice none 0 0] : Array Value)[k]? := fun k => cell_of_row _ _ _ _ _ _ HM.out.res
      have HE : Hid (Ext w wr) := HM.out.ext
      have HW := Lib.hid HM.out.own
      go_wp2
      refine bodyPost_ret (v := .tuple #[.agg #[.int .i64 p, .int .i64 C, .slice av (p * C) cv], .bool true]) (by simp [results, Try.results78, go_sem, *]) rfl ?_
      rw [HO.out]
      have HEE := HE.out
      exact ⟨_, rfl, own_base (own_set (own_set (own_set HW.out (by simp) _) (by simp) _) (by simp) _) (by omega), (by repeat (first | (with_reducible refine Ext.setCell ?_ (by first | (simp; done) | (simp; omega)) _) | with_reducible refine Ext.alloc ?_ _ | with_reducible refine Ext.drew ?_ | with_reducible refine Ext.drewN ?_ _ | with_reducible assumption | with_reducible exact Ext.refl _ | with_reducible refine Ext.trans ?_ (by with_reducible assumption)))⟩


end Go.Proofs.Ytbddgeoaaklgpaa
