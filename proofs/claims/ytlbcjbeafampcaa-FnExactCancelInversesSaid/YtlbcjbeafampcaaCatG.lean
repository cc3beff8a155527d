/- slices.Grow of nil and slices.Concat, at impl.Gate. -/
import Derived.Test.YtlbcjbeafampcaaLs
import Derived.Lib.AppendZeros
namespace Go.Proofs.Ytlbcjbeafampcaa
open Go.RowKit Go.Lib
set_option linter.unusedVariables false
set_option linter.unusedSimpArgs false

/-- sums and joins of the first -/
def sumN (N : Nat → Nat) : Nat → Nat
  | 0 => 0
  | n + 1 => sumN N n + N n
def catX (X : Nat → List Int) : Nat → List Int
  | 0 => []
  | n + 1 => catX X n ++ X n
theorem sumN_le {N : Nat → Nat} {c : Nat} : ∀ {n : Nat}, (∀ i, i < n → N i ≤ c) → sumN N n ≤ n * c
  | 0, _ => by simp [sumN]
  | n + 1, h => by
    have h1 := sumN_le (n := n) (fun i hi => h i (by omega))
    have h2 := h n (by omega)
    unfold sumN
    rw [Nat.succ_mul]
    omega

theorem elt_CG : Elt Try.prog 29 73 3 24 := elt_of (z := .agg #[.int .i64 0, .int .i64 0, .int .i64 0]) Try.underlying29 (by kernel_rfl) rfl (by decide) (by decide)

theorem own_room {w : World} {e : TypeId} {k cap : Nat} {cs : Array Value} (hm : cap ≤ maxLen) (hs : cs.size = cap * k) : (w.alloc (.cells cs e)).ownsRow w.heap.size e k (.slice (some ⟨w.heap.size, 0, none⟩) 0 cap) 0 [] :=
  ⟨by simp, .inr ⟨w.heap.size, cap, cs, rfl, Nat.le_refl _, heap_alloc_new w _, Nat.zero_le _, hm, hs, by simp⟩⟩

set_option maxHeartbeats 2000000 in
theorem growCG_any (n : Nat) (hn : n ≤ 8000000) (w : World) :
    Calls Try.prog 96 #[.slice none 0 0, .int .i64 n] w fun e w' => ∃ v, e = .returned v ∧ w'.ownsRow w.heap.size 73 3 v 0 (IL []) ∧ Ext w w' := by
  by_cases h0 : 0 < n
  · have h0' : (0 : Int) < n := by omega
    have h1 : ¬ ((n : Int) < 0) := by omega
    have hge := grownCap_ge w n 0 73
    have hle := grownCap_le_maxLen w n 0 73 (by simp only [maxLen]; omega)
    have hcc : ((grownCap w n 0 73 : Nat) : Int) ≤ 9223372036854775807 := by simp only [maxLen] at hle; omega
    obtain ⟨i, z, ht, hi, hz, hs, hb, hzs, hk, hby⟩ := elt_CG.ex
    have hrun := run_append_nil_zeros (P := Try.prog) w 29 3 29 73 i z .i64 .i64 ht Try.underlying3 hi hz n h0 (by omega) (by omega) (by rw [hb]; omega)
    have HO : Hid ((w.drew.alloc (.cells (Builtin.zeroCells z.cells n ++ Builtin.zeroCells z.cells (grownCap w n 0 73 - n)) 73)).ownsRow w.heap.size 73 3 (.slice (some ⟨w.heap.size, 0, none⟩) 0 (grownCap w n 0 73)) 0 []) := by
      refine own_room hle ?_
      rw [Array.size_append, size_zeroCells, size_zeroCells, hzs, ← Nat.add_mul, Nat.add_sub_cancel' hge]
    generalize grownCap w n 0 73 = cap at *
    generalize Builtin.zeroCells z.cells n ++ Builtin.zeroCells z.cells (cap - n) = cs at *
    have HRUN := Lib.hid hrun
    clear hrun hs hb hzs hz hi ht
    go_enter Try.func96, Try.ntmps96
    go_wp2_with (at_builtin; go_loud (refine wpList_append_run _ rfl _ _ _ _ rfl _ _ rfl rfl _ _ HRUN.out ?_))
    go_ret
    exact ⟨_, rfl, HO.out, ((Ext.refl w).drew).alloc _⟩
  · obtain rfl : n = 0 := by omega
    go_enter Try.func96, Try.ntmps96
    go_wp2
    go_ret
    exact ⟨_, rfl, own_nil _ _ _ _, Ext.refl _⟩

set_option maxRecDepth 20000 in
set_option maxHeartbeats 4000000 in
theorem concatCG_any (p : Nat) (hp : p ≤ 3) (Aa : Nat → Option Addr) (Nn Cc : Nat → Nat) (Xx : Nat → List Int) (hN : ∀ j, j < p → Nn j ≤ 2000000) (B : Nat) (w : World) (hBl : B < w.heap.size)
    (hB : ∀ j, j < p → w.cell? ⟨B, j, none⟩ = some (.slice (Aa j) (Nn j) (Cc j))) (hR : ∀ j, j < p → RV w 3 (.slice (Aa j) (Nn j) (Cc j)) (Nn j) (Xx j)) :
    Calls Try.prog 91 #[.slice (some ⟨B, 0, none⟩) p p] w fun e w' => ∃ v, e = .returned v ∧ w'.ownsRow w.heap.size 73 3 v (sumN Nn p) (IL (catX Xx p)) ∧ Ext w w' := by
  have HG := fun n hn w' => Lib.hid (growCG_any n hn w')
  have HN := Lib.hid hN
  have HB := Lib.hid hB
  have HR := Lib.hid hR
  have HS : Hid (∀ j, j ≤ p → sumN Nn j ≤ j * 2000000) := fun j hj => sumN_le (fun i hi => hN i (by omega))
  clear hN hB hR
  go_enter Try.func91, Try.ntmps91
  go_wp2
  go_loop [3, 5, 11] (fun s3 _ i => ∃ j : Nat, j ≤ p ∧ i = .int .i64 j ∧ s3 = .int .i64 (sumN Nn j : Nat)) (fun _ _ i => p - (intOf i).toNat)
  case atStart => exact ⟨0, by omega, rfl, rfl⟩
  case round =>
    obtain ⟨j, hj, rfl, rfl⟩ := hrel
    have hsj := HS.out j hj
    by_cases hlt : j < p
    · have hlt' : (j : Int) < p := by omega
      have z := HB.out j hlt
      have hsn : sumN Nn (j + 1) = sumN Nn j + Nn j := rfl
      have hnj := HN.out j hlt
      have HSN := Lib.hid hsn
      clear hsn
      have h0 : ¬ ((sumN Nn j : Int) + (Nn j : Int) < 0) := by omega
      generalize sumN Nn j = sj at *
      generalize Nn j = nj at *
      go_wp2
      go_round
      case rel => exact ⟨j + 1, by omega, by go_num, by rw [HSN.out]; push_cast; rfl⟩
      case measure => simp [intOf]; omega
    · obtain rfl : j = p := by omega
      have HSB := Lib.hid hsj
      go_wp2_with fail
      refine (HG _ (by omega) _).out.mono ?_
      rintro e w1 ⟨v, rfl, o1, hx1⟩
      have O1 := Lib.hid o1
      have hs1 := hx1.size
      clear hsj o1
      go_wp2
      go_loopw [6, 8, 27] (fun s6 _ i wr => ∃ (q : Nat) (v : Value), q ≤ j ∧ i = .int .i64 q ∧ s6 = v ∧ Hid (wr.ownsRow w.heap.size 73 3 v (sumN Nn q) (IL (catX Xx q))) ∧ Ext w wr) (fun _ _ i _ => j - (intOf i).toNat)
      case atStart => exact ⟨0, v, by omega, rfl, rfl, O1.out, hx1⟩
      case round =>
        obtain ⟨q, v, hq, rfl, rfl, HO, hE⟩ := hrel
        have hsz := hE.size
        by_cases hlq : q < j
        · have hlq' : (q : Int) < j := by omega
          have z := (hE.cells.1 _ _ hBl).trans (HB.out q hlq)
          have hsq := HS.out q (by omega)
          have hnq := HN.out q hlq
          have hr := Lib.hid ((HR.out q hlq).ext hE)
          have lB : B < wr.heap.size := by omega
          have hsq2 : sumN Nn q + Nn q ≤ 8000000 := by omega
          obtain ⟨av, cv, rfl, _, _, _⟩ := own_shape HO.out
          go_wp2_with (at_builtin; go_loud (refine wpList_append_rv rfl elt_CG rfl _ (sumN Nn q) (catX Xx q) rfl HO.out _ (Nn q) (Xx q) rfl hr.out (by omega) (by omega) ?_); intro v4 w4 hown4 hgrow4 hiff4)
          go_roundw
          case rel => exact ⟨q + 1, v4, by omega, by go_num, rfl, hown4, ext_grownB hE hgrow4 HO.out (Nat.le_refl _)⟩
          case measure => simp [intOf]; omega
        · obtain rfl : q = j := by omega
          obtain ⟨av, cv, rfl, _, _, _⟩ := own_shape HO.out
          go_wp2
          go_ret
          exact ⟨_, rfl, HO.out, hE⟩

end Go.Proofs.Ytlbcjbeafampcaa
