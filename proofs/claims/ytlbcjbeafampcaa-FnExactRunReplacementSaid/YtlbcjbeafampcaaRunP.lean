/- RunAt: the program's side. -/
import Derived.Test.YtlbcjbeafampcaaRunL
namespace Go.Proofs.Ytlbcjbeafampcaa
open Go.RowKit Go.Lib
set_option linter.unusedVariables false
set_option linter.unusedSimpArgs false

theorem elt_int : Elt Try.prog 41 3 1 8 := elt_of (z := .int .i64 0) Try.underlying41 (by kernel_rfl) rfl (by decide) (by decide)

set_option maxRecDepth 20000 in
set_option maxHeartbeats 8000000 in
theorem runAt_any (q at' : Int) {v1 v2 : Value} {n m : Nat} {xs ys : List Int} (hn : n ≤ 2000000) (hm : m ≤ 2000000) (w : World) (h1 : RV w 3 v1 n xs) (h2 : RV w 1 v2 m ys) :
    Calls Try.prog 47 #[.agg #[.int .i64 q, v1], .int .i64 at', v2] w fun e w' => ∃ v, e = .returned (.tuple #[v, .bool (raOk q xs n at' ys m)]) ∧
      w'.ownsRow w.heap.size 3 1 v (raL q xs n at' ys m).length (IL (raL q xs n at' ys m)) ∧ Ext w w' := by
  have HV := fun w' (hx : Ext w w') => Lib.hid (isValidCircuit_any q hn w' (h1.ext hx))
  have HI := fun hq w' (hx : Ext w w') => Lib.hid (isIncreasing_any q hq hm w' (h2.ext hx))
  have HS := fun k a b w' (hx : Ext w w') => Lib.hid (isInside_any k a b hm w' (h2.ext hx))
  have HF := fun B v k a b w' (h : RV w' 1 v (qL k a b).length (qL k a b)) hB (hx : Ext w w') => Lib.hid (inF_any B (by have := qL_len k a b; omega) hm w' h hB (h2.ext hx))
  have HO : Hid (raOk q xs n at' ys m = (cOk q xs n && (Wn m 1 2 && (risQ 0 (q - 1) ys m && (Wn at' 0 (n - 1) && insAt xs ys m at'.toNat))))) := rfl
  have HNO : Hid (raOk q xs n at' ys m = false → raL q xs n at' ys m = []) := raL_no
  have HYES : Hid (raOk q xs n at' ys m = true → raL q xs n at' ys m = runL xs ys m (n - at'.toNat) at'.toNat 0) := raL_yes
  obtain ⟨hlx, a1, cap1, rfl, p1, p2, hhx⟩ := h1
  obtain ⟨_, a2, cap2, rfl, p3, p4, hhy⟩ := h2
  have HX := Lib.hid hhx
  have HLX := Lib.hid hlx
  clear hhx hhy hlx
  have hE0 : ∀ o1 o2, Ext w ((w.alloc o1).alloc o2) := fun o1 o2 => ((Ext.refl w).alloc o1).alloc o2
  have hE0 := Lib.hid hE0
  cases g1 : cOk q xs n
  · rw [g1] at HV HO
    have HN : Hid (raOk q xs n at' ys m = false) := HO.out.trans (by simp)
    have HN2 := Lib.hid (HNO.out HN.out)
    clear HI HS HF HO HNO HYES
    go_enter Try.func47, Try.ntmps47
    go_wp2
    refine wp_region_madeC (m := 77) (by kernel_rfl) (by kernel_rfl) rfl (fun hxc => ?_)
    repeat (refine mw_quiet ?_; apply Exists.intro; refine ⟨fun σ => ?_, ?_⟩; (first | (go_simp; rfl) | (go_simp; intro x; first | (go_at_call 56; exact (HV _ ((hE0.out _ _).trans x.ext)).out))); simp only [Act.put, List.setIfInBounds_toArray, List.set_cons_succ, List.set_cons_zero, List.nil_append, List.cons_append])
    refine ⟨by kernel_rfl, fun σ w1 hF1 => ?_⟩
    have hx1 := hF1.ext
    clear hF1 hxc
    obtain ⟨hc1, hf1⟩ := hx1.cells
    have hz1 := hx1.size
    try simp at hz1
    have hs1_0 := sz2 (a := w.heap.size) (b := w1.heap.size) (by omega)
    go_wp2
    go_ret2
    rw [HN.out, HN2.out]
    exact ⟨_, rfl, own_nil _ _ _ _, (by repeat (first | (with_reducible refine Ext.setCell ?_ (by first | (simp; done) | (simp; omega)) _) | with_reducible refine Ext.alloc ?_ _ | with_reducible refine Ext.drew ?_ | with_reducible refine Ext.drewN ?_ _ | with_reducible assumption | with_reducible exact Ext.refl _ | with_reducible refine Ext.trans ?_ (by with_reducible assumption)))⟩
  have hq := cOk_bd g1
  have HI := HI (by omega)
  cases g2 : Wn m 1 2
  · rw [g1] at HV HO
    have HN : Hid (raOk q xs n at' ys m = false) := HO.out.trans (by rw [g2]; simp)
    have HN2 := Lib.hid (HNO.out HN.out)
    clear HI HS HF HO HNO HYES
    go_enter Try.func47, Try.ntmps47
    go_wp2
    refine wp_region_madeC (m := 77) (by kernel_rfl) (by kernel_rfl) rfl (fun hxc => ?_)
    repeat (refine mw_quiet ?_; apply Exists.intro; refine ⟨fun σ => ?_, ?_⟩; (first | (go_simp; rfl) | (go_simp; intro x; first | (go_at_call 56; with_reducible exact (HV _ ((hE0.out _ _).trans x.ext)).out) | (go_at_call 67; with_reducible exact calls_ext (within_any _ _ _ _)) | (go_at_call 56; exact (HV _ ((hE0.out _ _).trans x.ext)).out) | (go_at_call 67; exact calls_ext (within_any _ _ _ _)))); simp only [Act.put, List.setIfInBounds_toArray, List.set_cons_succ, List.set_cons_zero, List.nil_append, List.cons_append])
    refine ⟨by kernel_rfl, fun σ w1 hF1 => ?_⟩
    have hx1 := hF1.ext
    clear hF1 hxc
    obtain ⟨hc1, hf1⟩ := hx1.cells
    have hz1 := hx1.size
    try simp at hz1
    have hs1_0 := sz2 (a := w.heap.size) (b := w1.heap.size) (by omega)
    go_wp2
    go_ret2
    rw [HN.out, HN2.out]
    exact ⟨_, rfl, own_nil _ _ _ _, (by repeat (first | (with_reducible refine Ext.setCell ?_ (by first | (simp; done) | (simp; omega)) _) | with_reducible refine Ext.alloc ?_ _ | with_reducible refine Ext.drew ?_ | with_reducible refine Ext.drewN ?_ _ | with_reducible assumption | with_reducible exact Ext.refl _ | with_reducible refine Ext.trans ?_ (by with_reducible assumption)))⟩
  cases g3 : risQ 0 (q - 1) ys m
  · rw [g1] at HV HO
    rw [g3] at HI HO
    have HN : Hid (raOk q xs n at' ys m = false) := HO.out.trans (by simp)
    have HN2 := Lib.hid (HNO.out HN.out)
    clear HS HF HO HNO HYES
    go_enter Try.func47, Try.ntmps47
    go_wp2
    refine wp_region_madeC (m := 77) (by kernel_rfl) (by kernel_rfl) rfl (fun hxc => ?_)
    repeat (refine mw_quiet ?_; apply Exists.intro; refine ⟨fun σ => ?_, ?_⟩; (first | (go_simp; rfl) | (go_simp; intro x; first | (go_at_call 56; with_reducible exact (HV _ ((hE0.out _ _).trans x.ext)).out) | (go_at_call 67; with_reducible exact calls_ext (within_any _ _ _ _)) | (go_at_call 68; with_reducible exact calls_ext ((HI _ ((hE0.out _ _).trans x.ext)).out)) | (go_at_call 56; exact (HV _ ((hE0.out _ _).trans x.ext)).out) | (go_at_call 67; exact calls_ext (within_any _ _ _ _)) | (go_at_call 68; exact calls_ext ((HI _ ((hE0.out _ _).trans x.ext)).out)))); simp only [Act.put, List.setIfInBounds_toArray, List.set_cons_succ, List.set_cons_zero, List.nil_append, List.cons_append])
    refine ⟨by kernel_rfl, fun σ w1 hF1 => ?_⟩
    have hx1 := hF1.ext
    clear hF1 hxc
    obtain ⟨hc1, hf1⟩ := hx1.cells
    have hz1 := hx1.size
    try simp at hz1
    have hs1_0 := sz2 (a := w.heap.size) (b := w1.heap.size) (by omega)
    go_wp2
    go_ret2
    rw [HN.out, HN2.out]
    exact ⟨_, rfl, own_nil _ _ _ _, (by repeat (first | (with_reducible refine Ext.setCell ?_ (by first | (simp; done) | (simp; omega)) _) | with_reducible refine Ext.alloc ?_ _ | with_reducible refine Ext.drew ?_ | with_reducible refine Ext.drewN ?_ _ | with_reducible assumption | with_reducible exact Ext.refl _ | with_reducible refine Ext.trans ?_ (by with_reducible assumption)))⟩
  have hw1 : IntKind.i64.wrap ((n : Int) - 1) = (n : Int) - 1 := IntWalk.i64_in _ (by omega)
  have hw2 : wrap64 ((n : Int) - 1) = (n : Int) - 1 := by rw [← IntWalk.i64_left]; exact hw1
  cases g4 : Wn at' 0 (n - 1)
  · rw [g1] at HV HO
    rw [g3] at HI HO
    have HN : Hid (raOk q xs n at' ys m = false) := HO.out.trans (by rw [g4]; simp)
    have HN2 := Lib.hid (HNO.out HN.out)
    clear HS HF HO HNO HYES
    go_enter Try.func47, Try.ntmps47
    go_wp2
    refine wp_region_madeC (m := 77) (by kernel_rfl) (by kernel_rfl) rfl (fun hxc => ?_)
    repeat (refine mw_quiet ?_; apply Exists.intro; refine ⟨fun σ => ?_, ?_⟩; (first | (go_simp; rfl) | (go_simp; intro x; first | (go_at_call 56; with_reducible exact (HV _ ((hE0.out _ _).trans x.ext)).out) | (go_at_call 67; with_reducible exact calls_ext (within_any _ _ _ _)) | (go_at_call 68; with_reducible exact calls_ext ((HI _ ((hE0.out _ _).trans x.ext)).out)) | (go_at_call 56; exact (HV _ ((hE0.out _ _).trans x.ext)).out) | (go_at_call 67; exact calls_ext (within_any _ _ _ _)) | (go_at_call 68; exact calls_ext ((HI _ ((hE0.out _ _).trans x.ext)).out)))); simp only [Act.put, List.setIfInBounds_toArray, List.set_cons_succ, List.set_cons_zero, List.nil_append, List.cons_append])
    refine ⟨by kernel_rfl, fun σ w1 hF1 => ?_⟩
    have hx1 := hF1.ext
    clear hF1 hxc
    obtain ⟨hc1, hf1⟩ := hx1.cells
    have hz1 := hx1.size
    try simp at hz1
    have hs1_0 := sz2 (a := w.heap.size) (b := w1.heap.size) (by omega)
    go_wp2
    go_ret2
    rw [HN.out, HN2.out]
    exact ⟨_, rfl, own_nil _ _ _ _, (by repeat (first | (with_reducible refine Ext.setCell ?_ (by first | (simp; done) | (simp; omega)) _) | with_reducible refine Ext.alloc ?_ _ | with_reducible refine Ext.drew ?_ | with_reducible refine Ext.drewN ?_ _ | with_reducible assumption | with_reducible exact Ext.refl _ | with_reducible refine Ext.trans ?_ (by with_reducible assumption)))⟩
  obtain ⟨a, rfl⟩ : ∃ a : Nat, at' = a := ⟨at'.toNat, by have := Wn_iff.1 g4; omega⟩
  have han : a < n := by have := Wn_iff.1 g4; omega
  have han' : (a : Int) < n := by omega
  obtain ⟨bx, offx, rfl, hbx, hcx⟩ := HX.out (by omega)
  have HCX : Hid (∀ W, Ext w W → ∀ p, p < n → W.cell? ⟨bx, offx + p * 3, none⟩ = some (.int .i64 (at3 xs (p * 3))) ∧ W.cell? ⟨bx, offx + p * 3 + 1, none⟩ = some (.int .i64 (at3 xs (p * 3 + 1))) ∧ W.cell? ⟨bx, offx + p * 3 + 2, none⟩ = some (.int .i64 (at3 xs (p * 3 + 2)))) := by
    intro W hW p hp
    have l0 := HLX.out
    refine ⟨?_, ?_, ?_⟩
    · rw [hW.cells.1 _ _ hbx, hcx _ _ (at3_get (by omega))]
    · rw [Nat.add_assoc, hW.cells.1 _ _ hbx, hcx _ _ (at3_get (by omega))]
    · rw [Nat.add_assoc, hW.cells.1 _ _ hbx, hcx _ _ (at3_get (by omega))]
  clear hcx
  rw [g1] at HV HO
  rw [g3] at HI HO
  obtain ⟨zx0, zx1, zx2⟩ := HCX.out w (Ext.refl w) a han
  have hbx1 : bx < w.heap.size + 1 := by omega
  have hbx2 : bx < w.heap.size + 1 + 1 := by omega
  have HSA := HS (at3 xs (a * 3)) (at3 xs (a * 3 + 1)) (at3 xs (a * 3 + 2))
  have HG5 : Hid (insQ ys m (at3 xs (a * 3)) (at3 xs (a * 3 + 1)) (at3 xs (a * 3 + 2)) = insAt xs ys m a) := rfl
  generalize insQ ys m (at3 xs (a * 3)) (at3 xs (a * 3 + 1)) (at3 xs (a * 3 + 2)) = g5 at *
  generalize at3 xs (a * 3) = x0 at *
  generalize at3 xs (a * 3 + 1) = x1 at *
  generalize at3 xs (a * 3 + 2) = x2 at *
  rw [Int.toNat_natCast] at HO HYES
  cases g5
  · have HN : Hid (raOk q xs n a ys m = false) := HO.out.trans (by rw [← HG5.out]; simp)
    have HN2 := Lib.hid (HNO.out HN.out)
    clear HS HF HO HNO HYES HCX
    go_enter Try.func47, Try.ntmps47
    go_wp2
    refine wp_region_madeC (m := 77) (by kernel_rfl) (by kernel_rfl) rfl (fun hxc => ?_)
    repeat (refine mw_quiet ?_; apply Exists.intro; refine ⟨fun σ => ?_, ?_⟩; (first | (go_simp; rfl) | (go_simp; intro x; first | (go_at_call 56; with_reducible exact (HV _ ((hE0.out _ _).trans x.ext)).out) | (go_at_call 67; with_reducible exact calls_ext (within_any _ _ _ _)) | (go_at_call 68; with_reducible exact calls_ext ((HI _ ((hE0.out _ _).trans x.ext)).out)) | (go_at_call 49; with_reducible exact (HSA _ ((hE0.out _ _).trans x.ext)).out) | (go_at_call 56; exact (HV _ ((hE0.out _ _).trans x.ext)).out) | (go_at_call 67; exact calls_ext (within_any _ _ _ _)) | (go_at_call 68; exact calls_ext ((HI _ ((hE0.out _ _).trans x.ext)).out)) | (go_at_call 49; exact (HSA _ ((hE0.out _ _).trans x.ext)).out))); simp only [Act.put, List.setIfInBounds_toArray, List.set_cons_succ, List.set_cons_zero, List.nil_append, List.cons_append])
    refine ⟨by kernel_rfl, fun σ w1 hF1 => ?_⟩
    have hx1 := hF1.ext
    clear hF1 hxc
    obtain ⟨hc1, hf1⟩ := hx1.cells
    have hz1 := hx1.size
    try simp at hz1
    have hs1_0 := sz2 (a := w.heap.size) (b := w1.heap.size) (by omega)
    go_wp2
    go_ret2
    rw [HN.out, HN2.out]
    exact ⟨_, rfl, own_nil _ _ _ _, (by repeat (first | (with_reducible refine Ext.setCell ?_ (by first | (simp; done) | (simp; omega)) _) | with_reducible refine Ext.alloc ?_ _ | with_reducible refine Ext.drew ?_ | with_reducible refine Ext.drewN ?_ _ | with_reducible assumption | with_reducible exact Ext.refl _ | with_reducible refine Ext.trans ?_ (by with_reducible assumption)))⟩
  have HN : Hid (raOk q xs n a ys m = true) := HO.out.trans (by rw [← HG5.out, g2, g4]; simp)
  have HN2 := Lib.hid (HYES.out HN.out)
  clear HO HNO HYES HG5
  go_enter Try.func47, Try.ntmps47
  go_wp2
  refine wp_region_madeC (m := 77) (by kernel_rfl) (by kernel_rfl) rfl (fun hxc => ?_)
  repeat (refine mw_quiet ?_; apply Exists.intro; refine ⟨fun σ => ?_, ?_⟩; (first | (go_simp; rfl) | (go_simp; intro x; first | (go_at_call 56; with_reducible exact (HV _ ((hE0.out _ _).trans x.ext)).out) | (go_at_call 67; with_reducible exact calls_ext (within_any _ _ _ _)) | (go_at_call 68; with_reducible exact calls_ext ((HI _ ((hE0.out _ _).trans x.ext)).out)) | (go_at_call 49; with_reducible exact (HSA _ ((hE0.out _ _).trans x.ext)).out) | (go_at_call 56; exact (HV _ ((hE0.out _ _).trans x.ext)).out) | (go_at_call 67; exact calls_ext (within_any _ _ _ _)) | (go_at_call 68; exact calls_ext ((HI _ ((hE0.out _ _).trans x.ext)).out)) | (go_at_call 49; exact (HSA _ ((hE0.out _ _).trans x.ext)).out))); simp only [Act.put, List.setIfInBounds_toArray, List.set_cons_succ, List.set_cons_zero, List.nil_append, List.cons_append])
  refine ⟨by kernel_rfl, fun σ w1 hF1 => ?_⟩
  have hx1 := hF1.ext
  clear hF1 hxc
  obtain ⟨hc1, hf1⟩ := hx1.cells
  have hz1 := hx1.size
  try simp at hz1
  have hs1_0 := sz2 (a := w.heap.size) (b := w1.heap.size) (by omega)
  have hA1 : Hid (w1.heap[w.heap.size]? = some (.cells #[.int .i64 q, .slice (some ⟨bx, offx, none⟩) n cap1] 31 (0, 0))) := (hx1.heap (by simp; omega)).trans (heap_alloc_lt (heap_alloc_new _ _))
  have hB1 : Hid (w1.heap[w.heap.size + 1]? = some (.cells #[.slice a2 m cap2] 41 (0, 0))) := (hx1.heap (by simp)).trans (heap_alloc_at _ _ _ (by simp))
  have hE1 : Ext w w1 := (by repeat (first | (with_reducible refine Ext.setCell ?_ (by first | (simp; done) | (simp; omega)) _) | with_reducible refine Ext.alloc ?_ _ | with_reducible refine Ext.drew ?_ | with_reducible refine Ext.drewN ?_ _ | with_reducible assumption | with_reducible exact Ext.refl _ | with_reducible refine Ext.trans ?_ (by with_reducible assumption)))
  clear zx0 zx1 zx2 HSA HV HI hx1 hc1 hf1
  have lz1 : w.heap.size + 1 < w1.heap.size := (Array.getElem?_eq_some_iff.1 hB1.out).1
  clear hbx1 hbx2 hw1 hw2 g1 g2 g3 g4
  have HO1 : Hid ((w1.alloc (.cells #[] 3)).ownsRow w1.heap.size 3 1 (.slice (some ⟨w1.heap.size, 0, none⟩) 0 0) 0 (IL [])) := World.ownsRow_lit _ _ 0 (Nat.le_refl _) (by decide) rfl
  have HX1 : Hid (Ext w1 (w1.alloc (.cells #[] 3))) := (Ext.refl _).alloc _
  go_wp2
  go_loopw [8, 9, 10] (fun s8 i _ wr => ∃ (j : Nat) (v : Value) (L : List Int), a ≤ j ∧ j ≤ n ∧ i = .int .i64 j ∧ s8 = v ∧ Hid (wr.ownsRow w1.heap.size 3 1 v L.length (IL L)) ∧ Hid (L ++ runL xs ys m (n - j) j L.length = runL xs ys m (n - a) a 0) ∧ Ext w1 wr) (fun _ i _ _ => n - (intOf i).toNat)
  case atStart => exact ⟨a, _, [], by omega, by omega, rfl, rfl, HO1.out, rfl, HX1.out⟩
  case round =>
    clear HO1 HX1
    obtain ⟨j, v, L, haj, hj, rfl, rfl, HW, HR, hE⟩ := hrel
    have hLL : L.length ≤ 6 := by
      have h1 := congrArg List.length HR.out
      rw [List.length_append] at h1
      have := runL_len xs ys m (n - a) a 0
      omega
    obtain ⟨av, cv, rfl, hc1', hc2', _⟩ := own_shape HW.out
    have hA := Lib.hid ((hE.heap (by omega)).trans hA1.out)
    have hB := Lib.hid ((hE.heap lz1).trans hB1.out)
    have lA := (Array.getElem?_eq_some_iff.1 hA.out).1
    have lB := (Array.getElem?_eq_some_iff.1 hB.out).1
    have zA : ∀ q', wr.cell? ⟨w.heap.size, q', none⟩ = (#[.int .i64 q, .slice (some ⟨bx, offx, none⟩) n cap1] : Array Value)[q']? := fun q' => cell_of_row _ _ _ _ _ _ hA.out
    have zB : ∀ q', wr.cell? ⟨w.heap.size + 1, q', none⟩ = (#[.slice a2 m cap2] : Array Value)[q']? := fun q' => cell_of_row _ _ _ _ _ _ hB.out
    have HE := Lib.hid (hE1.trans hE)
    have HEr := Lib.hid hE
    have lx : bx < wr.heap.size := by have := HE.out.size; omega
    by_cases hlt : j < n
    case neg =>
      obtain rfl : j = n := by omega
      have HF : Hid (L = runL xs ys m (j - a) a 0) := by unfold Hid; have := HR.out; rw [Nat.sub_self] at this; simpa [runL] using this
      go_wp2
      go_ret2
      rw [HN.out, HN2.out, ← HF.out]
      exact ⟨_, rfl, own_base HW.out (by omega), HE.out⟩
    have hlt' : (j : Int) < n := by omega
    by_cases h6 : L.length < 6
    case neg =>
      have h6' : ¬ ((L.length : Int) < 6) := by omega
      have HF : Hid (L = runL xs ys m (n - a) a 0) := by unfold Hid; have := HR.out; rw [runL_full (by omega)] at this; simpa using this
      go_wp2
      go_ret2
      rw [HN.out, HN2.out, ← HF.out]
      exact ⟨_, rfl, own_base HW.out (by omega), HE.out⟩
    have h6' : (L.length : Int) < 6 := by omega
    obtain ⟨zx0, zx1, zx2⟩ := HCX.out wr HE.out j hlt
    have HG : Hid (insAt xs ys m j = insQ ys m (at3 xs (j * 3)) (at3 xs (j * 3 + 1)) (at3 xs (j * 3 + 2))) := rfl
    have HT : Hid (touAt xs ys m j = inTo (qL (at3 xs (j * 3)) (at3 xs (j * 3 + 1)) (at3 xs (j * 3 + 2))) ys m (qL (at3 xs (j * 3)) (at3 xs (j * 3 + 1)) (at3 xs (j * 3 + 2))).length) := (inTo_qL ys m _ _ _).symm
    have HSJ := HS (at3 xs (j * 3)) (at3 xs (j * 3 + 1)) (at3 xs (j * 3 + 2))
    have HFJ := fun B v => HF B v (at3 xs (j * 3)) (at3 xs (j * 3 + 1)) (at3 xs (j * 3 + 2))
    have HQJ := fun w' => Lib.hid (qubitsOf_any (at3 xs (j * 3)) (at3 xs (j * 3 + 1)) (at3 xs (j * 3 + 2)) w')
    rw [← HG.out] at HSJ
    rw [← HT.out] at HFJ
    have HRV := fun (w' : World) base v (h : w'.ownsRow base 3 1 v (qL (at3 xs (j * 3)) (at3 xs (j * 3 + 1)) (at3 xs (j * 3 + 2))).length (IL (qL (at3 xs (j * 3)) (at3 xs (j * 3 + 1)) (at3 xs (j * 3 + 2))))) => rv_ql h
    clear HG HT HCX HS HF
    generalize qL (at3 xs (j * 3)) (at3 xs (j * 3 + 1)) (at3 xs (j * 3 + 2)) = Q at *
    generalize at3 xs (j * 3) = x0 at *
    generalize at3 xs (j * 3 + 1) = x1 at *
    generalize at3 xs (j * 3 + 2) = x2 at *
    cases hg : insAt xs ys m j
    · have HIN := Lib.hid hg
      rw [hg] at HSJ
      clear hg
      go_wp2_with fail
      refine (HSJ _ (HE.out.alloc _)).out.mono ?_
      rintro e w2 ⟨rfl, hx2⟩
      obtain ⟨hc2, hf2⟩ := hx2.cells
      have hz2 := hx2.size
      try simp at hz2
      have hs2_0 := sz1 (a := wr.heap.size) (b := w2.heap.size) (by omega)
      have hB2 := Lib.hid ((hx2.heap (by simp; omega)).trans (heap_alloc_lt hB.out))
      have hO2 := Lib.hid (own_ext (own_ext HW.out ((Ext.refl _).alloc _)) hx2)
      go_wp2_with fail
      refine (HQJ _).out.mono ?_
      rintro e w3 ⟨vq, rfl, oq, hx3⟩
      have RQ := Lib.hid (HRV _ _ _ oq)
      have hB3 := Lib.hid (heap_alloc_lt (o := .cells #[] 3 (0, 0)) hB2.out)
      have hB3 := Lib.hid ((hx3.heap (by have := (Array.getElem?_eq_some_iff.1 hB2.out).1; omega)).trans hB2.out)
      have hO3 := Lib.hid (own_ext hO2.out hx3)
      have hE3 : Ext w w3 := ((HE.out.alloc _).trans hx2).trans hx3
      have hEr3 : Ext w1 w3 := ((HEr.out.alloc _).trans hx2).trans hx3
      obtain ⟨aq, cq, rfl, _, _, _⟩ := own_shape oq
      clear oq hc2 hf2 zA zB zx0 zx1 zx2
      go_wp2_with fail
      refine (HFJ _ _ _ RQ.out hB3.out hE3).out.mono ?_
      rintro e w4 ⟨rfl, hx4⟩
      cases ht : touAt xs ys m j
      · have HSK := Lib.hid ((runL_skip (c := L.length) (by omega) hlt HIN.out ht).symm)
        go_wp2
        go_roundw
        case rel => exact ⟨j + 1, _, L, by omega, by omega, by go_num, rfl, own_ext hO3.out hx4, by unfold Hid; rw [HSK.out]; exact HR.out, hEr3.trans hx4⟩
        case measure => simp [intOf]; omega
      · have HF : Hid (L = runL xs ys m (n - a) a 0) := by unfold Hid; have := HR.out; rw [runL_stop (c := L.length) (by omega) hlt HIN.out ht] at this; simpa using this
        go_wp2
        go_ret2
        rw [HN.out, HN2.out, ← HF.out]
        exact ⟨_, rfl, own_base (own_ext hO3.out hx4) (by omega), hE3.trans hx4⟩
    · have HSK := Lib.hid (runL_in (c := L.length) (by omega) hlt hg)
      rw [hg] at HSJ
      clear hg HFJ HQJ HRV
      go_wp2_with fail
      refine (HSJ _ (HE.out.alloc _)).out.mono ?_
      rintro e w2 ⟨rfl, hx2⟩
      have hEr2 : Ext w1 w2 := (HEr.out.alloc _).trans hx2
      have hO2 := Lib.hid (own_ext (own_ext (own_ext HW.out ((Ext.refl _).alloc _)) hx2) ((Ext.refl _).alloc (.cells #[.int .i64 j] 3 (0, 0))))
      have hM2 := Lib.hid (heap_alloc_new w2 (.cells #[.int .i64 j] 3 (0, 0)))
      have hs2 := hEr2.size
      clear zA zB zx0 zx1 zx2
      go_wp2_with (at_builtin; go_loud (refine wpList_append_rv rfl elt_int rfl _ L.length L rfl hO2.out _ 1 [(j : Int)] rfl (rv_heap hM2.out rfl rfl (by omega) (by decide)) (by omega) (by simp; omega) ?_); intro v4 w4 hown4 hgrow4 hiff4)
      go_roundw
      case rel =>
        refine ⟨j + 1, v4, L ++ [(j : Int)], by omega, by omega, by go_num, rfl, ?_, ?_, ?_⟩
        · unfold Hid
          rw [List.length_append]
          exact hown4
        · unfold Hid
          rw [List.append_assoc, List.length_append]
          show L ++ ((j : Int) :: runL xs ys m (n - (j + 1)) (j + 1) (L.length + 1)) = _
          rw [← HSK.out]
          exact HR.out
        · exact ext_grownB (hEr2.alloc _) hgrow4 hO2.out (by omega)
      case measure => simp [intOf]; omega

end Go.Proofs.Ytlbcjbeafampcaa
