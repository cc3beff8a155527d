/- RunAt: the reference's side. -/
import Derived.Test.YtlbcjbeafampcaaRunL
import Derived.Test.YtlbcjbeafampcaaGateK
namespace Go.Proofs.Ytlbcjbeafampcaa
open Go.RowKit Go.Lib
set_option linter.unusedVariables false
set_option linter.unusedSimpArgs false

theorem elt_intS : Elt Try.prog 41 3 1 8 := elt_of (z := .int .i64 0) Try.underlying41 (by kernel_rfl) rfl (by decide) (by decide)

set_option maxHeartbeats 2000000 in
theorem l29List_any (q : Int) (hq : 1 ≤ q ∧ q ≤ 5) {v1 v2 : Value} {a1 : Option Addr} {n cap1 m : Nat} {ys : List Int} (hm : m ≤ 2000000) (w : World) (h2 : RV w 1 v2 m ys) :
    Calls Try.prog 64 #[.agg #[.int .i64 q, .slice a1 n cap1], v2] w fun e w' => e = .returned (.bool (Wn m 1 2 && risQ 0 (q - 1) ys m)) ∧ Ext w w' := by
  have HI := fun w' (hx : Ext w w') => Lib.hid (l1Rising_any (q - 1) (by omega) hm w' (h2.ext hx))
  have HW := fun w' => Lib.hid (l1In_any m 1 2 w')
  obtain ⟨_, a2, cap2, rfl, _⟩ := h2
  cases g2 : Wn m 1 2
  · rw [g2] at HW
    clear g2 HI
    go_enter Try.func64, Try.ntmps64
    go_wp2_with fail
    refine (HW _).out.mono ?_
    rintro e w1 ⟨rfl, rfl⟩
    go_wp2
    go_ret
    exact ⟨rfl, (by repeat (first | exact Ext.refl _ | assumption | refine Ext.alloc ?_ _ | refine Ext.drew ?_ | refine Ext.drewN ?_ _ | refine Ext.setCell ?_ (by first | omega | (dsimp only; omega) | (simp; done) | (simp; omega)) _ | refine Ext.trans ?_ (by assumption)))⟩
  · rw [g2] at HW
    clear g2
    generalize risQ 0 (q - 1) ys m = r at *
    go_enter Try.func64, Try.ntmps64
    go_wp2_with fail
    refine (HW _).out.mono ?_
    rintro e w1 ⟨rfl, rfl⟩
    go_wp2_with fail
    refine (HI _ (by repeat (first | exact Ext.refl _ | assumption | refine Ext.alloc ?_ _ | refine Ext.drew ?_ | refine Ext.drewN ?_ _ | refine Ext.setCell ?_ (by first | omega | (dsimp only; omega) | (simp; done) | (simp; omega)) _ | refine Ext.trans ?_ (by assumption)))).out.mono ?_
    rintro e w1 ⟨rfl, rfl⟩
    go_wp2
    go_ret
    exact ⟨ret_bool (by simp), (by repeat (first | exact Ext.refl _ | assumption | refine Ext.alloc ?_ _ | refine Ext.drew ?_ | refine Ext.drewN ?_ _ | refine Ext.setCell ?_ (by first | omega | (dsimp only; omega) | (simp; done) | (simp; omega)) _ | refine Ext.trans ?_ (by assumption)))⟩

set_option maxRecDepth 20000 in
set_option maxHeartbeats 8000000 in
theorem l29Run_any (q at' : Int) {v1 v2 : Value} {n m : Nat} {xs ys : List Int} (hn : n ≤ 2000000) (hm : m ≤ 2000000) (hc : cOk q xs n = true) (w : World) (h1 : RV w 3 v1 n xs) (h2 : RV w 1 v2 m ys) :
    Calls Try.prog 44 #[.agg #[.int .i64 q, v1], .int .i64 at', v2] w fun e w' => ∃ v, e = .returned (.tuple #[v, .bool (raOk q xs n at' ys m)]) ∧
      w'.ownsRow w.heap.size 3 1 v (raL q xs n at' ys m).length (IL (raL q xs n at' ys m)) ∧ Ext w w' := by
  have hq := cOk_bd hc
  have HI := fun a c n w' (hx : Ext w w') => Lib.hid (l29List_any q (by omega) (v1 := .slice none 0 0) (a1 := a) (cap1 := c) (n := n) hm w' (h2.ext hx))
  have HW := fun x w' => Lib.hid (l1In_any x 0 (n - 1) w')
  have HS := fun k a b w' (hx : Ext w w') => Lib.hid (l29In_any k a b hm w' (h2.ext hx))
  have HO : Hid (raOk q xs n at' ys m = (cOk q xs n && (Wn m 1 2 && (risQ 0 (q - 1) ys m && (Wn at' 0 (n - 1) && insAt xs ys m at'.toNat))))) := rfl
  have HNO : Hid (raOk q xs n at' ys m = false → raL q xs n at' ys m = []) := raL_no
  have HYES : Hid (raOk q xs n at' ys m = true → raL q xs n at' ys m = runL xs ys m (n - at'.toNat) at'.toNat 0) := raL_yes
  obtain ⟨hlx, a1, cap1, rfl, p1, p2, hhx⟩ := h1
  obtain ⟨_, a2, cap2, rfl, p3, p4, hhy⟩ := h2
  have HX := Lib.hid hhx
  have HLX := Lib.hid hlx
  clear hhx hhy hlx
  rw [hc] at HO
  clear hc
  cases g2 : (Wn m 1 2 && risQ 0 (q - 1) ys m)
  · rw [g2] at HI
    have HN : Hid (raOk q xs n at' ys m = false) := by unfold Hid; rw [HO.out, ← Bool.and_assoc (Wn m 1 2), g2]; rfl
    have HN2 := Lib.hid (HNO.out HN.out)
    clear HS HO HNO HYES HW g2
    go_enter Try.func44, Try.ntmps44
    go_wp2_with fail
    refine ((HI _ _ _ _ (by repeat (first | exact Ext.refl _ | assumption | refine Ext.alloc ?_ _ | refine Ext.drew ?_ | refine Ext.drewN ?_ _ | refine Ext.setCell ?_ (by first | omega | (dsimp only; omega) | (simp; done) | (simp; omega)) _ | refine Ext.trans ?_ (by assumption)))).out).mono ?_
    rintro e w1 ⟨rfl, hx1⟩
    obtain ⟨hc1, hf1⟩ := hx1.cells
    have hz1 := hx1.size
    try simp at hz1
    have hs1_0 := sz1 (a := w.heap.size) (b := w1.heap.size) (by omega)
    go_wp2
    go_ret2
    rw [HN.out, HN2.out]
    exact ⟨_, rfl, own_nil _ _ _ _, (by repeat (first | (with_reducible refine Ext.setCell ?_ (by first | (simp; done) | (simp; omega)) _) | with_reducible refine Ext.alloc ?_ _ | with_reducible refine Ext.drew ?_ | with_reducible refine Ext.drewN ?_ _ | with_reducible assumption | with_reducible exact Ext.refl _ | with_reducible refine Ext.trans ?_ (by with_reducible assumption)))⟩
  rw [g2] at HI
  cases g4 : Wn at' 0 (n - 1)
  · have HW := HW at'
    rw [g4] at HW HO
    have HN : Hid (raOk q xs n at' ys m = false) := HO.out.trans (by simp)
    have HN2 := Lib.hid (HNO.out HN.out)
    clear HS HO HNO HYES g2 g4
    go_enter Try.func44, Try.ntmps44
    go_wp2_with fail
    refine ((HI _ _ _ _ (by repeat (first | exact Ext.refl _ | assumption | refine Ext.alloc ?_ _ | refine Ext.drew ?_ | refine Ext.drewN ?_ _ | refine Ext.setCell ?_ (by first | omega | (dsimp only; omega) | (simp; done) | (simp; omega)) _ | refine Ext.trans ?_ (by assumption)))).out).mono ?_
    rintro e w1 ⟨rfl, hx1⟩
    obtain ⟨hc1, hf1⟩ := hx1.cells
    have hz1 := hx1.size
    try simp at hz1
    have hs1_0 := sz1 (a := w.heap.size) (b := w1.heap.size) (by omega)
    go_wp2_with fail
    refine (HW _).out.mono ?_
    rintro e w2 ⟨rfl, rfl⟩
    go_wp2
    go_ret2
    rw [HN.out, HN2.out]
    exact ⟨_, rfl, own_nil _ _ _ _, (by repeat (first | (with_reducible refine Ext.setCell ?_ (by first | (simp; done) | (simp; omega)) _) | with_reducible refine Ext.alloc ?_ _ | with_reducible refine Ext.drew ?_ | with_reducible refine Ext.drewN ?_ _ | with_reducible assumption | with_reducible exact Ext.refl _ | with_reducible refine Ext.trans ?_ (by with_reducible assumption)))⟩
  have HW := HW at'
  rw [g4] at HW HO
  obtain ⟨a, rfl⟩ : ∃ a : Nat, at' = a := ⟨at'.toNat, by have := Wn_iff.1 g4; omega⟩
  have han : a < n := by have := Wn_iff.1 g4; omega
  have han' : (a : Int) < n := by omega
  obtain ⟨bx, offx, rfl, hbx, hcx⟩ := HX.out (by omega)
  have HCX : Hid (∀ W, Ext w W → ∀ p, p < n → W.cell? ⟨bx, offx + p * 3, none⟩ = some (.int .i64 (at3 xs (p * 3))) ∧ W.cell? ⟨bx, offx + p * 3 + 1, none⟩ = some (.int .i64 (at3 xs (p * 3 + 1))) ∧ W.cell? ⟨bx, offx + p * 3 + 2, none⟩ = some (.int .i64 (at3 xs (p * 3 + 2)))) := by
    intro W hW p hp
    have l0 := HLX.out
    refine ⟨?_, ?_, ?_⟩
    · rw [hW.cells.1 _ _ hbx, hcx _ _ (at3_get (by omega))]
    · rw [Nat.add_assoc, hW.cells.1 _ _ hbx, hcx _ _ (at3_get (by omega))]
    · rw [Nat.add_assoc, hW.cells.1 _ _ hbx, hcx _ _ (at3_get (by omega))]
  clear hcx
  have HG : Hid (insAt xs ys m a = (decide (0 < cIn ys m (qL (at3 xs (a * 3)) (at3 xs (a * 3 + 1)) (at3 xs (a * 3 + 2))) (qL (at3 xs (a * 3)) (at3 xs (a * 3 + 1)) (at3 xs (a * 3 + 2))).length) && !(decide (0 < cOut ys m (qL (at3 xs (a * 3)) (at3 xs (a * 3 + 1)) (at3 xs (a * 3 + 2))) (qL (at3 xs (a * 3)) (at3 xs (a * 3 + 1)) (at3 xs (a * 3 + 2))).length)))) := (cIn_ins ys m _ _ _).symm
  have HSA := HS (at3 xs (a * 3)) (at3 xs (a * 3 + 1)) (at3 xs (a * 3 + 2))
  have n1 := cIn_nn ys m (qL (at3 xs (a * 3)) (at3 xs (a * 3 + 1)) (at3 xs (a * 3 + 2))) (qL (at3 xs (a * 3)) (at3 xs (a * 3 + 1)) (at3 xs (a * 3 + 2))).length
  have n2 := cOut_nn ys m (qL (at3 xs (a * 3)) (at3 xs (a * 3 + 1)) (at3 xs (a * 3 + 2))) (qL (at3 xs (a * 3)) (at3 xs (a * 3 + 1)) (at3 xs (a * 3 + 2))).length
  have n3 := qL_len (at3 xs (a * 3)) (at3 xs (a * 3 + 1)) (at3 xs (a * 3 + 2))
  generalize cIn ys m (qL (at3 xs (a * 3)) (at3 xs (a * 3 + 1)) (at3 xs (a * 3 + 2))) (qL (at3 xs (a * 3)) (at3 xs (a * 3 + 1)) (at3 xs (a * 3 + 2))).length = ci at *
  generalize cOut ys m (qL (at3 xs (a * 3)) (at3 xs (a * 3 + 1)) (at3 xs (a * 3 + 2))) (qL (at3 xs (a * 3)) (at3 xs (a * 3 + 1)) (at3 xs (a * 3 + 2))).length = co at *
  generalize (qL (at3 xs (a * 3)) (at3 xs (a * 3 + 1)) (at3 xs (a * 3 + 2))).length = ql at *
  rw [Int.toNat_natCast] at HO HYES
  by_cases hins : insAt xs ys m a = true
  case neg =>
    have hins : insAt xs ys m a = false := by simpa using hins
    have HN : Hid (raOk q xs n a ys m = false) := HO.out.trans (by rw [hins]; simp)
    have HN2 := Lib.hid (HNO.out HN.out)
    have hcc : ci = 0 ∨ 0 < co := by
      have := HG.out
      rw [hins] at this
      simp at this
      omega
    clear HO HNO HYES HG hins g2 g4 HS
    obtain ⟨zx0, zx1, zx2⟩ := HCX.out w (Ext.refl w) a han
    generalize at3 xs (a * 3) = x0 at *
    generalize at3 xs (a * 3 + 1) = x1 at *
    generalize at3 xs (a * 3 + 2) = x2 at *
    rcases hcc with hcc | hcc
    · subst hcc
      go_enter Try.func44, Try.ntmps44
      go_wp2_with fail
      refine ((HI _ _ _ _ (by repeat (first | exact Ext.refl _ | assumption | refine Ext.alloc ?_ _ | refine Ext.drew ?_ | refine Ext.drewN ?_ _ | refine Ext.setCell ?_ (by first | omega | (dsimp only; omega) | (simp; done) | (simp; omega)) _ | refine Ext.trans ?_ (by assumption)))).out).mono ?_
      rintro e w1 ⟨rfl, hx1⟩
      obtain ⟨hc1, hf1⟩ := hx1.cells
      have hz1 := hx1.size
      try simp at hz1
      have hs1_0 := sz1 (a := w.heap.size) (b := w1.heap.size) (by omega)
      go_wp2_with fail
      refine (HW _).out.mono ?_
      rintro e w2 ⟨rfl, rfl⟩
      have hb1 : bx < w.heap.size + 1 := by omega
      go_wp2_with fail
      refine (HSA _ (by repeat (first | (with_reducible refine Ext.setCell ?_ (by first | (simp; done) | (simp; omega)) _) | with_reducible refine Ext.alloc ?_ _ | with_reducible refine Ext.drew ?_ | with_reducible refine Ext.drewN ?_ _ | with_reducible assumption | with_reducible exact Ext.refl _ | with_reducible refine Ext.trans ?_ (by with_reducible assumption)))).out.mono ?_
      rintro e w2 ⟨rfl, hx2⟩
      go_wp2
      go_ret2
      rw [HN.out, HN2.out]
      exact ⟨_, rfl, own_nil _ _ _ _, (by repeat (first | (with_reducible refine Ext.setCell ?_ (by first | (simp; done) | (simp; omega)) _) | with_reducible refine Ext.alloc ?_ _ | with_reducible refine Ext.drew ?_ | with_reducible refine Ext.drewN ?_ _ | with_reducible assumption | with_reducible exact Ext.refl _ | with_reducible refine Ext.trans ?_ (by with_reducible assumption)))⟩
    · by_cases hc0 : ci = 0
      · subst hc0
        go_enter Try.func44, Try.ntmps44
        go_wp2_with fail
        refine ((HI _ _ _ _ (by repeat (first | exact Ext.refl _ | assumption | refine Ext.alloc ?_ _ | refine Ext.drew ?_ | refine Ext.drewN ?_ _ | refine Ext.setCell ?_ (by first | omega | (dsimp only; omega) | (simp; done) | (simp; omega)) _ | refine Ext.trans ?_ (by assumption)))).out).mono ?_
        rintro e w1 ⟨rfl, hx1⟩
        obtain ⟨hc1, hf1⟩ := hx1.cells
        have hz1 := hx1.size
        try simp at hz1
        have hs1_0 := sz1 (a := w.heap.size) (b := w1.heap.size) (by omega)
        go_wp2_with fail
        refine (HW _).out.mono ?_
        rintro e w2 ⟨rfl, rfl⟩
        have hb1 : bx < w.heap.size + 1 := by omega
        go_wp2_with fail
        refine (HSA _ (by repeat (first | (with_reducible refine Ext.setCell ?_ (by first | (simp; done) | (simp; omega)) _) | with_reducible refine Ext.alloc ?_ _ | with_reducible refine Ext.drew ?_ | with_reducible refine Ext.drewN ?_ _ | with_reducible assumption | with_reducible exact Ext.refl _ | with_reducible refine Ext.trans ?_ (by with_reducible assumption)))).out.mono ?_
        rintro e w2 ⟨rfl, hx2⟩
        go_wp2
        go_ret2
        rw [HN.out, HN2.out]
        exact ⟨_, rfl, own_nil _ _ _ _, (by repeat (first | (with_reducible refine Ext.setCell ?_ (by first | (simp; done) | (simp; omega)) _) | with_reducible refine Ext.alloc ?_ _ | with_reducible refine Ext.drew ?_ | with_reducible refine Ext.drewN ?_ _ | with_reducible assumption | with_reducible exact Ext.refl _ | with_reducible refine Ext.trans ?_ (by with_reducible assumption)))⟩
      · have hc1 : (ci == 0) = false := by simpa using hc0
        go_enter Try.func44, Try.ntmps44
        go_wp2_with fail
        refine ((HI _ _ _ _ (by repeat (first | exact Ext.refl _ | assumption | refine Ext.alloc ?_ _ | refine Ext.drew ?_ | refine Ext.drewN ?_ _ | refine Ext.setCell ?_ (by first | omega | (dsimp only; omega) | (simp; done) | (simp; omega)) _ | refine Ext.trans ?_ (by assumption)))).out).mono ?_
        rintro e w1 ⟨rfl, hx1⟩
        obtain ⟨hc1, hf1⟩ := hx1.cells
        have hz1 := hx1.size
        try simp at hz1
        have hs1_0 := sz1 (a := w.heap.size) (b := w1.heap.size) (by omega)
        go_wp2_with fail
        refine (HW _).out.mono ?_
        rintro e w2 ⟨rfl, rfl⟩
        have hb1 : bx < w.heap.size + 1 := by omega
        go_wp2_with fail
        refine (HSA _ (by repeat (first | (with_reducible refine Ext.setCell ?_ (by first | (simp; done) | (simp; omega)) _) | with_reducible refine Ext.alloc ?_ _ | with_reducible refine Ext.drew ?_ | with_reducible refine Ext.drewN ?_ _ | with_reducible assumption | with_reducible exact Ext.refl _ | with_reducible refine Ext.trans ?_ (by with_reducible assumption)))).out.mono ?_
        rintro e w2 ⟨rfl, hx2⟩
        go_wp2
        go_ret2
        rw [HN.out, HN2.out]
        exact ⟨_, rfl, own_nil _ _ _ _, (by repeat (first | (with_reducible refine Ext.setCell ?_ (by first | (simp; done) | (simp; omega)) _) | with_reducible refine Ext.alloc ?_ _ | with_reducible refine Ext.drew ?_ | with_reducible refine Ext.drewN ?_ _ | with_reducible assumption | with_reducible exact Ext.refl _ | with_reducible refine Ext.trans ?_ (by with_reducible assumption)))⟩
  have HN : Hid (raOk q xs n a ys m = true) := HO.out.trans (by rw [hins]; rw [Bool.and_eq_true] at g2; rw [g2.1, g2.2]; rfl)
  have HN2 := Lib.hid (HYES.out HN.out)
  have hcc : 0 < ci ∧ co = 0 := by
    have := HG.out
    rw [hins] at this
    simp at this
    omega
  obtain ⟨hci, rfl⟩ := hcc
  have hci1 : (ci == 0) = false := by simp; omega
  clear HO HNO HYES HG hins g2 g4
  obtain ⟨zx0, zx1, zx2⟩ := HCX.out w (Ext.refl w) a han
  generalize at3 xs (a * 3) = x0 at *
  generalize at3 xs (a * 3 + 1) = x1 at *
  generalize at3 xs (a * 3 + 2) = x2 at *
  go_enter Try.func44, Try.ntmps44
  go_wp2_with fail
  refine ((HI _ _ _ _ (by repeat (first | exact Ext.refl _ | assumption | refine Ext.alloc ?_ _ | refine Ext.drew ?_ | refine Ext.drewN ?_ _ | refine Ext.setCell ?_ (by first | omega | (dsimp only; omega) | (simp; done) | (simp; omega)) _ | refine Ext.trans ?_ (by assumption)))).out).mono ?_
  rintro e w1 ⟨rfl, hx1⟩
  obtain ⟨hc1, hf1⟩ := hx1.cells
  have hz1 := hx1.size
  try simp at hz1
  have hs1_0 := sz1 (a := w.heap.size) (b := w1.heap.size) (by omega)
  go_wp2_with fail
  refine (HW _).out.mono ?_
  rintro e w2 ⟨rfl, rfl⟩
  have hb1 : bx < w.heap.size + 1 := by omega
  go_wp2_with fail
  refine (HSA _ (by repeat (first | (with_reducible refine Ext.setCell ?_ (by first | (simp; done) | (simp; omega)) _) | with_reducible refine Ext.alloc ?_ _ | with_reducible refine Ext.drew ?_ | with_reducible refine Ext.drewN ?_ _ | with_reducible assumption | with_reducible exact Ext.refl _ | with_reducible refine Ext.trans ?_ (by with_reducible assumption)))).out.mono ?_
  rintro e w2 ⟨rfl, hx2⟩
  have hA2 : Hid (w2.heap[w.heap.size]? = some (.cells #[.int .i64 q, .slice (some ⟨bx, offx, none⟩) n cap1] 31 (0, 0))) := (hx2.heap (by omega)).trans ((hx1.heap (by simp)).trans (heap_alloc_new _ _))
  have hE2 : Ext w w2 := (by repeat (first | (with_reducible refine Ext.setCell ?_ (by first | (simp; done) | (simp; omega)) _) | with_reducible refine Ext.alloc ?_ _ | with_reducible refine Ext.drew ?_ | with_reducible refine Ext.drewN ?_ _ | with_reducible assumption | with_reducible exact Ext.refl _ | with_reducible refine Ext.trans ?_ (by with_reducible assumption)))
  have lA2 : w.heap.size < w2.heap.size := (Array.getElem?_eq_some_iff.1 hA2.out).1
  clear zx0 zx1 zx2 HSA HW HI hx1 hx2 hc1 hf1 hb1 n1 n2 n3
  go_wp2
  clear hci hci1
  go_loopw [10, 11, 12, 13] (fun s10 i _ _ wr => ∃ (j : Nat) (v : Value) (L : List Int), a ≤ j ∧ j ≤ n ∧ i = .int .i64 j ∧ s10 = v ∧ Hid (wr.ownsRow w2.heap.size 3 1 v L.length (IL L)) ∧ Hid (L ++ runL xs ys m (n - j) j L.length = runL xs ys m (n - a) a 0) ∧ Ext w2 wr) (fun _ i _ _ _ => n - (intOf i).toNat)
  case atStart => exact ⟨a, _, [], by omega, by omega, rfl, rfl, own_nil _ _ _ _, rfl, Ext.refl _⟩
  case round =>
    obtain ⟨j, v, L, haj, hj, rfl, rfl, HWo, HR, hE⟩ := hrel
    have hLL : L.length ≤ 6 := by
      have h1 := congrArg List.length HR.out
      rw [List.length_append] at h1
      have := runL_len xs ys m (n - a) a 0
      omega
    obtain ⟨av, cv, rfl, hc1', hc2', _⟩ := own_shape HWo.out
    have hA := Lib.hid ((hE.heap (by omega)).trans hA2.out)
    have lA := (Array.getElem?_eq_some_iff.1 hA.out).1
    have zA : ∀ q', wr.cell? ⟨w.heap.size, q', none⟩ = (#[.int .i64 q, .slice (some ⟨bx, offx, none⟩) n cap1] : Array Value)[q']? := fun q' => cell_of_row _ _ _ _ _ _ hA.out
    have HE := Lib.hid (hE2.trans hE)
    have HEr := Lib.hid hE
    have lx : bx < wr.heap.size := by have := HE.out.size; omega
    by_cases hlt : j < n
    case neg =>
      obtain rfl : j = n := by omega
      have HF : Hid (L = runL xs ys m (j - a) a 0) := by unfold Hid; have := HR.out; rw [Nat.sub_self] at this; simpa [runL] using this
      go_wp2
      go_ret2
      rw [HN.out, HN2.out, ← HF.out]
      exact ⟨_, rfl, own_base HWo.out (by omega), HE.out⟩
    have hlt' : (j : Int) < n := by omega
    by_cases h6 : L.length < 6
    case neg =>
      have h6' : ¬ ((L.length : Int) < 6) := by omega
      have HF : Hid (L = runL xs ys m (n - a) a 0) := by unfold Hid; have := HR.out; rw [runL_full (by omega)] at this; simpa using this
      go_wp2
      go_ret2
      rw [HN.out, HN2.out, ← HF.out]
      exact ⟨_, rfl, own_base HWo.out (by omega), HE.out⟩
    have h6' : (L.length : Int) < 6 := by omega
    obtain ⟨zx0, zx1, zx2⟩ := HCX.out wr HE.out j hlt
    have HG : Hid (insAt xs ys m j = (decide (0 < cIn ys m (qL (at3 xs (j * 3)) (at3 xs (j * 3 + 1)) (at3 xs (j * 3 + 2))) (qL (at3 xs (j * 3)) (at3 xs (j * 3 + 1)) (at3 xs (j * 3 + 2))).length) && !(decide (0 < cOut ys m (qL (at3 xs (j * 3)) (at3 xs (j * 3 + 1)) (at3 xs (j * 3 + 2))) (qL (at3 xs (j * 3)) (at3 xs (j * 3 + 1)) (at3 xs (j * 3 + 2))).length)))) := (cIn_ins ys m _ _ _).symm
    have HT : Hid (touAt xs ys m j = decide (0 < cIn ys m (qL (at3 xs (j * 3)) (at3 xs (j * 3 + 1)) (at3 xs (j * 3 + 2))) (qL (at3 xs (j * 3)) (at3 xs (j * 3 + 1)) (at3 xs (j * 3 + 2))).length)) := (cIn_tou ys m _ _ _).symm
    have HSJ := HS (at3 xs (j * 3)) (at3 xs (j * 3 + 1)) (at3 xs (j * 3 + 2))
    have n1 := cIn_nn ys m (qL (at3 xs (j * 3)) (at3 xs (j * 3 + 1)) (at3 xs (j * 3 + 2))) (qL (at3 xs (j * 3)) (at3 xs (j * 3 + 1)) (at3 xs (j * 3 + 2))).length
    have n2 := cOut_nn ys m (qL (at3 xs (j * 3)) (at3 xs (j * 3 + 1)) (at3 xs (j * 3 + 2))) (qL (at3 xs (j * 3)) (at3 xs (j * 3 + 1)) (at3 xs (j * 3 + 2))).length
    generalize cIn ys m (qL (at3 xs (j * 3)) (at3 xs (j * 3 + 1)) (at3 xs (j * 3 + 2))) (qL (at3 xs (j * 3)) (at3 xs (j * 3 + 1)) (at3 xs (j * 3 + 2))).length = ci at *
    generalize cOut ys m (qL (at3 xs (j * 3)) (at3 xs (j * 3 + 1)) (at3 xs (j * 3 + 2))) (qL (at3 xs (j * 3)) (at3 xs (j * 3 + 1)) (at3 xs (j * 3 + 2))).length = co at *
    clear HCX HS
    generalize at3 xs (j * 3) = x0 at *
    generalize at3 xs (j * 3 + 1) = x1 at *
    generalize at3 xs (j * 3 + 2) = x2 at *
    by_cases k1 : 0 < ci
    · by_cases k2 : 0 < co
      · have HIN : Hid (insAt xs ys m j = false) := by unfold Hid; rw [HG.out]; simp [k2]
        have HTO : Hid (touAt xs ys m j = true) := by unfold Hid; rw [HT.out]; simp [k1]
        have HF : Hid (L = runL xs ys m (n - a) a 0) := by unfold Hid; have := HR.out; rw [runL_stop (c := L.length) (by omega) hlt HIN.out HTO.out] at this; simpa using this
        clear HG HT
        go_wp2_with fail
        refine (HSJ _ HE.out).out.mono ?_
        rintro e w3 ⟨rfl, hx3⟩
        go_wp2
        go_ret2
        rw [HN.out, HN2.out, ← HF.out]
        exact ⟨_, rfl, own_base (own_ext HWo.out hx3) (by omega), HE.out.trans hx3⟩
      · have HIN : Hid (insAt xs ys m j = true) := by unfold Hid; rw [HG.out]; simp [k1, k2]
        have HSK := Lib.hid (runL_in (c := L.length) (by omega) hlt HIN.out)
        clear HG HT
        go_wp2_with fail
        refine (HSJ _ HE.out).out.mono ?_
        rintro e w3 ⟨rfl, hx3⟩
        have hEr3 : Ext w2 w3 := HEr.out.trans hx3
        have hO3 := Lib.hid (own_ext (own_ext HWo.out hx3) ((Ext.refl _).alloc (.cells #[.int .i64 j] 3 (0, 0))))
        have hM3 := Lib.hid (heap_alloc_new w3 (.cells #[.int .i64 j] 3 (0, 0)))
        have hs3 := hEr3.size
        clear zA zx0 zx1 zx2
        go_wp2_with (at_builtin; go_loud (refine wpList_append_rv rfl elt_intS rfl _ L.length L rfl hO3.out _ 1 [(j : Int)] rfl (rv_heap hM3.out rfl rfl (by omega) (by decide)) (by omega) (by simp; omega) ?_); intro v4 w4 hown4 hgrow4 hiff4)
        go_roundw
        case rel =>
          refine ⟨j + 1, v4, L ++ [(j : Int)], by omega, by omega, by go_num, rfl, ?_, ?_, ?_⟩
          · unfold Hid
            rw [List.length_append]
            exact hown4
          · unfold Hid
            rw [List.append_assoc, List.length_append]
            show L ++ ((j : Int) :: runL xs ys m (n - (j + 1)) (j + 1) (L.length + 1)) = _
            rw [← HSK.out]
            exact HR.out
          · exact ext_grownB (hEr3.alloc _) hgrow4 hO3.out (by omega)
        case measure => simp [intOf]; omega
    · have HIN : Hid (insAt xs ys m j = false) := by unfold Hid; rw [HG.out]; simp [k1]
      have HTO : Hid (touAt xs ys m j = false) := by unfold Hid; rw [HT.out]; simp [k1]
      have HSK := Lib.hid ((runL_skip (c := L.length) (by omega) hlt HIN.out HTO.out).symm)
      clear HG HT
      go_wp2_with fail
      refine (HSJ _ HE.out).out.mono ?_
      rintro e w3 ⟨rfl, hx3⟩
      go_wp2
      go_roundw
      case rel => exact ⟨j + 1, _, L, by omega, by omega, by go_num, rfl, own_ext HWo.out hx3, by unfold Hid; rw [HSK.out]; exact HR.out, HEr.out.trans hx3⟩
      case measure => simp [intOf]; omega

end Go.Proofs.Ytlbcjbeafampcaa
