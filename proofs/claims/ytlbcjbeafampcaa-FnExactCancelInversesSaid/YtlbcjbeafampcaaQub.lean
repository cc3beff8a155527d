/- The qubits of a gate, and those among them that lie in a list. -/
import Derived.Test.YtlbcjbeafampcaaNodes
import Derived.Test.YtlbcjbeafampcaaGate
import Derived.Test.YtlbcjbeafampcaaGateC
import Derived.Test.YtlbcjbeafampcaaLs
namespace Go.Proofs.Ytlbcjbeafampcaa
open Go.RowKit Go.Lib
set_option linter.unusedVariables false
set_option linter.unusedSimpArgs false

/-- the qubits of a gate -/
def qL (k a b : Int) : List Int := if k = 12 then [] else if Wn k 9 11 then [a, b] else [a]
theorem qL_w {k a b : Int} (h : k = 12) : qL k a b = [] := by unfold qL; rw [if_pos h]
theorem qL_two {k a b : Int} (h : Wn k 9 11 = true) : qL k a b = [a, b] := by
  unfold qL
  rw [if_neg (by have := Wn_iff.1 h; omega), if_pos h]
theorem qL_one {k a b : Int} (h : k ≠ 12) (h2 : Wn k 9 11 = false) : qL k a b = [a] := by
  unfold qL
  rw [if_neg h, if_neg (by rw [h2]; simp)]
theorem qL_len (k a b : Int) : (qL k a b).length ≤ 2 := by
  unfold qL
  split
  · simp
  · split <;> simp

theorem own_lit1 (w : World) (t : TypeId) (a : Int) : (w.alloc (.cells #[.int .i64 a] t)).ownsRow w.heap.size t 1 (.slice (some ⟨w.heap.size, 0, none⟩) 1 1) 1 (IL [a]) := World.ownsRow_lit w #[.int .i64 a] 1 (Nat.le_refl _) (by decide) rfl
theorem own_lit2 (w : World) (t : TypeId) (a b : Int) : (w.alloc (.cells #[.int .i64 a, .int .i64 b] t)).ownsRow w.heap.size t 1 (.slice (some ⟨w.heap.size, 0, none⟩) 2 2) 2 (IL [a, b]) := World.ownsRow_lit w #[.int .i64 a, .int .i64 b] 2 (Nat.le_refl _) (by decide) rfl

theorem isTwo_ext (k : Int) (w : World) : Calls Try.prog 72 #[.int .i64 k] w fun e w' => e = .returned (.bool (Wn k 9 11)) ∧ Ext w w' := (isTwo_any k w).mono fun e w' ⟨h1, h2⟩ => ⟨h1, h2 ▸ Ext.refl _⟩

theorem l22Two_any (k a b : Int) (w : World) : Calls Try.prog 93 #[.agg #[.int .i64 k, .int .i64 a, .int .i64 b]] w fun e w' => e = .returned (.bool (Wn k 9 11)) ∧ Ext w w' := by
  go_enter Try.func93, Try.ntmps93
  go_wp2
  all_goals
    go_ret
    refine ⟨ret_bool ?_, (by repeat (first | exact Ext.refl _ | assumption | refine Ext.alloc ?_ _ | refine Ext.drew ?_ | refine Ext.drewN ?_ _ | refine Ext.setCell ?_ (by first | omega | (dsimp only; omega) | (simp; done) | (simp; omega)) _ | refine Ext.trans ?_ (by assumption)))⟩
    first | (subst_vars; rfl) | (rw [Bool.eq_iff_iff]; simp [Wn]; omega)

theorem qubitsOf_any (k a b : Int) (w : World) :
    Calls Try.prog 70 #[.agg #[.int .i64 k, .int .i64 a, .int .i64 b]] w fun e w' => ∃ v, e = .returned v ∧ w'.ownsRow w.heap.size 3 1 v (qL k a b).length (IL (qL k a b)) ∧ Ext w w' := by
  by_cases h1 : k = 12
  · rw [qL_w h1]
    subst h1
    go_enter Try.func70, Try.ntmps70
    go_wp2
    go_ret
    exact ⟨_, rfl, own_nil _ _ _ _, (by repeat (first | exact Ext.refl _ | assumption | refine Ext.alloc ?_ _ | refine Ext.drew ?_ | refine Ext.drewN ?_ _ | refine Ext.setCell ?_ (by first | omega | (dsimp only; omega) | (simp; done) | (simp; omega)) _ | refine Ext.trans ?_ (by assumption)))⟩
  have h1b : (k == 12) = false := by simpa using h1
  have HT := fun w' => Lib.hid (isTwo_ext k w')
  cases h2 : Wn k 9 11
  · rw [qL_one h1 h2]
    rw [h2] at HT
    clear h2
    go_enter Try.func70, Try.ntmps70
    go_wp2_with fail
    refine (HT _).out.mono ?_
    rintro e w1 ⟨rfl, hx1⟩
    obtain ⟨hc1, hf1⟩ := hx1.cells
    have hz1 := hx1.size
    try simp at hz1
    have hs1_0 := sz1 (a := w.heap.size) (b := w1.heap.size) (by omega)
    go_wp2
    go_ret
    exact ⟨_, rfl, own_base (own_lit1 _ _ _) (by omega), (by repeat (first | exact Ext.refl _ | assumption | refine Ext.alloc ?_ _ | refine Ext.drew ?_ | refine Ext.drewN ?_ _ | refine Ext.setCell ?_ (by first | omega | (dsimp only; omega) | (simp; done) | (simp; omega)) _ | refine Ext.trans ?_ (by assumption)))⟩
  · rw [qL_two h2]
    rw [h2] at HT
    clear h2
    go_enter Try.func70, Try.ntmps70
    go_wp2_with fail
    refine (HT _).out.mono ?_
    rintro e w1 ⟨rfl, hx1⟩
    obtain ⟨hc1, hf1⟩ := hx1.cells
    have hz1 := hx1.size
    try simp at hz1
    have hs1_0 := sz1 (a := w.heap.size) (b := w1.heap.size) (by omega)
    go_wp2
    go_ret
    exact ⟨_, rfl, own_base (own_lit2 _ _ _ _) (by omega), (by repeat (first | exact Ext.refl _ | assumption | refine Ext.alloc ?_ _ | refine Ext.drew ?_ | refine Ext.drewN ?_ _ | refine Ext.setCell ?_ (by first | omega | (dsimp only; omega) | (simp; done) | (simp; omega)) _ | refine Ext.trans ?_ (by assumption)))⟩

theorem l23Qubits_any (k a b : Int) (w : World) :
    Calls Try.prog 85 #[.agg #[.int .i64 k, .int .i64 a, .int .i64 b]] w fun e w' => ∃ v, e = .returned v ∧ w'.ownsRow w.heap.size 3 1 v (qL k a b).length (IL (qL k a b)) ∧ Ext w w' := by
  by_cases h1 : k = 12
  · rw [qL_w h1]
    subst h1
    go_enter Try.func85, Try.ntmps85
    go_wp2
    go_ret
    exact ⟨_, rfl, own_nil _ _ _ _, (by repeat (first | exact Ext.refl _ | assumption | refine Ext.alloc ?_ _ | refine Ext.drew ?_ | refine Ext.drewN ?_ _ | refine Ext.setCell ?_ (by first | omega | (dsimp only; omega) | (simp; done) | (simp; omega)) _ | refine Ext.trans ?_ (by assumption)))⟩
  have h1b : (k == 12) = false := by simpa using h1
  have HT := fun w' => Lib.hid (l22Two_any k a b w')
  cases h2 : Wn k 9 11
  · rw [qL_one h1 h2]
    rw [h2] at HT
    clear h2
    go_enter Try.func85, Try.ntmps85
    go_wp2_with fail
    refine (HT _).out.mono ?_
    rintro e w1 ⟨rfl, hx1⟩
    obtain ⟨hc1, hf1⟩ := hx1.cells
    have hz1 := hx1.size
    try simp at hz1
    have hs1_0 := sz1 (a := w.heap.size) (b := w1.heap.size) (by omega)
    go_wp2
    go_ret
    exact ⟨_, rfl, own_base (own_lit1 _ _ _) (by omega), (by repeat (first | exact Ext.refl _ | assumption | refine Ext.alloc ?_ _ | refine Ext.drew ?_ | refine Ext.drewN ?_ _ | refine Ext.setCell ?_ (by first | omega | (dsimp only; omega) | (simp; done) | (simp; omega)) _ | refine Ext.trans ?_ (by assumption)))⟩
  · rw [qL_two h2]
    rw [h2] at HT
    clear h2
    go_enter Try.func85, Try.ntmps85
    go_wp2_with fail
    refine (HT _).out.mono ?_
    rintro e w1 ⟨rfl, hx1⟩
    obtain ⟨hc1, hf1⟩ := hx1.cells
    have hz1 := hx1.size
    try simp at hz1
    have hs1_0 := sz1 (a := w.heap.size) (b := w1.heap.size) (by omega)
    go_wp2
    go_ret
    exact ⟨_, rfl, own_base (own_lit2 _ _ _ _) (by omega), (by repeat (first | exact Ext.refl _ | assumption | refine Ext.alloc ?_ _ | refine Ext.drew ?_ | refine Ext.drewN ?_ _ | refine Ext.setCell ?_ (by first | omega | (dsimp only; omega) | (simp; done) | (simp; omega)) _ | refine Ext.trans ?_ (by assumption)))⟩

theorem outC_any (x : Int) (B : Nat) {vq : Value} {m : Nat} {qs : List Int} (hm : m ≤ 2000000) (w : World) (hB : w.heap[B]? = some (.cells #[vq] 41 (0, 0))) (hq : RV w 1 vq m qs) :
    Calls Try.prog 73 #[.int .i64 x, .pointer (some ⟨B, 0, none⟩)] w fun e w' => e = .returned (.bool (!(hasTo qs x m))) ∧ Ext w w' := by
  have HC := fun w' (hx : Ext w w') => Lib.hid (contains_any x hm w' (hq.ext hx))
  obtain ⟨_, a, cap, rfl, _⟩ := hq
  have z : ∀ q, w.cell? ⟨B, q, none⟩ = (#[.slice a m cap] : Array Value)[q]? := fun q => cell_of_row _ _ _ _ _ _ hB
  have l := (Array.getElem?_eq_some_iff.1 hB).1
  clear hB
  go_enter Try.func73, Try.ntmps73
  go_wp2_with fail
  refine (HC _ (by repeat (first | exact Ext.refl _ | assumption | refine Ext.alloc ?_ _ | refine Ext.drew ?_ | refine Ext.drewN ?_ _ | refine Ext.setCell ?_ (by first | omega | (dsimp only; omega) | (simp; done) | (simp; omega)) _ | refine Ext.trans ?_ (by assumption)))).out.mono ?_
  rintro e w1 ⟨rfl, rfl⟩
  go_wp2
  go_ret
  exact ⟨rfl, (by repeat (first | exact Ext.refl _ | assumption | refine Ext.alloc ?_ _ | refine Ext.drew ?_ | refine Ext.drewN ?_ _ | refine Ext.setCell ?_ (by first | omega | (dsimp only; omega) | (simp; done) | (simp; omega)) _ | refine Ext.trans ?_ (by assumption)))⟩

/-- is there one among the first -/
def outTo (xs qs : List Int) (m : Nat) (n : Nat) : Bool := !(allTo (fun j => !(!(hasTo qs (at3 xs j) m))) n)

set_option maxHeartbeats 2000000 in
theorem outI_any (B : Nat) {v vq : Value} {n m : Nat} {xs qs : List Int} (hn : n ≤ 2000000) (hm : m ≤ 2000000) (w : World) (h : RV w 1 v n xs) (hB : w.heap[B]? = some (.cells #[vq] 41 (0, 0))) (hq : RV w 1 vq m qs) :
    Calls Try.prog 86 #[v, .func (.func 73) #[] #[.pointer (some ⟨B, 0, none⟩)]] w fun e w' => (∃ r : Int, e = .returned (.int .i64 r) ∧ decide (0 ≤ r) = outTo xs qs m n) ∧ Ext w w' := by
  have HCl := fun x w' (hx : Ext w w') => Lib.hid (outC_any x B hm w' ((hx.heap (Array.getElem?_eq_some_iff.1 hB).1).trans hB) (hq.ext hx))
  obtain ⟨hl, a, cap, rfl, c1, c2, H⟩ := h
  have HH := Lib.hid H
  have HL := Lib.hid hl
  clear H hl hB hq
  go_enter Try.func86, Try.ntmps86
  go_wp2
  go_loopw [5, 8] (fun _ i wr => ∃ j : Nat, j ≤ n ∧ i = .int .i64 j ∧ Hid (outTo xs qs m j = false) ∧ Ext w wr) (fun _ i _ => n - (intOf i).toNat)
  case atStart => exact ⟨0, by omega, rfl, rfl, (by repeat (first | exact Ext.refl _ | assumption | refine Ext.alloc ?_ _ | refine Ext.drew ?_ | refine Ext.drewN ?_ _ | refine Ext.setCell ?_ (by first | omega | (dsimp only; omega) | (simp; done) | (simp; omega)) _ | refine Ext.trans ?_ (by assumption)))⟩
  case round =>
    obtain ⟨j, hj, rfl, HO, hE⟩ := hrel
    by_cases hlt : j < n
    · have hlt' : (j : Int) < n := by omega
      have HS : Hid (outTo xs qs m (j + 1) = (outTo xs qs m j || !(hasTo qs (at3 xs j) m))) := by unfold Hid outTo; rw [allTo_succ]; simp
      have HF : Hid ((!(hasTo qs (at3 xs j) m)) = true → outTo xs qs m n = true) := fun h => by unfold outTo; rw [allTo_false (k := j) (by rw [h]; rfl) hlt]; rfl
      obtain ⟨b, off, rfl, hbk, hcell⟩ := HH.out (by omega)
      have hbr : b < wr.heap.size := by have := hE.size; omega
      have z0 : wr.cell? ⟨b, off + j, none⟩ = some (.int .i64 (at3 xs (j))) := (hE.cells.1 b (off + (j)) hbk).trans (hcell _ _ (at3_get (by have := HL.out; omega)))
      clear hcell
      have HC := HCl (at3 xs j) _ hE
      generalize at3 xs j = k0 at *
      generalize hg : (!(hasTo qs k0 m)) = g at *
      clear hg
      cases g
      · go_wp2_with fail
        refine HC.out.mono ?_
        rintro e w2 ⟨rfl, hx2⟩
        obtain ⟨hc2, hf2⟩ := hx2.cells
        have hz2 := hx2.size
        try simp at hz2
        go_wp2
        go_roundw
        case rel => exact ⟨j + 1, by omega, by go_num, by unfold Hid; rw [HS.out, HO.out]; rfl, (by repeat (first | exact Ext.refl _ | assumption | refine Ext.alloc ?_ _ | refine Ext.drew ?_ | refine Ext.drewN ?_ _ | refine Ext.setCell ?_ (by first | omega | (dsimp only; omega) | (simp; done) | (simp; omega)) _ | refine Ext.trans ?_ (by assumption)))⟩
        case measure => simp [intOf]; omega
      · go_wp2_with fail
        refine HC.out.mono ?_
        rintro e w2 ⟨rfl, hx2⟩
        obtain ⟨hc2, hf2⟩ := hx2.cells
        have hz2 := hx2.size
        try simp at hz2
        go_wp2
        go_ret
        exact ⟨⟨_, rfl, by rw [HF.out (by first | rfl | trivial)]; simp⟩, (by repeat (first | exact Ext.refl _ | assumption | refine Ext.alloc ?_ _ | refine Ext.drew ?_ | refine Ext.drewN ?_ _ | refine Ext.setCell ?_ (by first | omega | (dsimp only; omega) | (simp; done) | (simp; omega)) _ | refine Ext.trans ?_ (by assumption)))⟩
    · obtain rfl : j = n := by omega
      go_wp2
      go_ret
      exact ⟨⟨_, rfl, by rw [HO.out]; rfl⟩, (by repeat (first | exact Ext.refl _ | assumption | refine Ext.alloc ?_ _ | refine Ext.drew ?_ | refine Ext.drewN ?_ _ | refine Ext.setCell ?_ (by first | omega | (dsimp only; omega) | (simp; done) | (simp; omega)) _ | refine Ext.trans ?_ (by assumption)))⟩

theorem outF_any (B : Nat) {v vq : Value} {n m : Nat} {xs qs : List Int} (hn : n ≤ 2000000) (hm : m ≤ 2000000) (w : World) (h : RV w 1 v n xs) (hB : w.heap[B]? = some (.cells #[vq] 41 (0, 0))) (hq : RV w 1 vq m qs) :
    Calls Try.prog 69 #[v, .func (.func 73) #[] #[.pointer (some ⟨B, 0, none⟩)]] w fun e w' => e = .returned (.bool (outTo xs qs m n)) ∧ Ext w w' := by
  have HI := Lib.hid (outI_any B hn hm w h hB hq)
  obtain ⟨_, a, cap, rfl, _⟩ := h
  clear hB hq
  go_enter Try.func69, Try.ntmps69
  go_wp2_with fail
  refine HI.out.mono ?_
  rintro e w1 ⟨⟨r, rfl, hr⟩, hx1⟩
  have HR := Lib.hid hr
  clear hr
  go_wp2
  go_ret
  exact ⟨ret_bool HR.out, hx1⟩

theorem inC_any (x : Int) (B : Nat) {vq : Value} {m : Nat} {qs : List Int} (hm : m ≤ 2000000) (w : World) (hB : w.heap[B]? = some (.cells #[vq] 41 (0, 0))) (hq : RV w 1 vq m qs) :
    Calls Try.prog 71 #[.int .i64 x, .pointer (some ⟨B, 0, none⟩)] w fun e w' => e = .returned (.bool (hasTo qs x m)) ∧ Ext w w' := by
  have HC := fun w' (hx : Ext w w') => Lib.hid (contains_any x hm w' (hq.ext hx))
  obtain ⟨_, a, cap, rfl, _⟩ := hq
  have z : ∀ q, w.cell? ⟨B, q, none⟩ = (#[.slice a m cap] : Array Value)[q]? := fun q => cell_of_row _ _ _ _ _ _ hB
  have l := (Array.getElem?_eq_some_iff.1 hB).1
  clear hB
  go_enter Try.func71, Try.ntmps71
  go_wp2_with fail
  refine (HC _ (by repeat (first | exact Ext.refl _ | assumption | refine Ext.alloc ?_ _ | refine Ext.drew ?_ | refine Ext.drewN ?_ _ | refine Ext.setCell ?_ (by first | omega | (dsimp only; omega) | (simp; done) | (simp; omega)) _ | refine Ext.trans ?_ (by assumption)))).out.mono ?_
  rintro e w1 ⟨rfl, rfl⟩
  go_wp2
  go_ret
  exact ⟨rfl, (by repeat (first | exact Ext.refl _ | assumption | refine Ext.alloc ?_ _ | refine Ext.drew ?_ | refine Ext.drewN ?_ _ | refine Ext.setCell ?_ (by first | omega | (dsimp only; omega) | (simp; done) | (simp; omega)) _ | refine Ext.trans ?_ (by assumption)))⟩

/-- is there one among the first -/
def inTo (xs qs : List Int) (m : Nat) (n : Nat) : Bool := !(allTo (fun j => !(hasTo qs (at3 xs j) m)) n)

set_option maxHeartbeats 2000000 in
theorem inI_any (B : Nat) {v vq : Value} {n m : Nat} {xs qs : List Int} (hn : n ≤ 2000000) (hm : m ≤ 2000000) (w : World) (h : RV w 1 v n xs) (hB : w.heap[B]? = some (.cells #[vq] 41 (0, 0))) (hq : RV w 1 vq m qs) :
    Calls Try.prog 86 #[v, .func (.func 71) #[] #[.pointer (some ⟨B, 0, none⟩)]] w fun e w' => (∃ r : Int, e = .returned (.int .i64 r) ∧ decide (0 ≤ r) = inTo xs qs m n) ∧ Ext w w' := by
  have HCl := fun x w' (hx : Ext w w') => Lib.hid (inC_any x B hm w' ((hx.heap (Array.getElem?_eq_some_iff.1 hB).1).trans hB) (hq.ext hx))
  obtain ⟨hl, a, cap, rfl, c1, c2, H⟩ := h
  have HH := Lib.hid H
  have HL := Lib.hid hl
  clear H hl hB hq
  go_enter Try.func86, Try.ntmps86
  go_wp2
  go_loopw [5, 8] (fun _ i wr => ∃ j : Nat, j ≤ n ∧ i = .int .i64 j ∧ Hid (inTo xs qs m j = false) ∧ Ext w wr) (fun _ i _ => n - (intOf i).toNat)
  case atStart => exact ⟨0, by omega, rfl, rfl, (by repeat (first | exact Ext.refl _ | assumption | refine Ext.alloc ?_ _ | refine Ext.drew ?_ | refine Ext.drewN ?_ _ | refine Ext.setCell ?_ (by first | omega | (dsimp only; omega) | (simp; done) | (simp; omega)) _ | refine Ext.trans ?_ (by assumption)))⟩
  case round =>
    obtain ⟨j, hj, rfl, HO, hE⟩ := hrel
    by_cases hlt : j < n
    · have hlt' : (j : Int) < n := by omega
      have HS : Hid (inTo xs qs m (j + 1) = (inTo xs qs m j || hasTo qs (at3 xs j) m)) := by unfold Hid inTo; rw [allTo_succ]; simp
      have HF : Hid ((hasTo qs (at3 xs j) m) = true → inTo xs qs m n = true) := fun h => by unfold inTo; rw [allTo_false (k := j) (by rw [h]; rfl) hlt]; rfl
      obtain ⟨b, off, rfl, hbk, hcell⟩ := HH.out (by omega)
      have hbr : b < wr.heap.size := by have := hE.size; omega
      have z0 : wr.cell? ⟨b, off + j, none⟩ = some (.int .i64 (at3 xs (j))) := (hE.cells.1 b (off + (j)) hbk).trans (hcell _ _ (at3_get (by have := HL.out; omega)))
      clear hcell
      have HC := HCl (at3 xs j) _ hE
      generalize at3 xs j = k0 at *
      generalize hg : (hasTo qs k0 m) = g at *
      clear hg
      cases g
      · go_wp2_with fail
        refine HC.out.mono ?_
        rintro e w2 ⟨rfl, hx2⟩
        obtain ⟨hc2, hf2⟩ := hx2.cells
        have hz2 := hx2.size
        try simp at hz2
        go_wp2
        go_roundw
        case rel => exact ⟨j + 1, by omega, by go_num, by unfold Hid; rw [HS.out, HO.out]; rfl, (by repeat (first | exact Ext.refl _ | assumption | refine Ext.alloc ?_ _ | refine Ext.drew ?_ | refine Ext.drewN ?_ _ | refine Ext.setCell ?_ (by first | omega | (dsimp only; omega) | (simp; done) | (simp; omega)) _ | refine Ext.trans ?_ (by assumption)))⟩
        case measure => simp [intOf]; omega
      · go_wp2_with fail
        refine HC.out.mono ?_
        rintro e w2 ⟨rfl, hx2⟩
        obtain ⟨hc2, hf2⟩ := hx2.cells
        have hz2 := hx2.size
        try simp at hz2
        go_wp2
        go_ret
        exact ⟨⟨_, rfl, by rw [HF.out (by first | rfl | trivial)]; simp⟩, (by repeat (first | exact Ext.refl _ | assumption | refine Ext.alloc ?_ _ | refine Ext.drew ?_ | refine Ext.drewN ?_ _ | refine Ext.setCell ?_ (by first | omega | (dsimp only; omega) | (simp; done) | (simp; omega)) _ | refine Ext.trans ?_ (by assumption)))⟩
    · obtain rfl : j = n := by omega
      go_wp2
      go_ret
      exact ⟨⟨_, rfl, by rw [HO.out]; rfl⟩, (by repeat (first | exact Ext.refl _ | assumption | refine Ext.alloc ?_ _ | refine Ext.drew ?_ | refine Ext.drewN ?_ _ | refine Ext.setCell ?_ (by first | omega | (dsimp only; omega) | (simp; done) | (simp; omega)) _ | refine Ext.trans ?_ (by assumption)))⟩

theorem inF_any (B : Nat) {v vq : Value} {n m : Nat} {xs qs : List Int} (hn : n ≤ 2000000) (hm : m ≤ 2000000) (w : World) (h : RV w 1 v n xs) (hB : w.heap[B]? = some (.cells #[vq] 41 (0, 0))) (hq : RV w 1 vq m qs) :
    Calls Try.prog 69 #[v, .func (.func 71) #[] #[.pointer (some ⟨B, 0, none⟩)]] w fun e w' => e = .returned (.bool (inTo xs qs m n)) ∧ Ext w w' := by
  have HI := Lib.hid (inI_any B hn hm w h hB hq)
  obtain ⟨_, a, cap, rfl, _⟩ := h
  clear hB hq
  go_enter Try.func69, Try.ntmps69
  go_wp2_with fail
  refine HI.out.mono ?_
  rintro e w1 ⟨⟨r, rfl, hr⟩, hx1⟩
  have HR := Lib.hid hr
  clear hr
  go_wp2
  go_ret
  exact ⟨ret_bool HR.out, hx1⟩

/-- is a gate inside a list of qubits: it has qubits and all are there -/
def insQ (qs : List Int) (m : Nat) (k a b : Int) : Bool := if k = 12 then false else if Wn k 9 11 then hasTo qs a m && hasTo qs b m else hasTo qs a m
/-- has a gate a qubit in a list -/
def touQ (qs : List Int) (m : Nat) (k a b : Int) : Bool := if k = 12 then false else if Wn k 9 11 then hasTo qs a m || hasTo qs b m else hasTo qs a m
theorem outTo_qL (qs : List Int) (m : Nat) (k a b : Int) : (decide (0 < (qL k a b).length) && !(outTo (qL k a b) qs m (qL k a b).length)) = insQ qs m k a b := by
  unfold insQ
  by_cases h1 : k = 12
  · rw [qL_w h1, if_pos h1]; rfl
  · rw [if_neg h1]
    cases h2 : Wn k 9 11
    · rw [qL_one h1 h2]
      show (true && !(!(allTo (fun j => !(!(hasTo qs (at3 [a] j) m))) 1))) = _
      simp [allTo, at3]
    · rw [qL_two h2]
      show (true && !(!(allTo (fun j => !(!(hasTo qs (at3 [a, b] j) m))) 2))) = _
      simp [allTo, at3]
theorem inTo_qL (qs : List Int) (m : Nat) (k a b : Int) : inTo (qL k a b) qs m (qL k a b).length = touQ qs m k a b := by
  unfold touQ
  by_cases h1 : k = 12
  · rw [qL_w h1, if_pos h1]; rfl
  · rw [if_neg h1]
    cases h2 : Wn k 9 11
    · rw [qL_one h1 h2]
      show (!(allTo (fun j => !(hasTo qs (at3 [a] j) m)) 1)) = _
      simp [allTo, at3]
    · rw [qL_two h2]
      show (!(allTo (fun j => !(hasTo qs (at3 [a, b] j) m)) 2)) = _
      simp [allTo, at3]
theorem rv_ql {w : World} {base : Nat} {v : Value} {k a b : Int} (h : w.ownsRow base 3 1 v (qL k a b).length (IL (qL k a b))) : RV w 1 v (qL k a b).length (qL k a b) := RV.own h (by omega)

set_option maxHeartbeats 2000000 in
theorem isInside_any (k a b : Int) {vq : Value} {m : Nat} {qs : List Int} (hm : m ≤ 2000000) (w : World) (hq : RV w 1 vq m qs) :
    Calls Try.prog 49 #[.agg #[.int .i64 k, .int .i64 a, .int .i64 b], vq] w fun e w' => e = .returned (.bool (insQ qs m k a b)) ∧ Ext w w' := by
  have HV : Hid (insQ qs m k a b = (decide (0 < (qL k a b).length) && !(outTo (qL k a b) qs m (qL k a b).length))) := (outTo_qL qs m k a b).symm
  have HQ := fun w' => Lib.hid (qubitsOf_any k a b w')
  have HF := fun B v w' (h : RV w' 1 v (qL k a b).length (qL k a b)) hB (hx : Ext w w') => Lib.hid (outF_any B (by have := qL_len k a b; omega) hm w' h hB (hq.ext hx))
  have HRV := fun (w' : World) base v (h : w'.ownsRow base 3 1 v (qL k a b).length (IL (qL k a b))) => rv_ql h
  obtain ⟨_, a1, cap, rfl, _⟩ := hq
  generalize outTo (qL k a b) qs m (qL k a b).length = o at *
  generalize hql : (qL k a b).length = l at *
  have hl2 : l ≤ 2 := by rw [← hql]; exact qL_len k a b
  generalize qL k a b = L at *
  generalize insQ qs m k a b = r at *
  clear hql
  by_cases h0 : 0 < l
  · have HV2 : Hid (r = !o) := by have := HV.out; unfold Hid; rw [this]; simp [h0]
    have h0' : (0 : Int) < l := by omega
    clear HV
    go_enter Try.func49, Try.ntmps49
    go_wp2_with fail
    refine (HQ _).out.mono ?_
    rintro e w1 ⟨v, rfl, o1, hx1⟩
    obtain ⟨hc1, hf1⟩ := hx1.cells
    have hz1 := hx1.size
    try simp at hz1
    have hs1_0 := sz2 (a := w.heap.size) (b := w1.heap.size) (by omega)
    have hB1 : Hid (w1.heap[w.heap.size + 1]? = some (.cells #[.slice a1 m cap] 41 (0, 0))) := (hx1.heap (by simp)).trans (heap_alloc_at _ _ _ (by simp))
    have hR1 := Lib.hid (HRV _ _ _ o1)
    obtain ⟨a2, c2, rfl, _, _, _⟩ := own_shape o1
    clear o1
    have hE1 : Ext w w1 := (by repeat (first | (with_reducible refine Ext.setCell ?_ (by first | (simp; done) | (simp; omega)) _) | with_reducible refine Ext.alloc ?_ _ | with_reducible refine Ext.drew ?_ | with_reducible refine Ext.drewN ?_ _ | with_reducible assumption | with_reducible exact Ext.refl _ | with_reducible refine Ext.trans ?_ (by with_reducible assumption)))
    go_wp2_with fail
    refine (HF _ _ _ hR1.out hB1.out hE1).out.mono ?_
    rintro e w2 ⟨rfl, hx2⟩
    go_wp2
    go_ret
    exact ⟨ret_bool HV2.out.symm, (by repeat (first | (with_reducible refine Ext.setCell ?_ (by first | (simp; done) | (simp; omega)) _) | with_reducible refine Ext.alloc ?_ _ | with_reducible refine Ext.drew ?_ | with_reducible refine Ext.drewN ?_ _ | with_reducible assumption | with_reducible exact Ext.refl _ | with_reducible refine Ext.trans ?_ (by with_reducible assumption)))⟩
  · have HV2 : Hid (r = false) := by have := HV.out; unfold Hid; rw [this]; simp [h0]
    obtain rfl : l = 0 := by omega
    clear HV
    go_enter Try.func49, Try.ntmps49
    go_wp2_with fail
    refine (HQ _).out.mono ?_
    rintro e w1 ⟨v, rfl, o1, hx1⟩
    obtain ⟨hc1, hf1⟩ := hx1.cells
    have hz1 := hx1.size
    try simp at hz1
    have hs1_0 := sz2 (a := w.heap.size) (b := w1.heap.size) (by omega)
    obtain ⟨a2, c2, rfl, _, _, _⟩ := own_shape o1
    clear o1
    go_wp2
    go_ret
    exact ⟨ret_bool HV2.out.symm, (by repeat (first | (with_reducible refine Ext.setCell ?_ (by first | (simp; done) | (simp; omega)) _) | with_reducible refine Ext.alloc ?_ _ | with_reducible refine Ext.drew ?_ | with_reducible refine Ext.drewN ?_ _ | with_reducible assumption | with_reducible exact Ext.refl _ | with_reducible refine Ext.trans ?_ (by with_reducible assumption)))⟩

/-- how many of the qubits are there, how many not -/
def cIn (qs : List Int) (m : Nat) (L : List Int) (n : Nat) : Int := cntTo (fun j => hasTo qs (at3 L j) m) n
def cOut (qs : List Int) (m : Nat) (L : List Int) (n : Nat) : Int := cntTo (fun j => !(hasTo qs (at3 L j) m)) n

set_option maxHeartbeats 2000000 in
theorem l29In_any (k a b : Int) {vq : Value} {m : Nat} {qs : List Int} (hm : m ≤ 2000000) (w : World) (hq : RV w 1 vq m qs) :
    Calls Try.prog 65 #[.agg #[.int .i64 k, .int .i64 a, .int .i64 b], vq] w fun e w' => e = .returned (.tuple #[.int .i64 (cIn qs m (qL k a b) (qL k a b).length), .int .i64 (cOut qs m (qL k a b) (qL k a b).length)]) ∧ Ext w w' := by
  have HQ := fun w' => Lib.hid (l23Qubits_any k a b w')
  have HH := fun x w' (hx : Ext w w') => Lib.hid (l1Has_any x hm w' (hq.ext hx))
  have hl2 := qL_len k a b
  have HRV := fun (w' : World) base v (h : w'.ownsRow base 3 1 v (qL k a b).length (IL (qL k a b))) => rv_ql h
  obtain ⟨_, a1, cap, rfl, _⟩ := hq
  generalize hql : (qL k a b).length = l at *
  generalize qL k a b = L at *
  have HLEN := Lib.hid hql
  clear hql
  go_enter Try.func65, Try.ntmps65
  go_wp2_with fail
  refine (HQ _).out.mono ?_
  rintro e w1 ⟨v, rfl, o1, hx1⟩
  obtain ⟨hc1, hf1⟩ := hx1.cells
  have hz1 := hx1.size
  try simp at hz1
  have hs1_0 := sz1 (a := w.heap.size) (b := w1.heap.size) (by omega)
  obtain ⟨hl, a2, c2, rfl, c3, c4, H⟩ := HRV _ _ _ o1
  have HX := Lib.hid H
  have HL := Lib.hid hl
  clear H hl o1
  have hE1 : Ext w w1 := (by repeat (first | (with_reducible refine Ext.setCell ?_ (by first | (simp; done) | (simp; omega)) _) | with_reducible refine Ext.alloc ?_ _ | with_reducible refine Ext.drew ?_ | with_reducible refine Ext.drewN ?_ _ | with_reducible assumption | with_reducible exact Ext.refl _ | with_reducible refine Ext.trans ?_ (by with_reducible assumption)))
  go_wp2
  go_loopw [6, 7, 9, 13] (fun s6 s7 _ i wr => ∃ j : Nat, j ≤ l ∧ i = .int .i64 j ∧ s6 = .int .i64 (cIn qs m L j) ∧ s7 = .int .i64 (cOut qs m L j) ∧ Ext w1 wr) (fun _ _ _ i _ => l - (intOf i).toNat)
  case atStart => exact ⟨0, by omega, rfl, rfl, rfl, (by repeat (first | exact Ext.refl _ | assumption | refine Ext.alloc ?_ _ | refine Ext.drew ?_ | refine Ext.drewN ?_ _ | refine Ext.setCell ?_ (by first | omega | (dsimp only; omega) | (simp; done) | (simp; omega)) _ | refine Ext.trans ?_ (by assumption)))⟩
  case round =>
    obtain ⟨j, hj, rfl, rfl, rfl, hE⟩ := hrel
    have b1 := cntTo_bd (fun j => hasTo qs (at3 L j) m) j
    have b2 := cntTo_bd (fun j => !(hasTo qs (at3 L j) m)) j
    by_cases hlt : j < l
    · have hlt' : (j : Int) < l := by omega
      have HS1 : Hid (cIn qs m L (j + 1) = cIn qs m L j + (if hasTo qs (at3 L j) m then 1 else 0)) := rfl
      have HS2 : Hid (cOut qs m L (j + 1) = cOut qs m L j + (if (!(hasTo qs (at3 L j) m)) = true then 1 else 0)) := rfl
      change 0 ≤ cIn qs m L j ∧ cIn qs m L j ≤ j at b1
      change 0 ≤ cOut qs m L j ∧ cOut qs m L j ≤ j at b2
      generalize cIn qs m L j = ci at *
      generalize cOut qs m L j = co at *
      obtain ⟨b, off, rfl, hbk, hcell⟩ := HX.out (by omega)
      have hbr : b < wr.heap.size := by have := hE.size; omega
      have z0 : wr.cell? ⟨b, off + j, none⟩ = some (.int .i64 (at3 L (j))) := (hE.cells.1 b (off + (j)) hbk).trans (hcell _ _ (at3_get (by have := HL.out; omega)))
      clear hcell
      have HC := HH (at3 L j) _ (hE1.trans hE)
      generalize at3 L j = k0 at *
      generalize hasTo qs k0 m = g at *
      cases g
      · go_wp2_with fail
        refine HC.out.mono ?_
        rintro e w2 ⟨rfl, rfl⟩
        go_wp2
        go_roundw
        case rel => exact ⟨j + 1, by omega, by go_num, by rw [HS1.out]; simp, by rw [HS2.out]; simp, hE⟩
        case measure => simp [intOf]; omega
      · go_wp2_with fail
        refine HC.out.mono ?_
        rintro e w2 ⟨rfl, rfl⟩
        go_wp2
        go_roundw
        case rel => exact ⟨j + 1, by omega, by go_num, by rw [HS1.out]; simp, by rw [HS2.out]; simp, hE⟩
        case measure => simp [intOf]; omega
    · obtain rfl : j = l := by omega
      go_wp2
      go_ret2
      exact ⟨rfl, hE1.trans hE⟩

theorem cIn_ins (qs : List Int) (m : Nat) (k a b : Int) : (decide (0 < cIn qs m (qL k a b) (qL k a b).length) && !(decide (0 < cOut qs m (qL k a b) (qL k a b).length))) = insQ qs m k a b := by
  unfold insQ cIn cOut
  by_cases h1 : k = 12
  · rw [qL_w h1, if_pos h1]; rfl
  · rw [if_neg h1]
    cases h2 : Wn k 9 11
    · rw [qL_one h1 h2]
      simp only [List.length_cons, List.length_nil, cntTo, at3]
      cases h3 : hasTo qs a m <;> simp [h3]
    · rw [qL_two h2]
      simp only [List.length_cons, List.length_nil, cntTo, at3]
      cases h3 : hasTo qs a m <;> cases h4 : hasTo qs b m <;> simp [h3, h4]
theorem cIn_tou (qs : List Int) (m : Nat) (k a b : Int) : decide (0 < cIn qs m (qL k a b) (qL k a b).length) = touQ qs m k a b := by
  unfold touQ cIn
  by_cases h1 : k = 12
  · rw [qL_w h1, if_pos h1]; rfl
  · rw [if_neg h1]
    cases h2 : Wn k 9 11
    · rw [qL_one h1 h2]
      simp only [List.length_cons, List.length_nil, cntTo, at3]
      cases h3 : hasTo qs a m <;> simp [h3]
    · rw [qL_two h2]
      simp only [List.length_cons, List.length_nil, cntTo, at3]
      cases h3 : hasTo qs a m <;> cases h4 : hasTo qs b m <;> simp [h3, h4]
theorem cOut_nn (qs : List Int) (m : Nat) (L : List Int) (n : Nat) : 0 ≤ cOut qs m L n ∧ cOut qs m L n ≤ n := cntTo_bd _ n
theorem cIn_nn (qs : List Int) (m : Nat) (L : List Int) (n : Nat) : 0 ≤ cIn qs m L n ∧ cIn qs m L n ≤ n := cntTo_bd _ n

/-- an increasing list with members from lo to hi -/
def risQ (lo hi : Int) (xs : List Int) : Nat → Bool := allTo (fun i => Wn (at3 xs i) lo hi && !(decide (0 < i) && decide (at3 xs i ≤ at3 xs (i - 1))))

set_option maxHeartbeats 2000000 in
theorem isIncreasing_any (q : Int) (hhi : -1000000 ≤ q ∧ q ≤ 1000000) {v : Value} {m : Nat} {xs : List Int} (hm : m ≤ 2000000) (w : World) (h : RV w 1 v m xs) :
    Calls Try.prog 68 #[v, .int .i64 q] w fun e w' => e = .returned (.bool (risQ 0 (q - 1) xs m)) ∧ w = w' := by
  obtain ⟨hl, a, cap, rfl, c1, c2, H⟩ := h
  have HH := Lib.hid H
  have HL := Lib.hid hl
  have HWI := fun x w' => Lib.hid (within_any x 0 (q - 1) w')
  clear H hl
  go_enter Try.func68, Try.ntmps68
  go_wp2
  go_loop [5, 6, 9] (fun _ _ i => ∃ j : Nat, j ≤ m ∧ i = .int .i64 j ∧ risQ 0 (q - 1) xs j = true) (fun _ _ i => m - (intOf i).toNat)
  case atStart => exact ⟨0, by omega, rfl, rfl⟩
  case round =>
    obtain ⟨j, hj, rfl, hno⟩ := hrel
    have HA := Lib.hid hno
    clear hno
    by_cases hlt : j < m
    · have hlt' : (j : Int) < m := by omega
      have HS : Hid (risQ 0 (q - 1) xs (j + 1) = (risQ 0 (q - 1) xs j && (Wn (at3 xs j) 0 (q - 1) && !(decide (0 < j) && decide (at3 xs j ≤ at3 xs (j - 1)))))) := rfl
      have HF : Hid ((Wn (at3 xs j) 0 (q - 1) && !(decide (0 < j) && decide (at3 xs j ≤ at3 xs (j - 1)))) = false → risQ 0 (q - 1) xs m = false) := fun h => allTo_false (f := fun i => Wn (at3 xs i) 0 (q - 1) && !(decide (0 < i) && decide (at3 xs i ≤ at3 xs (i - 1)))) h hlt
      have hE := Ext.refl w
      obtain ⟨bx, off, rfl, hbx, hcx⟩ := HH.out (by omega)
      have z0 : w.cell? ⟨bx, off + j, none⟩ = some (.int .i64 (at3 xs j)) := hcx _ _ (at3_get (by have := HL.out; omega))
      have z1 : 0 < j → w.cell? ⟨bx, off + (j - 1), none⟩ = some (.int .i64 (at3 xs (j - 1))) := fun _ => hcx _ _ (at3_get (by have := HL.out; omega))
      clear hcx
      generalize at3 xs j = x at *
      generalize at3 xs (j - 1) = y at *
      have HW := HWI x w
      generalize hg : Wn x 0 (q - 1) = g at *
      clear hg HWI
      cases g
      · go_wp2_with fail
        refine HW.out.mono ?_
        rintro e w1 ⟨rfl, rfl⟩
        go_wp2
        go_ret
        exact ⟨ret_bool (by rw [HF.out rfl]), rfl⟩
      by_cases h0 : j = 0
      · subst h0
        clear z1
        rw [Nat.add_zero] at z0
        go_wp2_with fail
        refine HW.out.mono ?_
        rintro e w1 ⟨rfl, rfl⟩
        go_wp2
        go_round
        case rel => exact ⟨0 + 1, by omega, by go_num, by rw [HS.out, HA.out]; rfl⟩
        case measure => simp [intOf]; omega
      · have z1 := z1 (by omega)
        have h0' : (0 : Int) < j := by omega
        have hj1 : ((j : Int) - 1) = ((j - 1 : Nat) : Int) := by omega
        by_cases hxy : x ≤ y
        · go_wp2_with fail
          refine HW.out.mono ?_
          rintro e w1 ⟨rfl, rfl⟩
          go_wp2
          go_ret
          exact ⟨ret_bool (by rw [HF.out (by simp [hxy]; omega)]), rfl⟩
        · go_wp2_with fail
          refine HW.out.mono ?_
          rintro e w1 ⟨rfl, rfl⟩
          go_wp2
          go_round
          case rel => exact ⟨j + 1, by omega, by go_num, by rw [HS.out, HA.out]; simp [hxy]⟩
          case measure => simp [intOf]; omega
    · obtain rfl : j = m := by omega
      go_wp2
      go_ret
      exact ⟨ret_bool (by rw [HA.out]), rfl⟩

set_option maxHeartbeats 2000000 in
theorem l1Rising_any (q : Int) (hhi : -1000000 ≤ q ∧ q ≤ 1000000) {v : Value} {m : Nat} {xs : List Int} (hm : m ≤ 2000000) (w : World) (h : RV w 1 v m xs) :
    Calls Try.prog 84 #[v, .int .i64 0, .int .i64 q] w fun e w' => e = .returned (.bool (risQ 0 q xs m)) ∧ w = w' := by
  obtain ⟨hl, a, cap, rfl, c1, c2, H⟩ := h
  have HH := Lib.hid H
  have HL := Lib.hid hl
  have HWI := fun x w' => Lib.hid (l1In_any x 0 q w')
  clear H hl
  go_enter Try.func84, Try.ntmps84
  go_wp2
  go_loop [7, 8, 11] (fun _ _ i => ∃ j : Nat, j ≤ m ∧ i = .int .i64 j ∧ risQ 0 q xs j = true) (fun _ _ i => m - (intOf i).toNat)
  case atStart => exact ⟨0, by omega, rfl, rfl⟩
  case round =>
    obtain ⟨j, hj, rfl, hno⟩ := hrel
    have HA := Lib.hid hno
    clear hno
    by_cases hlt : j < m
    · have hlt' : (j : Int) < m := by omega
      have HS : Hid (risQ 0 q xs (j + 1) = (risQ 0 q xs j && (Wn (at3 xs j) 0 q && !(decide (0 < j) && decide (at3 xs j ≤ at3 xs (j - 1)))))) := rfl
      have HF : Hid ((Wn (at3 xs j) 0 q && !(decide (0 < j) && decide (at3 xs j ≤ at3 xs (j - 1)))) = false → risQ 0 q xs m = false) := fun h => allTo_false (f := fun i => Wn (at3 xs i) 0 q && !(decide (0 < i) && decide (at3 xs i ≤ at3 xs (i - 1)))) h hlt
      have hE := Ext.refl w
      obtain ⟨bx, off, rfl, hbx, hcx⟩ := HH.out (by omega)
      have z0 : w.cell? ⟨bx, off + j, none⟩ = some (.int .i64 (at3 xs j)) := hcx _ _ (at3_get (by have := HL.out; omega))
      have z1 : 0 < j → w.cell? ⟨bx, off + (j - 1), none⟩ = some (.int .i64 (at3 xs (j - 1))) := fun _ => hcx _ _ (at3_get (by have := HL.out; omega))
      clear hcx
      generalize at3 xs j = x at *
      generalize at3 xs (j - 1) = y at *
      have HW := HWI x w
      generalize hg : Wn x 0 q = g at *
      clear hg HWI
      cases g
      · go_wp2_with fail
        refine HW.out.mono ?_
        rintro e w1 ⟨rfl, rfl⟩
        go_wp2
        go_ret
        exact ⟨ret_bool (by rw [HF.out rfl]), rfl⟩
      by_cases h0 : j = 0
      · subst h0
        clear z1
        rw [Nat.add_zero] at z0
        go_wp2_with fail
        refine HW.out.mono ?_
        rintro e w1 ⟨rfl, rfl⟩
        go_wp2
        go_round
        case rel => exact ⟨0 + 1, by omega, by go_num, by rw [HS.out, HA.out]; rfl⟩
        case measure => simp [intOf]; omega
      · have z1 := z1 (by omega)
        have h0' : (0 : Int) < j := by omega
        have hj1 : ((j : Int) - 1) = ((j - 1 : Nat) : Int) := by omega
        by_cases hxy : x ≤ y
        · go_wp2_with fail
          refine HW.out.mono ?_
          rintro e w1 ⟨rfl, rfl⟩
          go_wp2
          go_ret
          exact ⟨ret_bool (by rw [HF.out (by simp [hxy]; omega)]), rfl⟩
        · go_wp2_with fail
          refine HW.out.mono ?_
          rintro e w1 ⟨rfl, rfl⟩
          go_wp2
          go_round
          case rel => exact ⟨j + 1, by omega, by go_num, by rw [HS.out, HA.out]; simp [hxy]⟩
          case measure => simp [intOf]; omega
    · obtain rfl : j = m := by omega
      go_wp2
      go_ret
      exact ⟨ret_bool (by rw [HA.out]), rfl⟩

end Go.Proofs.Ytlbcjbeafampcaa
