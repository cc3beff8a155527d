/- ReportOf on both sides: its lines. -/
import Derived.Test.YtgefamclfjoogaaDoorSt
import Derived.Test.YtgefamclfjoogaaDoorCost
import Derived.Test.YtgefamclfjoogaaDoorExA
namespace Go.Proofs.YtgefamclfjoogaaDoor
open Go.RowKit
set_option linter.unusedVariables false
set_option linter.unusedSimpArgs false

namespace Ex
section
variable {P : Program} {ops : Array Oper} {kl : List EK} {a0 : Act} {W0 : World} {σ : Nat → Value} {Q : Exit → Act → World → Prop} {ks : List EK} {o : Oper} {l : List Oper} {i : Nat} {a : Act}
theorem we_callF {rs : List Nat} {v : Value} {f : FuncId} {args : Array Value} (hg : o.guard = none) (h : ∀ x : Xt W0, (execOp a.eval o).run P x.w = .ok (.enter f args) x.w)
    (hc : ∀ W, Ext W0 W → Facts kl σ rs W → Calls P f args W fun en w' => en = .returned v ∧ Ext W w')
    (h2 : WE P ops kl W0 σ Q ks l (i + 1) (a.put o.dst v)) : WE P ops kl W0 σ Q (.fn rs (fun _ => v) :: ks) (o :: l) i a := by
  refine ⟨?_, h2⟩
  simp only [Ob]
  rw [if_pos (by simp [Region.wanted, hg])]
  intro W hx hF
  have hrun := h ⟨W, hx⟩
  simp only [Xt.w] at hrun
  rw [hrun]
  exact ⟨rfl, hc W hx hF⟩
end
end Ex

/-- numbers behind a word -/
def bodyT (xs : List Int) : List UInt8 := xs.flatMap fun x => 32 :: Lib.itoa x
def lineT (word : List UInt8) (xs : List Int) : List UInt8 := word ++ bodyT xs ++ [10]
theorem bodyT_snoc {xs : List Int} {j : Nat} {x : Int} (h : xs[j]? = some x) : bodyT (xs.take (j + 1)) = bodyT (xs.take j) ++ 32 :: Lib.itoa x := by
  unfold bodyT
  rw [List.take_add_one, h]
  simp
theorem bodyT_len : ∀ {xs : List Int}, (∀ x ∈ xs, Sm x) → (bodyT xs).length ≤ 15 * xs.length
  | [], _ => by simp [bodyT]
  | x :: xs, h => by
    have := bodyT_len (xs := xs) fun y hy => h y (by simp [hy])
    have := itoa_len x (h x (by simp))
    simp only [bodyT, List.flatMap_cons, List.length_append, List.length_cons] at *
    omega
theorem body_join : ∀ (xs : List Int), xs ≠ [] → 32 :: Lib.join (IT xs) [32] = bodyT xs
  | [], h => absurd rfl h
  | [x], _ => by simp [bodyT, IT, Lib.join]
  | x :: y :: xs, _ => by
    have := body_join (y :: xs) (by simp)
    unfold bodyT at this ⊢
    rw [List.flatMap_cons, ← this]
    simp [IT, Lib.join]

theorem line_len {word : List UInt8} {xs : List Int} (hw : word.length ≤ 100) (hn : xs.length ≤ 10) (hx : ∀ x ∈ xs, Sm x) : (BA (lineT word xs)).size ≤ 300 := by
  have := bodyT_len hx
  rw [ba_size]
  simp only [lineT, List.length_append, List.length_cons, List.length_nil]
  omega

set_option maxHeartbeats 2000000 in
theorem l31Line_any (word : List UInt8) {v : Value} {n : Nat} {xs : List Int} (hw : word.length ≤ 100) (hn : n ≤ 10) (hx : ∀ x ∈ xs, 0 ≤ x ∧ x ≤ 1000000000000) (w : World) (h : RV w 1 v n xs) :
    Calls Tryd.prog 14 #[.string (BA word), v] w fun e w' => e = .returned (.string (BA (lineT word xs))) ∧ Ext w w' := by
  obtain ⟨hl, a, cap, rfl, c1, c2, H⟩ := h
  have HH := Lib.hid H
  have HL := Lib.hid hl
  have HX := Lib.hid hx
  have HW := Lib.hid hw
  clear H hl hx hw
  have hstart : BA word = BA (word ++ bodyT (xs.take 0)) := by simp [bodyT]
  rw [hstart]
  go_enter Tryd.func14, Tryd.ntmps14
  go_wp2
  go_loopw [0, 6, 9] (fun s0 _ i wr => ∃ (j : Nat), j ≤ n ∧ i = .int .i64 j ∧ s0 = .string (BA (word ++ bodyT (xs.take j))) ∧ Ext w wr) (fun _ _ i _ => n - (intOf i).toNat)
  case atStart => exact ⟨0, by omega, rfl, rfl, (by repeat (first | exact Ext.refl _ | assumption | refine Ext.alloc ?_ _ | refine Ext.drew ?_ | refine Ext.drewN ?_ _ | refine Ext.setCell ?_ (by first | omega | (dsimp only; omega) | (simp; done) | (simp; omega)) _ | refine Ext.trans ?_ (by assumption)))⟩
  case round =>
    obtain ⟨j, hj, rfl, rfl, hE⟩ := hrel
    have hsz : (BA (word ++ bodyT (xs.take j))).size ≤ 250 := by
      have := bodyT_len (xs := xs.take j) fun x hx => by
        have := HX.out x (List.mem_of_mem_take hx)
        unfold Sm
        omega
      have hw := HW.out
      have hl := HL.out
      rw [ba_size]
      simp only [List.length_append, List.length_take] at *
      omega
    by_cases hlt : j < n
    · have hlt' : (j : Int) < n := by omega
      obtain ⟨b, off, rfl, hbk, hcell⟩ := HH.out (by omega)
      have hbr : b < wr.heap.size := by have := hE.size; omega
      have z0 : wr.cell? ⟨b, off + j, none⟩ = some (.int .i64 (at3 xs (j))) := (hE.cells.1 b (off + (j)) hbk).trans (hcell _ _ (at3_get (by have := HL.out; omega)))
      clear hcell
      have hxj : xs[j]? = some (at3 xs j) := nth_at3 (by have := HL.out; omega)
      have HB := Lib.hid (bodyT_snoc hxj)
      have hb := HX.out _ (List.mem_of_getElem? hxj)
      clear hxj
      generalize at3 xs j = x0 at *
      obtain ⟨m, rfl⟩ : ∃ m : Nat, x0 = m := ⟨x0.toNat, by omega⟩
      have HN := fun w' => Lib.hid (l1Num_any m (by omega) w')
      have hs2 := dd_size m (by omega)
      have HI : Hid (Lib.itoa (m : Int) = Lib.decDigits m) := by unfold Hid Lib.itoa; rw [if_neg (by omega)]; rfl
      obtain ⟨S, hS⟩ : ∃ S, BA (word ++ bodyT (xs.take j)) = S := ⟨_, rfl⟩
      obtain ⟨D, hD⟩ : ∃ D, BA (Lib.decDigits m) = D := ⟨_, rfl⟩
      have HF : Hid (S ++ (⟨#[32]⟩ ++ D) = BA (word ++ bodyT (xs.take (j + 1)))) := by
        unfold Hid
        rw [HB.out, HI.out, ← hS, ← hD, show (⟨#[32]⟩ : ByteArray) = BA [32] from rfl, ba_app, ba_app]
        simp
      simp only [hS] at hsz ⊢
      simp only [hD] at HN hs2
      clear hS hD HI HB hb
      have d1 : ¬ 9223372036854775807 < 1 + D.size := by omega
      have d2 : ¬ 9223372036854775807 < S.size + (1 + D.size) := by omega
      clear hsz hs2
      go_wp2_with fail
      refine ((HN _).out).mono ?_
      rintro e w1 ⟨rfl, hx1⟩
      obtain ⟨hc1, hf1⟩ := hx1.cells
      have hz1 := hx1.size
      try simp at hz1
      go_wp2
      go_roundw
      case rel => exact ⟨j + 1, by omega, by go_num, by rw [← HF.out], (by repeat (first | exact Ext.refl _ | assumption | refine Ext.alloc ?_ _ | refine Ext.drew ?_ | refine Ext.drewN ?_ _ | refine Ext.setCell ?_ (by first | omega | (dsimp only; omega) | (simp; done) | (simp; omega)) _ | refine Ext.trans ?_ (by assumption)))⟩
      case measure => simp [intOf]; omega
    · obtain rfl : j = n := by omega
      have HF : Hid (BA (word ++ bodyT (xs.take j)) ++ ⟨#[10]⟩ = BA (lineT word xs)) := by
        unfold Hid
        rw [List.take_of_length_le (by have := HL.out; omega), show (⟨#[10]⟩ : ByteArray) = BA [10] from rfl, ba_app]
        rfl
      generalize BA (word ++ bodyT (xs.take j)) = S at *
      have d1 : ¬ 9223372036854775807 < S.size + 1 := by omega
      clear hsz
      go_wp2
      go_ret
      rw [← HF.out]
      exact ⟨rfl, hE⟩

set_option maxHeartbeats 2000000 in
theorem lineC_any (word : List UInt8) {v : Value} {n : Nat} {xs : List Int} (hw : word.length ≤ 100) (h0 : 0 < n) (hn : n ≤ 10) (hx : ∀ x ∈ xs, Sm x) (w : World) (hT : Tab w) (h : RV w 1 v n xs) :
    Calls Tryd.prog 20 #[.string (BA word), v] w fun e w' => e = .returned (.string (BA (lineT word xs))) ∧ Ext w w' := by
  have hl := h.1
  have HJ := fun w' (hx' : Ext w w') => Lib.hid (joinInts_any (by omega) hx [32] (by decide) w' (hT.ext hx') (h.ext hx'))
  rw [show BA [32] = ⟨#[32]⟩ from rfl] at HJ
  obtain ⟨a, cap, rfl, c1, c2, -⟩ := h.2
  have HF : Hid (BA word ++ ⟨#[32]⟩ ++ BA (Lib.join (IT xs) [32]) ++ ⟨#[10]⟩ = BA (lineT word xs)) := by
    unfold Hid
    rw [show (⟨#[10]⟩ : ByteArray) = BA [10] from rfl, show (⟨#[32]⟩ : ByteArray) = BA [32] from rfl, ba_app, ba_app, ba_app]
    have := body_join xs (by intro h; subst h; simp at hl; omega)
    unfold lineT
    rw [← this]
    simp
  have s1 : (BA word).size ≤ 100 := by rw [ba_size]; exact hw
  have s2 : (BA (Lib.join (IT xs) [32])).size ≤ 2000 := by
    have := join_len (IT xs) [32] (fun s hs' => by
      obtain ⟨x, hx', rfl⟩ := List.mem_map.1 hs'
      have := itoa_len x (hx x hx')
      omega) (by decide)
    simp only [IT, List.length_map] at this
    rw [ba_size]
    simp only [IT]
    omega
  rw [← HF.out]
  clear hx HF hl h
  generalize BA word = S at *
  generalize BA (Lib.join (IT xs) [32]) = J at *
  have d1 : ¬ 9223372036854775807 < S.size + 1 := by omega
  have d2 : ¬ 9223372036854775807 < S.size + 1 + J.size := by omega
  have d3 : ¬ 9223372036854775807 < S.size + 1 + J.size + 1 := by omega
  clear s1 s2 hw
  go_enter Tryd.func20, Tryd.ntmps20
  go_wp2_with fail
  refine ((HJ _ (by repeat (first | exact Ext.refl _ | assumption | refine Ext.alloc ?_ _ | refine Ext.drew ?_ | refine Ext.drewN ?_ _ | refine Ext.setCell ?_ (by first | omega | (dsimp only; omega) | (simp; done) | (simp; omega)) _ | refine Ext.trans ?_ (by assumption)))).out).mono ?_
  rintro e w1 ⟨rfl, hx1⟩
  go_wp2
  go_ret
  exact ⟨rfl, (by repeat (first | exact Ext.refl _ | assumption | refine Ext.alloc ?_ _ | refine Ext.drew ?_ | refine Ext.drewN ?_ _ | refine Ext.setCell ?_ (by first | omega | (dsimp only; omega) | (simp; done) | (simp; omega)) _ | refine Ext.trans ?_ (by assumption)))⟩

/-- is a step a swap -/
def swK (zs : List Int) : Nat → Bool := fun j => at3 zs (j * 3) == -1
set_option maxHeartbeats 1000000 in
theorem swapsIn_any {v u : Value} {n m : Nat} {ss zs : List Int} (hm : m ≤ 2000000) (w : World) (h0 : RV w 1 v n ss) (h : RV w 3 u m zs) :
    Calls Tryd.prog 23 #[.agg #[v, u]] w fun e w' => e = .returned (.int .i64 (cntTo (swK zs) m)) ∧ Ext w w' := by
  obtain ⟨a0, cap0, rfl, _, _, _⟩ := h0.2
  obtain ⟨hl, a, cap, rfl, c1, c2, H⟩ := h
  have HH := Lib.hid H
  have HL := Lib.hid hl
  clear H hl h0
  go_enter Tryd.func23, Tryd.ntmps23
  go_wp2
  go_loopw [3, 5, 9] (fun n _ i wr => ∃ j : Nat, j ≤ m ∧ i = .int .i64 j ∧ Ext w wr ∧ n = .int .i64 (cntTo (swK zs) j)) (fun _ _ i _ => m - (intOf i).toNat)
  case atStart => exact ⟨0, by omega, rfl, (by repeat (first | exact Ext.refl _ | assumption | refine Ext.alloc ?_ _ | refine Ext.drew ?_ | refine Ext.drewN ?_ _ | refine Ext.setCell ?_ (by first | omega | (dsimp only; omega) | (simp; done) | (simp; omega)) _ | refine Ext.trans ?_ (by assumption))), rfl⟩
  case round =>
    obtain ⟨j, hj, rfl, hE, rfl⟩ := hrel
    by_cases hlt : j < m
    · have hlt' : (j : Int) < m := by omega
      have HS : Hid (cntTo (swK zs) (j + 1) = cntTo (swK zs) j + (if (at3 zs (j * 3) == -1) = true then 1 else 0)) := rfl
      have hcb := cntTo_bd (swK zs) j
      obtain ⟨b, off, rfl, hbk, hcell⟩ := HH.out (by omega)
      have hbr : b < wr.heap.size := by have := hE.size; omega
      have z0 : wr.cell? ⟨b, off + j * 3, none⟩ = some (.int .i64 (at3 zs (j * 3))) := (hE.cells.1 b (off + (j * 3)) hbk).trans (hcell _ _ (at3_get (by have := HL.out; omega)))
      have z1 : wr.cell? ⟨b, off + j * 3 + 1, none⟩ = some (.int .i64 (at3 zs (j * 3 + 1))) := (hE.cells.1 b (off + (j * 3 + 1)) hbk).trans (hcell _ _ (at3_get (by have := HL.out; omega)))
      have z2 : wr.cell? ⟨b, off + j * 3 + 2, none⟩ = some (.int .i64 (at3 zs (j * 3 + 2))) := (hE.cells.1 b (off + (j * 3 + 2)) hbk).trans (hcell _ _ (at3_get (by have := HL.out; omega)))
      clear hcell
      generalize at3 zs (j * 3) = k0 at *
      generalize at3 zs (j * 3 + 1) = a0 at *
      generalize at3 zs (j * 3 + 2) = b0 at *
      generalize cntTo (swK zs) j = c0 at *
      cases hg : (k0 == -1)
      all_goals
        go_wp2_with (go_at_call 47; ((with_reducible refine (small_any _ _).mono ?_); rintro e w' ⟨rfl, rfl⟩))
        go_roundw
        case rel => exact ⟨j + 1, by omega, by go_num, (by repeat (first | exact Ext.refl _ | assumption | refine Ext.alloc ?_ _ | refine Ext.drew ?_ | refine Ext.drewN ?_ _ | refine Ext.setCell ?_ (by first | omega | (dsimp only; omega) | (simp; done) | (simp; omega)) _ | refine Ext.trans ?_ (by assumption))), by rw [HS.out, hg]; simp⟩
        case measure => simp [intOf]; omega
    · obtain rfl : j = m := by omega
      go_wp2
      go_ret
      exact ⟨rfl, hE⟩

end Go.Proofs.YtgefamclfjoogaaDoor
