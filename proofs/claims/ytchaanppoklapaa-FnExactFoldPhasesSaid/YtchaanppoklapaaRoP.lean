/- Rotations that are folded: the program's rotate. -/
import Derived.Test.YtchaanppoklapaaRoM
import Derived.Deep.RegionHeld3
import Derived.Deep.RegionLaw
import Derived.Deep.Cut
import Derived.Deep.CutRange
import Derived.Deep.CutBlock
import Derived.StillTailTactics
namespace Go.Proofs.Ytchaanppoklapaa
open Go.RowKit Go.Lib
set_option linter.unusedVariables false
set_option linter.unusedSimpArgs false

theorem elt_PV : Elt Try.prog 56 64 2 16 := elt_of (z := .agg #[.int .u64 0, .bool false]) Try.underlying56 (by kernel_rfl) rfl (by decide) (by decide)
theorem elt_GP : Elt Try.prog 57 67 5 56 := elt_of (z := .agg #[.int .i64 0, .int .i64 0, .int .u64 0, .bool false, .slice none 0 0]) Try.underlying57 (by kernel_rfl) rfl (by decide) (by decide)
theorem elt_IF : Elt Try.prog 65 3 1 8 := elt_of (z := .int .i64 0) Try.underlying65 (by kernel_rfl) rfl (by decide) (by decide)

set_option maxRecDepth 20000 in
set_option maxHeartbeats 1000000 in
theorem rotationCoef_any (k : Int) (w : World) : Calls Try.prog 61 #[.int .i64 k] w fun e w' => e = .returned (.int .i64 (cfK k)) ∧ w' = w := by
  have h4 : Hid (cfK k = if k = 4 then 4 else if k = 5 then 2 else if k = 6 then 6 else if k = 7 then 1 else if k = 8 then 7 else 0) := rfl
  go_enter Try.func61, Try.ntmps61
  go_wp2
  all_goals (go_ret; refine ⟨?_, rfl⟩; rw [h4.out]; clear h4; simp_all)

theorem rot1_any (x : Nat) (p : Bool) (B : Nat) (t c v : Int) (q : Bool) (a : Option Addr) (n m : Nat) (w : World) (hB : w.heap[B]? = some (.cells #[.int .u64 x, .bool p] 64 (0, 0))) :
    Calls Try.prog 66 #[.agg #[.int .i64 t, .int .i64 c, .int .u64 v, .bool q, .slice a n m], .pointer (some ⟨B, 0, none⟩)] w fun e w' => e = .returned (.bool (v == (x : Int))) ∧ Ext w w' := by
  have z : ∀ q, w.cell? ⟨B, q, none⟩ = (#[.int .u64 x, .bool p] : Array Value)[q]? := fun q => cell_of_row _ _ _ _ _ _ hB
  have l := (Array.getElem?_eq_some_iff.1 hB).1
  clear hB
  go_enter Try.func66, Try.ntmps66
  go_wp2
  go_ret
  exact ⟨rfl, (by repeat (first | exact Ext.refl _ | assumption | refine Ext.alloc ?_ _ | refine Ext.drew ?_ | refine Ext.drewN ?_ _ | refine Ext.setCell ?_ (by first | omega | (dsimp only; omega) | (simp; done) | (simp; omega)) _ | refine Ext.trans ?_ (by assumption)))⟩

/-- where the first group with a value stands, or -1 -/
def fdI (G : List Gp) (x : Nat) : Int := if fdG G x < G.length then (fdG G x : Int) else -1

set_option maxRecDepth 20000 in
set_option maxHeartbeats 2000000 in
theorem index1_any (x : Nat) (p : Bool) (B : Nat) {lo : Nat} {v : Value} {G : List Gp} (hn : G.length ≤ 2000000) (w : World) (h : GRS w lo v G) (hB : w.heap[B]? = some (.cells #[.int .u64 x, .bool p] 64 (0, 0))) :
    Calls Try.prog 32 #[v, .func (.func 66) #[] #[.pointer (some ⟨B, 0, none⟩)]] w fun e w' => e = .returned (.int .i64 (fdI G x)) ∧ Ext w w' := by
  have HC := fun t c v q a n m w' (hx : Ext w w') => Lib.hid (rot1_any x p B t c v q a n m w' (row_farM hB hx))
  obtain ⟨zs, h1, h2, h3, h4⟩ := h
  have H1 := Lib.hid h1
  have H4 := Lib.hid h4
  obtain ⟨ag, cg, rfl, _, _, _⟩ := own_shape h1
  have HF : Hid (fdI G x = if fdG G x < G.length then (fdG G x : Int) else -1) := rfl
  have HN := Lib.hid (fdG_le G x)
  clear h1 h3 h4 h2 hB
  go_enter Try.func32, Try.ntmps32
  go_wp2
  go_loopw [5, 8] (fun _ i wr => ∃ j : Nat, j ≤ G.length ∧ i = .int .i64 j ∧ Hid (j ≤ fdG G x) ∧ Ext w wr) (fun _ i _ => G.length - (intOf i).toNat)
  case atStart => exact ⟨0, by omega, rfl, Nat.zero_le _, Ext.refl _⟩
  case round =>
    obtain ⟨j, hj, rfl, HO, hE⟩ := hrel
    have HE := Lib.hid hE
    by_cases hlt : j < G.length
    · have hlt' : (j : Int) < G.length := by omega
      obtain ⟨s, e0, e1, e2, e3, e4, os⟩ := H4.out j hlt
      obtain ⟨ag2, cg2, ee, _, _, hg3⟩ := own_shape (own_ext H1.out hE)
      injection ee with ee1 _ ee3
      subst ee1 ee3
      obtain ⟨Bg, rfl, hb1, hb2, hb3, hb4⟩ := hg3 (by omega)
      obtain ⟨sa, cs, rfl, _, _, _⟩ := own_shape os
      have y0 := hb3 _ _ e0
      have y1 := hb3 _ _ e1
      have y2 := hb3 _ _ e2
      have y3 := hb3 _ _ e3
      have y4 := hb3 _ _ e4
      have HA := Lib.hid (fun (h : (gAt G j).v = x) => (show fdG G x = j from by
        have h9 := HO.out
        by_cases e : j = fdG G x
        · exact e.symm
        · exact absurd h (fdG_no (by omega))))
      have HB := Lib.hid (fun (h : (gAt G j).v ≠ x) => (show j + 1 ≤ fdG G x from by
        have h9 := HO.out
        by_cases e : j = fdG G x
        · refine absurd ?_ h
          have h8 := fdG_at (G := G) (v := x) (by omega)
          rw [← e] at h8
          exact h8
        · omega))
      clear e0 e1 e2 e3 e4 os hb3 hb4 hg3 hE
      generalize gAt G j = g at *
      generalize g.L.length = gl at *
      have HD := fun w' (hx : Ext w w') => HC g.t g.c g.v g.p sa gl cs w' hx
      clear HC
      by_cases hv : g.v = x
      · have hv' : ((g.v : Int) == (x : Int)) = true := by simp [hv]
        have HA2 := Lib.hid (HA.out hv)
        rw [hv'] at HD
        clear hv hv' HA HB
        go_wp2_with fail
        refine (HD _ HE.out).out.mono ?_
        rintro e w2 ⟨rfl, hx2⟩
        go_wp2
        go_ret
        refine ⟨?_, HE.out.trans hx2⟩
        rw [HF.out, HA2.out, if_pos hlt]
        rfl
      · have hv' : ((g.v : Int) == (x : Int)) = false := by simp; omega
        have HB2 := Lib.hid (HB.out hv)
        rw [hv'] at HD
        clear hv hv' HA HB
        go_wp2_with fail
        refine (HD _ HE.out).out.mono ?_
        rintro e w2 ⟨rfl, hx2⟩
        have HX := Lib.hid hx2
        clear hx2
        go_wp2
        go_roundw
        case rel => exact ⟨j + 1, by omega, by go_num, HB2, HE.out.trans HX.out⟩
        case measure => simp [intOf]; omega
    · have hjl : j = G.length := by omega
      subst hjl
      go_wp2
      go_ret
      refine ⟨?_, HE.out⟩
      have h9 := HO.out
      rw [HF.out, if_neg (by omega)]
      rfl

end Go.Proofs.Ytchaanppoklapaa
