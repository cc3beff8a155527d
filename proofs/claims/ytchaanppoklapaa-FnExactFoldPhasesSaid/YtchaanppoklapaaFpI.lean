/- Folding: the group of a gate. -/
import Derived.Test.YtchaanppoklapaaRoP
import Derived.Test.YtchaanppoklapaaFpL
import Derived.Test.YtchaanppoklapaaNodes
namespace Go.Proofs.Ytchaanppoklapaa
open Go.RowKit Go.Lib
set_option linter.unusedVariables false
set_option linter.unusedSimpArgs false

theorem allTo_allF {f : Nat → Bool} : ∀ {n : Nat}, (∀ j, j < n → f j = true) → allTo f n = true
  | 0, _ => rfl
  | n + 1, h => by rw [allTo_succ, allTo_allF (fun j hj => h j (by omega)), h n (by omega)]; rfl
theorem at3_ofNat {L : List Nat} {k : Nat} (h : k < L.length) : at3 (L.map Int.ofNat) k = (L[k] : Int) := by
  simp [at3, List.getD_eq_getElem?_getD, h]
theorem hasTo_ofNat (L : List Nat) (j : Nat) : hasTo (L.map Int.ofNat) (j : Int) L.length = L.contains j := by
  rw [Bool.eq_iff_iff]
  constructor
  · intro h
    rw [List.contains_iff_mem]
    refine Classical.byContradiction fun hn => ?_
    unfold hasTo at h
    rw [allTo_allF (fun k hk => by
      rw [at3_ofNat hk]
      have : L[k] ≠ j := fun e => hn (e ▸ List.getElem_mem hk)
      simp
      omega)] at h
    cases h
  · intro h
    rw [List.contains_iff_mem] at h
    obtain ⟨k, hk, e⟩ := List.getElem_of_mem h
    exact hasTo_at (k := k) (by rw [at3_ofNat hk, e]; simp) hk

set_option maxHeartbeats 1000000 in
theorem fp1_any (x : Int) (B : Nat) (t c v : Int) (q : Bool) {a : Option Addr} {n m : Nat} {ys : List Int} (hn : n ≤ 2000000) (w : World) (h : RV w 1 (.slice a n m) n ys) (hB : w.heap[B]? = some (.cells #[.int .i64 x] 3 (0, 0))) :
    Calls Try.prog 33 #[.agg #[.int .i64 t, .int .i64 c, .int .u64 v, .bool q, .slice a n m], .pointer (some ⟨B, 0, none⟩)] w fun e w' => e = .returned (.bool (hasTo ys x n)) ∧ Ext w w' := by
  have HC := fun w' (hx : Ext w w') => Lib.hid (contains_any x hn w' (h.ext hx))
  have z : ∀ q, w.cell? ⟨B, q, none⟩ = (#[.int .i64 x] : Array Value)[q]? := fun q => cell_of_row _ _ _ _ _ _ hB
  have l := (Array.getElem?_eq_some_iff.1 hB).1
  clear hB
  go_enter Try.func33, Try.ntmps33
  go_wp2_with fail
  refine (HC _ (by repeat (first | exact Ext.refl _ | assumption | refine Ext.alloc ?_ _ | refine Ext.drew ?_ | refine Ext.drewN ?_ _ | refine Ext.setCell ?_ (by first | omega | (dsimp only; omega) | (simp; done) | (simp; omega)) _ | refine Ext.trans ?_ (by assumption)))).out.mono ?_
  rintro e w1 ⟨rfl, rfl⟩
  go_wp2
  go_ret
  exact ⟨rfl, (by repeat (first | exact Ext.refl _ | assumption | refine Ext.alloc ?_ _ | refine Ext.drew ?_ | refine Ext.drewN ?_ _ | refine Ext.setCell ?_ (by first | omega | (dsimp only; omega) | (simp; done) | (simp; omega)) _ | refine Ext.trans ?_ (by assumption)))⟩

/-- where the first group with a gate stands, or -1 -/
def fdJ (G : List Gp) (j : Nat) : Int := if fdL G j < G.length then (fdL G j : Int) else -1

set_option maxRecDepth 20000 in
set_option maxHeartbeats 2000000 in
theorem index2_any (x : Nat) (B : Nat) {lo : Nat} {v : Value} {G : List Gp} (hn : G.length ≤ 2000000) (hL : ∀ i, i < G.length → (gAt G i).L.length ≤ 2000000) (w : World) (h : GRS w lo v G) (hB : w.heap[B]? = some (.cells #[.int .i64 x] 3 (0, 0))) :
    Calls Try.prog 32 #[v, .func (.func 33) #[] #[.pointer (some ⟨B, 0, none⟩)]] w fun e w' => e = .returned (.int .i64 (fdJ G x)) ∧ Ext w w' := by
  have HC := fun t c v q (a : Option Addr) (n m : Nat) (ys : List Int) (hn : n ≤ 2000000) w' (hx : Ext w w') (hr : RV w' 1 (.slice a n m) n ys) => Lib.hid (fp1_any x B t c v q hn w' hr (row_farM hB hx))
  obtain ⟨zs, h1, h2, h3, h4⟩ := h
  have H1 := Lib.hid h1
  have H4 := Lib.hid h4
  have HLL := Lib.hid hL
  obtain ⟨ag, cg, rfl, _, _, _⟩ := own_shape h1
  have HF : Hid (fdJ G x = if fdL G x < G.length then (fdL G x : Int) else -1) := rfl
  have HN := Lib.hid (fdL_le G x)
  clear h1 h3 h4 h2 hB hL
  go_enter Try.func32, Try.ntmps32
  go_wp2
  go_loopw [5, 8] (fun _ i wr => ∃ j : Nat, j ≤ G.length ∧ i = .int .i64 j ∧ Hid (j ≤ fdL G x) ∧ Ext w wr) (fun _ i _ => G.length - (intOf i).toNat)
  case atStart => exact ⟨0, by omega, rfl, Nat.zero_le _, Ext.refl _⟩
  case round =>
    obtain ⟨j, hj, rfl, HO, hE⟩ := hrel
    have HE := Lib.hid hE
    by_cases hlt : j < G.length
    · have hlt' : (j : Int) < G.length := by omega
      obtain ⟨s, e0, e1, e2, e3, e4, os⟩ := H4.out j hlt
      obtain ⟨ag2, cg2, ee, _, _, hg3⟩ := own_shape (own_ext H1.out hE)
      injection ee with ee1 _ ee3
      subst ee1 ee3
      obtain ⟨Bg, rfl, hb1, hb2, hb3, hb4⟩ := hg3 (by omega)
      have hrv := RV.own (own_ext os hE) (by simp : ((gAt G j).L.map Int.ofNat).length = (gAt G j).L.length * 1)
      obtain ⟨sa, cs, rfl, _, _, _⟩ := own_shape os
      have y0 := hb3 _ _ e0
      have y1 := hb3 _ _ e1
      have y2 := hb3 _ _ e2
      have y3 := hb3 _ _ e3
      have y4 := hb3 _ _ e4
      have HA := Lib.hid (fun (h : ((gAt G j).L.contains x) = true) => (show fdL G x = j from by
        have h9 := HO.out
        rw [List.contains_iff_mem] at h
        by_cases e : j = fdL G x
        · exact e.symm
        · exact absurd h (fdL_no (by omega))))
      have HB := Lib.hid (fun (h : ((gAt G j).L.contains x) = false) => (show j + 1 ≤ fdL G x from by
        have h9 := HO.out
        by_cases e : j = fdL G x
        · have h8 := fdL_at (G := G) (j := x) (by omega)
          rw [← e, ← List.contains_iff_mem, h] at h8
          cases h8
        · omega))
      have HD := HC (gAt G j).t (gAt G j).c (gAt G j).v (gAt G j).p sa _ cs _ (HLL.out j hlt) wr hE hrv
      rw [hasTo_ofNat] at HD
      clear e0 e1 e2 e3 e4 os hb3 hb4 hg3 hE hrv HC
      generalize gAt G j = g at *
      generalize hlg : g.L.length = gl at *
      cases hv : g.L.contains x
      · have HB2 := Lib.hid (HB.out hv)
        rw [hv] at HD
        clear hv HA HB hlg
        go_wp2_with fail
        refine HD.out.mono ?_
        rintro e w2 ⟨rfl, hx2⟩
        have HX := Lib.hid hx2
        clear hx2
        go_wp2
        go_roundw
        case rel => exact ⟨j + 1, by omega, by go_num, HB2, HE.out.trans HX.out⟩
        case measure => simp [intOf]; omega
      · have HA2 := Lib.hid (HA.out hv)
        rw [hv] at HD
        clear hv HA HB hlg
        go_wp2_with fail
        refine HD.out.mono ?_
        rintro e w2 ⟨rfl, hx2⟩
        have HX := Lib.hid hx2
        clear hx2
        go_wp2
        go_ret
        refine ⟨?_, HE.out.trans HX.out⟩
        rw [HF.out, HA2.out, if_pos hlt]
        rfl
    · have hjl : j = G.length := by omega
      subst hjl
      go_wp2
      go_ret
      refine ⟨?_, HE.out⟩
      have h9 := HO.out
      rw [HF.out, if_neg (by omega)]
      rfl

end Go.Proofs.Ytchaanppoklapaa
