/- ApplyReplacement: the reference. -/
import Derived.Test.YtjeahopiejcopaaAppS
import Derived.Test.YtjeahopiejcopaaAppP
namespace Go.Proofs.Ytjeahopiejcopaa
open Go.RowKit Go.Lib
set_option linter.unusedVariables false
set_option linter.unusedSimpArgs false

set_option maxRecDepth 20000 in
theorem s_applyReplacement_any (q t : Int) {v1 v2 v3 : Value} {n m l : Nat} {xs ys zs : List Int} (hn : n ≤ 2000000) (hm : m ≤ 2000000) (hl : l ≤ 2000000) (w : World) (h1 : RVs w 3 v1 n xs) (h2 : RV w 3 v2 m ys) (h3 : RV w 3 v3 l zs) :
    Calls Try.prog 39 #[.agg #[.int .i64 q, v1], .agg #[.int .i64 t, v2, v3]] w fun e w' => ∃ v, e = .returned (.tuple #[.agg #[.int .i64 (apQ q xs n t ys m zs l), v], .bool (apOk q xs n t ys m zs l)]) ∧
      w'.ownsRow w.heap.size 98 3 v (apN q xs n t ys m zs l) (IL (apL q xs n t ys m zs l)) ∧ Ext w w' := by
  have HV := fun w' (hx : Ext w w') => Lib.hid (l4Good_any q hn w' (h1.rv.ext hx))
  have HR := fun hc w' (hx : Ext w w') => Lib.hid (l30Apply_any q t hn hm hl hc w' (h1.ext hx) (h2.ext hx) (h3.ext hx))
  have HO : Hid (apOk q xs n t ys m zs l = (cOk q xs n && (rOk q t ys m zs l && (decide (t + m ≤ n) && (decide ((n : Int) - m + l ≤ 400) && apE xs t.toNat m ys))))) := rfl
  have HNO : Hid (apOk q xs n t ys m zs l = false → apL q xs n t ys m zs l = [] ∧ apN q xs n t ys m zs l = 0 ∧ apQ q xs n t ys m zs l = 0) := ap_no
  obtain ⟨_, a1, c1, rfl, _, _, _⟩ := h1.rv
  obtain ⟨_, a2, c2, rfl, _, _, _⟩ := h2
  obtain ⟨_, a3, c3, rfl, _, _, _⟩ := h3
  clear h1
  cases g1 : cOk q xs n
  · rw [g1] at HV HO
    have HN : Hid (apOk q xs n t ys m zs l = false) := HO.out.trans (by simp)
    have HN2 := Lib.hid (HNO.out HN.out)
    clear HR HO HNO
    go_enter Try.func39, Try.ntmps39
    go_wp2_with fail
    refine ((HV _ (by repeat (first | exact Ext.refl _ | assumption | refine Ext.alloc ?_ _ | refine Ext.drew ?_ | refine Ext.drewN ?_ _ | refine Ext.setCell ?_ (by first | omega | (dsimp only; omega) | (simp; done) | (simp; omega)) _ | refine Ext.trans ?_ (by assumption)))).out).mono ?_
    rintro e w1 ⟨rfl, hx1⟩
    obtain ⟨hc1, hf1⟩ := hx1.cells
    have hz1 := hx1.size
    try simp at hz1
    have hs1_0 := sz3 (a := w.heap.size) (b := w1.heap.size) (by omega)
    go_wp2
    refine bodyPost_ret (v := .tuple #[.agg #[.int .i64 0, .slice none 0 0], .bool false]) (by simp [results, Try.results39, go_sem, *]) rfl ?_
    obtain ⟨e1, e2, e3⟩ := HN2.out
    rw [HN.out, e1, e2, e3]
    exact ⟨_, rfl, own_nil _ _ _ _, (by repeat (first | (with_reducible refine Ext.setCell ?_ (by first | (simp; done) | (simp; omega)) _) | with_reducible refine Ext.alloc ?_ _ | with_reducible refine Ext.drew ?_ | with_reducible refine Ext.drewN ?_ _ | with_reducible assumption | with_reducible exact Ext.refl _ | with_reducible refine Ext.trans ?_ (by with_reducible assumption)))⟩
  · have HR := HR g1
    rw [g1] at HV
    clear HO HNO g1
    generalize apL q xs n t ys m zs l = L at *
    generalize apN q xs n t ys m zs l = N at *
    generalize apQ q xs n t ys m zs l = Q at *
    generalize apOk q xs n t ys m zs l = o at *
    go_enter Try.func39, Try.ntmps39
    go_wp2_with fail
    refine ((HV _ (by repeat (first | exact Ext.refl _ | assumption | refine Ext.alloc ?_ _ | refine Ext.drew ?_ | refine Ext.drewN ?_ _ | refine Ext.setCell ?_ (by first | omega | (dsimp only; omega) | (simp; done) | (simp; omega)) _ | refine Ext.trans ?_ (by assumption)))).out).mono ?_
    rintro e w1 ⟨rfl, hx1⟩
    obtain ⟨hc1, hf1⟩ := hx1.cells
    have hz1 := hx1.size
    try simp at hz1
    have hs1_0 := sz3 (a := w.heap.size) (b := w1.heap.size) (by omega)
    go_wp2_with fail
    refine (HR _ (by repeat (first | (with_reducible refine Ext.setCell ?_ (by first | (simp; done) | (simp; omega)) _) | with_reducible refine Ext.alloc ?_ _ | with_reducible refine Ext.drew ?_ | with_reducible refine Ext.drewN ?_ _ | with_reducible assumption | with_reducible exact Ext.refl _ | with_reducible refine Ext.trans ?_ (by with_reducible assumption)))).out.mono ?_
    rintro e w2 ⟨v, rfl, o2, hx2⟩
    obtain ⟨a, c, rfl, _, _, _⟩ := own_shape o2
    obtain ⟨hc2, hf2⟩ := hx2.cells
    have hz2 := hx2.size
    try simp at hz2
    have hs2_0 := sz3 (a := w.heap.size) (b := w2.heap.size) (by omega)
    have h1 := hx1.size
    simp at h1
    go_wp2
    refine bodyPost_ret (v := .tuple #[.agg #[.int .i64 Q, .slice a N c], .bool o]) (by simp [results, Try.results39, go_sem, *]) rfl ?_
    have hb : w.heap.size + 1 + 1 < w1.heap.size := by omega
    refine ⟨_, rfl, own_base (base := w1.heap.size) (own_set (own_set o2 ?_ _) ?_ _) ?_, (by repeat (first | (with_reducible refine Ext.setCell ?_ (by first | (simp; done) | (simp; omega)) _) | with_reducible refine Ext.alloc ?_ _ | with_reducible refine Ext.drew ?_ | with_reducible refine Ext.drewN ?_ _ | with_reducible assumption | with_reducible exact Ext.refl _ | with_reducible refine Ext.trans ?_ (by with_reducible assumption)))⟩
    all_goals first | omega | (simp; done) | (simp; omega)

end Go.Proofs.Ytjeahopiejcopaa
