/- spec.CandidatesFor. -/
import Derived.Test.YtbffcpnpdpgfeaaCdV
namespace Go.Proofs.Ytbffcpnpdpgfeaa
open Go.RowKit Go.Lib
set_option linter.unusedVariables false
set_option linter.unusedSimpArgs false

set_option maxRecDepth 20000 in
set_option maxHeartbeats 4000000 in
theorem s_candidatesFor_any (x y n k num den : Int) (w : World) :
    Calls Try.prog 6 #[.agg #[.int .i64 x, .int .i64 y, .int .i64 n], .int .i64 k, .int .i64 num, .int .i64 den] w fun e w' => ∃ v, e = .returned (.tuple #[v, .bool (cdOk x y n k num den)]) ∧
      w'.ownsRow w.heap.size 33 4 v (cdR x y n k num den).length (IL (fl4 (cdR x y n k num den))) ∧ Ext w w' := by
  have HT := fun w' => Lib.hid (l27Target_any x y n w')
  have HW := fun w' => Lib.hid (l1In_any k 0 8 w')
  have HN := fun w' => Lib.hid (l27Bound_any num den w')
  have HV : Hid (cdV x y n k num den = (Tg x y n && (Wn k 0 8 && Bnd num den))) := rfl
  have HBad : Hid (cdV x y n k num den = false → cdOk x y n k num den = false ∧ cdR x y n k num den = []) := fun h => by
    have : cdOk x y n k num den = false := by unfold cdOk; rw [h]; rfl
    refine ⟨this, ?_⟩
    unfold cdR
    rw [this]
    rfl
  cases h1 : Tg x y n
  · rw [h1] at HV HT
    obtain ⟨e1, e2⟩ := HBad.out HV.out
    rw [e1, e2]
    clear HBad HV e1 e2
    go_enter Try.func6, Try.ntmps6
    go_wp2_with fail
    refine ((HT _).out).mono ?_
    rintro e w1 ⟨rfl, hx1⟩
    obtain ⟨hc1, hf1⟩ := hx1.cells
    have hz1 := hx1.size
    try simp at hz1
    have hs1_0 := sz1 (a := w.heap.size) (b := w1.heap.size) (by omega)
    go_wp2
    refine bodyPost_ret (v := .tuple #[.slice none 0 0, .bool false]) (by simp [results, Try.results6, go_sem, *]) rfl ?_
    exact ⟨_, rfl, own_nil _ _ _ _, (by repeat (first | exact Ext.refl _ | assumption | refine Ext.alloc ?_ _ | refine Ext.drew ?_ | refine Ext.drewN ?_ _ | refine Ext.setCell ?_ (by first | omega | (dsimp only; omega) | (simp; done) | (simp; omega)) _ | refine Ext.trans ?_ (by assumption)))⟩
  cases h2 : Wn k 0 8
  · rw [h1, h2] at HV
    rw [h1] at HT
    rw [h2] at HW
    obtain ⟨e1, e2⟩ := HBad.out HV.out
    rw [e1, e2]
    clear HBad HV e1 e2
    go_enter Try.func6, Try.ntmps6
    go_wp2_with fail
    refine ((HT _).out).mono ?_
    rintro e w1 ⟨rfl, hx1⟩
    obtain ⟨hc1, hf1⟩ := hx1.cells
    have hz1 := hx1.size
    try simp at hz1
    have hs1_0 := sz1 (a := w.heap.size) (b := w1.heap.size) (by omega)
    go_wp2_with (go_at_call 22; ((with_reducible refine ((HW _).out).mono ?_); rintro e w' ⟨rfl, rfl⟩))
    refine bodyPost_ret (v := .tuple #[.slice none 0 0, .bool false]) (by simp [results, Try.results6, go_sem, *]) rfl ?_
    exact ⟨_, rfl, own_nil _ _ _ _, (by repeat (first | exact Ext.refl _ | assumption | refine Ext.alloc ?_ _ | refine Ext.drew ?_ | refine Ext.drewN ?_ _ | refine Ext.setCell ?_ (by first | omega | (dsimp only; omega) | (simp; done) | (simp; omega)) _ | refine Ext.trans ?_ (by assumption)))⟩
  cases h3 : Bnd num den
  · rw [h1, h2, h3] at HV
    rw [h1] at HT
    rw [h2] at HW
    rw [h3] at HN
    obtain ⟨e1, e2⟩ := HBad.out HV.out
    rw [e1, e2]
    clear HBad HV e1 e2
    go_enter Try.func6, Try.ntmps6
    go_wp2_with fail
    refine ((HT _).out).mono ?_
    rintro e w1 ⟨rfl, hx1⟩
    obtain ⟨hc1, hf1⟩ := hx1.cells
    have hz1 := hx1.size
    try simp at hz1
    have hs1_0 := sz1 (a := w.heap.size) (b := w1.heap.size) (by omega)
    go_wp2_with (go_at_call 22; ((with_reducible refine ((HW _).out).mono ?_); rintro e w' ⟨rfl, rfl⟩))
    refine ((HN _).out).mono ?_
    rintro e w2 ⟨rfl, hx2⟩
    obtain ⟨hc2, hf2⟩ := hx2.cells
    have hz2 := hx2.size
    try simp at hz2
    have hs2_0 := sz1 (a := w.heap.size) (b := w2.heap.size) (by omega)
    go_wp2
    refine bodyPost_ret (v := .tuple #[.slice none 0 0, .bool false]) (by simp [results, Try.results6, go_sem, *]) rfl ?_
    exact ⟨_, rfl, own_nil _ _ _ _, (by repeat (first | exact Ext.refl _ | assumption | refine Ext.alloc ?_ _ | refine Ext.drew ?_ | refine Ext.drewN ?_ _ | refine Ext.setCell ?_ (by first | omega | (dsimp only; omega) | (simp; done) | (simp; omega)) _ | refine Ext.trans ?_ (by assumption)))⟩
  rw [h1, h2, h3] at HV
  rw [h1] at HT
  rw [h2] at HW
  rw [h3] at HN
  have hkk : 0 ≤ k ∧ k ≤ 8 := by simpa [Wn_iff] using h2
  have hbd := tg_bd h1
  have HC := fun w' => Lib.hid (l27Candidates_any (cdC x y n k) num den hkk h3 (fun u hu => Cx.small ⟨h1, hkk⟩ hu hbd) w')
  have HO : Hid (cdOk x y n k num den = decide ((cdL (cdC x y n k) num den).length ≤ 1000)) := by unfold Hid cdOk; rw [HV.out]; simp
  have HR : Hid (cdR x y n k num den = if (cdL (cdC x y n k) num den).length ≤ 1000 then cdL (cdC x y n k) num den else []) := by
    unfold Hid cdR
    rw [HO.out]
    simp
  rw [← HO.out, ← HR.out] at HC
  rw [show (cdC x y n k).x = x from rfl, show (cdC x y n k).y = y from rfl, show (cdC x y n k).n = n from rfl, show (cdC x y n k).k = k from rfl] at HC
  generalize cdR x y n k num den = R at *
  generalize cdOk x y n k num den = ok at *
  clear HBad HV HO HR hkk hbd h1 h2 h3
  go_enter Try.func6, Try.ntmps6
  go_wp2_with fail
  refine ((HT _).out).mono ?_
  rintro e w1 ⟨rfl, hx1⟩
  obtain ⟨hc1, hf1⟩ := hx1.cells
  have hz1 := hx1.size
  try simp at hz1
  have hs1_0 := sz1 (a := w.heap.size) (b := w1.heap.size) (by omega)
  go_wp2_with (go_at_call 22; ((with_reducible refine ((HW _).out).mono ?_); rintro e w' ⟨rfl, rfl⟩))
  refine ((HN _).out).mono ?_
  rintro e w2 ⟨rfl, hx2⟩
  obtain ⟨hc2, hf2⟩ := hx2.cells
  have hz2 := hx2.size
  try simp at hz2
  have hs2_0 := sz1 (a := w.heap.size) (b := w2.heap.size) (by omega)
  have HX2 : Hid (Ext w w2) := (by repeat (first | exact Ext.refl _ | assumption | refine Ext.alloc ?_ _ | refine Ext.drew ?_ | refine Ext.drewN ?_ _ | refine Ext.setCell ?_ (by first | omega | (dsimp only; omega) | (simp; done) | (simp; omega)) _ | refine Ext.trans ?_ (by assumption)))
  go_wp2_with fail
  refine ((HC _).out).mono ?_
  rintro e w3 ⟨v, rfl, o3, hx3⟩
  have HX3 := Lib.hid (HX2.out.trans hx3)
  have O3 := Lib.hid o3
  clear hx3 o3
  go_wp2
  refine bodyPost_ret (v := .tuple #[v, .bool ok]) (by simp [results, Try.results6, go_sem, *]) rfl ?_
  exact ⟨_, rfl, own_base O3.out HX2.out.size, HX3.out⟩

end Go.Proofs.Ytbffcpnpdpgfeaa
