/- impl.ApproximateRotation. -/
import Derived.Test.YtbffcpnpdpgfeaaApL
namespace Go.Proofs.Ytbffcpnpdpgfeaa
open Go.RowKit Go.Lib
set_option linter.unusedVariables false
set_option linter.unusedSimpArgs false

/-- the nine numbers of the result -/
noncomputable def apA (x y n : Int) (o : Option (Q4 × Nat)) (i : Nat) : Int :=
  match o with
  | none => 0
  | some (u, k) =>
    let s := solV (lfP (cdC x y n k) u) (lfQ u)
    [u.a, u.b, u.c, u.d, s.1, s.2.1, s.2.2.1, s.2.2.2, (k : Int)].getD i 0
theorem cdR_good {x y n k num den : Int} {u : Q4} (h : u ∈ cdR x y n k num den) : (0 ≤ k ∧ k ≤ 8) ∧ smq u ≤ (cdC x y n k).pw := by
  unfold cdR at h
  split at h
  · rename_i ho
    simp only [cdOk, cdV, Bool.and_eq_true, Wn_iff] at ho
    have hk := ho.1.2.1
    exact ⟨hk, (((cdL_spec (c := cdC x y n k) hk num den).2 u).1 h).1⟩
  · cases h
theorem apV_bad {x y n num den : Int} {f k : Nat} (h : cdOk x y n k num den = false) : apV x y n num den (f + 1) k = none := by
  unfold apV; rw [h]; rfl
theorem apV_on {x y n num den : Int} {f k : Nat} (h : cdOk x y n k num den = true) (h2 : fstU (cdC x y n k) (cdR x y n k num den) = none) : apV x y n num den (f + 1) k = apV x y n num den f (k + 1) := by
  conv => lhs; unfold apV
  rw [h, h2]; rfl
theorem apV_hit {x y n num den : Int} {f k : Nat} {u : Q4} (h : cdOk x y n k num den = true) (h2 : fstU (cdC x y n k) (cdR x y n k num den) = some u) : apV x y n num den (f + 1) k = some (u, k) := by
  conv => lhs; unfold apV
  rw [h, h2]; rfl
theorem fstU_drop {c : Cx} {l : List Q4} {j : Nat} (h : j < l.length) : fstU c (l.drop j) = if apS c l[j] then some l[j] else fstU c (l.drop (j + 1)) := by
  rw [List.drop_eq_getElem_cons h]
  rfl
theorem row_rd {w wr : World} {base : Nat} {t : TypeId} {g n cap : Nat} {L : List Q4} {j : Nat} (o : w.ownsRow base t 4 (.slice (some ⟨g, 0, none⟩) n cap) n (IL (fl4 L))) (hn : L.length = n) (hE : Ext w wr) (h : j < n) :
    wr.cell? ⟨g, j * 4, none⟩ = some (.int .i64 (L[j]'(by omega)).a) ∧ wr.cell? ⟨g, j * 4 + 1, none⟩ = some (.int .i64 (L[j]'(by omega)).b) ∧ wr.cell? ⟨g, j * 4 + 2, none⟩ = some (.int .i64 (L[j]'(by omega)).c) ∧ wr.cell? ⟨g, j * 4 + 3, none⟩ = some (.int .i64 (L[j]'(by omega)).d) ∧ g < wr.heap.size := by
  obtain ⟨a, cap', e, _, _, p3⟩ := own_shape o
  obtain ⟨g', e2, y0, y1, y2, _⟩ := p3 (by omega)
  subst e2
  cases e
  obtain ⟨h1, h2, h3, h4⟩ := fl4_get (L := L) (j := j) (by omega)
  have hs := hE.size
  exact ⟨(hE.cells.1 _ _ y1).trans (y2 _ _ h1), (hE.cells.1 _ _ y1).trans (y2 _ _ h2), (hE.cells.1 _ _ y1).trans (y2 _ _ h3), (hE.cells.1 _ _ y1).trans (y2 _ _ h4), by omega⟩

end Go.Proofs.Ytbffcpnpdpgfeaa
