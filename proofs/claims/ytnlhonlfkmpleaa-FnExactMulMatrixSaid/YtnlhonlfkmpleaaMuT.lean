/- MulMatrix: the reference's product of two matrices. -/
import Derived.Test.YtnlhonlfkmpleaaMuM
import Derived.Test.YtnlhonlfkmpleaaDyN
namespace Go.Proofs.Ytnlhonlfkmpleaa
open Go.RowKit Go.Lib
set_option linter.unusedVariables false
set_option linter.unusedSimpArgs false

theorem own_gx2 {S : List Nat} {w w' : World} {base : Nat} {e : TypeId} {size : Nat} {v : Value} {n : Nat} {xs : List Value} (h : w.ownsRow base e size v n xs) (hg : GX S w w') (hS : ∀ k, k ∈ S → ∀ g, v.ownBlock = some g → k ≠ g) : w'.ownsRow base e size v n xs := by
  refine ⟨h.1, ?_⟩
  rcases h.2 with hn | ⟨g, cap, cur, hv, hb, hh, r⟩
  · exact .inl hn
  · exact .inr ⟨g, cap, cur, hv, hb, (hg.heap (Array.getElem?_eq_some_iff.1 hh).1 (fun hm => hS g hm g (by rw [hv]; rfl) rfl)).trans hh, r⟩
theorem news_heap {w : World} {B : Nat} {t : TypeId} {c : Array Value} {xs : List Value} (h : w.heap[B]? = some (.cells c t (0, 0))) (hx : c.toList = xs) : ∀ j u, xs[j]? = some u → w.cell? ((⟨B, 0, none⟩ : Addr).add j) = some u := by
  subst hx
  intro j u hu
  rw [show (⟨B, 0, none⟩ : Addr).add j = ⟨B, j, none⟩ by unfold Addr.add; split <;> simp_all]
  rw [cell_of_row _ _ _ _ _ _ h]
  simpa using hu

theorem ml_good (xs ys : List Int) (K C i j : Nat) : ∀ k, mlO xs ys K C i j k = true → GD (mlV xs ys K C i j k).1 (mlV xs ys K C i j k).2 = true
  | 0, _ => by show GD R4.zero 0 = true; decide
  | k + 1, h => by
    rw [mlO_succ, Bool.and_eq_true] at h
    have h2 := h.2
    unfold mlB at h2
    rw [Bool.and_eq_true] at h2
    have h3 := h2.2
    have h4 := h3
    unfold adOk at h4
    rw [Bool.and_eq_true, Bool.and_eq_true] at h4
    obtain ⟨_, b1, b2, _⟩ := GD_rg h4.1.1
    obtain ⟨_, b3, b4, _⟩ := GD_rg h4.1.2
    show GD (adX _ _ _ _) (adE _ _ _ _) = true
    unfold adX adE
    rw [if_pos h3, if_pos h3]
    exact low_gd (by omega) (rg_clip _)
theorem ml_step {xs ys : List Int} {K C i j k : Nat} {Z : R4} {z : Nat} {X Y : R4} {e f : Int} (eX : dyAt xs (i * K + k) = X) (ee : exAt xs (i * K + k) = e) (eY : dyAt ys (k * C + j) = Y) (ef : exAt ys (k * C + j) = f)
    (hO : mlO xs ys K C i j k = true) (hV : mlV xs ys K C i j k = (Z, (z : Int))) (hX : GD X e = true) (hY : GD Y f = true) :
    mlB xs ys K C i j k = !(mvBad X e.toNat Y f.toNat || dyBad Z z (mvX X e.toNat Y f.toNat) (mvE X e.toNat Y f.toNat)) ∧
    ((mvBad X e.toNat Y f.toNat || dyBad Z z (mvX X e.toNat Y f.toNat) (mvE X e.toNat Y f.toNat)) = false →
      mlV xs ys K C i j (k + 1) = (dyX Z z (mvX X e.toNat Y f.toNat) (mvE X e.toNat Y f.toNat), (dyE Z z (mvX X e.toNat Y f.toNat) (mvE X e.toNat Y f.toNat) : Int))) := by
  have hg := ml_good xs ys K C i j k hO
  rw [hV] at hg
  simp only at hg
  have hm : muOk X e Y f = !(mvBad X e.toNat Y f.toNat) := by unfold muOk; rw [hX, hY]; rfl
  have key : mlB xs ys K C i j k = !(mvBad X e.toNat Y f.toNat || dyBad Z z (mvX X e.toNat Y f.toNat) (mvE X e.toNat Y f.toNat)) := by
    unfold mlB
    rw [eX, ee, eY, ef, hV, hm]
    simp only
    cases hb : mvBad X e.toNat Y f.toNat
    · have h1 : muOk X e Y f = true := by rw [hm, hb]; rfl
      obtain ⟨p1, p2⟩ := mu_true h1
      rw [p1, p2]
      unfold adOk
      rw [hg, mv_gd]
      simp
    · rfl
  refine ⟨key, fun h => ?_⟩
  have hb : mvBad X e.toNat Y f.toNat = false := by
    cases hb : mvBad X e.toNat Y f.toNat
    · rfl
    · rw [hb] at h; cases h
  have h1 : muOk X e Y f = true := by rw [hm, hb]; rfl
  obtain ⟨p1, p2⟩ := mu_true h1
  have h2 : adOk Z (z : Int) (mvX X e.toNat Y f.toNat) (mvE X e.toNat Y f.toNat : Int) = true := by
    unfold adOk
    rw [hg, mv_gd]
    rw [hb] at h
    simp only [Bool.false_or] at h
    simp [h]
  show (adX _ _ _ _, adE _ _ _ _) = _
  rw [eX, ee, eY, ef, hV, p1, p2]
  simp only
  unfold adX adE
  rw [if_pos h2, if_pos h2]
  simp

/-- the state of the loops -/
structure TS (bc : Nat) (R K C : Int) (s1 s2 : Value) (w : World) (β : Bool) (L : List Int) (k : Nat) (v : Value) (wr : World) : Prop where
  own : wr.ownsRow (w.heap.size + 4) 34 5 v k (IL L)
  bad : wr.heap[bc]? = some (.cells #[.bool β] 84 (0, 0))
  a : wr.heap[w.heap.size]? = some (.cells #[.int .i64 R, .int .i64 K, s1] 51 (0, 0))
  b : wr.heap[w.heap.size + 1]? = some (.cells #[.int .i64 K, .int .i64 C, s2] 51 (0, 0))
  res : wr.heap[w.heap.size + 2]? = some (.cells #[.int .i64 0, .int .i64 0, .slice none 0 0] 51 (0, 0))
  out : wr.heap[w.heap.size + 3]? = some (.cells #[.int .i64 R, .int .i64 C, v] 51 (0, 0))
  gx : GX [bc] w wr
theorem TS.lt {bc : Nat} {R K C : Int} {s1 s2 : Value} {w : World} {β : Bool} {L : List Int} {k : Nat} {v : Value} {wr : World} (h : TS bc R K C s1 s2 w β L k v wr) : w.heap.size + 3 < wr.heap.size := (Array.getElem?_eq_some_iff.1 h.out).1
theorem TS.ext {bc : Nat} {R K C : Int} {s1 s2 : Value} {w : World} {β : Bool} {L : List Int} {k : Nat} {v : Value} {wr wa : World} (h : TS bc R K C s1 s2 w β L k v wr) (hx : Ext wr wa) : TS bc R K C s1 s2 w β L k v wa :=
  ⟨own_ext h.own hx, heap_keepE hx h.bad, heap_keepE hx h.a, heap_keepE hx h.b, heap_keepE hx h.res, heap_keepE hx h.out, h.gx.ext hx⟩
theorem TS.gx2 {bc s : Nat} {R K C : Int} {s1 s2 : Value} {w : World} {β β' : Bool} {L : List Int} {k : Nat} {v : Value} {wr wa : World} (h : TS bc R K C s1 s2 w β L k v wr) (hlt : bc < w.heap.size) (hs : w.heap.size + 3 < s) (hv : ∀ g, v.ownBlock = some g → s ≠ g) (hg : GX [bc, s] wr wa)
    (hb : wa.heap[bc]? = some (.cells #[.bool β'] 84 (0, 0))) : TS bc R K C s1 s2 w β' L k v wa := by
  have hl := h.lt
  refine ⟨own_gx2 h.own hg (fun k hk g hgg => ?_), hb, (hg.heap (by omega) (by simp; omega)).trans h.a, (hg.heap (by omega) (by simp; omega)).trans h.b, (hg.heap (by omega) (by simp; omega)).trans h.res, (hg.heap (by omega) (by simp; omega)).trans h.out, h.gx.join hg (by simp; omega)⟩
  have := (h.own.lt g hgg).1
  simp at hk
  rcases hk with rfl | rfl
  · omega
  · exact hv g hgg
theorem TS.step {bc : Nat} {R K C : Int} {s1 s2 : Value} {w : World} {β : Bool} {L L' : List Int} {k k' : Nat} {v v' : Value} {wr wa wb : World} (h : TS bc R K C s1 s2 w β L k v wr) (hlt : bc < w.heap.size) (hx : Ext wr wa) (hg : wa.grownBy wb v.ownBlock) (hown : wb.ownsRow (w.heap.size + 4) 34 5 v' k' (IL L')) :
    TS bc R K C s1 s2 w β L' k' v' (wb.setCell ⟨w.heap.size + 3, 2, none⟩ v') := by
  have hl := h.lt
  have hs := hx.size
  have hb : ∀ j, v.ownBlock = some j → w.heap.size + 4 ≤ j := fun j hj => (h.own.lt j hj).1
  have far : ∀ {q : Nat} {o : Obj}, q < w.heap.size + 4 → q ≠ w.heap.size + 3 → wr.heap[q]? = some o → (wb.setCell ⟨w.heap.size + 3, 2, none⟩ v').heap[q]? = some o := fun hq hne ho =>
    heap_set_ne (by simpa using hne) ((hg.block _ (by omega) (fun e => by have := hb _ e.symm; omega)).trans ((hx.heap (by omega)).trans ho))
  refine ⟨own_set hown (by simp) _, far (by omega) (by omega) h.bad, far (by omega) (by omega) h.a, far (by omega) (by omega) h.b, far (by omega) (by omega) h.res, ?_, ?_⟩
  · exact heap_set_at ((hg.block _ (by omega) (fun e => by have := hb _ e.symm; omega)).trans ((hx.heap (by omega)).trans h.out)) 2 v'
  · have g1 : GX [bc] w wb := (h.gx.ext hx).join (S' := match v.ownBlock with | some g => [g] | none => []) ⟨hg.os, hg.tape, hg.output, hg.size, fun q hq hn => hg.block q hq (fun e => hn (by rw [← e]; simp))⟩ (fun x hx => by
      cases hv : v.ownBlock with
      | none => rw [hv] at hx; simp at hx
      | some g => rw [hv] at hx; simp at hx; subst hx; have := hb _ hv; right; omega)
    exact g1.setCell (.inr (by simp)) _

theorem mmTo_succ (xs ys : List Int) (K C i j : Nat) (hj : j < C) : mmTo xs ys K C (i * C + j + 1) = (mmTo xs ys K C (i * C + j) && mlO xs ys K C i j K) := by
  obtain ⟨q1, q2⟩ := pair_div (i := i) hj
  show (_ && mlO xs ys K C ((i * C + j) / C) ((i * C + j) % C) K) = _
  rw [q1, q2]
  rfl
theorem mmTo_bad {xs ys : List Int} {R K C i j : Nat} (hi : i < R) (hj : j < C) (h : mlO xs ys K C i j K = false) : mmTo xs ys K C (R * C) = false := by
  refine allTo_false (k := i * C + j) ?_ (row_lt hi hj)
  obtain ⟨q1, q2⟩ := pair_div (i := i) hj
  show mlO xs ys K C ((i * C + j) / C) ((i * C + j) % C) K = false
  rw [q1, q2]
  exact h
theorem mmLM_succ (xs ys : List Int) (K C i j : Nat) (hj : j < C) {Z : R4} {z : Int} (h : mcV xs ys K C i j = (Z, z)) : mmLM xs ys K C (i * C + j + 1) = mmLM xs ys K C (i * C + j) ++ [Z.a, Z.b, Z.c, Z.d, z] := by
  obtain ⟨q1, q2⟩ := pair_div (i := i) hj
  show _ ++ [(mcV xs ys K C ((i * C + j) / C) ((i * C + j) % C)).1.a, (mcV xs ys K C ((i * C + j) / C) ((i * C + j) % C)).1.b, (mcV xs ys K C ((i * C + j) / C) ((i * C + j) % C)).1.c, (mcV xs ys K C ((i * C + j) / C) ((i * C + j) % C)).1.d, (mcV xs ys K C ((i * C + j) / C) ((i * C + j) % C)).2] = _
  rw [q1, q2, h]
  rfl

end Go.Proofs.Ytnlhonlfkmpleaa
