/- CandidatesFor: the reference's insertion. -/
import Derived.Test.YtbffcpnpdpgfeaaCdI
import Derived.Deep.RegionHeld3
namespace Go.Proofs.Ytbffcpnpdpgfeaa
open Go.RowKit Go.Lib
set_option linter.unusedVariables false
set_option linter.unusedSimpArgs false

theorem put_list {c : Cx} {L : List Q4} {u : Q4} {k : Nat} (hk : k ≤ L.length) (hpw : L.Pairwise (So.Lt c.key lx)) (hlx : ∀ y ∈ L, lx y u) (h1 : ∀ y ∈ L.drop k, c.key u < c.key y) (h2 : ∀ (h : 0 < k), ¬ c.key u < c.key (L[k - 1]'(by omega))) :
    (L.take k ++ u :: L.drop k).Pairwise (So.Lt c.key lx) ∧ (∀ z, z ∈ L.take k ++ u :: L.drop k ↔ z ∈ L ∨ z = u) ∧ (L.take k ++ u :: L.drop k).length = L.length + 1 := by
  refine ⟨pw_insert (by rw [List.take_append_drop]; exact hpw) (fun y hy => ?_) (fun y hy => .inl (h1 y hy)), fun z => ?_, ?_⟩
  · have hyL := List.mem_of_mem_take hy
    obtain ⟨i, hi, rfl⟩ := List.getElem_of_mem hy
    rw [List.length_take] at hi
    have hk0 : 0 < k := by omega
    have hle := h2 hk0
    have hki : c.key (L.take k)[i] ≤ c.key (L[k - 1]'(by omega)) := by
      rw [List.getElem_take]
      rcases Nat.lt_or_ge i (k - 1) with h4 | h4
      · have := List.pairwise_iff_getElem.1 hpw i (k - 1) (by omega) (by omega) h4
        rcases this with h | ⟨h, _⟩ <;> omega
      · have e : i = k - 1 := by omega
        subst e
        exact Int.le_refl _
    exact So.lt_no (hlx _ hyL) (by omega)
  · rw [List.mem_append, List.mem_cons]
    constructor
    · rintro (h | rfl | h)
      · exact .inl (List.mem_of_mem_take h)
      · exact .inr rfl
      · exact .inl (List.mem_of_mem_drop h)
    · rintro (h | rfl)
      · rw [← List.take_append_drop k L, List.mem_append] at h
        rcases h with h | h
        · exact .inl h
        · exact .inr (.inr h)
      · exact .inr (.inl rfl)
  · simp only [List.length_append, List.length_cons, List.length_take, List.length_drop]
    omega
theorem fl4_take (L : List Q4) : ∀ k, (fl4 L).take (k * 4) = fl4 (L.take k) := by
  induction L with
  | nil => intro k; simp [fl4]
  | cons x L ih =>
    intro k
    cases k with
    | zero => simp [fl4]
    | succ k =>
      have e : (k + 1) * 4 = k * 4 + 1 + 1 + 1 + 1 := by omega
      rw [e]
      simp only [fl4, List.flatMap_cons, List.cons_append, List.nil_append, List.take_succ_cons] at ih ⊢
      rw [ih k]
theorem fl4_drop (L : List Q4) : ∀ k, (fl4 L).drop (k * 4) = fl4 (L.drop k) := by
  induction L with
  | nil => intro k; simp [fl4]
  | cons x L ih =>
    intro k
    cases k with
    | zero => simp [fl4]
    | succ k =>
      have e : (k + 1) * 4 = k * 4 + 1 + 1 + 1 + 1 := by omega
      rw [e]
      simp only [fl4, List.flatMap_cons, List.cons_append, List.nil_append, List.drop_succ_cons] at ih ⊢
      exact ih k
theorem fl4_get {L : List Q4} : ∀ {j : Nat} (h : j < L.length), (IL (fl4 L))[j * 4]? = some (.int .i64 L[j].a) ∧ (IL (fl4 L))[j * 4 + 1]? = some (.int .i64 L[j].b) ∧ (IL (fl4 L))[j * 4 + 2]? = some (.int .i64 L[j].c) ∧ (IL (fl4 L))[j * 4 + 3]? = some (.int .i64 L[j].d) := by
  induction L with
  | nil => intro j h; simp at h
  | cons x L ih =>
    intro j h
    cases j with
    | zero => simp [fl4, IL]
    | succ j =>
      have hj : j < L.length := by simpa using h
      obtain ⟨h1, h2, h3, h4⟩ := ih hj
      have e : (j + 1) * 4 = j * 4 + 1 + 1 + 1 + 1 := by omega
      have e2 : ∀ q, (IL (fl4 (x :: L)))[q + 1 + 1 + 1 + 1]? = (IL (fl4 L))[q]? := fun q => by simp [fl4, IL]
      simp only [List.getElem_cons_succ]
      refine ⟨?_, ?_, ?_, ?_⟩
      · rw [e, e2]; exact h1
      · rw [e, show j * 4 + 1 + 1 + 1 + 1 + 1 = (j * 4 + 1) + 1 + 1 + 1 + 1 by omega, e2]; exact h2
      · rw [e, show j * 4 + 1 + 1 + 1 + 1 + 2 = (j * 4 + 2) + 1 + 1 + 1 + 1 by omega, e2]; exact h3
      · rw [e, show j * 4 + 1 + 1 + 1 + 1 + 3 = (j * 4 + 3) + 1 + 1 + 1 + 1 by omega, e2]; exact h4

set_option maxHeartbeats 2000000 in
theorem l27Left_any (c : Cx) (hk : 0 ≤ c.k ∧ c.k ≤ 8) (u : Q4) (hu : smq u ≤ c.pw) (w : World) :
    Calls Try.prog 48 #[.agg #[.int .i64 u.a, .int .i64 u.b, .int .i64 u.c, .int .i64 u.d], .int .i64 c.k] w fun e w' => e = .returned (.agg #[.int .i64 (c.pw - smq u), .int .i64 (-(sqV u.a u.b u.c u.d))]) ∧ Ext w w' := by
  have hp := pw_bd hk
  have h256 : smq u ≤ 256 := by omega
  obtain ⟨a, b, c', d⟩ := sqU_small (a := u.a) (b := u.b) (c := u.c) (d := u.d) h256
  have hv := sqV_small h256
  have hn := smq_nn u
  have hrg : Rg u.a u.b u.c u.d = true := Rg_mk (by omega)
  have HA := fun w' => Lib.hid (l1Abs_any u.a u.b u.c u.d hrg w')
  rw [show sqU u.a u.b u.c u.d = smq u from rfl] at HA
  have hpow : (2 : Int) ^ c.k.toNat = c.pw := rfl
  generalize smq u = S at *
  generalize sqV u.a u.b u.c u.d = V at *
  generalize c.pw = P at *
  generalize c.k = k at *
  clear a b c' d hrg h256
  obtain ⟨a, b, c, d⟩ := u
  dsimp only at *
  go_enter Try.func48, Try.ntmps48
  go_wp2_with fail
  refine ((HA _).out).mono ?_
  rintro e w1 ⟨rfl, hx1⟩
  obtain ⟨hc1, hf1⟩ := hx1.cells
  have hz1 := hx1.size
  try simp at hz1
  have hs1_0 := sz2 (a := w.heap.size) (b := w1.heap.size) (by omega)
  go_wp2
  refine bodyPost_ret (v := .agg #[.int .i64 (P - S), .int .i64 (-V)]) (by simp [results, Try.results48, go_sem, *]) rfl ?_
  exact ⟨rfl, (by repeat (first | (with_reducible refine Ext.setCell ?_ (by first | (simp; done) | (simp; omega)) _) | with_reducible refine Ext.alloc ?_ _ | with_reducible refine Ext.drew ?_ | with_reducible refine Ext.drewN ?_ _ | with_reducible assumption | with_reducible exact Ext.refl _ | with_reducible refine Ext.trans ?_ (by with_reducible assumption)))⟩

end Go.Proofs.Ytbffcpnpdpgfeaa
