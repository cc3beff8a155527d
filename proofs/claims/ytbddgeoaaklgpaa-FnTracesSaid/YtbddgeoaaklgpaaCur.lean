/- The cursor over the bytes of a draw: each step gives some number in a range. -/
import Derived.Test.YtbddgeoaaklgpaaRows
import Derived.Test.YtbddgeoaaklgpaaBase
import Derived.Test.YtbddgeoaaklgpaaMade
import Derived.Deep.QuietTactic
import Derived.Laws.BitsLemmas
import Derived.Test.YtbddgeoaaklgpaaRow
import Derived.Deep.Slices
namespace Go.Proofs.Ytbddgeoaaklgpaa
open Go.RowKit Go.Lib
set_option linter.unusedVariables false
set_option linter.unusedSimpArgs false

/-- n bytes, in memory ahead of the block B -/
def BY (B : Nat) (w : World) (v : Value) (n : Nat) : Prop := ∃ (a : Option Addr) (cap : Nat), v = .slice a n cap ∧ n ≤ cap ∧ cap ≤ maxLen ∧
  (0 < n → ∃ b off, a = some ⟨b, off, none⟩ ∧ b < B ∧ ∀ i, i < n → ∃ y : Int, w.cell? ⟨b, off + i, none⟩ = some (.int .u8 y) ∧ 0 ≤ y ∧ y ≤ 255)
/-- the cursor in the block B -/
def CU (B : Nat) (v : Value) (n : Nat) (at' : Int) (w : World) : Prop := BY B w v n ∧ ∃ s : Int, w.heap[B]? = some (.cells #[v, .int .i64 at', .int .u64 s] 77 (0, 0))
theorem BY.gx {S : List Nat} {B : Nat} {w w' : World} {v : Value} {n : Nat} (h : BY B w v n) (hB : B ≤ w.heap.size) (hg : GX S w w') (hS : ∀ k, k ∈ S → B ≤ k) : BY B w' v n := by
  obtain ⟨a, cap, h1, h2, h3, h4⟩ := h
  refine ⟨a, cap, h1, h2, h3, fun h0 => ?_⟩
  obtain ⟨b, off, e, hb, hc⟩ := h4 h0
  refine ⟨b, off, e, hb, fun i hi => ?_⟩
  obtain ⟨y, hy, hy2⟩ := hc i hi
  exact ⟨y, (hg.cell b (off + i) (by omega) (fun hm => by have := hS b hm; omega)).trans hy, hy2⟩

theorem cu_close {B n : Nat} {v : Value} {at' : Int} {w w' : World} (hby : BY B w v n) (hl : B < w.heap.size) (hg : GX [B] w w') (h : ∃ s : Int, w'.heap[B]? = some (.cells #[v, .int .i64 at', .int .u64 s] 77 (0, 0))) :
    w.grownBy w' (some B) ∧ CU B v n at' w' := ⟨hg.toGrown, hby.gx (by omega) hg (by simp), h⟩
theorem wraps_u64 (n : Int) (h₀ : 0 ≤ n) (h₁ : n < 2 ^ 64) : IntKind.u64.wrap n = n := by
  have : (2 : Int) ^ 64 = 18446744073709551616 := by decide
  simp [IntKind.wrap, IntKind.bits, IntKind.signed]
  omega
theorem u64_rng (n : Int) : 0 ≤ IntKind.u64.wrap n ∧ IntKind.u64.wrap n < 18446744073709551616 := by
  simp [IntKind.wrap, IntKind.bits, IntKind.signed]
  omega
theorem low_byte (e : Int) : 0 ≤ wrap64 (bits BinOp.and IntKind.u64 (IntKind.u64.wrap e / 1099511627776) 255) ∧ wrap64 (bits BinOp.and IntKind.u64 (IntKind.u64.wrap e / 1099511627776) 255) ≤ 255 := by
  have h := u64_rng e
  have e64 : (2 : Int) ^ 64 = 18446744073709551616 := by decide
  have h2 := bits_mask .u64 64 (by decide) wraps_u64 8 (by decide) (IntKind.u64.wrap e / 1099511627776) (by omega) (by omega)
  rw [show ((2 : Int) ^ 8 - 1) = 255 by decide, show ((2 : Int) ^ 8) = 256 by decide] at h2
  rw [h2]
  generalize IntKind.u64.wrap e / 1099511627776 = x at *
  have h3 : wrap64 (x % 256) = x % 256 := by
    unfold wrap64
    omega
  rw [h3]
  omega

set_option maxHeartbeats 1000000 in
theorem next_any (B : Nat) (v : Value) (n : Nat) (at' : Int) (w : World) (h : CU B v n at' w) (ha : 0 ≤ at' ∧ at' ≤ 1000000000) :
    Calls Try.prog 63 #[.pointer (some ⟨B, 0, none⟩)] w fun e w' => ∃ y : Int, e = .returned (.int .i64 y) ∧ 0 ≤ y ∧ y ≤ 255 ∧ w.grownBy w' (some B) ∧ CU B v n (at' + 1) w' := by
  obtain ⟨hby, s, hB⟩ := h
  have HBY := Lib.hid hby
  have HB := Lib.hid hB
  have hl : B < w.heap.size := (Array.getElem?_eq_some_iff.1 hB).1
  obtain ⟨a, cap, rfl, h2, h3, h4⟩ := hby
  have hcc : ∀ k, w.cell? ⟨B, k, none⟩ = (#[.slice a n cap, .int .i64 at', .int .u64 s] : Array Value)[k]? := fun k => cell_of_row _ _ _ _ _ _ hB
  have hff : ∀ k, w.frozen? ⟨B, k, none⟩ = false := fun k => frozen_of_row _ _ _ _ _ hB
  clear hB
  by_cases h0 : at' < n
  · obtain ⟨b, off, rfl, hb, hc⟩ := h4 (by omega)
    obtain ⟨y, hy, hy1, hy2⟩ := hc at'.toNat (by omega)
    clear hc h4
    go_enter Try.func63, Try.ntmps63
    go_wp2
    go_quiet (fail)
    go_wp2
    go_quiet (fail)
    go_wp2
    go_quiet (fail)
    go_wp2
    go_ret
    refine ⟨y, rfl, hy1, hy2, cu_close HBY.out hl ?_ ⟨_, heap_set_at (heap_set_at HB.out 1 _) 2 _⟩⟩
    exact (by repeat (first | (with_reducible refine GX.setCell ?_ (by first | (simp; done) | (simp; omega)) _) | with_reducible refine GX.alloc ?_ _ | with_reducible refine GX.drew ?_ | with_reducible refine GX.drewN ?_ _ | with_reducible assumption | with_reducible exact GX.refl _ _ | with_reducible refine GX.ext ?_ (by with_reducible assumption) | with_reducible refine GX.trans ?_ (by with_reducible assumption)))
  · go_enter Try.func63, Try.ntmps63
    go_wp2
    go_quiet (fail)
    go_wp2
    go_quiet (fail)
    go_wp2
    go_ret
    refine ⟨_, rfl, (low_byte _).1, (low_byte _).2, cu_close HBY.out hl ?_ ⟨_, heap_set_at (heap_set_at HB.out 1 _) 2 _⟩⟩
    exact (by repeat (first | (with_reducible refine GX.setCell ?_ (by first | (simp; done) | (simp; omega)) _) | with_reducible refine GX.alloc ?_ _ | with_reducible refine GX.drew ?_ | with_reducible refine GX.drewN ?_ _ | with_reducible assumption | with_reducible exact GX.refl _ _ | with_reducible refine GX.ext ?_ (by with_reducible assumption) | with_reducible refine GX.trans ?_ (by with_reducible assumption)))

/-- pick: a number below m (zero where there is none) -/
theorem pick_any (B : Nat) (v : Value) (n : Nat) (at' m : Int) (w : World) (h : CU B v n at' w) (ha : 0 ≤ at' ∧ at' ≤ 900000000) (hm : m ≤ 65536) :
    Calls Try.prog 39 #[.pointer (some ⟨B, 0, none⟩), .int .i64 m] w fun e w' => ∃ y at2 : Int, e = .returned (.int .i64 y) ∧ 0 ≤ y ∧ (y < m ∨ y = 0) ∧ at' ≤ at2 ∧ at2 ≤ at' + 2 ∧ w.grownBy w' (some B) ∧ CU B v n at2 w' := by
  have HC := Lib.hid h
  have hl : B < w.heap.size := (Array.getElem?_eq_some_iff.1 h.2.choose_spec).1
  clear h
  by_cases h1 : m ≤ 1
  · go_enter Try.func39, Try.ntmps39
    go_wp2
    go_ret
    exact ⟨0, at', rfl, by omega, .inr rfl, by omega, by omega, World.grownBy.refl w _, HC.out⟩
  · have hN := fun w' a (hc : CU B v n a w') (hb : 0 ≤ a ∧ a ≤ 1000000000) => Lib.hid (next_any B v n a w' hc hb)
    by_cases h2 : 200 < m
    · go_enter Try.func39, Try.ntmps39
      go_wp2_with fail
      refine ((hN _ _ HC.out (by omega)).out).mono ?_
      rintro e w1 ⟨y, rfl, hy1, hy2, hg1, hc1⟩
      have HC1 := Lib.hid hc1
      have HG1 := Lib.hid hg1
      clear hc1 hg1
      go_wp2_with fail
      refine ((hN _ _ HC1.out (by omega)).out).mono ?_
      rintro e w2 ⟨z, rfl, hz1, hz2, hg2, hc2⟩
      have HC2 := Lib.hid hc2
      have HG2 := Lib.hid hg2
      clear hc2 hg2
      go_wp2
      go_ret
      refine ⟨_, at' + 1 + 1, rfl, ?_, .inl ?_, by omega, by omega, ?_, HC2.out⟩
      · exact Int.emod_nonneg _ (by omega)
      · exact Int.emod_lt_of_pos _ (by omega)
      · exact ((GX.ofGrown HG1.out).trans (GX.ofGrown HG2.out)).toGrown
    · go_enter Try.func39, Try.ntmps39
      go_wp2_with fail
      refine ((hN _ _ HC.out (by omega)).out).mono ?_
      rintro e w1 ⟨y, rfl, hy1, hy2, hg1, hc1⟩
      have HC1 := Lib.hid hc1
      have HG1 := Lib.hid hg1
      clear hc1 hg1
      go_wp2
      go_ret
      refine ⟨_, at' + 1, rfl, ?_, .inl ?_, by omega, by omega, HG1.out, HC1.out⟩
      · exact Int.emod_nonneg _ (by omega)
      · exact Int.emod_lt_of_pos _ (by omega)

theorem one_any (B : Nat) (v : Value) (n : Nat) (at' m : Int) (w : World) (h : CU B v n at' w) (ha : 0 ≤ at' ∧ at' ≤ 900000000) (hm : m ≤ 65536) :
    Calls Try.prog 36 #[.pointer (some ⟨B, 0, none⟩), .int .i64 m] w fun e w' => ∃ (y : Bool) (at2 : Int), e = .returned (.bool y) ∧ at' ≤ at2 ∧ at2 ≤ at' + 2 ∧ w.grownBy w' (some B) ∧ CU B v n at2 w' := by
  have HP := Lib.hid (pick_any B v n at' m w h ha hm)
  clear h
  go_enter Try.func36, Try.ntmps36
  go_wp2_with fail
  refine HP.out.mono ?_
  rintro e w1 ⟨y, a2, rfl, hy1, hy2, hb1, hb2, hg1, hc1⟩
  have HC1 := Lib.hid hc1
  have HG1 := Lib.hid hg1
  clear hc1 hg1 hy2
  go_wp2
  go_ret
  exact ⟨_, a2, rfl, hb1, hb2, HG1.out, HC1.out⟩

/-- an element of a list that is not empty -/
theorem among_any (B : Nat) (v : Value) (n : Nat) (at' : Int) (w : World) (h : CU B v n at' w) (ha : 0 ≤ at' ∧ at' ≤ 900000000) (b k cap : Nat) (xs : List Int) (hk : 0 < k) (hk2 : k ≤ 1000) (hb : b ≠ B) (hbl : b < w.heap.size)
    (hx : ∀ i, i < k → w.cell? ⟨b, i, none⟩ = some (.int .i64 (xs.getD i 0))) :
    Calls Try.prog 62 #[.pointer (some ⟨B, 0, none⟩), .slice (some ⟨b, 0, none⟩) k cap] w fun e w' => ∃ (i : Nat) (at2 : Int), i < k ∧ e = .returned (.int .i64 (xs.getD i 0)) ∧ at' ≤ at2 ∧ at2 ≤ at' + 2 ∧ w.grownBy w' (some B) ∧ CU B v n at2 w' := by
  have HP := Lib.hid (pick_any B v n at' k w h ha (by omega))
  have HX := Lib.hid hx
  clear h hx
  go_enter Try.func62, Try.ntmps62
  go_wp2_with fail
  refine HP.out.mono ?_
  rintro e w1 ⟨y, a2, rfl, hy1, hy2, hb1, hb2, hg1, hc1⟩
  have HC1 := Lib.hid hc1
  have HG1 := Lib.hid hg1
  have hy3 : y < k := by omega
  have hz : w1.cell? ⟨b, y.toNat, none⟩ = some (.int .i64 (xs.getD y.toNat 0)) := ((GX.ofGrown hg1).cell b _ hbl (by simpa using hb)).trans (HX.out _ (by omega))
  clear hc1 hg1 hy2
  go_wp2
  go_ret
  exact ⟨y.toNat, a2, by omega, rfl, hb1, hb2, HG1.out, HC1.out⟩


open Go.RowKit Go.Lib
set_option linter.unusedVariables false
set_option linter.unusedSimpArgs false

theorem lit_cells {w : World} {t : TypeId} (xs : List Int) : ∀ i, i < xs.length → (w.alloc (.cells (xs.map (Value.int .i64)).toArray t)).cell? ⟨w.heap.size, i, none⟩ = some (.int .i64 (xs.getD i 0)) := by
  intro i hi
  rw [World.cell?_alloc_at _ _ _ _ rfl]
  simp [hi]
/-- a cursor that was made -/
theorem cu_new {w : World} {v : Value} {n : Nat} (h : BY w.heap.size w v n) : CU w.heap.size v n 0 (w.alloc (.cells #[v, .int .i64 0, .int .u64 0] 77)) :=
  ⟨h.gx (Nat.le_refl _) (GX.ofExt (S := []) ((Ext.refl w).alloc _)) (by simp), 0, heap_alloc_new _ _⟩
theorem BY.later {w w' : World} {v : Value} {n : Nat} (h : BY w.heap.size w v n) (hx : Ext w w') : BY w'.heap.size w' v n := by
  obtain ⟨a, cap, h1, h2, h3, h4⟩ := h.gx (Nat.le_refl _) (GX.ofExt (S := []) hx) (by simp)
  refine ⟨a, cap, h1, h2, h3, fun h0 => ?_⟩
  obtain ⟨b, off, e, hb, hc⟩ := h4 h0
  exact ⟨b, off, e, by have := hx.size; omega, hc⟩
theorem CU.keep {B : Nat} {v : Value} {n : Nat} {a : Int} {w w' : World} (h : CU B v n a w) (hx : Ext w w') : CU B v n a w' := by
  obtain ⟨h1, s, h2⟩ := h
  have hl := (Array.getElem?_eq_some_iff.1 h2).1
  exact ⟨h1.gx (by omega) (GX.ofExt (S := []) hx) (by simp), s, (hx.heap hl).trans h2⟩
theorem CU.lt {B : Nat} {v : Value} {n : Nat} {a : Int} {w : World} (h : CU B v n a w) : B < w.heap.size := by
  obtain ⟨_, s, h2⟩ := h
  exact (Array.getElem?_eq_some_iff.1 h2).1


open Go.RowKit Go.Deep
set_option linter.unusedVariables false

variable {P : Program}
theorem by_of_shape {w : World} {m : Nat} {t e : TypeId} {v : Value} (ht : P.underlying t = some (.slice e)) (he : P.underlying e = some (.int .u8)) (hk : P.cellsOf e = 1) (hs : Shape P w m t [v]) : ∃ n, BY w.heap.size w v n := by
  cases m with
  | zero => exact hs.elim
  | succ m =>
    unfold Shape at hs
    rw [ht] at hs
    rcases hs with h | ⟨a, len, cap, h, h1, h2, h3⟩
    · injection h with h _
      subst h
      exact ⟨0, none, 0, rfl, Nat.le_refl _, Nat.zero_le _, fun h => absurd h (by omega)⟩
    · injection h with h _
      subst h
      have hcell : ∀ j, j < len → ∃ y : Int, w.cell? (a.add j) = some (.int .u8 y) ∧ 0 ≤ y ∧ y ≤ 255 := by
        intro j hj
        obtain ⟨ecs, e1, e2⟩ := h3 j hj
        rw [hk] at e1
        cases m with
        | zero => exact e2.elim
        | succ m =>
          unfold Shape at e2
          rw [he] at e2
          obtain ⟨y, rfl, hw⟩ := e2
          obtain ⟨_, _, e3⟩ := World.cells?_some e1
          have e4 := e3 0 (by omega)
          refine ⟨y, ?_, ?_⟩
          · rw [Nat.mul_one] at e4
            have : (a.add j).add 0 = a.add j := by unfold Addr.add; split <;> simp_all
            rw [this] at e4
            exact e4
          · simp only [Lit.wf, Bool.and_eq_true, decide_eq_true_eq, show IntKind.u8.min = 0 by decide, show IntKind.u8.max = 255 by decide] at hw
            exact hw
      refine ⟨len, some a, cap, rfl, h1, h2, fun hp => ?_⟩
      obtain ⟨y0, h0, _⟩ := hcell 0 hp
      have hadd0 : a.add 0 = a := by unfold Addr.add; simp
      rw [hadd0] at h0
      have hsp : a.spot = none := by
        unfold World.cell? at h0
        split at h0
        · split at h0
          · cases h0
          · rename_i hn; simpa using hn
        · cases h0
      obtain ⟨b, off, sp⟩ := a
      simp only at hsp
      subst hsp
      refine ⟨b, off, rfl, lt_of_cell h0, fun i hi => ?_⟩
      have := hcell i hi
      rwa [show (⟨b, off, none⟩ : Addr).add i = ⟨b, off + i, none⟩ by unfold Addr.add; split <;> simp_all] at this
theorem BY.noarg {w : World} {v : Value} {n : Nat} (h : BY w.heap.size w v n) : ∃ a cap, v = .slice a n cap := by
  obtain ⟨a, cap, h, _⟩ := h
  exact ⟨a, cap, h⟩

end Go.Proofs.Ytbddgeoaaklgpaa
