/- Readable slices with a plain address; slices.Equal of gates. -/
import Derived.Test.YtchaanppoklapaaCatG
import Derived.Test.YtchaanppoklapaaCopy
namespace Go.Proofs.Ytchaanppoklapaa
open Go.RowKit Go.Lib
set_option linter.unusedVariables false
set_option linter.unusedSimpArgs false

/-- as RV, the address a plain one -/
def RVs (w : World) (k : Nat) (v : Value) (n : Nat) (xs : List Int) : Prop :=
  xs.length = n * k ∧ ((v = .slice none 0 0 ∧ n = 0) ∨ ∃ (b off cap : Nat), v = .slice (some ⟨b, off, none⟩) n cap ∧ n ≤ cap ∧ cap ≤ maxLen ∧ b < w.heap.size ∧ ∀ j u, (IL xs)[j]? = some u → w.cell? ⟨b, off + j, none⟩ = some u)
theorem RVs.rv {w : World} {k : Nat} {v : Value} {n : Nat} {xs : List Int} (h : RVs w k v n xs) : RV w k v n xs := by
  refine ⟨h.1, ?_⟩
  rcases h.2 with ⟨rfl, rfl⟩ | ⟨b, off, cap, rfl, h1, h2, h3, h4⟩
  · exact ⟨none, 0, rfl, Nat.le_refl _, Nat.zero_le _, fun h => absurd h (by omega)⟩
  · exact ⟨_, cap, rfl, h1, h2, fun _ => ⟨b, off, rfl, h3, h4⟩⟩
theorem RVs.ext {w w' : World} {k : Nat} {v : Value} {n : Nat} {xs : List Int} (h : RVs w k v n xs) (hx : Ext w w') : RVs w' k v n xs := by
  refine ⟨h.1, ?_⟩
  rcases h.2 with h | ⟨b, off, cap, rfl, h1, h2, h3, h4⟩
  · exact .inl h
  · exact .inr ⟨b, off, cap, rfl, h1, h2, by have := hx.size; omega, fun j u hu => (hx.cells.1 b (off + j) h3).trans (h4 j u hu)⟩
theorem RVs.own {w : World} {base : Nat} {e : TypeId} {k : Nat} {v : Value} {n : Nat} {xs : List Int} (h : w.ownsRow base e k v n (IL xs)) (hl : xs.length = n * k) : RVs w k v n xs := by
  refine ⟨hl, ?_⟩
  rcases h.2 with ⟨rfl, rfl⟩ | ⟨g, cap, cur, rfl, hb, hg, h1, h2, h3, h4⟩
  · exact .inl ⟨rfl, rfl⟩
  · refine .inr ⟨g, 0, cap, rfl, h1, h2, (Array.getElem?_eq_some_iff.1 hg).1, fun j u hu => ?_⟩
    have := h.cells (g := g) rfl j u hu
    rwa [show (⟨g, 0, none⟩ : Addr).add j = ⟨g, 0 + j, none⟩ by unfold Addr.add; split <;> simp_all] at this
/-- a part of it -/
theorem rv_part {w : World} {k n b off cap : Nat} {xs : List Int} (hl : xs.length = n * k) (hb : b < w.heap.size) (H : ∀ j u, (IL xs)[j]? = some u → w.cell? ⟨b, off + j, none⟩ = some u) (i m c : Nat) (him : i + m ≤ n) (hc : m ≤ c) (hm : c ≤ maxLen) :
    RV w k (.slice (some ⟨b, off + i * k, none⟩) m c) m ((xs.drop (i * k)).take (m * k)) := by
  have hik : i * k + m * k ≤ n * k := by rw [← Nat.add_mul]; exact Nat.mul_le_mul_right k him
  refine ⟨by simp; omega, _, c, rfl, hc, hm, fun hp => ⟨b, off + i * k, rfl, hb, fun j u hu => ?_⟩⟩
  have : (IL xs)[i * k + j]? = some u := by
    simp only [IL, List.map_take, List.map_drop] at hu ⊢
    rw [List.getElem?_take] at hu
    split at hu
    · rw [List.getElem?_drop] at hu; exact hu
    · cases hu
  have := H _ _ this
  rwa [← Nat.add_assoc] at this

theorem neq_gate (x0 x1 x2 y0 y1 y2 : Int) (w : World) : (binOp .neq 72 (.agg #[.int .i64 x0, .int .i64 x1, .int .i64 x2]) (.agg #[.int .i64 y0, .int .i64 y1, .int .i64 y2])).run Try.prog w = .ok (.bool (!((x0 == y0) && ((x1 == y1) && (x2 == y2))))) w := by
  by_cases h0 : x0 = y0
  · subst h0
    by_cases h1 : x1 = y1
    · subst h1
      by_cases h2 : x2 = y2
      · subst h2
        go_simp
      · go_simp
    · go_simp
  · go_simp
theorem eql_gate (x0 x1 x2 y0 y1 y2 : Int) (w : World) : (binOp .eql 72 (.agg #[.int .i64 x0, .int .i64 x1, .int .i64 x2]) (.agg #[.int .i64 y0, .int .i64 y1, .int .i64 y2])).run Try.prog w = .ok (.bool ((x0 == y0) && ((x1 == y1) && (x2 == y2)))) w := by
  by_cases h0 : x0 = y0
  · subst h0
    by_cases h1 : x1 = y1
    · subst h1
      by_cases h2 : x2 = y2
      · subst h2
        go_simp
      · go_simp
    · go_simp
  · go_simp

/-- gates are equal, one by one -/
def eqAt (xs ys : List Int) (j : Nat) : Bool := (at3 xs (j * 3) == at3 ys (j * 3)) && ((at3 xs (j * 3 + 1) == at3 ys (j * 3 + 1)) && (at3 xs (j * 3 + 2) == at3 ys (j * 3 + 2)))
def eqG (xs ys : List Int) (n : Nat) : Bool := allTo (eqAt xs ys) n

set_option maxHeartbeats 2000000 in
theorem equalG_any {v1 v2 : Value} {n m : Nat} {xs ys : List Int} (hn : n ≤ 2000000) (hm : m ≤ 2000000) (w : World) (h1 : RV w 3 v1 n xs) (h2 : RV w 3 v2 m ys) :
    Calls Try.prog 55 #[v1, v2] w fun e w' => e = .returned (.bool (decide (n = m) && eqG xs ys n)) ∧ Ext w w' := by
  obtain ⟨hlx, a1, cap1, rfl, c1, c2, H1⟩ := h1
  obtain ⟨hly, a2, cap2, rfl, c3, c4, H2⟩ := h2
  have HX := Lib.hid H1
  have HY := Lib.hid H2
  have HLX := Lib.hid hlx
  have HLY := Lib.hid hly
  clear H1 H2 hlx hly
  by_cases hnm : n = m
  case neg =>
    have hnm' : ¬ ((n : Int) = m) := by omega
    have HD : Hid (decide (n = m) = false) := by simp [Hid, hnm]
    clear hnm
    go_enter Try.func55, Try.ntmps55
    go_wp2
    go_ret
    rw [HD.out]
    exact ⟨rfl, (by repeat (first | exact Ext.refl _ | assumption | refine Ext.alloc ?_ _ | refine Ext.drew ?_ | refine Ext.drewN ?_ _ | refine Ext.setCell ?_ (by first | omega | (dsimp only; omega) | (simp; done) | (simp; omega)) _ | refine Ext.trans ?_ (by assumption)))⟩
  subst hnm
  go_enter Try.func55, Try.ntmps55
  go_wp2
  go_loopw [5, 13] (fun _ i wr => ∃ j : Nat, j ≤ n ∧ i = .int .i64 j ∧ Hid (eqG xs ys j = true) ∧ Ext w wr) (fun _ i _ => n - (intOf i).toNat)
  case atStart => exact ⟨0, by omega, rfl, rfl, (by repeat (first | exact Ext.refl _ | assumption | refine Ext.alloc ?_ _ | refine Ext.drew ?_ | refine Ext.drewN ?_ _ | refine Ext.setCell ?_ (by first | omega | (dsimp only; omega) | (simp; done) | (simp; omega)) _ | refine Ext.trans ?_ (by assumption)))⟩
  case round =>
    obtain ⟨j, hj, rfl, HO, hE⟩ := hrel
    by_cases hlt : j < n
    · have hlt' : (j : Int) < n := by omega
      have HS : Hid (eqG xs ys (j + 1) = (eqG xs ys j && ((at3 xs (j * 3) == at3 ys (j * 3)) && ((at3 xs (j * 3 + 1) == at3 ys (j * 3 + 1)) && (at3 xs (j * 3 + 2) == at3 ys (j * 3 + 2)))))) := rfl
      have HF : Hid (((at3 xs (j * 3) == at3 ys (j * 3)) && ((at3 xs (j * 3 + 1) == at3 ys (j * 3 + 1)) && (at3 xs (j * 3 + 2) == at3 ys (j * 3 + 2)))) = false → eqG xs ys n = false) := fun h => allTo_false (f := eqAt xs ys) h hlt
      obtain ⟨bx, offx, rfl, hbkx, hcellx⟩ := HX.out (by omega)
      have hbrx : bx < wr.heap.size := by have := hE.size; omega
      have zx0 : wr.cell? ⟨bx, offx + j * 3, none⟩ = some (.int .i64 (at3 xs (j * 3))) := (hE.cells.1 bx (offx + (j * 3)) hbkx).trans (hcellx _ _ (at3_get (by have := HLX.out; omega)))
      have zx1 : wr.cell? ⟨bx, offx + j * 3 + 1, none⟩ = some (.int .i64 (at3 xs (j * 3 + 1))) := (hE.cells.1 bx (offx + (j * 3 + 1)) hbkx).trans (hcellx _ _ (at3_get (by have := HLX.out; omega)))
      have zx2 : wr.cell? ⟨bx, offx + j * 3 + 2, none⟩ = some (.int .i64 (at3 xs (j * 3 + 2))) := (hE.cells.1 bx (offx + (j * 3 + 2)) hbkx).trans (hcellx _ _ (at3_get (by have := HLX.out; omega)))
      clear hcellx
      obtain ⟨bz, offz, rfl, hbkz, hcellz⟩ := HY.out (by omega)
      have hbrz : bz < wr.heap.size := by have := hE.size; omega
      have zz0 : wr.cell? ⟨bz, offz + j * 3, none⟩ = some (.int .i64 (at3 ys (j * 3))) := (hE.cells.1 bz (offz + (j * 3)) hbkz).trans (hcellz _ _ (at3_get (by have := HLY.out; omega)))
      have zz1 : wr.cell? ⟨bz, offz + j * 3 + 1, none⟩ = some (.int .i64 (at3 ys (j * 3 + 1))) := (hE.cells.1 bz (offz + (j * 3 + 1)) hbkz).trans (hcellz _ _ (at3_get (by have := HLY.out; omega)))
      have zz2 : wr.cell? ⟨bz, offz + j * 3 + 2, none⟩ = some (.int .i64 (at3 ys (j * 3 + 2))) := (hE.cells.1 bz (offz + (j * 3 + 2)) hbkz).trans (hcellz _ _ (at3_get (by have := HLY.out; omega)))
      clear hcellz
      generalize at3 xs (j * 3) = x0 at *
      generalize at3 xs (j * 3 + 1) = x1 at *
      generalize at3 xs (j * 3 + 2) = x2 at *
      generalize at3 ys (j * 3) = y0 at *
      generalize at3 ys (j * 3 + 1) = y1 at *
      generalize at3 ys (j * 3 + 2) = y2 at *
      have HE := Lib.hid hE
      have hneq := fun w => neq_gate x0 x1 x2 y0 y1 y2 w
      generalize hg : ((x0 == y0) && ((x1 == y1) && (x2 == y2))) = g at *
      clear hg
      go_wp2
      refine wp_region_madeC (m := 26) (by kernel_rfl) (by kernel_rfl) rfl (fun hxc => ?_)
      repeat (refine mw_quiet ?_; apply Exists.intro; refine ⟨fun σ => ?_, ?_⟩; (first | (go_simp; rfl) | fail); simp only [Act.put, List.setIfInBounds_toArray, List.set_cons_succ, List.set_cons_zero, List.nil_append, List.cons_append])
      refine ⟨by kernel_rfl, fun σ w2 hF2 => ?_⟩
      have hx2 := hF2.ext
      clear hF2 hxc
      obtain ⟨hc2, hf2⟩ := hx2.cells
      have hz2 := hx2.size
      try simp at hz2
      clear hneq
      cases g
      · go_wp2
        go_ret
        exact ⟨ret_bool (by simp [HF.out]), HE.out.trans hx2⟩
      · go_wp2
        go_roundw
        case rel => exact ⟨j + 1, by omega, by go_num, by unfold Hid; rw [HS.out, HO.out]; rfl, HE.out.trans hx2⟩
        case measure => simp [intOf]; omega
    · obtain rfl : j = n := by omega
      go_wp2
      go_ret
      rw [HO.out]
      exact ⟨ret_bool (by simp), hE⟩

end Go.Proofs.Ytchaanppoklapaa
