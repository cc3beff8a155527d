/- Folding: the gates of a rotation. -/
import Derived.Test.YtbddgeoaaklgpaaRoL
import Derived.Test.YtbddgeoaaklgpaaFm
import Derived.Test.YtbddgeoaaklgpaaMade
import Derived.Deep.Cut
import Derived.Deep.CutRange
import Derived.Deep.CutBlock
namespace Go.Proofs.Ytbddgeoaaklgpaa
open Go.RowKit Go.Lib
set_option linter.unusedVariables false
set_option linter.unusedSimpArgs false

theorem elt_FG : Elt Try.prog 23 47 3 24 := elt_of (z := .agg #[.int .i64 0, .int .i64 0, .int .i64 0]) Try.underlying23 (by kernel_rfl) rfl (by decide) (by decide)

/-- the world behind the table of kinds -/
def rotW (w : World) (T : TypeId) : World := (((((((w.alloc (.cells #[.int .i64 7] 3 (0, 0))).alloc (.cells #[.int .i64 5] 3 (0, 0))).alloc (.cells #[.int .i64 5, .int .i64 7] 3 (0, 0))).alloc (.cells #[.int .i64 4] 3 (0, 0))).alloc (.cells #[.int .i64 4, .int .i64 7] 3 (0, 0))).alloc (.cells #[.int .i64 6] 3 (0, 0))).alloc (.cells #[.int .i64 8] 3 (0, 0))).alloc (.cells #[.slice none 0 0, .slice (some ⟨w.heap.size, 0, none⟩) 1 1, .slice (some ⟨w.heap.size + 1, 0, none⟩) 1 1, .slice (some ⟨w.heap.size + 1 + 1, 0, none⟩) 2 2, .slice (some ⟨w.heap.size + 1 + 1 + 1, 0, none⟩) 1 1, .slice (some ⟨w.heap.size + 1 + 1 + 1 + 1, 0, none⟩) 2 2, .slice (some ⟨w.heap.size + 1 + 1 + 1 + 1 + 1, 0, none⟩) 1 1, .slice (some ⟨w.heap.size + 1 + 1 + 1 + 1 + 1 + 1, 0, none⟩) 1 1] T (0, 0))
theorem rotW_ext (w : World) (T : TypeId) : Ext w (rotW w T) := by
  unfold rotW
  exact ((((((((Ext.refl w).alloc _).alloc _).alloc _).alloc _).alloc _).alloc _).alloc _).alloc _
theorem rotW_cell (w : World) (T : TypeId) (c : Nat) (hc : c < 8) : ∃ ak cap, (rotW w T).cell? ⟨w.heap.size + 1 + 1 + 1 + 1 + 1 + 1 + 1, c, none⟩ = some (.slice ak (rotK c).length cap) ∧ RV (rotW w T) 1 (.slice ak (rotK c).length cap) (rotK c).length (rotK c) := by
  have h8 : (rotW w T).heap[w.heap.size + 1 + 1 + 1 + 1 + 1 + 1 + 1]? = some (.cells #[.slice none 0 0, .slice (some ⟨w.heap.size, 0, none⟩) 1 1, .slice (some ⟨w.heap.size + 1, 0, none⟩) 1 1, .slice (some ⟨w.heap.size + 1 + 1, 0, none⟩) 2 2, .slice (some ⟨w.heap.size + 1 + 1 + 1, 0, none⟩) 1 1, .slice (some ⟨w.heap.size + 1 + 1 + 1 + 1, 0, none⟩) 2 2, .slice (some ⟨w.heap.size + 1 + 1 + 1 + 1 + 1, 0, none⟩) 1 1, .slice (some ⟨w.heap.size + 1 + 1 + 1 + 1 + 1 + 1, 0, none⟩) 1 1] T (0, 0)) := by
    unfold rotW
    exact heap_alloc_at _ _ _ (by simp)
  have z := fun k => cell_of_row _ _ k _ _ _ h8
  have h0 : (rotW w T).heap[w.heap.size]? = some (.cells #[.int .i64 7] 3 (0, 0)) := by
    unfold rotW
    repeat (first | exact heap_alloc_at _ _ _ (by simp) | refine heap_alloc_lt ?_)
  have h1 : (rotW w T).heap[w.heap.size + 1]? = some (.cells #[.int .i64 5] 3 (0, 0)) := by
    unfold rotW
    repeat (first | exact heap_alloc_at _ _ _ (by simp) | refine heap_alloc_lt ?_)
  have h2 : (rotW w T).heap[w.heap.size + 1 + 1]? = some (.cells #[.int .i64 5, .int .i64 7] 3 (0, 0)) := by
    unfold rotW
    repeat (first | exact heap_alloc_at _ _ _ (by simp) | refine heap_alloc_lt ?_)
  have h3 : (rotW w T).heap[w.heap.size + 1 + 1 + 1]? = some (.cells #[.int .i64 4] 3 (0, 0)) := by
    unfold rotW
    repeat (first | exact heap_alloc_at _ _ _ (by simp) | refine heap_alloc_lt ?_)
  have h4 : (rotW w T).heap[w.heap.size + 1 + 1 + 1 + 1]? = some (.cells #[.int .i64 4, .int .i64 7] 3 (0, 0)) := by
    unfold rotW
    repeat (first | exact heap_alloc_at _ _ _ (by simp) | refine heap_alloc_lt ?_)
  have h5 : (rotW w T).heap[w.heap.size + 1 + 1 + 1 + 1 + 1]? = some (.cells #[.int .i64 6] 3 (0, 0)) := by
    unfold rotW
    repeat (first | exact heap_alloc_at _ _ _ (by simp) | refine heap_alloc_lt ?_)
  have h6 : (rotW w T).heap[w.heap.size + 1 + 1 + 1 + 1 + 1 + 1]? = some (.cells #[.int .i64 8] 3 (0, 0)) := by
    unfold rotW
    repeat (first | exact heap_alloc_at _ _ _ (by simp) | refine heap_alloc_lt ?_)
  have hcs : c = 0 ∨ c = 1 ∨ c = 2 ∨ c = 3 ∨ c = 4 ∨ c = 5 ∨ c = 6 ∨ c = 7 := by omega
  rcases hcs with rfl | rfl | rfl | rfl | rfl | rfl | rfl | rfl
  · exact ⟨none, 0, z 0, ⟨rfl, none, 0, rfl, by decide, by decide, fun h => absurd h (by decide)⟩⟩
  · exact ⟨_, 1, z 1, rv_heap h0 rfl rfl (by decide) (by decide)⟩
  · exact ⟨_, 1, z 2, rv_heap h1 rfl rfl (by decide) (by decide)⟩
  · exact ⟨_, 2, z 3, rv_heap h2 rfl rfl (by decide) (by decide)⟩
  · exact ⟨_, 1, z 4, rv_heap h3 rfl rfl (by decide) (by decide)⟩
  · exact ⟨_, 2, z 5, rv_heap h4 rfl rfl (by decide) (by decide)⟩
  · exact ⟨_, 1, z 6, rv_heap h5 rfl rfl (by decide) (by decide)⟩
  · exact ⟨_, 1, z 7, rv_heap h6 rfl rfl (by decide) (by decide)⟩

def rotP (a : Int) (ks : List Int) (i : Nat) : List Int := (ks.take i).flatMap fun k => [k, a, 0]
theorem rotP_succ {a : Int} {ks : List Int} {i : Nat} (h : i < ks.length) : rotP a ks (i + 1) = rotP a ks i ++ [at3 ks i, a, 0] := by
  unfold rotP
  rw [List.take_add_one, List.getElem?_eq_getElem h, List.flatMap_append]
  have : at3 ks i = ks[i] := by simp [at3, List.getD_eq_getElem?_getD, h]
  rw [this]
  simp
theorem rotP_all (a : Int) (c : Nat) : rotP a (rotK c) (rotK c).length = rotL a c := by unfold rotP rotL; rw [List.take_length]

set_option maxRecDepth 20000 in
set_option maxHeartbeats 4000000 in
theorem rotation_any (a : Int) (c : Nat) (hc : c < 8) (w : World) :
    Calls Try.prog 25 #[.int .i64 a, .int .i64 c] w fun e w' => ∃ v, e = .returned v ∧ w'.ownsRow w.heap.size 47 3 v (rotK c).length (IL (rotL a c)) ∧ Ext w w' := by
  obtain ⟨ak, cap, hz, hrv⟩ := rotW_cell w 90 c hc
  have HRA := Lib.hid (rotP_all a c)
  have hl2 := rotK_len c
  have HXW := Lib.hid (rotW_ext w 90)
  have hlz := lt_of_cell hz
  obtain ⟨W, hW⟩ : ∃ x, x = rotW w 90 := ⟨_, rfl⟩
  rw [← hW] at hz hrv HXW hlz
  unfold rotW at hW
  have hsW := HXW.out.size
  obtain ⟨hrl, akk, capp, ee, r1, r2, rH⟩ := hrv
  injection ee with ee1 _ ee3
  subst ee1 ee3
  have HL := Lib.hid hrl
  have HH := Lib.hid rH
  clear hrl rH
  generalize rotK c = ks at *
  generalize hm : ks.length = m at *
  have hzW : (W.alloc (.cells #[] 47 (0, 0))).cell? ⟨w.heap.size + 1 + 1 + 1 + 1 + 1 + 1 + 1, c, none⟩ = some (.slice ak m cap) := (((Ext.refl W).alloc (.cells #[] 47 (0, 0))).cells.1 _ _ hlz).trans hz
  have hc' : (c : Int) < 8 := by omega
  go_enter Try.func25, Try.ntmps25
  go_upto_region 2 with fail
  rw [← hW]
  clear hW
  go_wp2_with fail
  go_loopw [6, 8, 22] (fun u6 u8 u22 wr => ∃ i : Nat, i ≤ m ∧ u22 = .int .i64 i ∧ Hid (wr.ownsRow W.heap.size 47 3 u6 i (IL (rotP a ks i))) ∧ Ext W wr) (fun _ _ u22 _ => m - (intOf u22).toNat)
  case atStart => exact ⟨0, by omega, rfl, Lib.hid (World.ownsRow_lit W #[] 0 (Nat.le_refl _) (by decide) rfl), (Ext.refl _).alloc _⟩
  case round =>
    obtain ⟨i, hi, rfl, HO, hE⟩ := hrel
    have HE := Lib.hid hE
    have hsr := hE.size
    obtain ⟨av, cv, rfl, _, _, _⟩ := own_shape HO.out
    by_cases hlt : i < m
    · have hlt' : (i : Int) < m := by omega
      obtain ⟨b, off, rfl, hbk, hcell⟩ := HH.out (by omega)
      have hbr : b < wr.heap.size := by omega
      have z0 : wr.cell? ⟨b, off + i, none⟩ = some (.int .i64 (at3 ks i)) := (hE.cells.1 b (off + i) hbk).trans (hcell _ _ (at3_get (by omega)))
      have HP : Hid (IL (rotP a ks (i + 1)) = IL (rotP a ks i) ++ IL [at3 ks i, a, 0]) := by rw [rotP_succ (by omega)]; exact Lib.hid (il_append _ _)
      clear hcell hE
      generalize at3 ks i = k at *
      have hxx := (Ext.refl wr).alloc (.cells #[.int .i64 k, .int .i64 a, .int .i64 0] 47 (0, 0))
      have HXX := Lib.hid hxx
      have HO3 := Lib.hid (own_ext HO.out hxx)
      have HM3 := Lib.hid (heap_alloc_new wr (.cells #[.int .i64 k, .int .i64 a, .int .i64 0] 47 (0, 0)))
      have hb0 : W.heap.size ≤ (wr.alloc (.cells #[.int .i64 k, .int .i64 a, .int .i64 0] 47 (0, 0))).heap.size := Nat.le_trans hsr hxx.size
      clear hxx
      go_upto_region 7 with (at_builtin; go_loud (refine wpList_append_rvt (base := W.heap.size) rfl elt_FG rfl (.slice av i cv) i (rotP a ks i) rfl HO3.out _ 1 [k, a, 0] rfl (rv_heap HM3.out rfl rfl (by omega) (by decide)) (by omega) hb0 ?_); intro v5 w5 hown5 hgrow5 hiff5 hloc5)
      have HE5 := Lib.hid (ext_grownB (HE.out.trans HXX.out) hgrow5 HO3.out (Nat.le_refl _))
      rw [il_append, ← HP.out] at hown5
      have HO5 := Lib.hid hown5
      clear hown5 hgrow5 hiff5 hloc5
      go_wp2
      go_roundw
      case rel => exact ⟨i + 1, by omega, by go_num, HO5, HE5.out⟩
      case measure => simp [intOf]; omega
    · obtain rfl : i = m := by omega
      have HO6 := HO.out
      rw [HRA.out] at HO6
      have HO7 := Lib.hid (own_base HO6 (base' := w.heap.size) hsW)
      have HX7 := Lib.hid (HXW.out.trans HE.out)
      clear HO6 hE
      go_wp2
      go_ret
      exact ⟨_, rfl, HO7.out, HX7.out⟩

set_option maxRecDepth 20000 in
set_option maxHeartbeats 4000000 in
theorem s_rotation_any (a : Int) (c : Nat) (hc : c < 8) (w : World) :
    Calls Try.prog 30 #[.int .i64 a, .int .i64 c] w fun e w' => ∃ v, e = .returned v ∧ w'.ownsRow w.heap.size 47 3 v (rotK c).length (IL (rotL a c)) ∧ Ext w w' := by
  obtain ⟨ak, cap, hz, hrv⟩ := rotW_cell w 53 c hc
  have HRA := Lib.hid (rotP_all a c)
  have hl2 := rotK_len c
  have HXW := Lib.hid (rotW_ext w 53)
  have hlz := lt_of_cell hz
  have hz2 : (#[.slice none 0 0, .slice (some ⟨w.heap.size, 0, none⟩) 1 1, .slice (some ⟨w.heap.size + 1, 0, none⟩) 1 1, .slice (some ⟨w.heap.size + 1 + 1, 0, none⟩) 2 2, .slice (some ⟨w.heap.size + 1 + 1 + 1, 0, none⟩) 1 1, .slice (some ⟨w.heap.size + 1 + 1 + 1 + 1, 0, none⟩) 2 2, .slice (some ⟨w.heap.size + 1 + 1 + 1 + 1 + 1, 0, none⟩) 1 1, .slice (some ⟨w.heap.size + 1 + 1 + 1 + 1 + 1 + 1, 0, none⟩) 1 1] : Array Value)[c]? = some (.slice ak (rotK c).length cap) := by
    rw [← hz]
    exact (cell_of_row _ _ c _ 53 (0, 0) (by unfold rotW; exact heap_alloc_at _ _ _ (by simp))).symm
  have hz4 : ([.slice none 0 0, .slice (some ⟨w.heap.size, 0, none⟩) 1 1, .slice (some ⟨w.heap.size + 1, 0, none⟩) 1 1, .slice (some ⟨w.heap.size + 1 + 1, 0, none⟩) 2 2, .slice (some ⟨w.heap.size + 1 + 1 + 1, 0, none⟩) 1 1, .slice (some ⟨w.heap.size + 1 + 1 + 1 + 1, 0, none⟩) 2 2, .slice (some ⟨w.heap.size + 1 + 1 + 1 + 1 + 1, 0, none⟩) 1 1, .slice (some ⟨w.heap.size + 1 + 1 + 1 + 1 + 1 + 1, 0, none⟩) 1 1] : List Value)[c]? = some (.slice ak (rotK c).length cap) := (List.getElem?_toArray ..).symm.trans hz2
  have hz3 : ∀ h : c < ([.slice none 0 0, .slice (some ⟨w.heap.size, 0, none⟩) 1 1, .slice (some ⟨w.heap.size + 1, 0, none⟩) 1 1, .slice (some ⟨w.heap.size + 1 + 1, 0, none⟩) 2 2, .slice (some ⟨w.heap.size + 1 + 1 + 1, 0, none⟩) 1 1, .slice (some ⟨w.heap.size + 1 + 1 + 1 + 1, 0, none⟩) 2 2, .slice (some ⟨w.heap.size + 1 + 1 + 1 + 1 + 1, 0, none⟩) 1 1, .slice (some ⟨w.heap.size + 1 + 1 + 1 + 1 + 1 + 1, 0, none⟩) 1 1] : List Value).length, ([.slice none 0 0, .slice (some ⟨w.heap.size, 0, none⟩) 1 1, .slice (some ⟨w.heap.size + 1, 0, none⟩) 1 1, .slice (some ⟨w.heap.size + 1 + 1, 0, none⟩) 2 2, .slice (some ⟨w.heap.size + 1 + 1 + 1, 0, none⟩) 1 1, .slice (some ⟨w.heap.size + 1 + 1 + 1 + 1, 0, none⟩) 2 2, .slice (some ⟨w.heap.size + 1 + 1 + 1 + 1 + 1, 0, none⟩) 1 1, .slice (some ⟨w.heap.size + 1 + 1 + 1 + 1 + 1 + 1, 0, none⟩) 1 1] : List Value)[c]'h = .slice ak (rotK c).length cap := fun h => (List.getElem?_eq_some_iff.1 hz4).2
  clear hz2 hz4
  obtain ⟨W, hW⟩ : ∃ x, x = rotW w 53 := ⟨_, rfl⟩
  rw [← hW] at hz hrv HXW hlz
  unfold rotW at hW
  have hsW := HXW.out.size
  obtain ⟨hrl, akk, capp, ee, r1, r2, rH⟩ := hrv
  injection ee with ee1 _ ee3
  subst ee1 ee3
  have HL := Lib.hid hrl
  have HH := Lib.hid rH
  clear hrl rH
  generalize rotK c = ks at *
  generalize hm : ks.length = m at *
  have hc' : (c : Int) < 8 := by omega
  clear hz
  go_enter Try.func30, Try.ntmps30
  go_wp2_with fail
  rw [← hW]
  clear hW hz3
  go_loopw [5, 7, 20] (fun u5 u7 u20 wr => ∃ i : Nat, i ≤ m ∧ u20 = .int .i64 i ∧ Hid (wr.ownsRow W.heap.size 47 3 u5 i (IL (rotP a ks i))) ∧ Ext W wr) (fun _ _ u20 _ => m - (intOf u20).toNat)
  case atStart => exact ⟨0, by omega, rfl, Lib.hid (own_nil _ _ _ _), Ext.refl _⟩
  case round =>
    obtain ⟨i, hi, rfl, HO, hE⟩ := hrel
    have HE := Lib.hid hE
    have hsr := hE.size
    obtain ⟨av, cv, rfl, _, _, _⟩ := own_shape HO.out
    by_cases hlt : i < m
    · have hlt' : (i : Int) < m := by omega
      obtain ⟨b, off, rfl, hbk, hcell⟩ := HH.out (by omega)
      have hbr : b < wr.heap.size := by omega
      have z0 : wr.cell? ⟨b, off + i, none⟩ = some (.int .i64 (at3 ks i)) := (hE.cells.1 b (off + i) hbk).trans (hcell _ _ (at3_get (by omega)))
      have HP : Hid (IL (rotP a ks (i + 1)) = IL (rotP a ks i) ++ IL [at3 ks i, a, 0]) := by rw [rotP_succ (by omega)]; exact Lib.hid (il_append _ _)
      clear hcell hE
      generalize at3 ks i = k at *
      have hxx := (Ext.refl wr).alloc (.cells #[.int .i64 k, .int .i64 a, .int .i64 0] 47 (0, 0))
      have HXX := Lib.hid hxx
      have HO3 := Lib.hid (own_ext HO.out hxx)
      have HM3 := Lib.hid (heap_alloc_new wr (.cells #[.int .i64 k, .int .i64 a, .int .i64 0] 47 (0, 0)))
      have hb0 : W.heap.size ≤ (wr.alloc (.cells #[.int .i64 k, .int .i64 a, .int .i64 0] 47 (0, 0))).heap.size := Nat.le_trans hsr hxx.size
      clear hxx
      go_upto_region 6 with (at_builtin; go_loud (refine wpList_append_rvt (base := W.heap.size) rfl elt_FG rfl (.slice av i cv) i (rotP a ks i) rfl HO3.out _ 1 [k, a, 0] rfl (rv_heap HM3.out rfl rfl (by omega) (by decide)) (by omega) hb0 ?_); intro v5 w5 hown5 hgrow5 hiff5 hloc5)
      have HE5 := Lib.hid (ext_grownB (HE.out.trans HXX.out) hgrow5 HO3.out (Nat.le_refl _))
      rw [il_append, ← HP.out] at hown5
      have HO5 := Lib.hid hown5
      clear hown5 hgrow5 hiff5 hloc5
      go_wp2
      go_roundw
      case rel => exact ⟨i + 1, by omega, by go_num, HO5, HE5.out⟩
      case measure => simp [intOf]; omega
    · obtain rfl : i = m := by omega
      have HO6 := HO.out
      rw [HRA.out] at HO6
      have HO7 := Lib.hid (own_base HO6 (base' := w.heap.size) hsW)
      have HX7 := Lib.hid (HXW.out.trans HE.out)
      clear HO6 hE
      go_wp2
      go_ret
      exact ⟨_, rfl, HO7.out, HX7.out⟩

end Go.Proofs.Ytbddgeoaaklgpaa
