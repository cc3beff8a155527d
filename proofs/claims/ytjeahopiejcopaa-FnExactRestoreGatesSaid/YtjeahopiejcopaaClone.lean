/- Copies of slices of ints; the exchange of two nodes. -/
import Derived.Test.YtjeahopiejcopaaNodes
import Derived.Lib.SliceRun
namespace Go.Proofs.Ytjeahopiejcopaa
open Go.RowKit Go.Lib
set_option linter.unusedVariables false
set_option linter.unusedSimpArgs false

theorem own_some {w : World} {base g n cap : Nat} {e : TypeId} {k : Nat} {xs : List Value} (h : w.ownsRow base e k (.slice (some ⟨g, 0, none⟩) n cap) n xs) : base ≤ g ∧ g < w.heap.size ∧ (∀ j u, xs[j]? = some u → w.cell? ⟨g, j, none⟩ = some u) := by
  refine ⟨(h.lt g rfl).1, (h.lt g rfl).2, fun j u hu => ?_⟩
  have := h.cells (g := g) rfl j u hu
  rwa [show (⟨g, 0, none⟩ : Addr).add j = ⟨g, j, none⟩ by unfold Addr.add; split <;> simp_all] at this

set_option maxRecDepth 20000 in
set_option maxHeartbeats 1000000 in
theorem l1Own_any {b n : Nat} {v : Value} {xs : List Int} (hl : xs.length = n * 1) (hn : n ≤ 2000000) (w : World) (h : w.ownsRow b 3 1 v n (IL xs)) :
    Calls Try.prog 69 #[v] w fun e w' => ∃ v', e = .returned v' ∧ w'.ownsRow w.heap.size 3 1 v' n (IL xs) ∧ Ext w w' := by
  obtain ⟨i0, hi, iz0, iz1, iz2⟩ := info_parts info_int
  rcases h.2 with ⟨rfl, rfl⟩ | ⟨g, cap, cur, rfl, _⟩
  · have hx : IL xs = [] := List.eq_nil_of_length_eq_zero (by rw [il_length]; omega)
    rw [hx]
    have HO : Hid ((w.alloc (.cells #[] 3)).ownsRow w.heap.size 3 1 (.slice (some ⟨w.heap.size, 0, none⟩) 0 0) 0 []) := World.ownsRow_lit _ _ 0 (Nat.le_refl _) (by decide) rfl
    clear h
    go_enter Try.func69, Try.ntmps69
    go_wp2_with (at_builtin; refine wpList_append_own_none rfl _ _ _ rfl w.heap.size 3 i0 1 Try.underlying33 hi _ 0 [] (by rfl) HO.out (by rfl) ?_)
    go_ret
    exact ⟨_, rfl, HO.out, (by repeat (first | exact Ext.refl _ | assumption | refine Ext.alloc ?_ _ | refine Ext.drew ?_ | refine Ext.drewN ?_ _ | refine Ext.setCell ?_ (by first | omega | (dsimp only; omega) | (simp; done) | (simp; omega)) _ | refine Ext.trans ?_ (by assumption)))⟩
  · obtain ⟨_, o2, o3⟩ := own_some h
    have O3 := Lib.hid o3
    have HL : Hid ((IL xs).length = n * 1) := by unfold Hid; rw [il_length]; exact hl
    have HO : Hid ((w.alloc (.cells #[] 3)).ownsRow w.heap.size 3 1 (.slice (some ⟨w.heap.size, 0, none⟩) 0 0) 0 []) := World.ownsRow_lit _ _ 0 (Nat.le_refl _) (by decide) rfl
    clear h o3
    go_enter Try.func69, Try.ntmps69
    go_wp2_with (at_builtin; go_loud (refine wpList_append_own _ rfl _ _ _ rfl w.heap.size 3 i0 (.int .i64 0) 1 8 Try.underlying33 hi iz0 iz1 iz2 rfl (by decide) _ 0 [] (by rfl) HO.out ⟨g, 0, none⟩ n cap (IL xs) (by rfl) HL.out (fun j u hu => by rw [show (⟨g, 0, none⟩ : Addr).add j = ⟨g, j, none⟩ by unfold Addr.add; split <;> simp_all]; exact (((Ext.refl w).alloc _).cells.1 g j o2).trans (O3.out j u hu)) (fun u hu => by simp only [IL, List.mem_map] at hu; obtain ⟨x, _, rfl⟩ := hu; rfl) (by simp only [maxLen]; omega) (by omega) (by simp) ?_); intro v1 w1 hown1 hgrow1 hiff1)
    have hx1 : Ext w w1 := Ext.grown ((Ext.refl w).alloc _) hgrow1 fun k hk => (HO.out.lt k hk).1
    go_ret
    exact ⟨_, rfl, by simpa using hown1, hx1⟩

set_option maxRecDepth 20000 in
set_option maxHeartbeats 1000000 in
theorem clone_any {b n : Nat} {v : Value} {xs : List Int} (hl : xs.length = n * 1) (hn : n ≤ 2000000) (w : World) (h : w.ownsRow b 3 1 v n (IL xs)) :
    Calls Try.prog 72 #[v] w fun e w' => ∃ v', e = .returned v' ∧ w'.ownsRow w.heap.size 3 1 v' n (IL xs) ∧ Ext w w' := by
  obtain ⟨i0, hi, iz0, iz1, iz2⟩ := info_parts info_int
  rcases h.2 with ⟨rfl, rfl⟩ | ⟨g, cap, cur, rfl, _⟩
  · have heq : ∀ w, (binOp .eql 33 (.slice none 0 0) (.slice none 0 0)).run Try.prog w = .ok (.bool true) w := fun w => by simpa using run_eql_slice_nil w 33 3 none 0 0 0 0 Try.underlying33
    have hx : IL xs = [] := List.eq_nil_of_length_eq_zero (by rw [il_length]; omega)
    rw [hx]
    clear h
    go_enter Try.func72, Try.ntmps72
    go_wp2
    go_ret
    exact ⟨_, rfl, own_nil _ _ _ _, (by repeat (first | exact Ext.refl _ | assumption | refine Ext.alloc ?_ _ | refine Ext.drew ?_ | refine Ext.drewN ?_ _ | refine Ext.setCell ?_ (by first | omega | (dsimp only; omega) | (simp; done) | (simp; omega)) _ | refine Ext.trans ?_ (by assumption)))⟩
  · have heq : ∀ w, (binOp .eql 33 (.slice (some ⟨g, 0, none⟩) n cap) (.slice none 0 0)).run Try.prog w = .ok (.bool false) w := fun w => by simpa using run_eql_slice_nil w 33 3 (some ⟨g, 0, none⟩) n cap 0 0 Try.underlying33
    obtain ⟨_, o2, o3⟩ := own_some h
    have O3 := Lib.hid o3
    have HL : Hid ((IL xs).length = n * 1) := by unfold Hid; rw [il_length]; exact hl
    have HO : Hid ((w.alloc (.cells #[] 3)).ownsRow w.heap.size 3 1 (.slice (some ⟨w.heap.size, 0, none⟩) 0 0) 0 []) := World.ownsRow_lit _ _ 0 (Nat.le_refl _) (by decide) rfl
    clear h o3
    go_enter Try.func72, Try.ntmps72
    go_wp2_with (at_builtin; go_loud (refine wpList_append_own _ rfl _ _ _ rfl w.heap.size 3 i0 (.int .i64 0) 1 8 Try.underlying33 hi iz0 iz1 iz2 rfl (by decide) _ 0 [] (by rfl) HO.out ⟨g, 0, none⟩ n cap (IL xs) (by rfl) HL.out (fun j u hu => by rw [show (⟨g, 0, none⟩ : Addr).add j = ⟨g, j, none⟩ by unfold Addr.add; split <;> simp_all]; exact (((Ext.refl w).alloc _).cells.1 g j o2).trans (O3.out j u hu)) (fun u hu => by simp only [IL, List.mem_map] at hu; obtain ⟨x, _, rfl⟩ := hu; rfl) (by simp only [maxLen]; omega) (by omega) (by simp) ?_); intro v1 w1 hown1 hgrow1 hiff1)
    have hx1 : Ext w w1 := Ext.grown ((Ext.refl w).alloc _) hgrow1 fun k hk => (HO.out.lt k hk).1
    go_ret
    exact ⟨_, rfl, by simpa using hown1, hx1⟩

end Go.Proofs.Ytjeahopiejcopaa
