/- slices.Sort and slices.Compact at []int (the layings: written by the kit's laying, wip/lay2.py; their numbers are of this seat). -/
import Derived.Shelf.Sort.Plain
import Derived.Shelf.Slices.CompactI
import Derived.Shelf.Slices.In.SortNone
import Derived.Sort.OwnSortedInts
import Derived.Test.YtjeahopiejcopaaRows
import Derived.Test.YtjeahopiejcopaaCatI
namespace Go.Proofs.Ytjeahopiejcopaa
open Go.Shelf Go.Proofs

def laySort_ren : Go.Shelf.Ren := ⟨fun | 189 => 143 | 125 => 151 | 257 => 150 | 128 => 163 | 129 => 164 | 294 => 154 | 295 => 155 | 296 => 156 | 297 => 157 | 298 => 158 | 299 => 159 | 216 => 160 | 300 => 161 | 301 => 162 | 328 => 165 | 329 => 166 | 330 => 167 | 331 => 168 | 332 => 169 | 215 => 170 | 343 => 171 | n => n, fun | 28 => 33 | 3 => 3 | 46 => 164 | 0 => 0 | 51 => 190 | 53 => 141 | 4 => 4 | 183 => 184 | 182 => 183 | 131 => 103 | 5 => 5 | 9 => 9 | 218 => 192 | 222 => 196 | 228 => 198 | 229 => 154 | n => n, fun | n => n⟩
theorem laySort : Go.Proofs.Lays.n189 Try.prog laySort_ren := {
  mixed := by kernel_rfl
  f125 := Try.func151.trans (congrArg some (by kernel_rfl))
  f128 := Try.func163.trans (congrArg some (by kernel_rfl))
  f129 := Try.func164.trans (congrArg some (by kernel_rfl))
  f189 := Try.func143.trans (congrArg some (by kernel_rfl))
  f215 := Try.func170.trans (congrArg some (by kernel_rfl))
  f216 := Try.func160.trans (congrArg some (by kernel_rfl))
  f257 := Try.func150.trans (congrArg some (by kernel_rfl))
  f294 := Try.func154.trans (congrArg some (by kernel_rfl))
  f295 := Try.func155.trans (congrArg some (by kernel_rfl))
  f296 := Try.func156.trans (congrArg some (by kernel_rfl))
  f297 := Try.func157.trans (congrArg some (by kernel_rfl))
  f298 := Try.func158.trans (congrArg some (by kernel_rfl))
  f299 := Try.func159.trans (congrArg some (by kernel_rfl))
  f300 := Try.func161.trans (congrArg some (by kernel_rfl))
  f301 := Try.func162.trans (congrArg some (by kernel_rfl))
  f328 := Try.func165.trans (congrArg some (by kernel_rfl))
  f329 := Try.func166.trans (congrArg some (by kernel_rfl))
  f330 := Try.func167.trans (congrArg some (by kernel_rfl))
  f331 := Try.func168.trans (congrArg some (by kernel_rfl))
  f332 := Try.func169.trans (congrArg some (by kernel_rfl))
  f343 := Try.func171.trans (congrArg some (by kernel_rfl))
  t0 := Try.underlying0
  a0 := Try.isAgg0
  z0 := Try.sizeOf0
  v0 := Try.zeroValue0
  t3 := Try.underlying3
  a3 := Try.isAgg3
  z3 := Try.sizeOf3
  v3 := Try.zeroValue3
  t4 := Try.underlying4
  a4 := Try.isAgg4
  z4 := Try.sizeOf4
  v4 := Try.zeroValue4
  t5 := Try.underlying5
  a5 := Try.isAgg5
  z5 := Try.sizeOf5
  v5 := Try.zeroValue5
  t9 := Try.underlying9
  a9 := Try.isAgg9
  z9 := Try.sizeOf9
  v9 := Try.zeroValue9
  t28 := Try.underlying33
  a28 := Try.isAgg33
  z28 := Try.sizeOf33
  v28 := Try.zeroValue33
  t46 := Try.underlying164
  a46 := Try.isAgg164
  z46 := Try.sizeOf164
  v46 := Try.zeroValue164
  t51 := Try.underlying190
  a51 := Try.isAgg190
  z51 := Try.sizeOf190
  v51 := Try.zeroValue190
  t53 := Try.underlying141
  a53 := Try.isAgg141
  z53 := Try.sizeOf141
  v53 := Try.zeroValue141
  t131 := Try.underlying103
  a131 := Try.isAgg103
  z131 := Try.sizeOf103
  v131 := Try.zeroValue103
  t182 := Try.underlying183
  a182 := Try.isAgg183
  z182 := Try.sizeOf183
  v182 := Try.zeroValue183
  t183 := Try.underlying184
  a183 := Try.isAgg184
  z183 := Try.sizeOf184
  v183 := Try.zeroValue184
  t218 := Try.underlying192
  a218 := Try.isAgg192
  z218 := Try.sizeOf192
  v218 := Try.zeroValue192
  t222 := Try.underlying196
  a222 := Try.isAgg196
  z222 := Try.sizeOf196
  v222 := Try.zeroValue196
  t228 := Try.underlying198
  a228 := Try.isAgg198
  z228 := Try.sizeOf198
  v228 := Try.zeroValue198
  t229 := Try.underlying154
  a229 := Try.isAgg154
  z229 := Try.sizeOf154
  v229 := Try.zeroValue154 }

def layCompact_ren : Go.Shelf.Ren := ⟨fun | 20 => 144 | n => n, fun | 22 => 33 | 3 => 3 | 4 => 4 | 0 => 0 | n => n, fun | n => n⟩
theorem layCompact : Go.Proofs.Lays2.n20 Try.prog layCompact_ren := {
  mixed := by kernel_rfl
  f20 := Try.func144.trans (congrArg some (by kernel_rfl))
  t0 := Try.underlying0
  a0 := Try.isAgg0
  z0 := Try.sizeOf0
  v0 := Try.zeroValue0
  t3 := Try.underlying3
  a3 := Try.isAgg3
  z3 := Try.sizeOf3
  v3 := Try.zeroValue3
  t4 := Try.underlying4
  a4 := Try.isAgg4
  z4 := Try.sizeOf4
  v4 := Try.zeroValue4
  t22 := Try.underlying33
  a22 := Try.isAgg33
  z22 := Try.sizeOf33
  v22 := Try.zeroValue33
  i3 := by kernel_rfl }


open Go.RowKit Go.Lib Go.Sort
set_option linter.unusedVariables false
set_option linter.unusedSimpArgs false

theorem compact_len (zs : List Int) : (Lib.compact zs).length ≤ zs.length := by
  unfold Lib.compact compactUpTo
  rw [List.length_map]
  exact Nat.le_trans (List.length_filter_le _ _) (by simp)

theorem sortI_any {base : Nat} {v : Value} {xs : List Int} (w : World) (hn : xs.length ≤ 8000000) (h : w.ownsRow base 3 1 v xs.length (IL xs)) :
    Calls Try.prog 143 #[v] w fun e w' => e = .returned (.tuple #[]) ∧ w'.ownsRow base 3 1 v xs.length (IL (xs.mergeSort fun x y => decide (x ≤ y))) ∧ w.grownBy w' v.ownBlock := by
  rcases h.2 with ⟨rfl, h0⟩ | ⟨g, cap, cur, rfl, hb, hg, h1, h2, h3, h4⟩
  · have e : xs = [] := List.eq_nil_of_length_eq_zero h0
    subst e
    have := calls_of_every_depth fun D => AnyS.slices_Sort_int_none_in laySort D none 0 w
    refine Calls.mono this ?_
    rintro e w' ⟨rfl, rfl⟩
    refine ⟨rfl, ?_, World.grownBy.refl _ _⟩
    simpa [IL] using own_nil _ _ _ _
  · have := Any.slices_Sort_int laySort g 0 cap xs w (holds_of_blockI hg (by simpa [IL] using h4)) (Array.getElem?_eq_some_iff.1 hg).1 (by omega)
    refine Calls.mono this ?_
    rintro e w' ⟨rfl, n, os, rfl⟩
    exact ⟨rfl, ownsRow_sortedI (by simp) hb hg h1 h2 h3, grownBy_sortedI _⟩

theorem compactI_any {base : Nat} {v : Value} {zs : List Int} (w : World) (hn : zs.length ≤ 8000000) (h : w.ownsRow base 3 1 v zs.length (IL zs)) :
    Calls Try.prog 144 #[v] w fun e w' => ∃ v', e = .returned v' ∧ w'.ownsRow base 3 1 v' (Lib.compact zs).length (IL (Lib.compact zs)) ∧ w.grownBy w' v.ownBlock := by
  rcases h.2 with ⟨rfl, h0⟩ | ⟨g, cap, cur, rfl, hb, hg, h1, h2, h3, h4⟩
  · have e : zs = [] := List.eq_nil_of_length_eq_zero h0
    subst e
    refine Calls.mono (Any.slices_Compact_int_empty layCompact none 0 w) ?_
    rintro e w' ⟨rfl, rfl⟩
    exact ⟨_, rfl, by simpa [IL, Lib.compact, compactUpTo] using own_nil _ _ _ _, World.grownBy.refl _ _⟩
  · refine Calls.mono (Any.slices_Compact_int layCompact g 0 cap zs w (holds_of_blockI hg (by simpa [IL] using h4)) (by omega) h1) ?_
    rintro e w' ⟨rfl, q, rfl⟩
    have hl := compact_len zs
    refine ⟨_, rfl, ?_, ?_⟩
    · have hh := heap_sortedI (n := q) (os := #[]) (Lib.compact zs ++ List.replicate (zs.length - (Lib.compact zs).length) 0).toArray hg
      rw [grow_empty] at hh
      refine ⟨by simp [IL], .inr ⟨g, cap, _, rfl, hb, hh, by omega, h2, by simp [putCells, h3], ?_⟩⟩
      have ht := take_putCellsI cur (Lib.compact zs ++ List.replicate (zs.length - (Lib.compact zs).length) 0) (by simp; omega)
      have := congrArg (List.take (Lib.compact zs).length) ht
      rw [List.take_take, Nat.min_eq_left (by simp)] at this
      rw [Nat.mul_one, this]
      simp [IL]
    · have := grownBy_sortedI (w := w) (g := g) (n := q) (os := #[]) (Lib.compact zs ++ List.replicate (zs.length - (Lib.compact zs).length) 0).toArray
      rw [grow_empty] at this
      exact this

end Go.Proofs.Ytjeahopiejcopaa
