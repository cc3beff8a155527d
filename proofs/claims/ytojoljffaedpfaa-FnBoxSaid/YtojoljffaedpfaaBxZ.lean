/- Numbers of the ring sorted: slices.SortFunc with compareRings. -/
import Derived.Test.YtojoljffaedpfaaGrdY
import Derived.Test.YtojoljffaedpfaaBxL
import Derived.Test.YtojoljffaedpfaaOwn
import Derived.Test.YtojoljffaedpfaaSl
import Derived.Test.YtojoljffaedpfaaArg
namespace Go.Proofs.Ytojoljffaedpfaa
open Go.RowKit Go.Lib Go.Sort Go.Proofs
set_option linter.unusedVariables false
set_option linter.unusedSimpArgs false

/-- the first that is not zero of the comparisons -/
def cmZ (a b : Int) : Int := if a < b then -1 else if b < a then 1 else 0
def cmT (xs ys : List Int) : Nat → Int
  | 0 => 0
  | n + 1 => if cmT xs ys n = 0 then cmZ (at3 xs n) (at3 ys n) else cmT xs ys n
theorem cmT_keep {xs ys : List Int} {k : Nat} (h : cmT xs ys k ≠ 0) : ∀ d, cmT xs ys (k + d) = cmT xs ys k
  | 0 => rfl
  | d + 1 => by
    show (if cmT xs ys (k + d) = 0 then _ else cmT xs ys (k + d)) = _
    rw [cmT_keep h d, if_neg h]
theorem sgR_neg {n : Int} (h : n < 0) : sg n = -1 := by unfold sg; rw [if_pos h]
theorem sgR_pos {n : Int} (h : 0 < n) : sg n = 1 := by unfold sg; rw [if_neg (by omega), if_pos h]
theorem sgR_zero {n : Int} (h : n = 0) : sg n = 0 := by unfold sg; rw [if_neg (by omega), if_neg (by omega)]
theorem cmZ_ways (a b : Int) : (cmZ a b = -1 ∧ a < b) ∨ (cmZ a b = 1 ∧ b < a) ∨ (cmZ a b = 0 ∧ a = b) := by
  unfold cmZ
  by_cases h1 : a < b
  · rw [if_pos h1]; exact .inl ⟨rfl, h1⟩
  · rw [if_neg h1]
    by_cases h2 : b < a
    · rw [if_pos h2]; exact .inr (.inl ⟨rfl, h2⟩)
    · rw [if_neg h2]; exact .inr (.inr ⟨rfl, by omega⟩)
theorem cmT_ky {a b c d e f g h : Int} (hx : Bn4 (a, b, c, d)) (hy : Bn4 (e, f, g, h)) : cmT [a, b, c, d] [e, f, g, h] 4 = sg (kyR (a, b, c, d) - kyR (e, f, g, h)) := by
  have k1 : cmT [a, b, c, d] [e, f, g, h] 1 = cmZ a e := rfl
  have k2 : cmT [a, b, c, d] [e, f, g, h] 2 = if cmT [a, b, c, d] [e, f, g, h] 1 = 0 then cmZ b f else cmT [a, b, c, d] [e, f, g, h] 1 := rfl
  have k3 : cmT [a, b, c, d] [e, f, g, h] 3 = if cmT [a, b, c, d] [e, f, g, h] 2 = 0 then cmZ c g else cmT [a, b, c, d] [e, f, g, h] 2 := rfl
  have k4 : cmT [a, b, c, d] [e, f, g, h] 4 = if cmT [a, b, c, d] [e, f, g, h] 3 = 0 then cmZ d h else cmT [a, b, c, d] [e, f, g, h] 3 := rfl
  unfold Bn4 at hx hy
  simp only at hx hy
  have hk : kyR (a, b, c, d) - kyR (e, f, g, h) = (a - e) * 1000000000 + (b - f) * 1000000 + (c - g) * 1000 + (d - h) := by unfold kyR; simp only; omega
  rw [hk]
  clear hk
  rw [k1] at k2
  rcases cmZ_ways a e with ⟨z1, e1⟩ | ⟨z1, e1⟩ | ⟨z1, e1⟩
  · rw [z1, if_neg (by decide)] at k2
    rw [k2, if_neg (by decide)] at k3
    rw [k3, if_neg (by decide)] at k4
    rw [k4, sgR_neg (by omega)]
  · rw [z1, if_neg (by decide)] at k2
    rw [k2, if_neg (by decide)] at k3
    rw [k3, if_neg (by decide)] at k4
    rw [k4, sgR_pos (by omega)]
  rw [z1, if_pos rfl] at k2
  rw [k2] at k3
  rcases cmZ_ways b f with ⟨z2, e2⟩ | ⟨z2, e2⟩ | ⟨z2, e2⟩
  · rw [z2, if_neg (by decide)] at k3
    rw [k3, if_neg (by decide)] at k4
    rw [k4, sgR_neg (by omega)]
  · rw [z2, if_neg (by decide)] at k3
    rw [k3, if_neg (by decide)] at k4
    rw [k4, sgR_pos (by omega)]
  rw [z2, if_pos rfl] at k3
  rw [k3] at k4
  rcases cmZ_ways c g with ⟨z3, e3⟩ | ⟨z3, e3⟩ | ⟨z3, e3⟩
  · rw [z3, if_neg (by decide)] at k4
    rw [k4, sgR_neg (by omega)]
  · rw [z3, if_neg (by decide)] at k4
    rw [k4, sgR_pos (by omega)]
  rw [z3, if_pos rfl] at k4
  rw [k4]
  rcases cmZ_ways d h with ⟨z4, e4⟩ | ⟨z4, e4⟩ | ⟨z4, e4⟩
  · rw [z4, sgR_neg (by omega)]
  · rw [z4, sgR_pos (by omega)]
  · rw [z4, sgR_zero (by omega)]

theorem isNaNR_any (x : Int) (w : World) : Calls Try.prog 117 #[.int .i64 x] w fun en w' => en = .returned (.bool false) ∧ w = w' := by
  go_enter Try.func117, Try.ntmps117
  go_wp2
  go_ret
  exact ⟨rfl, rfl⟩
theorem cmpIntR_any (x y : Int) (w : World) : Calls Try.prog 103 #[.int .i64 x, .int .i64 y] w fun en w' => en = .returned (.int .i64 (cmZ x y)) ∧ w = w' := by
  have HC : Hid (cmZ x y = if x < y then -1 else if y < x then 1 else 0) := rfl
  have HN := fun x w' => Lib.hid (isNaNR_any x w')
  by_cases h1 : x < y
  · have HV : Hid (cmZ x y = -1) := HC.out.trans (if_pos h1)
    generalize cmZ x y = v at *
    obtain rfl := HV.out
    clear HC HV
    go_enter Try.func103, Try.ntmps103
    go_wp2_with fail
    refine ((HN _ _).out).mono ?_
    rintro e w' ⟨rfl, rfl⟩
    go_wp2_with fail
    refine ((HN _ _).out).mono ?_
    rintro e w' ⟨rfl, rfl⟩
    go_wp2
    go_ret
    exact ⟨rfl, rfl⟩
  by_cases h2 : y < x
  · have HV : Hid (cmZ x y = 1) := HC.out.trans ((if_neg h1).trans (if_pos h2))
    generalize cmZ x y = v at *
    obtain rfl := HV.out
    clear HC HV
    go_enter Try.func103, Try.ntmps103
    go_wp2_with fail
    refine ((HN _ _).out).mono ?_
    rintro e w' ⟨rfl, rfl⟩
    go_wp2_with fail
    refine ((HN _ _).out).mono ?_
    rintro e w' ⟨rfl, rfl⟩
    go_wp2
    go_ret
    exact ⟨rfl, rfl⟩
  · have HV : Hid (cmZ x y = 0) := HC.out.trans ((if_neg h1).trans (if_neg h2))
    generalize cmZ x y = v at *
    obtain rfl := HV.out
    clear HC HV
    go_enter Try.func103, Try.ntmps103
    go_wp2_with fail
    refine ((HN _ _).out).mono ?_
    rintro e w' ⟨rfl, rfl⟩
    go_wp2_with fail
    refine ((HN _ _).out).mono ?_
    rintro e w' ⟨rfl, rfl⟩
    go_wp2
    go_ret
    exact ⟨rfl, rfl⟩

set_option maxHeartbeats 2000000 in
theorem compareSR_any {v1 v2 : Value} {n : Nat} {xs ys : List Int} (hn : n ≤ 2000000) (w : World) (h1 : RV w 1 v1 n xs) (h2 : RV w 1 v2 n ys) :
    Calls Try.prog 75 #[v1, v2] w fun e w' => e = .returned (.int .i64 (cmT xs ys n)) ∧ w = w' := by
  obtain ⟨hl1, a1, cap1, rfl, p1, p2, H1⟩ := h1
  obtain ⟨hl2, a2, cap2, rfl, p3, p4, H2⟩ := h2
  have HX := Lib.hid H1
  have HY := Lib.hid H2
  have HLX := Lib.hid hl1
  have HLY := Lib.hid hl2
  clear H1 H2 hl1 hl2 p1 p2 p3 p4
  have HM := fun x y w' => Lib.hid (cmpIntR_any x y w')
  go_enter Try.func75, Try.ntmps75
  go_wp2
  go_loopw [5, 6, 7, 8, 11] (fun _ _ _ _ q wr => ∃ j : Nat, j ≤ n ∧ q = .int .i64 j ∧ Hid (cmT xs ys j = 0) ∧ Hid (w = wr)) (fun _ _ _ _ q _ => n - (intOf q).toNat)
  case atStart => exact ⟨0, by omega, rfl, rfl, rfl⟩
  case round =>
    obtain ⟨j, hj, rfl, HO, hEQ⟩ := hrel
    have hE : Ext w wr := by rw [← hEQ.out]; exact Ext.refl _
    by_cases hlt : j < n
    · have hlt' : (j : Int) < n := by omega
      have HS : Hid (cmT xs ys (j + 1) = if cmT xs ys j = 0 then cmZ (at3 xs j) (at3 ys j) else cmT xs ys j) := rfl
      have HK : Hid (cmT xs ys (j + 1) ≠ 0 → cmT xs ys n = cmT xs ys (j + 1)) := fun h => by
        obtain ⟨d, rfl⟩ : ∃ d, n = j + 1 + d := ⟨n - j - 1, by omega⟩
        exact cmT_keep h d
      obtain ⟨bx, offx, rfl, hbkx, hcellx⟩ := HX.out (by omega)
      have hbrx : bx < wr.heap.size := by have := hE.size; omega
      have zx0 : wr.cell? ⟨bx, offx + j, none⟩ = some (.int .i64 (at3 xs (j))) := (hE.cells.1 bx (offx + (j)) hbkx).trans (hcellx _ _ (at3_get (by have := HLX.out; omega)))
      clear hcellx
      obtain ⟨bz, offz, rfl, hbkz, hcellz⟩ := HY.out (by omega)
      have hbrz : bz < wr.heap.size := by have := hE.size; omega
      have zz0 : wr.cell? ⟨bz, offz + j, none⟩ = some (.int .i64 (at3 ys (j))) := (hE.cells.1 bz (offz + (j)) hbkz).trans (hcellz _ _ (at3_get (by have := HLY.out; omega)))
      clear hcellz
      generalize at3 xs j = x0 at *
      generalize at3 ys j = y0 at *
      have HC := HM x0 y0
      have HS2 : Hid (cmT xs ys (j + 1) = cmZ x0 y0) := HS.out.trans (if_pos HO.out)
      generalize cmZ x0 y0 = v at *
      clear HS HM
      by_cases hv : v = 0
      · subst hv
        go_wp2_with fail
        refine (HC _).out.mono ?_
        rintro e w2 ⟨rfl, rfl⟩
        go_wp2
        go_roundw
        case rel => exact ⟨j + 1, by omega, by go_num, HS2, hEQ⟩
        case measure => simp [intOf]; omega
      · have HF := Lib.hid ((HK.out (by rw [HS2.out]; exact hv)).trans HS2.out)
        go_wp2_with fail
        refine (HC _).out.mono ?_
        rintro e w2 ⟨rfl, rfl⟩
        go_wp2
        go_ret
        rw [HF.out]
        exact ⟨rfl, hEQ.out⟩
    · obtain rfl : j = n := by omega
      go_wp2
      go_ret
      rw [HO.out]
      exact ⟨rfl, hEQ.out⟩

theorem rvR_lit4 {w : World} {B : Nat} {t : TypeId} {a b c d : Int} (h : w.heap[B]? = some (.cells #[.int .i64 a, .int .i64 b, .int .i64 c, .int .i64 d] t (0, 0))) : RV w 1 (.slice (some ⟨B, 0, none⟩) 4 4) 4 [a, b, c, d] := by
  refine ⟨rfl, _, _, rfl, Nat.le_refl _, by decide, fun _ => ⟨B, 0, rfl, (Array.getElem?_eq_some_iff.1 h).1, fun j u hu => ?_⟩⟩
  rw [Nat.zero_add, cell_of_row _ _ _ _ _ _ h]
  simpa [IL] using hu

/-- numbers whose parts are small -/
def Bd4 : Type := { x : Q4 // Bn4 x }
instance : Inhabited Bd4 := ⟨⟨(0, 0, 0, 0), by unfold Bn4; decide⟩⟩
def enc4 (x : Bd4) : List Value := [.int .i64 x.1.1, .int .i64 x.1.2.1, .int .i64 x.1.2.2.1, .int .i64 x.1.2.2.2]
def cf4 (x y : Bd4) : Int := sg (kyR x.1 - kyR y.1)
theorem sgR_lt (n : Int) : sg n < 0 ↔ n < 0 := by
  unfold sg
  split
  · omega
  · split <;> omega
theorem lt4 (x y : Bd4) : ltOf cf4 x y = decide (kyR x.1 < kyR y.1) := by
  unfold ltOf cf4
  rw [Bool.eq_iff_iff]
  simp only [decide_eq_true_eq, sgR_lt]
  omega
theorem swo4 : SWO (ltOf cf4) where
  irrefl x := by rw [lt4]; simp
  trans x y z h1 h2 := by rw [lt4, decide_eq_true_eq] at *; omega
  ntrans x y z h1 h2 := by rw [lt4, decide_eq_false_iff_not] at *; omega

set_option maxHeartbeats 2000000 in
theorem cmp4 (x y : Bd4) (W : World) : Calls Try.prog 50 #[.agg #[.int .i64 x.1.1, .int .i64 x.1.2.1, .int .i64 x.1.2.2.1, .int .i64 x.1.2.2.2], .agg #[.int .i64 y.1.1, .int .i64 y.1.2.1, .int .i64 y.1.2.2.1, .int .i64 y.1.2.2.2]] W fun e w' => e = .returned (.int .i64 (cf4 x y)) ∧ ∃ q os', w' = grow (W.drewN q) os' := by
  obtain ⟨⟨a, b, c, d⟩, h1⟩ := x
  obtain ⟨⟨e, f, g, h⟩, h2⟩ := y
  have HC : Hid (cmT [a, b, c, d] [e, f, g, h] 4 = cf4 ⟨(a, b, c, d), h1⟩ ⟨(e, f, g, h), h2⟩) := cmT_ky h1 h2
  generalize cf4 ⟨(a, b, c, d), h1⟩ ⟨(e, f, g, h), h2⟩ = v at *
  simp only
  clear h1 h2
  go_enter Try.func50, Try.ntmps50
  go_wp2_with fail
  refine (compareSR_any (n := 4) (xs := [a, b, c, d]) (ys := [e, f, g, h]) (by omega) _ (rvR_lit4 (heap_alloc_lt (heap_alloc_at _ _ _ (by simp)))) (rvR_lit4 (heap_alloc_at _ _ _ (by simp)))).mono ?_
  rintro en w1 ⟨rfl, rfl⟩
  go_wp2
  go_ret
  exact ⟨ret_int HC.out, 0, _, by simp only [alloc_eq_grow, grow_grow]; rfl⟩

theorem swR_heap {w : World} {g m : Nat} {d : Array Bd4} {os : Array Obj} {cur : Array Value} {e : TypeId} {fr : Nat × Nat} (hg : w.heap[g]? = some (.cells cur e fr)) :
    (sortWorldK enc4 4 w g 0 m d os).heap[g]? = some (.cells (putCells id 0 (flatK enc4 4 d) cur) e fr) := by
  have hl := (Array.getElem?_eq_some_iff.1 hg).1
  unfold sortWorldK
  rw [heap_grow_old _ _ (by simpa [putRowK] using hl)]
  unfold putRowK putRow mapBlock
  simp only [Array.getElem?_modify, if_pos]
  show Option.map _ (w.heap[g]?) = _
  rw [hg]
  rfl
theorem swR_other {w : World} {g m k : Nat} {d : Array Bd4} {os : Array Obj} (hk : k < w.heap.size) (hne : k ≠ g) : (sortWorldK enc4 4 w g 0 m d os).heap[k]? = w.heap[k]? := by
  unfold sortWorldK
  rw [heap_grow_old _ _ (by simpa [putRowK] using hk)]
  unfold putRowK putRow mapBlock
  simp only [Array.getElem?_modify]
  rw [if_neg (fun h => hne h.symm)]
  rfl

def valsR (d : Array Bd4) : List Q4 := d.toList.map (fun x => x.1)
theorem valsR_len (d : Array Bd4) : (valsR d).length = d.size := by simp [valsR]
theorem flatR_at (d : Array Bd4) (j : Nat) (h : j < d.size * 4) : (IL (fl4 (valsR d)))[j]? = some (enc4 d[j / 4]!)[j % 4]! := by
  have hi : j / 4 < d.size := by omega
  have hl : j / 4 < (valsR d).length := by rw [valsR_len]; exact hi
  have hg := fl4_get (valsR d) (j / 4) hl
  have hv : (valsR d)[j / 4] = (d[j / 4]!).1 := by
    rw [getElem!_pos d _ hi]
    simp [valsR]
  rw [hv] at hg
  unfold IL
  rw [List.getElem?_map]
  have e : j % 4 = 0 ∨ j % 4 = 1 ∨ j % 4 = 2 ∨ j % 4 = 3 := by omega
  rcases e with e | e | e | e
  · have e2 : (fl4 (valsR d))[j]? = (fl4 (valsR d))[j / 4 * 4]? := congrArg (fun k => (fl4 (valsR d))[k]?) (by omega)
    rw [e2, hg.1, e]
    rfl
  · have e2 : (fl4 (valsR d))[j]? = (fl4 (valsR d))[j / 4 * 4 + 1]? := congrArg (fun k => (fl4 (valsR d))[k]?) (by omega)
    rw [e2, hg.2.1, e]
    rfl
  · have e2 : (fl4 (valsR d))[j]? = (fl4 (valsR d))[j / 4 * 4 + 2]? := congrArg (fun k => (fl4 (valsR d))[k]?) (by omega)
    rw [e2, hg.2.2.1, e]
    rfl
  · have e2 : (fl4 (valsR d))[j]? = (fl4 (valsR d))[j / 4 * 4 + 3]? := congrArg (fun k => (fl4 (valsR d))[k]?) (by omega)
    rw [e2, hg.2.2.2, e]
    rfl
theorem holdsR_of {w : World} {base : Nat} {e : TypeId} {g n cap : Nat} {d : Array Bd4} (hn : d.size = n) (h : w.ownsRow base e 4 (.slice (some ⟨g, 0, none⟩) n cap) n (IL (fl4 (valsR d)))) : HoldsK enc4 4 w g 0 d := by
  intro j hj
  rw [size_flatK] at hj
  obtain ⟨a, c, hv, _, _, h3⟩ := own_shape h
  obtain ⟨g', ha, _, _, hc, hf⟩ := h3 (by omega)
  simp only [Value.slice.injEq] at hv
  obtain ⟨hv, -, -⟩ := hv
  rw [ha] at hv
  simp only [Option.some.injEq, Addr.mk.injEq, and_true] at hv
  subst hv
  rw [get_flatK _ _ _ _ hj, Nat.zero_add]
  exact ⟨hc j _ (flatR_at d j hj), hf j⟩
theorem ownR_sorted {w : World} {base : Nat} {e : TypeId} {g n cap m : Nat} {d d' : Array Bd4} {os : Array Obj} (hn : d.size = n) (hn' : d'.size = n) (h : w.ownsRow base e 4 (.slice (some ⟨g, 0, none⟩) n cap) n (IL (fl4 (valsR d)))) :
    (sortWorldK enc4 4 w g 0 m d' os).ownsRow base e 4 (.slice (some ⟨g, 0, none⟩) n cap) n (IL (fl4 (valsR d'))) := by
  refine ⟨by rw [il_length, fl4_len, valsR_len, hn'], ?_⟩
  rcases h.2 with ⟨h1, -⟩ | ⟨g', cap', cur, hv, hb, hg, h1, h2, h3, h4⟩
  · cases h1
  · simp only [Value.slice.injEq, Option.some.injEq, Addr.mk.injEq, and_true, true_and] at hv
    obtain ⟨hv, hc⟩ := hv
    subst hv
    subst hc
    refine .inr ⟨g, cap, _, rfl, hb, swR_heap hg, h1, h2, by simp [putCells, h3], ?_⟩
    have h5 : n * 4 ≤ cur.size := by rw [h3]; exact Nat.mul_le_mul_right 4 h1
    apply List.ext_getElem?
    intro j
    rw [List.getElem?_take]
    split
    · rename_i hj
      rw [flatR_at d' j (by omega)]
      have hjc : j < cur.size := by omega
      simp only [putCells, Array.getElem?_toList, Array.getElem?_mapIdx]
      rw [Array.getElem?_eq_getElem hjc, Option.map_some, if_pos ⟨Nat.zero_le _, by rw [size_flatK]; omega⟩, Nat.sub_zero, get_flatK _ _ _ _ (by omega)]
      rfl
    · rw [List.getElem?_eq_none (by rw [il_length, fl4_len, valsR_len]; omega)]

/-- the sort of a row of the call's own -/
theorem sort4_any {w : World} {base g n cap : Nat} {d : Array Bd4} (hn : d.size = n) (hn2 : n ≤ 2000000) (h : w.ownsRow base 51 4 (.slice (some ⟨g, 0, none⟩) n cap) n (IL (fl4 (valsR d)))) :
    Calls Try.prog 49 #[.slice (some ⟨g, 0, none⟩) n cap, .func (.func 50) #[] #[]] w fun e w' => e = .returned (.tuple #[]) ∧
      ∃ d' : Array Bd4, d'.size = n ∧ d'.toList.Perm d.toList ∧ d'.toList.Pairwise (fun x y => ¬ kyR y.1 < kyR x.1) ∧ w'.ownsRow base 51 4 (.slice (some ⟨g, 0, none⟩) n cap) n (IL (fl4 (valsR d'))) ∧ (∀ w0, Ext w0 w → w0.heap.size ≤ g → Ext w0 w') := by
  subst hn
  have eg : ∀ args w, (callFunc 50 args).run Try.prog w = .ok (.enter 50 args) w := enters_of Try.func50 (by kernel_rfl) rfl
  have hblk : g < w.heap.size := by
    have := h.lt g rfl
    exact this.2
  have hc : CmpLays Try.prog 50 #[] enc4 4 cf4 g 0 d.size w := fun m os dk hs x y => cmp4 x y _
  have hcon := AnyQ.slices_SortFunc layRing 4 Try.isAgg51 Try.sizeOf51 enc4 (fun _ => rfl) (fun x v hv => by simp [enc4] at hv; rcases hv with rfl | rfl | rfl | rfl <;> rfl) cf4 swo4 50 #[] g 0 cap d w eg hc (holdsR_of rfl h) hblk (by omega)
  refine hcon.mono ?_
  rintro e w' ⟨rfl, d', m, os, hp, hs, rfl⟩
  obtain ⟨hp1, -, hp3⟩ := hp
  refine ⟨rfl, d', hp1, ?_, ?_, ownR_sorted rfl hp1 h, ?_⟩
  · have e1 : (d'.extract 0 d.size).toList = d'.toList := by rw [← hp1]; simp
    have e2 : (d.extract 0 d.size).toList = d.toList := by simp
    rw [e1, e2] at hp3
    exact hp3
  · rw [List.pairwise_iff_getElem]
    intro i j hi hj hij
    have hi' : i < d'.size := by simpa using hi
    have hj' : j < d'.size := by simpa using hj
    have := hs i j (Nat.zero_le _) hij (by omega)
    rw [lt4, decide_eq_false_iff_not, getElem!_pos d' _ hj', getElem!_pos d' _ hi'] at this
    exact this
  · intro w0 hx hg
    have hx' : Below w0.heap.size w0 w := hx
    refine ⟨hx'.os, hx'.tape, hx'.output, ?_, fun k hk => ?_⟩
    · have := size_sortWorldK_c enc4 4 w g 0 m d' os
      have := hx.size
      omega
    · rw [swR_other (by have := hx.size; omega) (by omega)]
      exact hx'.block k hk

end Go.Proofs.Ytojoljffaedpfaa
