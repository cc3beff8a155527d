/- Costs: the lexicographic comparison. -/
import Derived.Test.YtgcgkmddmmbaiaaRows
import Derived.Test.YtgcgkmddmmbaiaaBase
import Derived.Deep.RegionHeld3
namespace Go.Proofs.Ytgcgkmddmmbaiaa
open Go.RowKit

def cmpI (a b : Int) : Int := if a < b then -1 else if b < a then 1 else 0
def cmpL : List Int → List Int → Int
  | [], [] => 0
  | [], _ :: _ => -1
  | _ :: _, [] => 1
  | a :: r, b :: q => if a < b then -1 else if b < a then 1 else cmpL r q
theorem cmpL_step {xs ys : List Int} {k : Nat} (hx : k < xs.length) (hy : k < ys.length) : cmpL (xs.drop k) (ys.drop k) = if xs[k] < ys[k] then -1 else if ys[k] < xs[k] then 1 else cmpL (xs.drop (k + 1)) (ys.drop (k + 1)) := by
  rw [List.drop_eq_getElem_cons hx, List.drop_eq_getElem_cons hy]
  rfl

theorem isNaN_any (a : Int) (w : World) :
    Calls Try.prog 80 #[.int .i64 a] w fun e w' => e = .returned (.bool false) ∧ w = w' := by
  go_enter Try.func80, Try.ntmps80
  go_wp2
  go_ret
  exact ⟨ret_bool (by simp), rfl⟩

theorem cmpCompare_any (a b : Int) (w : World) :
    Calls Try.prog 76 #[.int .i64 a, .int .i64 b] w fun e w' => e = .returned (.int .i64 (cmpI a b)) ∧ w = w' := by
  have HC : Hid (cmpI a b = if a < b then -1 else if b < a then 1 else 0) := rfl
  rcases Int.lt_trichotomy a b with h | h | h
  · go_enter Try.func76, Try.ntmps76
    go_wp2_with (go_at_call 80; ((with_reducible refine (isNaN_any _ _).mono ?_); rintro e w' ⟨rfl, rfl⟩))
    go_ret
    exact ⟨ret_int (by rw [HC.out, if_pos h]), rfl⟩
  · subst h
    go_enter Try.func76, Try.ntmps76
    go_wp2_with (go_at_call 80; ((with_reducible refine (isNaN_any _ _).mono ?_); rintro e w' ⟨rfl, rfl⟩))
    go_ret
    exact ⟨ret_int (by rw [HC.out, if_neg (by omega), if_neg (by omega)]), rfl⟩
  · go_enter Try.func76, Try.ntmps76
    go_wp2_with (go_at_call 80; ((with_reducible refine (isNaN_any _ _).mono ?_); rintro e w' ⟨rfl, rfl⟩))
    go_ret
    exact ⟨ret_int (by rw [HC.out, if_neg (by omega), if_pos h]), rfl⟩

set_option maxHeartbeats 1000000 in
theorem slicesCompare_any (xs ys : List Int) (b d n m cap cap' : Nat) (w : World) (hn : n = xs.length) (hm : m = ys.length) (he : xs.length = ys.length) (hl : xs.length ≤ 100000)
    (hx : ∀ k, (h : k < xs.length) → w.cell? ⟨b, k, none⟩ = some (.int .i64 xs[k])) (hy : ∀ k, (h : k < ys.length) → w.cell? ⟨d, k, none⟩ = some (.int .i64 ys[k])) :
    Calls Try.prog 64 #[.slice (some ⟨b, 0, none⟩) n cap, .slice (some ⟨d, 0, none⟩) m cap'] w fun e w' => e = .returned (.int .i64 (cmpL xs ys)) ∧ w = w' := by
  subst hn
  subst hm
  have HX := Lib.hid hx
  have HY := Lib.hid hy
  have HE := Lib.hid he
  have hl' : xs.length ≤ ys.length ∧ ys.length ≤ xs.length := by omega
  clear hx hy he
  go_enter Try.func64, Try.ntmps64
  go_wp2
  go_loop [5, 6, 7, 8, 11] (fun _ _ _ _ i => ∃ k : Nat, k ≤ xs.length ∧ i = .int .i64 k ∧ Hid (cmpL xs ys = cmpL (xs.drop k) (ys.drop k))) (fun _ _ _ _ i => xs.length - (intOf i).toNat)
  case atStart => exact ⟨0, Nat.zero_le _, rfl, rfl⟩
  case round =>
    obtain ⟨k, hk, rfl, hh⟩ := hrel
    by_cases hlt : k < xs.length
    · have hlt' : k < ys.length := by omega
      have hcx := HX.out k hlt
      have hcy := HY.out k hlt'
      have HS := Lib.hid (cmpL_step hlt hlt')
      have HCI : Hid (cmpI xs[k] ys[k] = if xs[k] < ys[k] then -1 else if ys[k] < xs[k] then 1 else 0) := rfl
      rcases Int.lt_trichotomy xs[k] ys[k] with h | h | h
      · have hci : cmpI xs[k] ys[k] = -1 := by rw [HCI.out, if_pos h]
        go_wp2_with (go_at_call 76; ((with_reducible refine (cmpCompare_any _ _ _).mono ?_); rintro e w' ⟨rfl, rfl⟩))
        go_ret
        exact ⟨ret_int (by rw [hh.out, HS.out, if_pos h]), rfl⟩
      · have hci : cmpI xs[k] ys[k] = 0 := by rw [HCI.out, if_neg (by omega), if_neg (by omega)]
        have h1 : xs[k] ≤ ys[k] ∧ ys[k] ≤ xs[k] := by omega
        clear h
        go_wp2_with (go_at_call 76; ((with_reducible refine (cmpCompare_any _ _ _).mono ?_); rintro e w' ⟨rfl, rfl⟩))
        go_round
        case rel => exact ⟨k + 1, by omega, by go_num, by unfold Hid; rw [hh.out, HS.out, if_neg (by omega), if_neg (by omega)]⟩
        case measure => simp [intOf]; omega
      · have hci : cmpI xs[k] ys[k] = 1 := by rw [HCI.out, if_neg (by omega), if_pos h]
        go_wp2_with (go_at_call 76; ((with_reducible refine (cmpCompare_any _ _ _).mono ?_); rintro e w' ⟨rfl, rfl⟩))
        go_ret
        exact ⟨ret_int (by rw [hh.out, HS.out, if_neg (by omega), if_pos h]), rfl⟩
    · go_wp2
      go_ret
      have h1 : xs.drop k = [] := List.drop_eq_nil_of_le (by omega)
      have h2 : ys.drop k = [] := List.drop_eq_nil_of_le (by omega)
      exact ⟨ret_int (by rw [hh.out, h1, h2, cmpL]), rfl⟩

theorem cells3 {w : World} {b : Nat} {x y z : Int} (h0 : w.cell? ⟨b, 0, none⟩ = some (.int .i64 x)) (h1 : w.cell? ⟨b, 1, none⟩ = some (.int .i64 y)) (h2 : w.cell? ⟨b, 2, none⟩ = some (.int .i64 z)) :
    ∀ k, (h : k < [x, y, z].length) → w.cell? ⟨b, k, none⟩ = some (.int .i64 [x, y, z][k]) := fun k hk => by
  match k, hk with
  | 0, _ => exact h0
  | 1, _ => exact h1
  | 2, _ => exact h2

theorem toCost_any (a b c : Int) (w : World) :
    Calls Try.prog 41 #[.agg #[.int .i64 a, .int .i64 b, .int .i64 c]] w fun e w' => e = .returned (.agg #[.int .i64 a, .int .i64 b, .int .i64 c]) ∧ Ext w w' := by
  go_enter Try.func41, Try.ntmps41
  go_wp2
  refine bodyPost_ret (v := .agg #[.int .i64 a, .int .i64 b, .int .i64 c]) (by simp [results, Try.results41, go_sem]) rfl ⟨rfl, ?_⟩
  exact (by repeat (first | exact Ext.refl _ | assumption | refine Ext.alloc ?_ _ | refine Ext.drew ?_ | refine Ext.drewN ?_ _ | refine Ext.setCell ?_ (by first | simp | (simp; omega)) _ | refine Ext.trans ?_ (by assumption)))

theorem compareCosts_any (a b c x y z : Int) (w : World) :
    Calls Try.prog 42 #[.agg #[.int .i64 a, .int .i64 b, .int .i64 c], .agg #[.int .i64 x, .int .i64 y, .int .i64 z]] w fun e w' => e = .returned (.int .i64 (cmpL [a, b, c] [x, y, z])) ∧ Ext w w' := by
  go_enter Try.func42, Try.ntmps42
  go_wp2_with fail
  refine (slicesCompare_any [a, b, c] [x, y, z] _ _ _ _ _ _ _ rfl rfl rfl (by simp) (cells3 (by simp [go_sem]) (by simp [go_sem]) (by simp [go_sem])) (cells3 (by simp [go_sem]) (by simp [go_sem]) (by simp [go_sem]))).mono ?_
  rintro e w' ⟨rfl, rfl⟩
  go_wp2
  go_ret
  exact ⟨rfl, (by repeat (first | exact Ext.refl _ | assumption | refine Ext.alloc ?_ _ | refine Ext.drew ?_ | refine Ext.drewN ?_ _ | refine Ext.setCell ?_ (by first | simp | (simp; omega)) _ | refine Ext.trans ?_ (by assumption)))⟩

/-- what the loop of the reference's comparison says, at blocks b and d -/
def CRel (xs ys : List Int) (b d : Nat) (w : World) (i : Value) (wr : World) : Prop :=
  ∃ k : Nat, k ≤ 3 ∧ i = .int .i64 k ∧ cmpL xs ys = cmpL (xs.drop k) (ys.drop k) ∧ (∀ j, (h : j < xs.length) → wr.cell? ⟨b, j, none⟩ = some (.int .i64 xs[j])) ∧ (∀ j, (h : j < ys.length) → wr.cell? ⟨d, j, none⟩ = some (.int .i64 ys[j])) ∧ Ext w wr

set_option maxHeartbeats 1000000 in
theorem s_compareCosts_any (a b c x y z : Int) (w : World) :
    Calls Try.prog 40 #[.agg #[.int .i64 a, .int .i64 b, .int .i64 c], .agg #[.int .i64 x, .int .i64 y, .int .i64 z]] w fun e w' => e = .returned (.int .i64 (cmpL [a, b, c] [x, y, z])) ∧ Ext w w' := by
  obtain ⟨xs, hxs⟩ : ∃ xs, xs = [a, b, c] := ⟨_, rfl⟩
  obtain ⟨ys, hys⟩ : ∃ ys, ys = [x, y, z] := ⟨_, rfl⟩
  have HXS := Lib.hid hxs
  have HYS := Lib.hid hys
  have lx : xs.length ≤ 3 ∧ 3 ≤ xs.length := by subst hxs; simp
  have ly : ys.length ≤ 3 ∧ 3 ≤ ys.length := by subst hys; simp
  rw [← hxs, ← hys]
  clear hxs hys
  go_enter Try.func40, Try.ntmps40
  go_wp2
  go_region_held3 (fun w' => w'.cell? ⟨w.heap.size, 0, none⟩ = some (.int .i64 a) ∧ w'.cell? ⟨w.heap.size, 1, none⟩ = some (.int .i64 b) ∧ w'.cell? ⟨w.heap.size, 2, none⟩ = some (.int .i64 c) ∧
    w'.cell? ⟨w.heap.size + 1, 0, none⟩ = some (.int .i64 x) ∧ w'.cell? ⟨w.heap.size + 1, 1, none⟩ = some (.int .i64 y) ∧ w'.cell? ⟨w.heap.size + 1, 2, none⟩ = some (.int .i64 z)) ((simp [go_sem]; done)) (fail)
  · go_wp2
    go_loopw [7, 24] (fun _ i wr => CRel xs ys (w.heap.size + 1 + 1) (w.heap.size + 1 + 1 + 1) w i wr) (fun _ i _ => 3 - (intOf i).toNat)
    case atStart =>
      exact ⟨0, by omega, rfl, rfl, by rw [HXS.out]; exact cells3 (by simp [go_sem]) (by simp [go_sem]) (by simp [go_sem]), by rw [HYS.out]; exact cells3 (by simp [go_sem]) (by simp [go_sem]) (by simp [go_sem]), (by repeat (first | exact Ext.refl _ | assumption | refine Ext.alloc ?_ _ | refine Ext.drew ?_ | refine Ext.drewN ?_ _ | refine Ext.setCell ?_ (by first | simp | (simp; omega)) _ | refine Ext.trans ?_ (by assumption)))⟩
    case round =>
      obtain ⟨k, hk, rfl, hh, hX, hY, hE⟩ := hrel
      have HX := Lib.hid hX
      have HY := Lib.hid hY
      have HH := Lib.hid hh
      clear hX hY hh
      by_cases hlt : k < 3
      · have hcx := HX.out k (by omega)
        have hcy := HY.out k (by omega)
        have zx := lt_of_cell hcx
        have zy := lt_of_cell hcy
        have HS := Lib.hid (cmpL_step (xs := xs) (ys := ys) (k := k) (by omega) (by omega))
        rcases Int.lt_trichotomy xs[k] ys[k] with h | h | h
        · go_wp2
          refine wp_region_xt (by kernel_rfl) (by kernel_rfl) (fun hxc => ?_)
          repeat (first | go_big_quiet_step (fail) | quiet_step (fail))
          refine wpQuiet_nil (forall_xt ?_)
          clear hxc
          intro w1 hx1
          obtain ⟨hc1, hf1⟩ := hx1.cells
          have hz1 := hx1.size
          try simp at hz1
          go_wp2
          go_ret
          exact ⟨ret_int (by rw [HH.out, HS.out, if_pos h]), hE.trans hx1⟩
        · have h1 : xs[k] ≤ ys[k] ∧ ys[k] ≤ xs[k] := by omega
          clear h
          go_wp2
          refine wp_region_xt (by kernel_rfl) (by kernel_rfl) (fun hxc => ?_)
          repeat (first | go_big_quiet_step (fail) | quiet_step (fail))
          refine wpQuiet_nil (forall_xt ?_)
          clear hxc
          intro w1 hx1
          obtain ⟨hc1, hf1⟩ := hx1.cells
          have hz1 := hx1.size
          try simp at hz1
          have zx1 : w.heap.size + 1 + 1 < w1.heap.size := by omega
          have zy1 : w.heap.size + 1 + 1 + 1 < w1.heap.size := by omega
          go_wp2
          refine wp_region_xt (by kernel_rfl) (by kernel_rfl) (fun hxc => ?_)
          repeat (first | go_big_quiet_step (fail) | quiet_step (fail))
          refine wpQuiet_nil (forall_xt ?_)
          clear hxc
          intro w2 hx2
          obtain ⟨hc2, hf2⟩ := hx2.cells
          have hz2 := hx2.size
          try simp at hz2
          go_wp2
          go_roundw
          case rel =>
            refine ⟨k + 1, by omega, by go_num, ?_, ?_, ?_, (hE.trans hx1).trans hx2⟩
            · rw [HH.out, HS.out, if_neg (by omega), if_neg (by omega)]
            · exact fun j hj => ((hx1.trans hx2).cells.1 _ _ zx).trans (HX.out j hj)
            · exact fun j hj => ((hx1.trans hx2).cells.1 _ _ zy).trans (HY.out j hj)
          case measure => simp [intOf]; omega
        · go_wp2
          refine wp_region_xt (by kernel_rfl) (by kernel_rfl) (fun hxc => ?_)
          repeat (first | go_big_quiet_step (fail) | quiet_step (fail))
          refine wpQuiet_nil (forall_xt ?_)
          clear hxc
          intro w1 hx1
          obtain ⟨hc1, hf1⟩ := hx1.cells
          have hz1 := hx1.size
          try simp at hz1
          have zx1 : w.heap.size + 1 + 1 < w1.heap.size := by omega
          have zy1 : w.heap.size + 1 + 1 + 1 < w1.heap.size := by omega
          go_wp2
          refine wp_region_xt (by kernel_rfl) (by kernel_rfl) (fun hxc => ?_)
          repeat (first | go_big_quiet_step (fail) | quiet_step (fail))
          refine wpQuiet_nil (forall_xt ?_)
          clear hxc
          intro w2 hx2
          obtain ⟨hc2, hf2⟩ := hx2.cells
          have hz2 := hx2.size
          try simp at hz2
          go_wp2
          go_ret
          exact ⟨ret_int (by rw [HH.out, HS.out, if_neg (by omega), if_pos h]), (hE.trans hx1).trans hx2⟩
      · go_wp2
        go_ret
        have h1 : xs.drop k = [] := List.drop_eq_nil_of_le (by omega)
        have h2 : ys.drop k = [] := List.drop_eq_nil_of_le (by omega)
        exact ⟨ret_int (by rw [HH.out, h1, h2, cmpL]), hE⟩
  · go_wp2
    go_loopw [7, 24] (fun _ i wr => CRel xs ys (w.heap.size + 1 + 1 + 1) (w.heap.size + 1 + 1) w i wr) (fun _ i _ => 3 - (intOf i).toNat)
    case atStart =>
      exact ⟨0, by omega, rfl, rfl, by rw [HXS.out]; exact cells3 (by simp [go_sem]) (by simp [go_sem]) (by simp [go_sem]), by rw [HYS.out]; exact cells3 (by simp [go_sem]) (by simp [go_sem]) (by simp [go_sem]), (by repeat (first | exact Ext.refl _ | assumption | refine Ext.alloc ?_ _ | refine Ext.drew ?_ | refine Ext.drewN ?_ _ | refine Ext.setCell ?_ (by first | simp | (simp; omega)) _ | refine Ext.trans ?_ (by assumption)))⟩
    case round =>
      obtain ⟨k, hk, rfl, hh, hX, hY, hE⟩ := hrel
      have HX := Lib.hid hX
      have HY := Lib.hid hY
      have HH := Lib.hid hh
      clear hX hY hh
      by_cases hlt : k < 3
      · have hcx := HX.out k (by omega)
        have hcy := HY.out k (by omega)
        have zx := lt_of_cell hcx
        have zy := lt_of_cell hcy
        have HS := Lib.hid (cmpL_step (xs := xs) (ys := ys) (k := k) (by omega) (by omega))
        rcases Int.lt_trichotomy xs[k] ys[k] with h | h | h
        · go_wp2
          refine wp_region_xt (by kernel_rfl) (by kernel_rfl) (fun hxc => ?_)
          repeat (first | go_big_quiet_step (fail) | quiet_step (fail))
          refine wpQuiet_nil (forall_xt ?_)
          clear hxc
          intro w1 hx1
          obtain ⟨hc1, hf1⟩ := hx1.cells
          have hz1 := hx1.size
          try simp at hz1
          go_wp2
          go_ret
          exact ⟨ret_int (by rw [HH.out, HS.out, if_pos h]), hE.trans hx1⟩
        · have h1 : xs[k] ≤ ys[k] ∧ ys[k] ≤ xs[k] := by omega
          clear h
          go_wp2
          refine wp_region_xt (by kernel_rfl) (by kernel_rfl) (fun hxc => ?_)
          repeat (first | go_big_quiet_step (fail) | quiet_step (fail))
          refine wpQuiet_nil (forall_xt ?_)
          clear hxc
          intro w1 hx1
          obtain ⟨hc1, hf1⟩ := hx1.cells
          have hz1 := hx1.size
          try simp at hz1
          have zx1 : w.heap.size + 1 + 1 + 1 < w1.heap.size := by omega
          have zy1 : w.heap.size + 1 + 1 < w1.heap.size := by omega
          go_wp2
          refine wp_region_xt (by kernel_rfl) (by kernel_rfl) (fun hxc => ?_)
          repeat (first | go_big_quiet_step (fail) | quiet_step (fail))
          refine wpQuiet_nil (forall_xt ?_)
          clear hxc
          intro w2 hx2
          obtain ⟨hc2, hf2⟩ := hx2.cells
          have hz2 := hx2.size
          try simp at hz2
          go_wp2
          go_roundw
          case rel =>
            refine ⟨k + 1, by omega, by go_num, ?_, ?_, ?_, (hE.trans hx1).trans hx2⟩
            · rw [HH.out, HS.out, if_neg (by omega), if_neg (by omega)]
            · exact fun j hj => ((hx1.trans hx2).cells.1 _ _ zx).trans (HX.out j hj)
            · exact fun j hj => ((hx1.trans hx2).cells.1 _ _ zy).trans (HY.out j hj)
          case measure => simp [intOf]; omega
        · go_wp2
          refine wp_region_xt (by kernel_rfl) (by kernel_rfl) (fun hxc => ?_)
          repeat (first | go_big_quiet_step (fail) | quiet_step (fail))
          refine wpQuiet_nil (forall_xt ?_)
          clear hxc
          intro w1 hx1
          obtain ⟨hc1, hf1⟩ := hx1.cells
          have hz1 := hx1.size
          try simp at hz1
          have zx1 : w.heap.size + 1 + 1 + 1 < w1.heap.size := by omega
          have zy1 : w.heap.size + 1 + 1 < w1.heap.size := by omega
          go_wp2
          refine wp_region_xt (by kernel_rfl) (by kernel_rfl) (fun hxc => ?_)
          repeat (first | go_big_quiet_step (fail) | quiet_step (fail))
          refine wpQuiet_nil (forall_xt ?_)
          clear hxc
          intro w2 hx2
          obtain ⟨hc2, hf2⟩ := hx2.cells
          have hz2 := hx2.size
          try simp at hz2
          go_wp2
          go_ret
          exact ⟨ret_int (by rw [HH.out, HS.out, if_neg (by omega), if_pos h]), (hE.trans hx1).trans hx2⟩
      · go_wp2
        go_ret
        have h1 : xs.drop k = [] := List.drop_eq_nil_of_le (by omega)
        have h2 : ys.drop k = [] := List.drop_eq_nil_of_le (by omega)
        exact ⟨ret_int (by rw [HH.out, h1, h2, cmpL]), hE⟩

theorem law_CompareCosts (a b c x y z : Int) (w : World) :
    Calls Try.prog 11 #[.agg #[.int .i64 a, .int .i64 b, .int .i64 c], .agg #[.int .i64 x, .int .i64 y, .int .i64 z]] w fun e w' => e = .returned (.bool true) ∧ Ext w w' := by
  go_enter Try.func11, Try.ntmps11
  go_wp2
  refine wp_region_xt (by kernel_rfl) (by kernel_rfl) (fun hxc => ?_)
  repeat (first | go_big_quiet_step ((first | (go_at_call 41; exact calls_xt (toCost_any _ _ _ _)) | (go_at_call 40; exact calls_xt (s_compareCosts_any _ _ _ _ _ _ _)))) | quiet_step ((first | (go_at_call 41; exact calls_xt (toCost_any _ _ _ _)) | (go_at_call 40; exact calls_xt (s_compareCosts_any _ _ _ _ _ _ _)))))
  refine wpQuiet_nil (forall_xt ?_)
  clear hxc
  intro w1 hx1
  obtain ⟨hc1, hf1⟩ := hx1.cells
  have hz1 := hx1.size
  try simp at hz1
  have hs1_0 := sz2 (a := w.heap.size) (b := w1.heap.size) (by omega)
  go_wp2
  refine wp_region_xt (by kernel_rfl) (by kernel_rfl) (fun hxc => ?_)
  repeat (first | go_big_quiet_step ((first | (go_at_call 41; exact calls_xt (toCost_any _ _ _ _)) | (go_at_call 42; exact calls_xt (compareCosts_any _ _ _ _ _ _ _)))) | quiet_step ((first | (go_at_call 41; exact calls_xt (toCost_any _ _ _ _)) | (go_at_call 42; exact calls_xt (compareCosts_any _ _ _ _ _ _ _)))))
  refine wpQuiet_nil (forall_xt ?_)
  clear hxc
  intro w2 hx2
  obtain ⟨hc2, hf2⟩ := hx2.cells
  have hz2 := hx2.size
  try simp at hz2
  go_wp2
  go_ret
  exact ⟨rfl, (by repeat (first | exact Ext.refl _ | assumption | refine Ext.alloc ?_ _ | refine Ext.drew ?_ | refine Ext.drewN ?_ _ | refine Ext.setCell ?_ (by first | simp | (simp; omega)) _ | refine Ext.trans ?_ (by assumption)))⟩

end Go.Proofs.Ytgcgkmddmmbaiaa
