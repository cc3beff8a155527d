/- Gates' matrices: the walk's small functions. -/
import Derived.Test.YtbddgeoaaklgpaaQuN
import Derived.Test.YtbddgeoaaklgpaaCpL
import Derived.Test.YtbddgeoaaklgpaaGate
import Derived.Laws.BitsLemmas
import Derived.Maps.OwnOps
import Derived.OwnWalk
import Derived.Deep.RegionLaw
import Derived.Deep.Cut
import Derived.Test.YtbddgeoaaklgpaaLs
namespace Go.Proofs.Ytbddgeoaaklgpaa
open Go.RowKit
set_option linter.unusedVariables false
set_option linter.unusedSimpArgs false

theorem wraps_i60 (n : Int) (h₀ : 0 ≤ n) (h₁ : n < 2 ^ 60) : IntKind.i64.wrap n = n := by
  have e : (2 : Int) ^ 60 = 1152921504606846976 := by decide
  rw [IntKind.wrap_i64]
  omega
theorem bits_and1 (a : Nat) (ha : a < 2 ^ 60) : bits .and .i64 (a : Int) 1 = ((a % 2 : Nat) : Int) := by
  have e : (2 : Nat) ^ 60 = 1152921504606846976 := by decide
  have e2 : (2 : Int) ^ 60 = 1152921504606846976 := by decide
  have h := bits_mask .i64 60 (by decide) wraps_i60 1 (by decide) (a : Int) (by omega) (by omega)
  rw [show ((2 : Int) ^ 1 - 1) = 1 by decide, show ((2 : Int) ^ 1) = 2 by decide] at h
  rw [h]
  push_cast
  rfl
theorem bits_xorQ (a b : Nat) (ha : a < 2 ^ 60) (hb : b < 2 ^ 60) : bits .xor .i64 (a : Int) (b : Int) = ((a ^^^ b : Nat) : Int) := by
  have hx : a ^^^ b < 2 ^ 60 := Nat.xor_lt_two_pow ha hb
  have h1 : (BitVec.ofInt 64 (a : Int)).toNat = a := by
    rw [BitVec.ofInt_natCast, BitVec.toNat_ofNat]; exact Nat.mod_eq_of_lt (by omega)
  have h2 : (BitVec.ofInt 64 (b : Int)).toNat = b := by
    rw [BitVec.ofInt_natCast, BitVec.toNat_ofNat]; exact Nat.mod_eq_of_lt (by omega)
  show IntKind.i64.wrap ((BitVec.ofInt 64 (a : Int) ^^^ BitVec.ofInt 64 (b : Int)).toNat : Int) = _
  rw [BitVec.toNat_xor, h1, h2]
  exact IntWalk.i64_in _ (by omega)
theorem pow_cases {n q : Nat} (hn : n ≤ 5) : 2 ^ (n - 1 - q) ≤ 16 := by
  have : n - 1 - q = 0 ∨ n - 1 - q = 1 ∨ n - 1 - q = 2 ∨ n - 1 - q = 3 ∨ n - 1 - q = 4 := by omega
  rcases this with h | h | h | h | h <;> rw [h] <;> decide
set_option maxHeartbeats 1000000 in
theorem bitOf_any (n s q : Nat) (hn : n ≤ 5) (hq : q < n) (hs : s < 64) (w : World) :
    Calls Try.prog 97 #[.int .i64 n, .int .i64 s, .int .i64 q] w fun e w' => e = .returned (.int .i64 (bq n s q : Nat)) ∧ w = w' := by
  have hp : s / 2 ^ (n - 1 - q) < 2 ^ 60 := Nat.lt_of_le_of_lt (Nat.div_le_self _ _) (Nat.lt_trans hs (by decide))
  have h1 := bits_and1 (s / 2 ^ (n - 1 - q)) hp
  push_cast at h1
  go_enter Try.func97, Try.ntmps97
  go_wp2
  go_ret
  refine ⟨?_, rfl⟩
  have e : bq n s q = s / 2 ^ (n - 1 - q) % 2 := rfl
  rw [e]
  simp only [Act.eval]
  simp
  try rw [h1]
set_option maxHeartbeats 1000000 in
theorem flipped_any (n s q : Nat) (hn : n ≤ 5) (hq : q < n) (hs : s < 64) (w : World) :
    Calls Try.prog 98 #[.int .i64 n, .int .i64 s, .int .i64 q] w fun e w' => e = .returned (.int .i64 (fl n s q : Nat)) ∧ w = w' := by
  have hp := pow_cases (n := n) (q := q) hn
  have h1 := bits_xorQ s (2 ^ (n - 1 - q)) (Nat.lt_trans hs (by decide)) (Nat.lt_of_le_of_lt hp (by decide))
  have e1 : ((n : Int) - 1 - q).toNat = n - 1 - q := by omega
  unfold fl
  have hP' : (2 : Int) ^ (n - 1 - q) = ((2 ^ (n - 1 - q) : Nat) : Int) := by push_cast; rfl
  generalize 2 ^ (n - 1 - q) = P at *
  generalize s ^^^ P = z at *
  go_enter Try.func98, Try.ntmps98
  go_wp2
  go_ret
  exact ⟨by simp [e1, hP', h1], rfl⟩
theorem wholeQ_any (n : Int) (w : World) : Calls Try.prog 80 #[.int .i64 n] w fun e w' => e = .returned (.agg #[.int .i64 n, .int .i64 0, .int .i64 0, .int .i64 0, .int .i64 0]) ∧ Ext w w' := by
  go_enter Try.func80, Try.ntmps80
  go_wp2
  refine bodyPost_ret (v := .agg #[.int .i64 n, .int .i64 0, .int .i64 0, .int .i64 0, .int .i64 0]) (by simp [results, Try.results80, go_sem, *]) rfl ?_
  exact ⟨rfl, (by repeat (first | (with_reducible refine Ext.setCell ?_ (by first | (simp; done) | (simp; omega)) _) | with_reducible refine Ext.alloc ?_ _ | with_reducible refine Ext.drew ?_ | with_reducible refine Ext.drewN ?_ _ | with_reducible assumption | with_reducible exact Ext.refl _ | with_reducible refine Ext.trans ?_ (by with_reducible assumption)))⟩


open Go.RowKit
set_option linter.unusedVariables false
set_option linter.unusedSimpArgs false

theorem same_ext {P : Program} {f : Nat} {a : Array Value} {w : World} {v : Value} (h : Calls P f a w fun e w' => e = .returned v ∧ w = w') : Calls P f a w fun e w' => e = .returned v ∧ Ext w w' :=
  h.mono fun e w' h => ⟨h.1, h.2 ▸ Ext.refl _⟩
set_option maxRecDepth 20000 in
set_option maxHeartbeats 2000000 in
theorem comesFrom_any (n k a b s : Nat) (h1 : 1 ≤ n) (hn : n ≤ 3) (ha : a < n) (hb : b < n) (hs : s < 2 ^ n) (w : World) :
    Calls Try.prog 95 #[.int .i64 n, .agg #[.int .i64 k, .int .i64 a, .int .i64 b], .int .i64 s] w fun e w' => e = .returned (.int .i64 (cfr n k a b s : Nat)) ∧ Ext w w' := by
  have h8 : 2 ^ n ≤ 8 := (dim_q h1 hn).2
  have hf : fl n s a < 2 ^ n := (bitsQ h1 hn).lt s a hs ha
  have hf64 : fl n s a < 64 := Nat.lt_of_lt_of_le hf (Nat.le_trans h8 (by decide))
  have HA := fun w' => Lib.hid (same_ext (bitOf_any n s a (by omega) ha (by omega) w'))
  have HB := fun w' => Lib.hid (same_ext (bitOf_any n s b (by omega) hb (by omega) w'))
  have HFB := fun w' => Lib.hid (same_ext (flipped_any n s b (by omega) hb (by omega) w'))
  have HFA := fun w' => Lib.hid (same_ext (flipped_any n s a (by omega) ha (by omega) w'))
  have HFF := fun w' => Lib.hid (same_ext (flipped_any n (fl n s a) b (by omega) hb hf64 w'))
  have HV : Hid (cfr n k a b s = if k = 9 ∧ bq n s a = 1 then fl n s b else if k = 11 ∧ bq n s a ≠ bq n s b then fl n (fl n s a) b else s) := Lib.hid (by unfold cfr; rfl)
  generalize cfr n k a b s = V at *
  generalize bq n s a = x at *
  generalize bq n s b = y at *
  generalize fl n (fl n s a) b = v at *
  generalize fl n s a = z at *
  generalize fl n s b = u at *
  clear hf hf64 hs h8
  go_enter Try.func95, Try.ntmps95
  go_wp2
  refine wp_region_xt (by kernel_rfl) (by kernel_rfl) (fun hxc => ?_)
  repeat (first | go_big_quiet_step ((first | (go_at_call 97; with_reducible exact calls_xt ((HA _).out)) | (go_at_call 97; with_reducible exact calls_xt ((HB _).out)))) | quiet_step ((first | (go_at_call 97; with_reducible exact calls_xt ((HA _).out)) | (go_at_call 97; with_reducible exact calls_xt ((HB _).out)))))
  refine wpQuiet_nil (forall_xt ?_)
  clear hxc
  intro w1 hx1
  obtain ⟨hc1, hf1⟩ := hx1.cells
  have hz1 := hx1.size
  try simp at hz1
  have hs1_0 := sz1 (a := w.heap.size) (b := w1.heap.size) (by omega)
  clear HA HB
  by_cases c1 : k = 9 ∧ x = 1
  · obtain ⟨rfl, rfl⟩ := c1
    obtain rfl : V = u := by rw [HV.out]; simp
    clear HV HFA HFF
    go_wp2_with fail
    refine ((HFB _).out).mono ?_
    rintro e w2 ⟨rfl, hx2⟩
    obtain ⟨hc2, hf2⟩ := hx2.cells
    have hz2 := hx2.size
    try simp at hz2
    have hs2_0 := sz1 (a := w.heap.size) (b := w2.heap.size) (by omega)
    go_wp2
    go_ret
    exact ⟨rfl, (by repeat (first | exact Ext.refl _ | assumption | refine Ext.alloc ?_ _ | refine Ext.drew ?_ | refine Ext.drewN ?_ _ | refine Ext.setCell ?_ (by first | omega | (dsimp only; omega) | (simp; done) | (simp; omega)) _ | refine Ext.trans ?_ (by assumption)))⟩
  by_cases c2 : k = 11 ∧ x ≠ y
  · obtain ⟨rfl, hxy⟩ := c2
    have hxy' : ¬ ((x : Int) = y) := by omega
    obtain rfl : V = v := by rw [HV.out]; simp [hxy]
    clear HV HFB
    go_wp2
    refine wp_region_xt (by kernel_rfl) (by kernel_rfl) (fun hxc => ?_)
    repeat (first | go_big_quiet_step ((first | (go_at_call 98; with_reducible exact calls_xt ((HFA _).out)) | (go_at_call 98; with_reducible exact calls_xt ((HFF _).out)))) | quiet_step ((first | (go_at_call 98; with_reducible exact calls_xt ((HFA _).out)) | (go_at_call 98; with_reducible exact calls_xt ((HFF _).out)))))
    refine wpQuiet_nil (forall_xt ?_)
    clear hxc
    intro w2 hx2
    obtain ⟨hc2, hf2⟩ := hx2.cells
    have hz2 := hx2.size
    try simp at hz2
    have hs2_0 := sz1 (a := w.heap.size) (b := w2.heap.size) (by omega)
    go_wp2
    go_ret
    exact ⟨rfl, (by repeat (first | exact Ext.refl _ | assumption | refine Ext.alloc ?_ _ | refine Ext.drew ?_ | refine Ext.drewN ?_ _ | refine Ext.setCell ?_ (by first | omega | (dsimp only; omega) | (simp; done) | (simp; omega)) _ | refine Ext.trans ?_ (by assumption)))⟩
  · obtain rfl : V = s := by rw [HV.out, if_neg c1, if_neg c2]
    clear HV HFB HFA HFF
    go_wp2
    all_goals
      first
      | (exfalso; omega)
      | (go_ret
         exact ⟨rfl, (by repeat (first | exact Ext.refl _ | assumption | refine Ext.alloc ?_ _ | refine Ext.drew ?_ | refine Ext.drewN ?_ _ | refine Ext.setCell ?_ (by first | omega | (dsimp only; omega) | (simp; done) | (simp; omega)) _ | refine Ext.trans ?_ (by assumption)))⟩)


open Go.RowKit Go.Maps
set_option linter.unusedVariables false
set_option linter.unusedSimpArgs false

theorem wpList_insert_own {H : Type} {P : Program} (w : World) {ops : Array Oper} {rest : List Oper} {o : Oper} {a : Act} {Q : Exit → Act → World → Prop}
    (hg : o.guard = none) (m x v : Operand) (t : TypeId) (hop : o.op = Op.insert t m x v)
    (k e : TypeId) (K : Keyed P k) (ht : P.underlying t = some (.map k e)) (R : Value → Option (DataW H × List MemPlace)) (b n : Nat) (D : DataW H)
    (hm : a.eval m = .map (some b)) (hown : w.ownsMap P k R b n D) (hn : n < maxLen) (key val : Value) (kl : Lit) (hx : a.eval x = key) (hv : a.eval v = val) (hkey : keyOf P k key = some kl)
    (d : DataW H) (ps : List MemPlace) (hval : R val = some (d, ps))
    (hK : ∀ w', w'.ownsMap P k R b (n + 1) (D.put kl d) → w.grownBy w' (some b) → wpList P ops Q rest (a.put o.dst undef) w') :
    wpList P ops Q (o :: rest) a w := by
  refine wpList_plain hg fun K' hK' => ?_
  obtain ⟨w', hrun, r1, r2⟩ := hown.update K ht hn hkey hval
  unfold Oper.wp
  simp [execOp, hop, hm, hx, hv, hrun, Result.andThen]
  exact hK' _ _ (hK w' r1 r2)

theorem entZ (w : World) : (zeroValue 3).run Try.prog w = .ok (.int .i64 0) w := by kernel_rfl
theorem entL : Keyed Try.prog 3 := int_keyed Try.underlying3

set_option maxRecDepth 20000 in
set_option maxHeartbeats 4000000 in
theorem entry_any (k i j : Nat) (hk : 1 ≤ k ∧ k ≤ 8) (hi : i ≤ 1) (hj : j ≤ 1) (w : World) :
    Calls Try.prog 99 #[.int .i64 k, .int .i64 i, .int .i64 j] w fun e w' => e = .returned (.agg #[.int .i64 (entV k i j).1.a, .int .i64 (entV k i j).1.b, .int .i64 (entV k i j).1.c, .int .i64 (entV k i j).1.d, .int .i64 ((entV k i j).2 : Nat)]) ∧ Ext w w' := by
  have hmm := @run_makeMap Try.prog
  have HW1 := fun w' => Lib.hid (wholeQ_any 1 w')
  generalize hE : entV k i j = E
  obtain ⟨⟨ea, eb, ec, ed⟩, ee⟩ := E
  have HP1 : ∀ w', Hid (Calls Try.prog 94 #[.int .i64 1] w' fun e w'' => e = .returned (.agg #[.int .i64 0, .int .i64 1, .int .i64 0, .int .i64 0, .int .i64 0]) ∧ Ext w' w'') := fun w' => phase_any 1 (by decide) w'
  have HP2 : ∀ w', Hid (Calls Try.prog 94 #[.int .i64 2] w' fun e w'' => e = .returned (.agg #[.int .i64 0, .int .i64 0, .int .i64 1, .int .i64 0, .int .i64 0]) ∧ Ext w' w'') := fun w' => phase_any 2 (by decide) w'
  have HP4 : ∀ w', Hid (Calls Try.prog 94 #[.int .i64 4] w' fun e w'' => e = .returned (.agg #[.int .i64 (-1), .int .i64 0, .int .i64 0, .int .i64 0, .int .i64 0]) ∧ Ext w' w'') := fun w' => phase_any 4 (by decide) w'
  have HP6 : ∀ w', Hid (Calls Try.prog 94 #[.int .i64 6] w' fun e w'' => e = .returned (.agg #[.int .i64 0, .int .i64 0, .int .i64 (-1), .int .i64 0, .int .i64 0]) ∧ Ext w' w'') := fun w' => phase_any 6 (by decide) w'
  have HP7 : ∀ w', Hid (Calls Try.prog 94 #[.int .i64 7] w' fun e w'' => e = .returned (.agg #[.int .i64 0, .int .i64 0, .int .i64 0, .int .i64 (-1), .int .i64 0]) ∧ Ext w' w'') := fun w' => phase_any 7 (by decide) w'
  have hz0 : ((w.alloc (.cells #[.int .i64 0, .int .i64 0, .int .i64 0, .int .i64 0, .int .i64 0] 107)).alloc (.cells #[.int .i64 1, .int .i64 0, .int .i64 0, .int .i64 0, .int .i64 1] 107)).heap.size = w.heap.size + 1 + 1 := by simp
  have o0 := World.ownsMap_made (H := Nat) ((w.alloc (.cells #[.int .i64 0, .int .i64 0, .int .i64 0, .int .i64 0, .int .i64 0] 107)).alloc (.cells #[.int .i64 1, .int .i64 0, .int .i64 0, .int .i64 0, .int .i64 1] 107)) Try.prog 3 (plainElem Try.prog 3)
  rw [hz0] at o0
  have hk1 : keyOf Try.prog 3 (.int .i64 4) = some (.int .i64 4) := keyOf_int_mk Try.underlying3 rfl
  have hv1 : plainElem (H := Nat) Try.prog 3 (.int .i64 4) = some (.lit (.int .i64 4), []) := plainElem_int Try.underlying3 rfl
  have hk2 : keyOf Try.prog 3 (.int .i64 5) = some (.int .i64 5) := keyOf_int_mk Try.underlying3 rfl
  have hv2 : plainElem (H := Nat) Try.prog 3 (.int .i64 2) = some (.lit (.int .i64 2), []) := plainElem_int Try.underlying3 rfl
  have hk3 : keyOf Try.prog 3 (.int .i64 6) = some (.int .i64 6) := keyOf_int_mk Try.underlying3 rfl
  have hv3 : plainElem (H := Nat) Try.prog 3 (.int .i64 6) = some (.lit (.int .i64 6), []) := plainElem_int Try.underlying3 rfl
  have hk4 : keyOf Try.prog 3 (.int .i64 7) = some (.int .i64 7) := keyOf_int_mk Try.underlying3 rfl
  have hv4 : plainElem (H := Nat) Try.prog 3 (.int .i64 1) = some (.lit (.int .i64 1), []) := plainElem_int Try.underlying3 rfl
  have hk5 : keyOf Try.prog 3 (.int .i64 8) = some (.int .i64 8) := keyOf_int_mk Try.underlying3 rfl
  have hv5 : plainElem (H := Nat) Try.prog 3 (.int .i64 7) = some (.lit (.int .i64 7), []) := plainElem_int Try.underlying3 rfl
  go_enter Try.func99, Try.ntmps99
  go_upto_region 3 with (first | (refine wpList_insert_own (H := Nat) _ rfl _ _ _ 147 rfl 3 3 entL Try.underlying147 _ (w.heap.size + 1 + 1) 0 _ rfl o0 (by decide) _ _ _ rfl rfl hk1 _ [] hv1 ?_; intro v1 o1 g1; have x1 : Hid (Ext ((w.alloc (.cells #[.int .i64 0, .int .i64 0, .int .i64 0, .int .i64 0, .int .i64 0] 107)).alloc (.cells #[.int .i64 1, .int .i64 0, .int .i64 0, .int .i64 0, .int .i64 1] 107)) v1) := Ext.grown ((Ext.refl _).alloc _) g1 (fun k e => by cases e; simp); clear g1 o0) | (refine wpList_insert_own (H := Nat) _ rfl _ _ _ 147 rfl 3 3 entL Try.underlying147 _ (w.heap.size + 1 + 1) 1 _ rfl o1 (by decide) _ _ _ rfl rfl hk2 _ [] hv2 ?_; intro v2 o2 g2; have x2 : Hid (Ext ((w.alloc (.cells #[.int .i64 0, .int .i64 0, .int .i64 0, .int .i64 0, .int .i64 0] 107)).alloc (.cells #[.int .i64 1, .int .i64 0, .int .i64 0, .int .i64 0, .int .i64 1] 107)) v2) := Ext.grown x1.out g2 (fun k e => by cases e; simp); clear g2 o1 x1) | (refine wpList_insert_own (H := Nat) _ rfl _ _ _ 147 rfl 3 3 entL Try.underlying147 _ (w.heap.size + 1 + 1) 2 _ rfl o2 (by decide) _ _ _ rfl rfl hk3 _ [] hv3 ?_; intro v3 o3 g3; have x3 : Hid (Ext ((w.alloc (.cells #[.int .i64 0, .int .i64 0, .int .i64 0, .int .i64 0, .int .i64 0] 107)).alloc (.cells #[.int .i64 1, .int .i64 0, .int .i64 0, .int .i64 0, .int .i64 1] 107)) v3) := Ext.grown x2.out g3 (fun k e => by cases e; simp); clear g3 o2 x2) | (refine wpList_insert_own (H := Nat) _ rfl _ _ _ 147 rfl 3 3 entL Try.underlying147 _ (w.heap.size + 1 + 1) 3 _ rfl o3 (by decide) _ _ _ rfl rfl hk4 _ [] hv4 ?_; intro v4 o4 g4; have x4 : Hid (Ext ((w.alloc (.cells #[.int .i64 0, .int .i64 0, .int .i64 0, .int .i64 0, .int .i64 0] 107)).alloc (.cells #[.int .i64 1, .int .i64 0, .int .i64 0, .int .i64 0, .int .i64 1] 107)) v4) := Ext.grown x3.out g4 (fun k e => by cases e; simp); clear g4 o3 x3) | (refine wpList_insert_own (H := Nat) _ rfl _ _ _ 147 rfl 3 3 entL Try.underlying147 _ (w.heap.size + 1 + 1) 4 _ rfl o4 (by decide) _ _ _ rfl rfl hk5 _ [] hv5 ?_; intro v5 o5 g5; have x5 : Hid (Ext ((w.alloc (.cells #[.int .i64 0, .int .i64 0, .int .i64 0, .int .i64 0, .int .i64 0] 107)).alloc (.cells #[.int .i64 1, .int .i64 0, .int .i64 0, .int .i64 0, .int .i64 1] 107)) v5) := Ext.grown x4.out g5 (fun k e => by cases e; simp); clear g5 o4 x4))
  -- the cases
  have h0 : v5.heap[w.heap.size]? = some (.cells #[.int .i64 0, .int .i64 0, .int .i64 0, .int .i64 0, .int .i64 0] 107 (0, 0)) := (x5.out.heap (by simp; omega)).trans (heap_alloc_lt (heap_alloc_new _ _))
  have h1 : v5.heap[w.heap.size + 1]? = some (.cells #[.int .i64 1, .int .i64 0, .int .i64 0, .int .i64 0, .int .i64 1] 107 (0, 0)) := (x5.out.heap (by simp)).trans (heap_alloc_at _ _ _ (by simp))
  have z0 := fun k => cell_of_row _ _ k _ _ _ h0
  have f0 := fun k => frozen_of_row _ _ k _ _ h0
  have l0 := (Array.getElem?_eq_some_iff.1 h0).1
  have z1 := fun k => cell_of_row _ _ k _ _ _ h1
  have f1 := fun k => frozen_of_row _ _ k _ _ h1
  have l1 := (Array.getElem?_eq_some_iff.1 h1).1
  have HE : Ext w v5 := (((Ext.refl w).alloc _).alloc _).trans x5.out
  clear x5
  have hi2 : i = 0 ∨ i = 1 := by omega
  have hj2 : j = 0 ∨ j = 1 := by omega
  have hk4 : k = 1 ∨ k = 2 ∨ k = 3 ∨ 4 ≤ k := by omega
  rcases hk4 with rfl | rfl | rfl | hk4
  · clear hk
    rcases hi2 with rfl | rfl <;> rcases hj2 with rfl | rfl
    · have hE' : ((⟨1, 0, 0, 0⟩, 1) : R4 × Nat) = (⟨ea, eb, ec, ed⟩, ee) := hE
      cases hE'
      go_wp2
      refine bodyPost_ret (v := .agg #[.int .i64 1, .int .i64 0, .int .i64 0, .int .i64 0, .int .i64 1]) (by simp [results, Try.results99, go_sem, *]) rfl ?_
      exact ⟨rfl, (by repeat (first | (with_reducible refine Ext.setCell ?_ (by first | (simp; done) | (simp; omega)) _) | with_reducible refine Ext.alloc ?_ _ | with_reducible refine Ext.drew ?_ | with_reducible refine Ext.drewN ?_ _ | with_reducible assumption | with_reducible exact Ext.refl _ | with_reducible refine Ext.trans ?_ (by with_reducible assumption)))⟩
    · have hE' : ((⟨1, 0, 0, 0⟩, 1) : R4 × Nat) = (⟨ea, eb, ec, ed⟩, ee) := hE
      cases hE'
      go_wp2
      refine bodyPost_ret (v := .agg #[.int .i64 1, .int .i64 0, .int .i64 0, .int .i64 0, .int .i64 1]) (by simp [results, Try.results99, go_sem, *]) rfl ?_
      exact ⟨rfl, (by repeat (first | (with_reducible refine Ext.setCell ?_ (by first | (simp; done) | (simp; omega)) _) | with_reducible refine Ext.alloc ?_ _ | with_reducible refine Ext.drew ?_ | with_reducible refine Ext.drewN ?_ _ | with_reducible assumption | with_reducible exact Ext.refl _ | with_reducible refine Ext.trans ?_ (by with_reducible assumption)))⟩
    · have hE' : ((⟨1, 0, 0, 0⟩, 1) : R4 × Nat) = (⟨ea, eb, ec, ed⟩, ee) := hE
      cases hE'
      go_wp2
      refine bodyPost_ret (v := .agg #[.int .i64 1, .int .i64 0, .int .i64 0, .int .i64 0, .int .i64 1]) (by simp [results, Try.results99, go_sem, *]) rfl ?_
      exact ⟨rfl, (by repeat (first | (with_reducible refine Ext.setCell ?_ (by first | (simp; done) | (simp; omega)) _) | with_reducible refine Ext.alloc ?_ _ | with_reducible refine Ext.drew ?_ | with_reducible refine Ext.drewN ?_ _ | with_reducible assumption | with_reducible exact Ext.refl _ | with_reducible refine Ext.trans ?_ (by with_reducible assumption)))⟩
    · have hE' : ((⟨-1, 0, 0, 0⟩, 1) : R4 × Nat) = (⟨ea, eb, ec, ed⟩, ee) := hE
      cases hE'
      go_wp2
      refine bodyPost_ret (v := .agg #[.int .i64 (-1), .int .i64 0, .int .i64 0, .int .i64 0, .int .i64 1]) (by simp [results, Try.results99, go_sem, *]) rfl ?_
      exact ⟨rfl, (by repeat (first | (with_reducible refine Ext.setCell ?_ (by first | (simp; done) | (simp; omega)) _) | with_reducible refine Ext.alloc ?_ _ | with_reducible refine Ext.drew ?_ | with_reducible refine Ext.drewN ?_ _ | with_reducible assumption | with_reducible exact Ext.refl _ | with_reducible refine Ext.trans ?_ (by with_reducible assumption)))⟩
  · clear hk
    rcases hi2 with rfl | rfl <;> rcases hj2 with rfl | rfl
    · have hE' : ((⟨0, 0, 0, 0⟩, 0) : R4 × Nat) = (⟨ea, eb, ec, ed⟩, ee) := hE
      cases hE'
      go_wp2
      refine bodyPost_ret (v := .agg #[.int .i64 0, .int .i64 0, .int .i64 0, .int .i64 0, .int .i64 0]) (by simp [results, Try.results99, go_sem, *]) rfl ?_
      exact ⟨rfl, (by repeat (first | (with_reducible refine Ext.setCell ?_ (by first | (simp; done) | (simp; omega)) _) | with_reducible refine Ext.alloc ?_ _ | with_reducible refine Ext.drew ?_ | with_reducible refine Ext.drewN ?_ _ | with_reducible assumption | with_reducible exact Ext.refl _ | with_reducible refine Ext.trans ?_ (by with_reducible assumption)))⟩
    · have hE' : ((⟨1, 0, 0, 0⟩, 0) : R4 × Nat) = (⟨ea, eb, ec, ed⟩, ee) := hE
      cases hE'
      go_wp2_with fail
      refine ((HW1 _).out).mono ?_
      rintro e w1 ⟨rfl, hx1⟩
      have h0' := (hx1.heap l0).trans h0
      have z0' := fun k => cell_of_row _ _ k _ _ _ h0'
      have f0' := fun k => frozen_of_row _ _ k _ _ h0'
      have l0' := (Array.getElem?_eq_some_iff.1 h0').1
      have HE1 : Ext w w1 := HE.trans hx1
      clear z0 f0 l0 z1 f1 l1
      go_wp2
      refine bodyPost_ret (v := .agg #[.int .i64 1, .int .i64 0, .int .i64 0, .int .i64 0, .int .i64 0]) (by simp [results, Try.results99, go_sem, *]) rfl ?_
      exact ⟨rfl, (by repeat (first | (with_reducible refine Ext.setCell ?_ (by first | (simp; done) | (simp; omega)) _) | with_reducible refine Ext.alloc ?_ _ | with_reducible refine Ext.drew ?_ | with_reducible refine Ext.drewN ?_ _ | with_reducible assumption | with_reducible exact Ext.refl _ | with_reducible refine Ext.trans ?_ (by with_reducible assumption)))⟩
    · have hE' : ((⟨1, 0, 0, 0⟩, 0) : R4 × Nat) = (⟨ea, eb, ec, ed⟩, ee) := hE
      cases hE'
      go_wp2_with fail
      refine ((HW1 _).out).mono ?_
      rintro e w1 ⟨rfl, hx1⟩
      have h0' := (hx1.heap l0).trans h0
      have z0' := fun k => cell_of_row _ _ k _ _ _ h0'
      have f0' := fun k => frozen_of_row _ _ k _ _ h0'
      have l0' := (Array.getElem?_eq_some_iff.1 h0').1
      have HE1 : Ext w w1 := HE.trans hx1
      clear z0 f0 l0 z1 f1 l1
      go_wp2
      refine bodyPost_ret (v := .agg #[.int .i64 1, .int .i64 0, .int .i64 0, .int .i64 0, .int .i64 0]) (by simp [results, Try.results99, go_sem, *]) rfl ?_
      exact ⟨rfl, (by repeat (first | (with_reducible refine Ext.setCell ?_ (by first | (simp; done) | (simp; omega)) _) | with_reducible refine Ext.alloc ?_ _ | with_reducible refine Ext.drew ?_ | with_reducible refine Ext.drewN ?_ _ | with_reducible assumption | with_reducible exact Ext.refl _ | with_reducible refine Ext.trans ?_ (by with_reducible assumption)))⟩
    · have hE' : ((⟨0, 0, 0, 0⟩, 0) : R4 × Nat) = (⟨ea, eb, ec, ed⟩, ee) := hE
      cases hE'
      go_wp2
      refine bodyPost_ret (v := .agg #[.int .i64 0, .int .i64 0, .int .i64 0, .int .i64 0, .int .i64 0]) (by simp [results, Try.results99, go_sem, *]) rfl ?_
      exact ⟨rfl, (by repeat (first | (with_reducible refine Ext.setCell ?_ (by first | (simp; done) | (simp; omega)) _) | with_reducible refine Ext.alloc ?_ _ | with_reducible refine Ext.drew ?_ | with_reducible refine Ext.drewN ?_ _ | with_reducible assumption | with_reducible exact Ext.refl _ | with_reducible refine Ext.trans ?_ (by with_reducible assumption)))⟩
  · clear hk
    rcases hi2 with rfl | rfl <;> rcases hj2 with rfl | rfl
    · have hE' : ((⟨0, 0, 0, 0⟩, 0) : R4 × Nat) = (⟨ea, eb, ec, ed⟩, ee) := hE
      cases hE'
      go_wp2
      refine bodyPost_ret (v := .agg #[.int .i64 0, .int .i64 0, .int .i64 0, .int .i64 0, .int .i64 0]) (by simp [results, Try.results99, go_sem, *]) rfl ?_
      exact ⟨rfl, (by repeat (first | (with_reducible refine Ext.setCell ?_ (by first | (simp; done) | (simp; omega)) _) | with_reducible refine Ext.alloc ?_ _ | with_reducible refine Ext.drew ?_ | with_reducible refine Ext.drewN ?_ _ | with_reducible assumption | with_reducible exact Ext.refl _ | with_reducible refine Ext.trans ?_ (by with_reducible assumption)))⟩
    · have hE' : ((⟨0, 0, -1, 0⟩, 0) : R4 × Nat) = (⟨ea, eb, ec, ed⟩, ee) := hE
      cases hE'
      go_wp2_with fail
      refine ((HP6 _).out).mono ?_
      rintro e w1 ⟨rfl, hx1⟩
      have h0' := (hx1.heap l0).trans h0
      have z0' := fun k => cell_of_row _ _ k _ _ _ h0'
      have f0' := fun k => frozen_of_row _ _ k _ _ h0'
      have l0' := (Array.getElem?_eq_some_iff.1 h0').1
      have HE1 : Ext w w1 := HE.trans hx1
      clear z0 f0 l0 z1 f1 l1
      go_wp2
      refine bodyPost_ret (v := .agg #[.int .i64 0, .int .i64 0, .int .i64 (-1), .int .i64 0, .int .i64 0]) (by simp [results, Try.results99, go_sem, *]) rfl ?_
      exact ⟨rfl, (by repeat (first | (with_reducible refine Ext.setCell ?_ (by first | (simp; done) | (simp; omega)) _) | with_reducible refine Ext.alloc ?_ _ | with_reducible refine Ext.drew ?_ | with_reducible refine Ext.drewN ?_ _ | with_reducible assumption | with_reducible exact Ext.refl _ | with_reducible refine Ext.trans ?_ (by with_reducible assumption)))⟩
    · have hE' : ((⟨0, 0, 1, 0⟩, 0) : R4 × Nat) = (⟨ea, eb, ec, ed⟩, ee) := hE
      cases hE'
      go_wp2_with fail
      refine ((HP2 _).out).mono ?_
      rintro e w1 ⟨rfl, hx1⟩
      have h0' := (hx1.heap l0).trans h0
      have z0' := fun k => cell_of_row _ _ k _ _ _ h0'
      have f0' := fun k => frozen_of_row _ _ k _ _ h0'
      have l0' := (Array.getElem?_eq_some_iff.1 h0').1
      have HE1 : Ext w w1 := HE.trans hx1
      clear z0 f0 l0 z1 f1 l1
      go_wp2
      refine bodyPost_ret (v := .agg #[.int .i64 0, .int .i64 0, .int .i64 1, .int .i64 0, .int .i64 0]) (by simp [results, Try.results99, go_sem, *]) rfl ?_
      exact ⟨rfl, (by repeat (first | (with_reducible refine Ext.setCell ?_ (by first | (simp; done) | (simp; omega)) _) | with_reducible refine Ext.alloc ?_ _ | with_reducible refine Ext.drew ?_ | with_reducible refine Ext.drewN ?_ _ | with_reducible assumption | with_reducible exact Ext.refl _ | with_reducible refine Ext.trans ?_ (by with_reducible assumption)))⟩
    · have hE' : ((⟨0, 0, 0, 0⟩, 0) : R4 × Nat) = (⟨ea, eb, ec, ed⟩, ee) := hE
      cases hE'
      go_wp2
      refine bodyPost_ret (v := .agg #[.int .i64 0, .int .i64 0, .int .i64 0, .int .i64 0, .int .i64 0]) (by simp [results, Try.results99, go_sem, *]) rfl ?_
      exact ⟨rfl, (by repeat (first | (with_reducible refine Ext.setCell ?_ (by first | (simp; done) | (simp; omega)) _) | with_reducible refine Ext.alloc ?_ _ | with_reducible refine Ext.drew ?_ | with_reducible refine Ext.drewN ?_ _ | with_reducible assumption | with_reducible exact Ext.refl _ | with_reducible refine Ext.trans ?_ (by with_reducible assumption)))⟩
  · have n1 : ¬ (k = 1) := by omega
    have n2 : ¬ (k = 2) := by omega
    have n3 : ¬ (k = 3) := by omega
    have m1 : ¬ ((k : Int) = 1) := by omega
    have m2 : ¬ ((k : Int) = 2) := by omega
    have m3 : ¬ ((k : Int) = 3) := by omega
    have e1 : ((k : Int) == 1) = false := by simpa using m1
    have e2 : ((k : Int) == 2) = false := by simpa using m2
    have e3 : ((k : Int) == 3) = false := by simpa using m3
    rcases hi2 with rfl | rfl <;> rcases hj2 with rfl | rfl
    · have hE' : ((⟨1, 0, 0, 0⟩, 0) : R4 × Nat) = (⟨ea, eb, ec, ed⟩, ee) := by rw [← hE]; unfold entV; simp [n1, n2, n3, R4.one, R4.zero]
      cases hE'
      go_wp2_with fail
      refine ((HW1 _).out).mono ?_
      rintro e w1 ⟨rfl, hx1⟩
      have h0' := (hx1.heap l0).trans h0
      have z0' := fun k => cell_of_row _ _ k _ _ _ h0'
      have f0' := fun k => frozen_of_row _ _ k _ _ h0'
      have l0' := (Array.getElem?_eq_some_iff.1 h0').1
      have HE1 : Ext w w1 := HE.trans hx1
      clear z0 f0 l0 z1 f1 l1
      go_wp2
      refine bodyPost_ret (v := .agg #[.int .i64 1, .int .i64 0, .int .i64 0, .int .i64 0, .int .i64 0]) (by simp [results, Try.results99, go_sem, *]) rfl ?_
      exact ⟨rfl, (by repeat (first | (with_reducible refine Ext.setCell ?_ (by first | (simp; done) | (simp; omega)) _) | with_reducible refine Ext.alloc ?_ _ | with_reducible refine Ext.drew ?_ | with_reducible refine Ext.drewN ?_ _ | with_reducible assumption | with_reducible exact Ext.refl _ | with_reducible refine Ext.trans ?_ (by with_reducible assumption)))⟩
    · have hE' : ((⟨0, 0, 0, 0⟩, 0) : R4 × Nat) = (⟨ea, eb, ec, ed⟩, ee) := by rw [← hE]; unfold entV; simp [n1, n2, n3, R4.one, R4.zero]
      cases hE'
      go_wp2
      refine bodyPost_ret (v := .agg #[.int .i64 0, .int .i64 0, .int .i64 0, .int .i64 0, .int .i64 0]) (by simp [results, Try.results99, go_sem, *]) rfl ?_
      exact ⟨rfl, (by repeat (first | (with_reducible refine Ext.setCell ?_ (by first | (simp; done) | (simp; omega)) _) | with_reducible refine Ext.alloc ?_ _ | with_reducible refine Ext.drew ?_ | with_reducible refine Ext.drewN ?_ _ | with_reducible assumption | with_reducible exact Ext.refl _ | with_reducible refine Ext.trans ?_ (by with_reducible assumption)))⟩
    · have hE' : ((⟨0, 0, 0, 0⟩, 0) : R4 × Nat) = (⟨ea, eb, ec, ed⟩, ee) := by rw [← hE]; unfold entV; simp [n1, n2, n3, R4.one, R4.zero]
      cases hE'
      go_wp2
      refine bodyPost_ret (v := .agg #[.int .i64 0, .int .i64 0, .int .i64 0, .int .i64 0, .int .i64 0]) (by simp [results, Try.results99, go_sem, *]) rfl ?_
      exact ⟨rfl, (by repeat (first | (with_reducible refine Ext.setCell ?_ (by first | (simp; done) | (simp; omega)) _) | with_reducible refine Ext.alloc ?_ _ | with_reducible refine Ext.drew ?_ | with_reducible refine Ext.drewN ?_ _ | with_reducible assumption | with_reducible exact Ext.refl _ | with_reducible refine Ext.trans ?_ (by with_reducible assumption)))⟩
    · have hk8 : k = 4 ∨ k = 5 ∨ k = 6 ∨ k = 7 ∨ k = 8 := by omega
      clear n1 n2 n3 m1 m2 m3 e1 e2 e3 hk hk4
      rcases hk8 with rfl | rfl | rfl | rfl | rfl
      · have hE' : ((⟨-1, 0, 0, 0⟩, 0) : R4 × Nat) = (⟨ea, eb, ec, ed⟩, ee) := hE
        cases hE'
        go_wp2_with (at_lookup; refine wpList_lookup_own_int (H := Nat) _ rfl _ _ 147 rfl 3 3 .i64 entL Try.underlying147 Try.underlying3 (entZ _) (w.heap.size + 1 + 1) 5 _ rfl o5 _ _ rfl (keyOf_int_mk Try.underlying3 rfl) ?_; intro c hat hwc; obtain rfl : c = 4 := (by have h2 : (DataW.lit (.int .i64 4) : DataW Nat) = .lit (.int .i64 c) := hat; injection h2 with h3; injection h3 with h4 h5; exact h5.symm))
        refine ((HP4 _).out).mono ?_
        rintro e w1 ⟨rfl, hx1⟩
        have h0' := (hx1.heap l0).trans h0
        have z0' := fun k => cell_of_row _ _ k _ _ _ h0'
        have f0' := fun k => frozen_of_row _ _ k _ _ h0'
        have l0' := (Array.getElem?_eq_some_iff.1 h0').1
        have HE1 : Ext w w1 := HE.trans hx1
        clear z0 f0 l0 z1 f1 l1
        go_wp2
        refine bodyPost_ret (v := .agg #[.int .i64 (-1), .int .i64 0, .int .i64 0, .int .i64 0, .int .i64 0]) (by simp [results, Try.results99, go_sem, *]) rfl ?_
        exact ⟨rfl, (by repeat (first | (with_reducible refine Ext.setCell ?_ (by first | (simp; done) | (simp; omega)) _) | with_reducible refine Ext.alloc ?_ _ | with_reducible refine Ext.drew ?_ | with_reducible refine Ext.drewN ?_ _ | with_reducible assumption | with_reducible exact Ext.refl _ | with_reducible refine Ext.trans ?_ (by with_reducible assumption)))⟩
      · have hE' : ((⟨0, 0, 1, 0⟩, 0) : R4 × Nat) = (⟨ea, eb, ec, ed⟩, ee) := hE
        cases hE'
        go_wp2_with (at_lookup; refine wpList_lookup_own_int (H := Nat) _ rfl _ _ 147 rfl 3 3 .i64 entL Try.underlying147 Try.underlying3 (entZ _) (w.heap.size + 1 + 1) 5 _ rfl o5 _ _ rfl (keyOf_int_mk Try.underlying3 rfl) ?_; intro c hat hwc; obtain rfl : c = 2 := (by have h2 : (DataW.lit (.int .i64 2) : DataW Nat) = .lit (.int .i64 c) := hat; injection h2 with h3; injection h3 with h4 h5; exact h5.symm))
        refine ((HP2 _).out).mono ?_
        rintro e w1 ⟨rfl, hx1⟩
        have h0' := (hx1.heap l0).trans h0
        have z0' := fun k => cell_of_row _ _ k _ _ _ h0'
        have f0' := fun k => frozen_of_row _ _ k _ _ h0'
        have l0' := (Array.getElem?_eq_some_iff.1 h0').1
        have HE1 : Ext w w1 := HE.trans hx1
        clear z0 f0 l0 z1 f1 l1
        go_wp2
        refine bodyPost_ret (v := .agg #[.int .i64 0, .int .i64 0, .int .i64 1, .int .i64 0, .int .i64 0]) (by simp [results, Try.results99, go_sem, *]) rfl ?_
        exact ⟨rfl, (by repeat (first | (with_reducible refine Ext.setCell ?_ (by first | (simp; done) | (simp; omega)) _) | with_reducible refine Ext.alloc ?_ _ | with_reducible refine Ext.drew ?_ | with_reducible refine Ext.drewN ?_ _ | with_reducible assumption | with_reducible exact Ext.refl _ | with_reducible refine Ext.trans ?_ (by with_reducible assumption)))⟩
      · have hE' : ((⟨0, 0, -1, 0⟩, 0) : R4 × Nat) = (⟨ea, eb, ec, ed⟩, ee) := hE
        cases hE'
        go_wp2_with (at_lookup; refine wpList_lookup_own_int (H := Nat) _ rfl _ _ 147 rfl 3 3 .i64 entL Try.underlying147 Try.underlying3 (entZ _) (w.heap.size + 1 + 1) 5 _ rfl o5 _ _ rfl (keyOf_int_mk Try.underlying3 rfl) ?_; intro c hat hwc; obtain rfl : c = 6 := (by have h2 : (DataW.lit (.int .i64 6) : DataW Nat) = .lit (.int .i64 c) := hat; injection h2 with h3; injection h3 with h4 h5; exact h5.symm))
        refine ((HP6 _).out).mono ?_
        rintro e w1 ⟨rfl, hx1⟩
        have h0' := (hx1.heap l0).trans h0
        have z0' := fun k => cell_of_row _ _ k _ _ _ h0'
        have f0' := fun k => frozen_of_row _ _ k _ _ h0'
        have l0' := (Array.getElem?_eq_some_iff.1 h0').1
        have HE1 : Ext w w1 := HE.trans hx1
        clear z0 f0 l0 z1 f1 l1
        go_wp2
        refine bodyPost_ret (v := .agg #[.int .i64 0, .int .i64 0, .int .i64 (-1), .int .i64 0, .int .i64 0]) (by simp [results, Try.results99, go_sem, *]) rfl ?_
        exact ⟨rfl, (by repeat (first | (with_reducible refine Ext.setCell ?_ (by first | (simp; done) | (simp; omega)) _) | with_reducible refine Ext.alloc ?_ _ | with_reducible refine Ext.drew ?_ | with_reducible refine Ext.drewN ?_ _ | with_reducible assumption | with_reducible exact Ext.refl _ | with_reducible refine Ext.trans ?_ (by with_reducible assumption)))⟩
      · have hE' : ((⟨0, 1, 0, 0⟩, 0) : R4 × Nat) = (⟨ea, eb, ec, ed⟩, ee) := hE
        cases hE'
        go_wp2_with (at_lookup; refine wpList_lookup_own_int (H := Nat) _ rfl _ _ 147 rfl 3 3 .i64 entL Try.underlying147 Try.underlying3 (entZ _) (w.heap.size + 1 + 1) 5 _ rfl o5 _ _ rfl (keyOf_int_mk Try.underlying3 rfl) ?_; intro c hat hwc; obtain rfl : c = 1 := (by have h2 : (DataW.lit (.int .i64 1) : DataW Nat) = .lit (.int .i64 c) := hat; injection h2 with h3; injection h3 with h4 h5; exact h5.symm))
        refine ((HP1 _).out).mono ?_
        rintro e w1 ⟨rfl, hx1⟩
        have h0' := (hx1.heap l0).trans h0
        have z0' := fun k => cell_of_row _ _ k _ _ _ h0'
        have f0' := fun k => frozen_of_row _ _ k _ _ h0'
        have l0' := (Array.getElem?_eq_some_iff.1 h0').1
        have HE1 : Ext w w1 := HE.trans hx1
        clear z0 f0 l0 z1 f1 l1
        go_wp2
        refine bodyPost_ret (v := .agg #[.int .i64 0, .int .i64 1, .int .i64 0, .int .i64 0, .int .i64 0]) (by simp [results, Try.results99, go_sem, *]) rfl ?_
        exact ⟨rfl, (by repeat (first | (with_reducible refine Ext.setCell ?_ (by first | (simp; done) | (simp; omega)) _) | with_reducible refine Ext.alloc ?_ _ | with_reducible refine Ext.drew ?_ | with_reducible refine Ext.drewN ?_ _ | with_reducible assumption | with_reducible exact Ext.refl _ | with_reducible refine Ext.trans ?_ (by with_reducible assumption)))⟩
      · have hE' : ((⟨0, 0, 0, -1⟩, 0) : R4 × Nat) = (⟨ea, eb, ec, ed⟩, ee) := hE
        cases hE'
        go_wp2_with (at_lookup; refine wpList_lookup_own_int (H := Nat) _ rfl _ _ 147 rfl 3 3 .i64 entL Try.underlying147 Try.underlying3 (entZ _) (w.heap.size + 1 + 1) 5 _ rfl o5 _ _ rfl (keyOf_int_mk Try.underlying3 rfl) ?_; intro c hat hwc; obtain rfl : c = 7 := (by have h2 : (DataW.lit (.int .i64 7) : DataW Nat) = .lit (.int .i64 c) := hat; injection h2 with h3; injection h3 with h4 h5; exact h5.symm))
        refine ((HP7 _).out).mono ?_
        rintro e w1 ⟨rfl, hx1⟩
        have h0' := (hx1.heap l0).trans h0
        have z0' := fun k => cell_of_row _ _ k _ _ _ h0'
        have f0' := fun k => frozen_of_row _ _ k _ _ h0'
        have l0' := (Array.getElem?_eq_some_iff.1 h0').1
        have HE1 : Ext w w1 := HE.trans hx1
        clear z0 f0 l0 z1 f1 l1
        go_wp2
        refine bodyPost_ret (v := .agg #[.int .i64 0, .int .i64 0, .int .i64 0, .int .i64 (-1), .int .i64 0]) (by simp [results, Try.results99, go_sem, *]) rfl ?_
        exact ⟨rfl, (by repeat (first | (with_reducible refine Ext.setCell ?_ (by first | (simp; done) | (simp; omega)) _) | with_reducible refine Ext.alloc ?_ _ | with_reducible refine Ext.drew ?_ | with_reducible refine Ext.drewN ?_ _ | with_reducible assumption | with_reducible exact Ext.refl _ | with_reducible refine Ext.trans ?_ (by with_reducible assumption)))⟩

end Go.Proofs.Ytbddgeoaaklgpaa
