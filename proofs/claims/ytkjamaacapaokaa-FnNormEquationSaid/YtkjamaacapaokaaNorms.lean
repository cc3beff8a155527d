/- Counting the numbers with a given absolute square: the program's walk. -/
import Derived.Test.YtkjamaacapaokaaNormL
import Derived.Test.YtkjamaacapaokaaRoot2
namespace Go.Proofs.Ytkjamaacapaokaa
open Go.RowKit
set_option linter.unusedVariables false
set_option linter.unusedSimpArgs false

theorem grown_of_ext {W W' : World} {B : Nat} (h : Ext W W') : W.grownBy W' (some B) := by
  have h' : Below W.heap.size W W' := h
  exact ⟨h'.os, h'.tape, h'.output, h'.size, fun k hk _ => h'.block k hk⟩
theorem fill1 {W : World} {B : Nat} {t : TypeId} {cs : Array Value} (h : W.heap[B]? = some (.cells cs t (0, 0))) (i : Nat) (u : Value) :
    (W.setCell ⟨B, i, none⟩ u).heap[B]? = some (.cells (cs.setIfInBounds i u) t (0, 0)) ∧ W.grownBy (W.setCell ⟨B, i, none⟩ u) (some B) := by
  refine ⟨?_, ?_⟩
  · simp [World.setCell, Array.getElem?_modify, h]
  · refine ⟨rfl, rfl, rfl, by rw [World.size_setCell]; exact Nat.le_refl _, fun k hk hne => ?_⟩
    rw [Below.heap_setCell _ _ _ _ (fun e => hne (by rw [e]))]

/-- one number more -/
theorem count1_any (a b c d : Int) (B : Nat) (n : Int) (hn : 0 ≤ n ∧ n ≤ 1000000) (W : World) (hB : W.heap[B]? = some (.cells #[.int .i64 n] 3 (0, 0))) :
    Calls Try.prog 91 #[.agg #[.int .i64 a, .int .i64 b, .int .i64 c, .int .i64 d], .pointer (some ⟨B, 0, none⟩)] W fun e W' => e = .returned (.bool true) ∧ W'.heap[B]? = some (.cells #[.int .i64 (n + 1)] 3 (0, 0)) ∧ W.grownBy W' (some B) := by
  have hlt := (Array.getElem?_eq_some_iff.1 hB).1
  have z0 : ∀ k, W.cell? ⟨B, k, none⟩ = (#[.int .i64 n] : Array Value)[k]? := fun k => cell_of_row _ _ _ _ _ _ hB
  have hf : ∀ k, W.frozen? ⟨B, k, none⟩ = false := fun k => frozen_of_row _ _ _ _ _ hB
  have hne : B ≠ W.heap.size := by omega
  obtain ⟨f1, f2⟩ := fill1 hB 0 (.int .i64 (n + 1))
  go_enter Try.func91, Try.ntmps91
  go_wp2
  go_ret
  exact ⟨rfl, ((((Ext.refl _).alloc _).heap (Array.getElem?_eq_some_iff.1 f1).1).trans f1), f2.trans (grown_of_ext ((Ext.refl _).alloc _))⟩

/-- the program's numbers: what its loops say -/
theorem cL_neg {P Q a b c : Int} (h : P - a * a - b * b - c * c < 0) : cL P Q a b c = [] := by unfold cL; rw [if_pos h]
theorem cL_pos {P Q a b c : Int} (h : ¬ P - a * a - b * b - c * c < 0) : cL P Q a b c = eL P Q a b c (-isq (P - a * a - b * b - c * c)) ++ if isq (P - a * a - b * b - c * c) = 0 then [] else eL P Q a b c (isq (P - a * a - b * b - c * c)) := by unfold cL; rw [if_neg h]
theorem eL_no1 {P Q a b c d : Int} (h : (isq (P - a * a - b * b - c * c) * isq (P - a * a - b * b - c * c) == P - a * a - b * b - c * c) = false) : eL P Q a b c d = [] := by
  unfold eL; rw [if_neg]; rintro ⟨h1, _⟩; rw [beq_eq_false_iff_ne] at h; exact h h1
theorem eL_no2 {P Q a b c d : Int} (h : (a * b + b * c + c * d - d * a == Q) = false) : eL P Q a b c d = [] := by
  unfold eL; rw [if_neg]; rintro ⟨_, h1⟩; rw [beq_eq_false_iff_ne] at h; exact h h1
theorem eL_yes {P Q a b c d : Int} (h1 : (isq (P - a * a - b * b - c * c) * isq (P - a * a - b * b - c * c) == P - a * a - b * b - c * c) = true) (h2 : (a * b + b * c + c * d - d * a == Q) = true) : eL P Q a b c d = [(a, b, c, d)] := by
  unfold eL; rw [if_pos]; exact ⟨by simpa using h1, by simpa using h2⟩
theorem flatR_step {α : Type} (f : Int → List α) (x m : Int) (h : x ≤ m) : flatR f x (m + 1 - x).toNat = f x ++ flatR f (x + 1) (m + 1 - (x + 1)).toNat := by
  rw [show (m + 1 - x).toNat = (m + 1 - (x + 1)).toNat + 1 by omega, flatR_succ]
theorem flatR_done {α : Type} (f : Int → List α) (x m : Int) (h : ¬ x ≤ m) : flatR f x (m + 1 - x).toNat = [] := by
  rw [show (m + 1 - x).toNat = 0 by omega, flatR_zero]
theorem full_range {α : Type} (f : Int → List α) (m : Int) : flatR f (-m) (2 * m + 1).toNat = flatR f (-m) (m + 1 - -m).toNat := by
  rw [show (2 * m + 1).toNat = (m + 1 - -m).toNat by omega]

/-- the state of the count -/
def CS (w0 : World) (X B : Nat) (P Q : Int) (wr : World) (k : Nat) : Prop :=
  Ext w0 wr ∧ wr.heap[X]? = some (.cells #[.int .i64 P, .int .i64 Q] 35 (0, 0)) ∧ wr.heap[B]? = some (.cells #[.int .i64 k] 3 (0, 0))
theorem CS.ext {w0 wr wr' : World} {X B : Nat} {P Q : Int} {k : Nat} (h : CS w0 X B P Q wr k) (hx : Ext wr wr') : CS w0 X B P Q wr' k :=
  ⟨h.1.trans hx, (hx.heap (Array.getElem?_eq_some_iff.1 h.2.1).1).trans h.2.1, (hx.heap (Array.getElem?_eq_some_iff.1 h.2.2).1).trans h.2.2⟩
theorem CS.more {w0 wr wr' : World} {X B : Nat} {P Q : Int} {k : Nat} (h : CS w0 X B P Q wr k) (hB : w0.heap.size ≤ B) (hne : X ≠ B) (hg : wr.grownBy wr' (some B)) (hc : wr'.heap[B]? = some (.cells #[.int .i64 ((k : Int) + 1)] 3 (0, 0))) : CS w0 X B P Q wr' (k + 1) :=
  ⟨Ext.grown h.1 hg (fun j hj => by cases hj; exact hB), (hg.block X (Array.getElem?_eq_some_iff.1 h.2.1).1 (fun e => hne (by injection e))).trans h.2.1, by rw [hc]; simp⟩

/-- what is left of the last parts -/
def remL (P Q a b c e r : Int) : Nat → List (Int × Int × Int × Int)
  | 0 => eL P Q a b c e ++ if r = 0 then [] else eL P Q a b c r
  | 1 => eL P Q a b c r
  | _ => []
theorem neg_mul_self (r : Int) : -r * -r = r * r := Int.neg_mul_neg r r
theorem bd3 {a b c d m : Int} (hm : 0 ≤ m ∧ m ≤ 20) (ha : -m ≤ a ∧ a ≤ m) (hb : -m ≤ b ∧ b ≤ m) (hc : -m ≤ c ∧ c ≤ m) (hd : -20 ≤ d ∧ d ≤ 20) :
    (-400 ≤ a * b ∧ a * b ≤ 400) ∧ (-400 ≤ b * c ∧ b * c ≤ 400) ∧ (-400 ≤ c * d ∧ c * d ≤ 400) ∧ (-400 ≤ d * a ∧ d * a ≤ 400) :=
  ⟨mul_bd (A := 20) (B := 20) (by omega) (by omega) (by omega) (by omega), mul_bd (A := 20) (B := 20) (by omega) (by omega) (by omega) (by omega), mul_bd (A := 20) (B := 20) (by omega) (by omega) (by omega) (by omega), mul_bd (A := 20) (B := 20) (by omega) (by omega) (by omega) (by omega)⟩
theorem bd2 {a m : Int} (hm : 0 ≤ m ∧ m ≤ 20) (ha : -m ≤ a ∧ a ≤ m) : 0 ≤ a * a ∧ a * a ≤ 400 := sq_bd (A := 20) (by omega) (by omega)

set_option maxRecDepth 20000 in
set_option maxHeartbeats 4000000 in
theorem norms_count (P Q : Int) (hP : 0 ≤ P ∧ P ≤ 400) (hQ : -1000000 ≤ Q ∧ Q ≤ 1000000) (w0 w : World) (B : Nat) (hw : Ext w0 w) (hB : w0.heap.size ≤ B) (hc : w.heap[B]? = some (.cells #[.int .i64 0] 3 (0, 0))) :
    Calls Try.prog 90 #[.agg #[.int .i64 P, .int .i64 Q], .func (.func 91) #[] #[.pointer (some ⟨B, 0, none⟩)]] w fun e w' => e = .returned (.tuple #[]) ∧ Ext w0 w' ∧ w'.heap[B]? = some (.cells #[.int .i64 (nL P Q).length] 3 (0, 0)) := by
  have hBlt := (Array.getElem?_eq_some_iff.1 hc).1
  have hlen := nL_len (Q := Q) hP
  have hm := isq_of hP
  have HN : Hid (nL P Q = flatR (aL P Q) (-isq P) (isq P + 1 - -isq P).toNat) := full_range _ _
  have HA : Hid (∀ a, aL P Q a = flatR (bL P Q a) (-isq P) (isq P + 1 - -isq P).toNat) := fun a => full_range _ _
  have HBB : Hid (∀ a b, bL P Q a b = flatR (cL P Q a b) (-isq P) (isq P + 1 - -isq P).toNat) := fun a b => full_range _ _
  have HR := Lib.hid (rootOf_any P hP)
  have hm20 : 0 ≤ isq P ∧ isq P ≤ 20 := ⟨hm.1, hm.2.1⟩
  clear hm
  generalize isq P = m at *
  have hX : CS w0 w.heap.size B P Q (w.alloc (.cells #[.int .i64 P, .int .i64 Q] 35)) 0 :=
    ⟨hw.alloc _, heap_alloc_new _ _, (((Ext.refl w).alloc _).heap hBlt).trans (by simpa using hc)⟩
  have hXne : w.heap.size ≠ B := by omega
  go_enter Try.func90, Try.ntmps90
  go_wp2_with (go_at_call 86; ((with_reducible refine (HR.out _).mono ?_); rintro e w' ⟨rfl, rfl⟩))
  go_loopw [6, 7, 8, 9, 10, 11, 13] (fun sa _ _ _ _ _ _ wr => ∃ (a : Int) (pre : List (Int × Int × Int × Int)), sa = .int .i64 a ∧ -m ≤ a ∧ a ≤ m + 1 ∧ CS w0 w.heap.size B P Q wr pre.length ∧ nL P Q = pre ++ flatR (aL P Q) a (m + 1 - a).toNat) (fun sa _ _ _ _ _ _ _ => (m + 1 - intOf sa).toNat)
  case atStart => exact ⟨-m, [], rfl, by omega, by omega, hX, HN.out⟩
  case round =>
    obtain ⟨a, pre, rfl, ha1, ha2, hS, hL⟩ := hrel
    have HL := Lib.hid hL
    have HS := Lib.hid hS
    clear hL hS
    by_cases hlt : a ≤ m
    case neg =>
      have HE : Hid (nL P Q = pre) := by unfold Hid; rw [HL.out, flatR_done _ _ _ hlt, List.append_nil]
      go_wp2
      refine bodyPost_end (results_none rfl _ _ _) rfl ?_
      exact ⟨rfl, HS.out.1, by rw [HE.out]; exact HS.out.2.2⟩
    have HL2 : Hid (nL P Q = pre ++ (flatR (bL P Q a) (-m) (m + 1 - -m).toNat ++ flatR (aL P Q) (a + 1) (m + 1 - (a + 1)).toNat)) := by
      unfold Hid; rw [HL.out, flatR_step _ _ _ hlt, HA.out]
    clear HL
    generalize hT1 : flatR (aL P Q) (a + 1) (m + 1 - (a + 1)).toNat = T1 at *
    have HT1 := Lib.hid hT1
    have haa := bd2 hm20 ⟨ha1, hlt⟩
    clear hT1
    go_wp2
    go_loopw [7, 8, 9, 10, 11, 13] (fun sb _ _ _ _ _ wr => ∃ (b : Int) (pre : List (Int × Int × Int × Int)), sb = .int .i64 b ∧ -m ≤ b ∧ b ≤ m + 1 ∧ CS w0 w.heap.size B P Q wr pre.length ∧ nL P Q = pre ++ (flatR (bL P Q a) b (m + 1 - b).toNat ++ T1)) (fun sb _ _ _ _ _ _ => (m + 1 - intOf sb).toNat)
    case atStart => exact ⟨-m, pre, rfl, by omega, by omega, HS.out, HL2.out⟩
    case round =>
      clear HL2 HS
      obtain ⟨b, pre, rfl, hb1, hb2, hS, hL⟩ := hrel
      have HL := Lib.hid hL
      have HS := Lib.hid hS
      clear hL hS
      by_cases hlb : b ≤ m
      case neg =>
        have HE : Hid (nL P Q = pre ++ T1) := by unfold Hid; rw [HL.out, flatR_done _ _ _ hlb, List.nil_append]
        go_wp2
        go_roundw
        case rel => exact ⟨a + 1, pre, rfl, by omega, by omega, HS.out, by rw [HE.out, HT1.out]⟩
        case measure => simp [intOf]; omega
      have HL2 : Hid (nL P Q = pre ++ (flatR (cL P Q a b) (-m) (m + 1 - -m).toNat ++ (flatR (bL P Q a) (b + 1) (m + 1 - (b + 1)).toNat ++ T1))) := by
        unfold Hid; rw [HL.out, flatR_step _ _ _ hlb, HBB.out, List.append_assoc]
      clear HL
      generalize hT2 : flatR (bL P Q a) (b + 1) (m + 1 - (b + 1)).toNat ++ T1 = T2 at *
      have HT2 := Lib.hid hT2
      have hbb := bd2 hm20 ⟨hb1, hlb⟩
      clear hT2
      go_wp2
      go_loopw [8, 9, 10, 11, 13] (fun sc _ _ _ _ wr => ∃ (c : Int) (pre : List (Int × Int × Int × Int)), sc = .int .i64 c ∧ -m ≤ c ∧ c ≤ m + 1 ∧ CS w0 w.heap.size B P Q wr pre.length ∧ nL P Q = pre ++ (flatR (cL P Q a b) c (m + 1 - c).toNat ++ T2)) (fun sc _ _ _ _ _ => (m + 1 - intOf sc).toNat)
      case atStart => exact ⟨-m, pre, rfl, by omega, by omega, HS.out, HL2.out⟩
      case round =>
        clear HL2 HS
        obtain ⟨c, pre, rfl, hc1, hc2, hS, hL⟩ := hrel
        have HL := Lib.hid hL
        have HS := Lib.hid hS
        by_cases hlc : c ≤ m
        case neg =>
          clear hS hL
          have HE : Hid (nL P Q = pre ++ T2) := by unfold Hid; rw [HL.out, flatR_done _ _ _ hlc, List.nil_append]
          go_wp2
          go_roundw
          case rel => exact ⟨b + 1, pre, rfl, by omega, by omega, HS.out, by rw [HE.out, HT2.out]⟩
          case measure => simp [intOf]; omega
        have HL2 : Hid (nL P Q = pre ++ (cL P Q a b c ++ (flatR (cL P Q a b) (c + 1) (m + 1 - (c + 1)).toNat ++ T2))) := by
          unfold Hid; rw [HL.out, flatR_step _ _ _ hlc, List.append_assoc]
        clear HL hL
        generalize hT3 : flatR (cL P Q a b) (c + 1) (m + 1 - (c + 1)).toNat ++ T2 = T3 at *
        have HT3 := Lib.hid hT3
        have hcc := bd2 hm20 ⟨hc1, hlc⟩
        have hXr : wr.heap[w.heap.size]? = some (.cells #[.int .i64 P, .int .i64 Q] 35 (0, 0)) := hS.2.1
        have zX : ∀ k, wr.cell? ⟨w.heap.size, k, none⟩ = (#[.int .i64 P, .int .i64 Q] : Array Value)[k]? := fun k => cell_of_row _ _ _ _ _ _ hXr
        have hXl : w.heap.size < wr.heap.size := (Array.getElem?_eq_some_iff.1 hXr).1
        have hpl : pre.length ≤ 137842 := by have := HL2.out; have h2 := congrArg List.length this; rw [List.length_append] at h2; omega
        clear hT3 hS hXr
        by_cases hneg : P - a * a - b * b - c * c < 0
        · have HE : Hid (nL P Q = pre ++ T3) := by unfold Hid; rw [HL2.out, cL_neg hneg, List.nil_append]
          go_wp2
          go_roundw
          case rel => exact ⟨c + 1, pre, rfl, by omega, by omega, HS.out, by rw [HE.out, HT3.out]⟩
          case measure => simp [intOf]; omega
        have HL3 : Hid (nL P Q = pre ++ ((eL P Q a b c (-isq (P - a * a - b * b - c * c)) ++ if isq (P - a * a - b * b - c * c) = 0 then [] else eL P Q a b c (isq (P - a * a - b * b - c * c))) ++ T3)) := by
          unfold Hid; rw [HL2.out, cL_pos hneg]
        have HE1 : Hid (∀ d, (isq (P - a * a - b * b - c * c) * isq (P - a * a - b * b - c * c) == P - a * a - b * b - c * c) = false → eL P Q a b c d = []) := fun d h => eL_no1 h
        have HE2 : Hid (∀ d, (a * b + b * c + c * d - d * a == Q) = false → eL P Q a b c d = []) := fun d h => eL_no2 h
        have HE3 : Hid (∀ d, (isq (P - a * a - b * b - c * c) * isq (P - a * a - b * b - c * c) == P - a * a - b * b - c * c) = true → (a * b + b * c + c * d - d * a == Q) = true → eL P Q a b c d = [(a, b, c, d)]) := fun d h1 h2 => eL_yes h1 h2
        have hrb := isq_of (n := P - a * a - b * b - c * c) ⟨by omega, by omega⟩
        have HRR := Lib.hid (rootOf_any (P - a * a - b * b - c * c) ⟨by omega, by omega⟩)
        have hr20 : 0 ≤ isq (P - a * a - b * b - c * c) ∧ isq (P - a * a - b * b - c * c) ≤ 20 := ⟨hrb.1, hrb.2.1⟩
        clear HL2 hrb
        generalize isq (P - a * a - b * b - c * c) = r at *
        have b1 := bd3 hm20 ⟨ha1, hlt⟩ ⟨hb1, hlb⟩ ⟨hc1, hlc⟩ (d := -r) (by omega)
        have b2 := bd3 hm20 ⟨ha1, hlt⟩ ⟨hb1, hlb⟩ ⟨hc1, hlc⟩ (d := r) (by omega)
        have HB1 := Lib.hid b1
        have HB2 := Lib.hid b2
        clear b1 b2
        generalize (r * r == P - a * a - b * b - c * c) = ok at *
        have hAB : wr.heap.size ≠ B := by have := (Array.getElem?_eq_some_iff.1 HS.out.2.2).1; omega
        go_wp2_with (go_at_call 86; ((with_reducible refine (HRR.out _).mono ?_); rintro e w' ⟨rfl, rfl⟩))
        generalize hd : -r = e at *
        generalize hA : wr.heap.size = A at *
        have hd1 : -20 ≤ e ∧ e ≤ 0 := by omega
        go_loopw [13, 67] (fun _ si wi => ∃ (jj : Nat) (pre : List (Int × Int × Int × Int)), si = .int .i64 jj ∧ jj ≤ 2 ∧ (jj = 0 ∨ r ≠ 0) ∧ CS w0 w.heap.size B P Q wi pre.length ∧ wi.heap[A]? = some (.cells #[.int .i64 e, .int .i64 r] 3 (0, 0)) ∧ nL P Q = pre ++ (remL P Q a b c e r jj ++ T3)) (fun _ si _ => 2 - (intOf si).toNat)
        case atStart => exact ⟨0, pre, rfl, by omega, .inl rfl, HS.out.ext ((Ext.refl _).alloc _), by rw [← hA]; exact heap_alloc_new _ _, HL3.out⟩
        case round =>
          obtain ⟨jj, pre, rfl, hj2, hjr, hS, hAr, hL⟩ := hrel
          clear HL3 HS zX hXl hpl
          have HL := Lib.hid hL
          have HS := Lib.hid hS
          have HAr := Lib.hid hAr
          have hXr : wr.heap[w.heap.size]? = some (.cells #[.int .i64 P, .int .i64 Q] 35 (0, 0)) := hS.2.1
          have zX : ∀ k, wr.cell? ⟨w.heap.size, k, none⟩ = (#[.int .i64 P, .int .i64 Q] : Array Value)[k]? := fun k => cell_of_row _ _ _ _ _ _ hXr
          have zA : ∀ k, wr.cell? ⟨A, k, none⟩ = (#[.int .i64 e, .int .i64 r] : Array Value)[k]? := fun k => cell_of_row _ _ _ _ _ _ hAr
          have hXl : w.heap.size < wr.heap.size := (Array.getElem?_eq_some_iff.1 hXr).1
          have hAl : A < wr.heap.size := (Array.getElem?_eq_some_iff.1 hAr).1
          have hpl : pre.length ≤ 137842 := by have h2 := congrArg List.length HL.out; rw [List.length_append] at h2; omega
          clear hXr hAr hS hL
          obtain rfl | rfl | rfl : jj = 0 ∨ jj = 1 ∨ jj = 2 := by omega
          · have hj' : ((0 : Nat) : Int) < 2 := by omega
            by_cases hr0 : r = 0
            · have hrb : (r == 0) = true := by simpa using hr0
              have heb : (e == 0) = true := by simp; omega
              have Q0 : Hid (remL P Q a b c e r 0 = eL P Q a b c e ++ []) := by unfold Hid remL; simp [hr0]
              cases hok : ok
              · skip
                go_wp2
                go_roundw
                case rel => exact ⟨c + 1, pre, rfl, by omega, by omega, HS.out, by rw [HL.out, Q0.out, HE1.out _ hok]; simp [HT3.out]⟩
                case measure => simp [intOf]; omega
              · have hbd := HB1.out
                cases hs : (a * b + b * c + c * e - e * a == Q)
                · skip
                  go_wp2
                  go_roundw
                  case rel => exact ⟨c + 1, pre, rfl, by omega, by omega, HS.out, by rw [HL.out, Q0.out, HE2.out _ hs]; simp [HT3.out]⟩
                  case measure => simp [intOf]; omega
                · skip
                  have hs0 : (a * b + b * c == Q) = true := by have h0 := hs; rw [show e = 0 by omega] at h0; simpa using h0
                  have HC := Lib.hid (count1_any a b c e B pre.length (by omega) wr HS.out.2.2)
                  have he0 : e = 0 := by omega
                  rw [he0] at HC
                  go_wp2_with fail
                  refine HC.out.mono ?_
                  rintro e1 w1 ⟨rfl, hw1, hg1⟩
                  have HS1 := Lib.hid (HS.out.more hB hXne hg1 hw1)
                  have HA1 := Lib.hid ((hg1.block A hAl (fun e => hAB (by injection e))).trans HAr.out)
                  clear hw1 hg1
                  go_wp2
                  go_roundw
                  case rel => exact ⟨c + 1, pre ++ [(a, b, c, e)], rfl, by omega, by omega, by simpa using HS1.out, by rw [HL.out, Q0.out, HE3.out _ hok hs]; simp [HT3.out]⟩
                  case measure => simp [intOf]; omega
            · have hrb : (r == 0) = false := by simpa using hr0
              have heb : (e == 0) = false := by simp; omega
              have Q0 : Hid (remL P Q a b c e r 0 = eL P Q a b c e ++ eL P Q a b c r) := by unfold Hid remL; simp [hr0]
              cases hok : ok
              · skip
                go_wp2
                go_roundw
                case rel => exact ⟨1, pre, rfl, by omega, .inr (by omega), HS.out, HAr.out, by rw [HL.out, Q0.out, HE1.out _ hok]; rfl⟩
                case measure => simp [intOf]
              · have hbd := HB1.out
                cases hs : (a * b + b * c + c * e - e * a == Q)
                · skip
                  go_wp2
                  go_roundw
                  case rel => exact ⟨1, pre, rfl, by omega, .inr (by omega), HS.out, HAr.out, by rw [HL.out, Q0.out, HE2.out _ hs]; rfl⟩
                  case measure => simp [intOf]
                · skip
                  have HC := Lib.hid (count1_any a b c e B pre.length (by omega) wr HS.out.2.2)
                  go_wp2_with fail
                  refine HC.out.mono ?_
                  rintro e1 w1 ⟨rfl, hw1, hg1⟩
                  have HS1 := Lib.hid (HS.out.more hB hXne hg1 hw1)
                  have HA1 := Lib.hid ((hg1.block A hAl (fun e => hAB (by injection e))).trans HAr.out)
                  clear hw1 hg1
                  go_wp2
                  go_roundw
                  case rel => exact ⟨1, pre ++ [(a, b, c, e)], rfl, by omega, .inr (by omega), by simpa using HS1.out, HA1.out, by rw [HL.out, Q0.out, HE3.out _ hok hs]; simp [remL]⟩
                  case measure => simp [intOf]
          · have hr0 : r ≠ 0 := by omega
            have hj' : ((1 : Nat) : Int) < 2 := by omega
            have hrb : (r == 0) = false := by simpa using hr0
            have Q0 : Hid (remL P Q a b c e r 1 = eL P Q a b c r) := rfl
            cases hok : ok
            · skip
              go_wp2
              go_roundw
              case rel => exact ⟨2, pre, rfl, by omega, .inr (by omega), HS.out, HAr.out, by rw [HL.out, Q0.out, HE1.out _ hok]; rfl⟩
              case measure => simp [intOf]
            · have hbd := HB2.out
              cases hs : (a * b + b * c + c * r - r * a == Q)
              · skip
                go_wp2
                go_roundw
                case rel => exact ⟨2, pre, rfl, by omega, .inr (by omega), HS.out, HAr.out, by rw [HL.out, Q0.out, HE2.out _ hs]; rfl⟩
                case measure => simp [intOf]
              · skip
                have HC := Lib.hid (count1_any a b c r B pre.length (by omega) wr HS.out.2.2)
                go_wp2_with fail
                refine HC.out.mono ?_
                rintro e1 w1 ⟨rfl, hw1, hg1⟩
                have HS1 := Lib.hid (HS.out.more hB hXne hg1 hw1)
                have HA1 := Lib.hid ((hg1.block A hAl (fun e => hAB (by injection e))).trans HAr.out)
                clear hw1 hg1
                go_wp2
                go_roundw
                case rel => exact ⟨2, pre ++ [(a, b, c, r)], rfl, by omega, .inr (by omega), by simpa using HS1.out, HA1.out, by rw [HL.out, Q0.out, HE3.out _ hok hs]; simp [remL]⟩
                case measure => simp [intOf]
          · go_wp2
            go_roundw
            case rel => exact ⟨c + 1, pre, rfl, by omega, by omega, HS.out, by rw [HL.out]; simp [remL, HT3.out]⟩
            case measure => simp [intOf]; omega

end Go.Proofs.Ytkjamaacapaokaa
