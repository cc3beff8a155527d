/- The first number with a given absolute square: the program's walk. -/
import Derived.Test.YtbffcpnpdpgfeaaNorms
namespace Go.Proofs.Ytbffcpnpdpgfeaa
open Go.RowKit
set_option linter.unusedVariables false
set_option linter.unusedSimpArgs false

def SS (w wr : World) (P Q : Int) : Prop :=
  Ext w wr ∧ (wr.heap[w.heap.size]? = some (.cells #[.int .i64 P, .int .i64 Q] 53 (0, 0)) ∧ True)
theorem SS.ext {w wr wr' : World} {P Q : Int} (h : SS w wr P Q) (hx : Ext wr wr') : SS w wr' P Q :=
  ⟨h.1.trans hx, (hx.heap (Array.getElem?_eq_some_iff.1 h.2.1).1).trans h.2.1, trivial⟩

theorem solve1_any (a b c d : Int) (Bo Bf : Nat) (W : World) (hO : W.heap[Bo]? = some (.cells #[.int .i64 0, .int .i64 0, .int .i64 0, .int .i64 0] 33 (0, 0))) (hF : W.heap[Bf]? = some (.cells #[.bool false] 4 (0, 0))) (hne : Bo ≠ Bf) :
    Calls Try.prog 59 #[.agg #[.int .i64 a, .int .i64 b, .int .i64 c, .int .i64 d], .pointer (some ⟨Bo, 0, none⟩), .pointer (some ⟨Bf, 0, none⟩)] W fun e W' => e = .returned (.bool false) ∧
      W'.heap[Bo]? = some (.cells #[.int .i64 a, .int .i64 b, .int .i64 c, .int .i64 d] 33 (0, 0)) ∧ W'.heap[Bf]? = some (.cells #[.bool true] 4 (0, 0)) ∧ ∀ w0, Ext w0 W → w0.heap.size ≤ Bo → w0.heap.size ≤ Bf → Ext w0 W' := by
  have hlo := (Array.getElem?_eq_some_iff.1 hO).1
  have hlf := (Array.getElem?_eq_some_iff.1 hF).1
  have z0 : ∀ k, W.cell? ⟨Bo, k, none⟩ = (#[.int .i64 0, .int .i64 0, .int .i64 0, .int .i64 0] : Array Value)[k]? := fun k => cell_of_row _ _ _ _ _ _ hO
  have f0 : ∀ k, W.frozen? ⟨Bo, k, none⟩ = false := fun k => frozen_of_row _ _ _ _ _ hO
  have z1 : ∀ k, W.cell? ⟨Bf, k, none⟩ = (#[.bool false] : Array Value)[k]? := fun k => cell_of_row _ _ _ _ _ _ hF
  have f1 : ∀ k, W.frozen? ⟨Bf, k, none⟩ = false := fun k => frozen_of_row _ _ _ _ _ hF
  have n1 : Bo ≠ W.heap.size := by omega
  have n2 : Bf ≠ W.heap.size := by omega
  have n3 : Bf ≠ Bo := fun e => hne e.symm
  obtain ⟨a1, a2⟩ := fill1 hO 0 (.int .i64 a)
  obtain ⟨b1, b2⟩ := fill1 a1 1 (.int .i64 b)
  obtain ⟨c1, c2⟩ := fill1 b1 2 (.int .i64 c)
  obtain ⟨d1, d2⟩ := fill1 c1 3 (.int .i64 d)
  have hF4 := ((((a2.trans b2).trans c2).trans d2).block Bf hlf (fun e => n3 (by injection e))).trans hF
  obtain ⟨e1, e2⟩ := fill1 hF4 0 (.bool true)
  have hO5 := (e2.block Bo (Array.getElem?_eq_some_iff.1 d1).1 (fun e => hne (by injection e))).trans d1
  go_enter Try.func59, Try.ntmps59
  go_wp2
  go_ret
  exact ⟨rfl, (((Ext.refl _).alloc _).heap (Array.getElem?_eq_some_iff.1 hO5).1).trans (by simpa using hO5), (((Ext.refl _).alloc _).heap (Array.getElem?_eq_some_iff.1 e1).1).trans (by simpa using e1), fun w0 hE h1 h2 => (((((hE.setCell h1 _).setCell h1 _).setCell h1 _).setCell h1 _).setCell h2 _).alloc _⟩

-- THE WALK
set_option maxRecDepth 20000 in
set_option maxHeartbeats 4000000 in
theorem norms_solve (P Q : Int) (hP : 0 ≤ P ∧ P ≤ 400) (hQ : -1000000 ≤ Q ∧ Q ≤ 1000000) (w0 w : World) (Bo Bf : Nat) (hw : Ext w0 w) (hBo0 : w0.heap.size ≤ Bo) (hBf0 : w0.heap.size ≤ Bf) (hof : Bo ≠ Bf)
    (hBo : w.heap[Bo]? = some (.cells #[.int .i64 0, .int .i64 0, .int .i64 0, .int .i64 0] 33 (0, 0))) (hBf : w.heap[Bf]? = some (.cells #[.bool false] 4 (0, 0))) :
    Calls Try.prog 58 #[.agg #[.int .i64 P, .int .i64 Q], .func (.func 59) #[] #[.pointer (some ⟨Bo, 0, none⟩), .pointer (some ⟨Bf, 0, none⟩)]] w fun e w' => e = .returned (.tuple #[]) ∧ Ext w0 w' ∧
      ((nL P Q = [] ∧ Ext w w') ∨ ∃ x l, nL P Q = x :: l ∧ w'.heap[Bo]? = some (.cells #[.int .i64 x.1, .int .i64 x.2.1, .int .i64 x.2.2.1, .int .i64 x.2.2.2] 33 (0, 0)) ∧ w'.heap[Bf]? = some (.cells #[.bool true] 4 (0, 0))) := by
  have hm := isq_of hP
  have HN : Hid (nL P Q = flatR (aL P Q) (-isq P) (isq P + 1 - -isq P).toNat) := full_range _ _
  have HA : Hid (∀ a, aL P Q a = flatR (bL P Q a) (-isq P) (isq P + 1 - -isq P).toNat) := fun a => full_range _ _
  have HBB : Hid (∀ a b, bL P Q a b = flatR (cL P Q a b) (-isq P) (isq P + 1 - -isq P).toNat) := fun a b => full_range _ _
  have HR := Lib.hid (rootOf_any P hP)
  have hm20 : 0 ≤ isq P ∧ isq P ≤ 20 := ⟨hm.1, hm.2.1⟩
  clear hm
  generalize isq P = m at *
  have hX : SS w (w.alloc (.cells #[.int .i64 P, .int .i64 Q] 53)) P Q := ⟨(Ext.refl w).alloc _, heap_alloc_new _ _, trivial⟩
  have hBol := (Array.getElem?_eq_some_iff.1 hBo).1
  have hBfl := (Array.getElem?_eq_some_iff.1 hBf).1
  go_enter Try.func58, Try.ntmps58
  go_wp2_with (go_at_call 51; ((with_reducible refine (HR.out _).mono ?_); rintro e w' ⟨rfl, rfl⟩))
  go_loopw [6, 7, 8, 9, 10, 11, 13] (fun sa _ _ _ _ _ _ wr => ∃ (a : Int), sa = .int .i64 a ∧ -m ≤ a ∧ a ≤ m + 1 ∧ SS w wr P Q ∧ nL P Q = flatR (aL P Q) a (m + 1 - a).toNat) (fun sa _ _ _ _ _ _ _ => (m + 1 - intOf sa).toNat)
  case atStart => exact ⟨-m, rfl, by omega, by omega, hX, HN.out⟩
  case round =>
    obtain ⟨a, rfl, ha1, ha2, hS, hL⟩ := hrel
    have HL := Lib.hid hL
    have HS := Lib.hid hS
    clear hL hS
    by_cases hlt : a ≤ m
    case neg =>
      have HE : Hid (nL P Q = []) := by unfold Hid; rw [HL.out, flatR_done _ _ _ hlt]
      go_wp2
      refine bodyPost_end (results_none rfl _ _ _) rfl ?_
      exact ⟨rfl, hw.trans HS.out.1, .inl ⟨HE.out, HS.out.1⟩⟩
    have HL2 : Hid (nL P Q = (flatR (bL P Q a) (-m) (m + 1 - -m).toNat ++ flatR (aL P Q) (a + 1) (m + 1 - (a + 1)).toNat)) := by
      unfold Hid; rw [HL.out, flatR_step _ _ _ hlt, HA.out]
    clear HL
    generalize hT1 : flatR (aL P Q) (a + 1) (m + 1 - (a + 1)).toNat = T1 at *
    have HT1 := Lib.hid hT1
    have haa := bd2 hm20 ⟨ha1, hlt⟩
    clear hT1
    go_wp2
    go_loopw [7, 8, 9, 10, 11, 13] (fun sb _ _ _ _ _ wr => ∃ (b : Int), sb = .int .i64 b ∧ -m ≤ b ∧ b ≤ m + 1 ∧ SS w wr P Q ∧ nL P Q = (flatR (bL P Q a) b (m + 1 - b).toNat ++ T1)) (fun sb _ _ _ _ _ _ => (m + 1 - intOf sb).toNat)
    case atStart => exact ⟨-m, rfl, by omega, by omega, HS.out, HL2.out⟩
    case round =>
      clear HL2 HS
      obtain ⟨b, rfl, hb1, hb2, hS, hL⟩ := hrel
      have HL := Lib.hid hL
      have HS := Lib.hid hS
      clear hL hS
      by_cases hlb : b ≤ m
      case neg =>
        have HE : Hid (nL P Q = T1) := by unfold Hid; rw [HL.out, flatR_done _ _ _ hlb, List.nil_append]
        go_wp2
        go_roundw
        case rel => exact ⟨a + 1, rfl, by omega, by omega, HS.out, by rw [HE.out, HT1.out]⟩
        case measure => simp [intOf]; omega
      have HL2 : Hid (nL P Q = (flatR (cL P Q a b) (-m) (m + 1 - -m).toNat ++ (flatR (bL P Q a) (b + 1) (m + 1 - (b + 1)).toNat ++ T1))) := by
        unfold Hid; rw [HL.out, flatR_step _ _ _ hlb, HBB.out, List.append_assoc]
      clear HL
      generalize hT2 : flatR (bL P Q a) (b + 1) (m + 1 - (b + 1)).toNat ++ T1 = T2 at *
      have HT2 := Lib.hid hT2
      have hbb := bd2 hm20 ⟨hb1, hlb⟩
      clear hT2
      go_wp2
      go_loopw [8, 9, 10, 11, 13] (fun sc _ _ _ _ wr => ∃ (c : Int), sc = .int .i64 c ∧ -m ≤ c ∧ c ≤ m + 1 ∧ SS w wr P Q ∧ nL P Q = (flatR (cL P Q a b) c (m + 1 - c).toNat ++ T2)) (fun sc _ _ _ _ _ => (m + 1 - intOf sc).toNat)
      case atStart => exact ⟨-m, rfl, by omega, by omega, HS.out, HL2.out⟩
      case round =>
        clear HL2 HS
        obtain ⟨c, rfl, hc1, hc2, hS, hL⟩ := hrel
        have HL := Lib.hid hL
        have HS := Lib.hid hS
        by_cases hlc : c ≤ m
        case neg =>
          clear hS hL
          have HE : Hid (nL P Q = T2) := by unfold Hid; rw [HL.out, flatR_done _ _ _ hlc, List.nil_append]
          go_wp2
          go_roundw
          case rel => exact ⟨b + 1, rfl, by omega, by omega, HS.out, by rw [HE.out, HT2.out]⟩
          case measure => simp [intOf]; omega
        have HL2 : Hid (nL P Q = (cL P Q a b c ++ (flatR (cL P Q a b) (c + 1) (m + 1 - (c + 1)).toNat ++ T2))) := by
          unfold Hid; rw [HL.out, flatR_step _ _ _ hlc, List.append_assoc]
        clear HL hL
        generalize hT3 : flatR (cL P Q a b) (c + 1) (m + 1 - (c + 1)).toNat ++ T2 = T3 at *
        have HT3 := Lib.hid hT3
        have hcc := bd2 hm20 ⟨hc1, hlc⟩
        have hXr : wr.heap[w.heap.size]? = some (.cells #[.int .i64 P, .int .i64 Q] 53 (0, 0)) := hS.2.1
        have zX : ∀ k, wr.cell? ⟨w.heap.size, k, none⟩ = (#[.int .i64 P, .int .i64 Q] : Array Value)[k]? := fun k => cell_of_row _ _ _ _ _ _ hXr
        have hXl : w.heap.size < wr.heap.size := (Array.getElem?_eq_some_iff.1 hXr).1
        clear hT3 hS hXr
        by_cases hneg : P - a * a - b * b - c * c < 0
        · have HE : Hid (nL P Q = T3) := by unfold Hid; rw [HL2.out, cL_neg hneg, List.nil_append]
          go_wp2
          go_roundw
          case rel => exact ⟨c + 1, rfl, by omega, by omega, HS.out, by rw [HE.out, HT3.out]⟩
          case measure => simp [intOf]; omega
        have HL3 : Hid (nL P Q = ((eL P Q a b c (-isq (P - a * a - b * b - c * c)) ++ if isq (P - a * a - b * b - c * c) = 0 then [] else eL P Q a b c (isq (P - a * a - b * b - c * c))) ++ T3)) := by
          unfold Hid; rw [HL2.out, cL_pos hneg]
        have HE1 : Hid (∀ d, (isq (P - a * a - b * b - c * c) * isq (P - a * a - b * b - c * c) == P - a * a - b * b - c * c) = false → eL P Q a b c d = []) := fun d h => eL_no1 h
        have HE2 : Hid (∀ d, (a * b + b * c + c * d - d * a == Q) = false → eL P Q a b c d = []) := fun d h => eL_no2 h
        have HE3 : Hid (∀ d, (isq (P - a * a - b * b - c * c) * isq (P - a * a - b * b - c * c) == P - a * a - b * b - c * c) = true → (a * b + b * c + c * d - d * a == Q) = true → eL P Q a b c d = [(a, b, c, d)]) := fun d h1 h2 => eL_yes h1 h2
        have hrb := isq_of (n := P - a * a - b * b - c * c) ⟨by omega, by omega⟩
        have HRR := Lib.hid (rootOf_any (P - a * a - b * b - c * c) ⟨by omega, by omega⟩)
        have hr20 : 0 ≤ isq (P - a * a - b * b - c * c) ∧ isq (P - a * a - b * b - c * c) ≤ 20 := ⟨hrb.1, hrb.2.1⟩
        clear HL2 hrb
        generalize isq (P - a * a - b * b - c * c) = r at *
        have b1 := bd3 hm20 ⟨ha1, hlt⟩ ⟨hb1, hlb⟩ ⟨hc1, hlc⟩ (d := -r) (by omega)
        have b2 := bd3 hm20 ⟨ha1, hlt⟩ ⟨hb1, hlb⟩ ⟨hc1, hlc⟩ (d := r) (by omega)
        have HB1 := Lib.hid b1
        have HB2 := Lib.hid b2
        clear b1 b2
        generalize (r * r == P - a * a - b * b - c * c) = ok at *
        go_wp2_with (go_at_call 51; ((with_reducible refine (HRR.out _).mono ?_); rintro e w' ⟨rfl, rfl⟩))
        generalize hd : -r = e at *
        generalize hA : wr.heap.size = A at *
        have hd1 : -20 ≤ e ∧ e ≤ 0 := by omega
        go_loopw [13, 67] (fun _ si wi => ∃ (jj : Nat), si = .int .i64 jj ∧ jj ≤ 2 ∧ (jj = 0 ∨ r ≠ 0) ∧ SS w wi P Q ∧ wi.heap[A]? = some (.cells #[.int .i64 e, .int .i64 r] 3 (0, 0)) ∧ nL P Q = remL P Q a b c e r jj ++ T3) (fun _ si _ => 2 - (intOf si).toNat)
        case atStart => exact ⟨0, rfl, by omega, .inl rfl, HS.out.ext ((Ext.refl _).alloc _), by rw [← hA]; exact heap_alloc_new _ _, HL3.out⟩
        case round =>
          obtain ⟨jj, rfl, hj2, hjr, hS, hAr, hL⟩ := hrel
          clear HL3 HS zX hXl
          have HL := Lib.hid hL
          have HS := Lib.hid hS
          have HAr := Lib.hid hAr
          have hXr : wr.heap[w.heap.size]? = some (.cells #[.int .i64 P, .int .i64 Q] 53 (0, 0)) := hS.2.1
          have zX : ∀ k, wr.cell? ⟨w.heap.size, k, none⟩ = (#[.int .i64 P, .int .i64 Q] : Array Value)[k]? := fun k => cell_of_row _ _ _ _ _ _ hXr
          have zA : ∀ k, wr.cell? ⟨A, k, none⟩ = (#[.int .i64 e, .int .i64 r] : Array Value)[k]? := fun k => cell_of_row _ _ _ _ _ _ hAr
          have hXl : w.heap.size < wr.heap.size := (Array.getElem?_eq_some_iff.1 hXr).1
          have hAl : A < wr.heap.size := (Array.getElem?_eq_some_iff.1 hAr).1
          clear hXr hAr hS hL
          obtain rfl | rfl | rfl : jj = 0 ∨ jj = 1 ∨ jj = 2 := by omega
          · have hj' : ((0 : Nat) : Int) < 2 := by omega
            by_cases hr0 : r = 0
            · have hrb : (r == 0) = true := by simpa using hr0
              have heb : (e == 0) = true := by simp; omega
              have Q0 : Hid (remL P Q a b c e r 0 = eL P Q a b c e ++ []) := by unfold Hid remL; simp [hr0]
              cases hok : ok
              · skip
                go_wp2
                go_roundw
                case rel => exact ⟨c + 1, rfl, by omega, by omega, HS.out, by rw [HL.out, Q0.out, HE1.out _ hok]; simp [HT3.out]⟩
                case measure => simp [intOf]; omega
              · have hbd := HB1.out
                cases hs : (a * b + b * c + c * e - e * a == Q)
                · skip
                  go_wp2
                  go_roundw
                  case rel => exact ⟨c + 1, rfl, by omega, by omega, HS.out, by rw [HL.out, Q0.out, HE2.out _ hs]; simp [HT3.out]⟩
                  case measure => simp [intOf]; omega
                · skip
                  have hs0 : (a * b + b * c == Q) = true := by have h0 := hs; rw [show e = 0 by omega] at h0; simpa using h0
                  have HC := Lib.hid (solve1_any a b c e Bo Bf wr ((HS.out.1.heap hBol).trans hBo) ((HS.out.1.heap hBfl).trans hBf) hof)
                  have he0 : e = 0 := by omega
                  rw [he0] at HC
                  go_wp2_with fail
                  refine HC.out.mono ?_
                  rintro e1 w1 ⟨rfl, hw1, hw2, hg1⟩
                  go_wp2
                  refine bodyPost_ret (results_none rfl _ _ _) rfl ?_
                  exact ⟨rfl, hg1 w0 (hw.trans HS.out.1) hBo0 hBf0, .inr ⟨_, _, by rw [HL.out, Q0.out, HE3.out _ hok hs]; rfl, by rw [he0]; exact hw1, hw2⟩⟩
            · have hrb : (r == 0) = false := by simpa using hr0
              have heb : (e == 0) = false := by simp; omega
              have Q0 : Hid (remL P Q a b c e r 0 = eL P Q a b c e ++ eL P Q a b c r) := by unfold Hid remL; simp [hr0]
              cases hok : ok
              · skip
                go_wp2
                go_roundw
                case rel => exact ⟨1, rfl, by omega, .inr (by omega), HS.out, HAr.out, by rw [HL.out, Q0.out, HE1.out _ hok]; rfl⟩
                case measure => simp [intOf]
              · have hbd := HB1.out
                cases hs : (a * b + b * c + c * e - e * a == Q)
                · skip
                  go_wp2
                  go_roundw
                  case rel => exact ⟨1, rfl, by omega, .inr (by omega), HS.out, HAr.out, by rw [HL.out, Q0.out, HE2.out _ hs]; rfl⟩
                  case measure => simp [intOf]
                · skip
                  have HC := Lib.hid (solve1_any a b c e Bo Bf wr ((HS.out.1.heap hBol).trans hBo) ((HS.out.1.heap hBfl).trans hBf) hof)
                  go_wp2_with fail
                  refine HC.out.mono ?_
                  rintro e1 w1 ⟨rfl, hw1, hw2, hg1⟩
                  go_wp2
                  refine bodyPost_ret (results_none rfl _ _ _) rfl ?_
                  exact ⟨rfl, hg1 w0 (hw.trans HS.out.1) hBo0 hBf0, .inr ⟨_, _, by rw [HL.out, Q0.out, HE3.out _ hok hs]; rfl, hw1, hw2⟩⟩
          · have hr0 : r ≠ 0 := by omega
            have hj' : ((1 : Nat) : Int) < 2 := by omega
            have hrb : (r == 0) = false := by simpa using hr0
            have Q0 : Hid (remL P Q a b c e r 1 = eL P Q a b c r) := rfl
            cases hok : ok
            · skip
              go_wp2
              go_roundw
              case rel => exact ⟨2, rfl, by omega, .inr (by omega), HS.out, HAr.out, by rw [HL.out, Q0.out, HE1.out _ hok]; rfl⟩
              case measure => simp [intOf]
            · have hbd := HB2.out
              cases hs : (a * b + b * c + c * r - r * a == Q)
              · skip
                go_wp2
                go_roundw
                case rel => exact ⟨2, rfl, by omega, .inr (by omega), HS.out, HAr.out, by rw [HL.out, Q0.out, HE2.out _ hs]; rfl⟩
                case measure => simp [intOf]
              · skip
                have HC := Lib.hid (solve1_any a b c r Bo Bf wr ((HS.out.1.heap hBol).trans hBo) ((HS.out.1.heap hBfl).trans hBf) hof)
                go_wp2_with fail
                refine HC.out.mono ?_
                rintro e1 w1 ⟨rfl, hw1, hw2, hg1⟩
                go_wp2
                refine bodyPost_ret (results_none rfl _ _ _) rfl ?_
                exact ⟨rfl, hg1 w0 (hw.trans HS.out.1) hBo0 hBf0, .inr ⟨_, _, by rw [HL.out, Q0.out, HE3.out _ hok hs]; rfl, hw1, hw2⟩⟩
          · go_wp2
            go_roundw
            case rel => exact ⟨c + 1, rfl, by omega, by omega, HS.out, by rw [HL.out]; simp [remL, HT3.out]⟩
            case measure => simp [intOf]; omega

end Go.Proofs.Ytbffcpnpdpgfeaa
