/- The first number with a given absolute square: the reference's walk. -/
import Derived.Test.YtbffcpnpdpgfeaaNormL
import Derived.Test.YtbffcpnpdpgfeaaNorms
import Derived.Test.YtbffcpnpdpgfeaaRing
import Derived.Test.YtbffcpnpdpgfeaaOwn
import Derived.Test.YtbffcpnpdpgfeaaNormsH
import Derived.Test.YtbffcpnpdpgfeaaMade
namespace Go.Proofs.Ytbffcpnpdpgfeaa
open Go.RowKit
set_option linter.unusedVariables false
set_option linter.unusedSimpArgs false

set_option maxRecDepth 20000 in
set_option maxHeartbeats 8000000 in
theorem l26All_first (P Q : Int) (hP : 0 ≤ P ∧ P ≤ 400) (hQ : -1000000 ≤ Q ∧ Q ≤ 1000000) (w : World) :
    Calls Try.prog 72 #[.agg #[.int .i64 P, .int .i64 Q], .bool true] w fun e w' => ∃ v, e = .returned v ∧ w'.ownsRow w.heap.size 33 4 v ((nL P Q).take 1).length (flat4 ((nL P Q).take 1)) ∧ Ext w w' := by
  obtain ⟨i0, hi, iz0, iz1, iz2⟩ := info_parts info_ring
  have hlen := nL_len (Q := Q) hP
  have hm := isq_of hP
  have HN : Hid (nL P Q = flatR (aL P Q) (-isq P) (isq P + 1 - -isq P).toNat) := full_range _ _
  have HA : Hid (∀ a, 0 ≤ P - a * a → aL P Q a = flatR (bL P Q a) (-isq (P - a * a)) (isq (P - a * a) + 1 - -isq (P - a * a)).toNat) := fun a h => (aL_narrow hP h).trans (full_range _ _)
  have HBB : Hid (∀ a b, 0 ≤ P - a * a - b * b → bL P Q a b = flatR (cL P Q a b) (-isq (P - a * a - b * b)) (isq (P - a * a - b * b) + 1 - -isq (P - a * a - b * b)).toNat) := fun a b h => (bL_narrow hP h).trans (full_range _ _)
  have HR := Lib.hid (l25Square_any P hP)
  have hm20 : 0 ≤ isq P ∧ isq P ≤ 20 := ⟨hm.1, hm.2.1⟩
  have hmP : isq P * isq P ≤ P := hm.2.2.1
  clear hm
  generalize isq P = m at *
  go_enter Try.func72, Try.ntmps72
  go_wp2_with (go_at_call 45; ((with_reducible refine (HR.out _).mono ?_); rintro e w' ⟨rfl, rfl⟩))
  go_loopw [5, 7, 8, 9, 10, 11, 12, 14, 15, 16, 17] (fun ul sa _ _ _ _ _ _ _ _ _ wr => ∃ (a : Int), sa = .int .i64 a ∧ -m ≤ a ∧ a ≤ m + 1 ∧ RF w wr ul P Q ∧ nL P Q = flatR (aL P Q) a (m + 1 - a).toNat) (fun _ sa _ _ _ _ _ _ _ _ _ _ => (m + 1 - intOf sa).toNat)
  case atStart => exact ⟨-m, rfl, by omega, by omega, RF.start w P Q, HN.out⟩
  case round =>
    obtain ⟨a, rfl, ha1, ha2, hS, hL⟩ := hrel
    have HL := Lib.hid hL
    have HS := Lib.hid hS
    clear hL hS
    by_cases hlt : a ≤ m
    case neg =>
      have HE : Hid (nL P Q = []) := by unfold Hid; rw [HL.out, flatR_done _ _ _ hlt]
      obtain rfl := HS.out.1
      go_wp2
      go_ret
      exact ⟨_, rfl, by rw [HE.out]; exact own_nil _ _ _ _, HS.out.2.1⟩
    have haa := bd2 hm20 ⟨ha1, hlt⟩
    have hap : a * a ≤ P := Int.le_trans (sq_in ha1 hlt) hmP
    have hb0 := isq_of (n := P - a * a) ⟨by omega, by omega⟩
    have hmb : 0 ≤ isq (P - a * a) ∧ isq (P - a * a) ≤ 20 := ⟨hb0.1, hb0.2.1⟩
    have hmbP : isq (P - a * a) * isq (P - a * a) ≤ P - a * a := hb0.2.2.1
    have HRB := Lib.hid (l25Square_any (P - a * a) ⟨by omega, by omega⟩)
    have HL2 : Hid (nL P Q = (flatR (bL P Q a) (-isq (P - a * a)) (isq (P - a * a) + 1 - -isq (P - a * a)).toNat ++ flatR (aL P Q) (a + 1) (m + 1 - (a + 1)).toNat)) := by
      unfold Hid; rw [HL.out, flatR_step _ _ _ hlt, HA.out a (by omega)]
    clear HL hb0
    generalize hT1 : flatR (aL P Q) (a + 1) (m + 1 - (a + 1)).toNat = T1 at *
    have HT1 := Lib.hid hT1
    clear hT1
    generalize isq (P - a * a) = mb at *
    have hXr : wr.heap[w.heap.size]? = some (.cells #[.int .i64 P, .int .i64 Q] 53 (0, 0)) := HS.out.2.2
    have zX : ∀ k, wr.cell? ⟨w.heap.size, k, none⟩ = (#[.int .i64 P, .int .i64 Q] : Array Value)[k]? := fun k => cell_of_row _ _ _ _ _ _ hXr
    have hXl : w.heap.size < wr.heap.size := (Array.getElem?_eq_some_iff.1 hXr).1
    clear hXr
    go_wp2_with (go_at_call 45; ((with_reducible refine (HRB.out _).mono ?_); rintro e w' ⟨rfl, rfl⟩))
    go_loopw [5, 9, 10, 11, 12, 14, 15, 16, 17] (fun ul sb _ _ _ _ _ _ _ wr => ∃ (b : Int), sb = .int .i64 b ∧ -mb ≤ b ∧ b ≤ mb + 1 ∧ RF w wr ul P Q ∧ nL P Q = (flatR (bL P Q a) b (mb + 1 - b).toNat ++ T1)) (fun _ sb _ _ _ _ _ _ _ _ => (mb + 1 - intOf sb).toNat)
    case atStart => exact ⟨-mb, rfl, by omega, by omega, HS.out, HL2.out⟩
    case round =>
      clear HL2 HS zX hXl
      obtain ⟨b, rfl, hb1, hb2, hS, hL⟩ := hrel
      have HL := Lib.hid hL
      have HS := Lib.hid hS
      clear hL hS
      by_cases hlb : b ≤ mb
      case neg =>
        have HE : Hid (nL P Q = T1) := by unfold Hid; rw [HL.out, flatR_done _ _ _ hlb, List.nil_append]
        go_wp2
        go_roundw
        case rel => exact ⟨a + 1, rfl, by omega, by omega, HS.out, by rw [HE.out, HT1.out]⟩
        case measure => simp [intOf]; omega
      have hbb := bd2 hmb ⟨hb1, hlb⟩
      have hbp : b * b ≤ P - a * a := Int.le_trans (sq_in hb1 hlb) hmbP
      have hc0 := isq_of (n := P - a * a - b * b) ⟨by omega, by omega⟩
      have hmc : 0 ≤ isq (P - a * a - b * b) ∧ isq (P - a * a - b * b) ≤ 20 := ⟨hc0.1, hc0.2.1⟩
      have hmcP : isq (P - a * a - b * b) * isq (P - a * a - b * b) ≤ P - a * a - b * b := hc0.2.2.1
      have HRC := Lib.hid (l25Square_any (P - a * a - b * b) ⟨by omega, by omega⟩)
      have HL2 : Hid (nL P Q = (flatR (cL P Q a b) (-isq (P - a * a - b * b)) (isq (P - a * a - b * b) + 1 - -isq (P - a * a - b * b)).toNat ++ (flatR (bL P Q a) (b + 1) (mb + 1 - (b + 1)).toNat ++ T1))) := by
        unfold Hid; rw [HL.out, flatR_step _ _ _ hlb, HBB.out a b (by omega), List.append_assoc]
      clear HL hc0
      generalize hT2 : flatR (bL P Q a) (b + 1) (mb + 1 - (b + 1)).toNat ++ T1 = T2 at *
      have HT2 := Lib.hid hT2
      clear hT2
      generalize isq (P - a * a - b * b) = mc at *
      have hXr : wr.heap[w.heap.size]? = some (.cells #[.int .i64 P, .int .i64 Q] 53 (0, 0)) := HS.out.2.2
      have zX : ∀ k, wr.cell? ⟨w.heap.size, k, none⟩ = (#[.int .i64 P, .int .i64 Q] : Array Value)[k]? := fun k => cell_of_row _ _ _ _ _ _ hXr
      have hXl : w.heap.size < wr.heap.size := (Array.getElem?_eq_some_iff.1 hXr).1
      clear hXr
      go_wp2_with (go_at_call 45; ((with_reducible refine (HRC.out _).mono ?_); rintro e w' ⟨rfl, rfl⟩))
      go_loopw [5, 11, 12, 14, 15, 16, 17] (fun ul sc _ _ _ _ _ wr => ∃ (c : Int), sc = .int .i64 c ∧ -mc ≤ c ∧ c ≤ mc + 1 ∧ RF w wr ul P Q ∧ nL P Q = (flatR (cL P Q a b) c (mc + 1 - c).toNat ++ T2)) (fun _ sc _ _ _ _ _ _ => (mc + 1 - intOf sc).toNat)
      case atStart => exact ⟨-mc, rfl, by omega, by omega, HS.out, HL2.out⟩
      case round =>
        clear HL2 HS zX hXl
        obtain ⟨c, rfl, hc1, hc2, hS, hL⟩ := hrel
        have HL := Lib.hid hL
        have HS := Lib.hid hS
        clear hL hS
        by_cases hlc : c ≤ mc
        case neg =>
          have HE : Hid (nL P Q = T2) := by unfold Hid; rw [HL.out, flatR_done _ _ _ hlc, List.nil_append]
          go_wp2
          go_roundw
          case rel => exact ⟨b + 1, rfl, by omega, by omega, HS.out, by rw [HE.out, HT2.out]⟩
          case measure => simp [intOf]; omega
        have hcc := bd2 hmc ⟨hc1, hlc⟩
        have hcp : c * c ≤ P - a * a - b * b := Int.le_trans (sq_in hc1 hlc) hmcP
        have hneg : ¬ P - a * a - b * b - c * c < 0 := by omega
        have HL3 : Hid (nL P Q = ((eL P Q a b c (-isq (P - a * a - b * b - c * c)) ++ if isq (P - a * a - b * b - c * c) = 0 then [] else eL P Q a b c (isq (P - a * a - b * b - c * c))) ++ (flatR (cL P Q a b) (c + 1) (mc + 1 - (c + 1)).toNat ++ T2))) := by
          unfold Hid; rw [HL.out, flatR_step _ _ _ hlc, cL_pos hneg, List.append_assoc]
        clear HL
        generalize hT3 : flatR (cL P Q a b) (c + 1) (mc + 1 - (c + 1)).toNat ++ T2 = T3 at *
        have HT3 := Lib.hid hT3
        clear hT3
        have hd0 := isq_of (n := P - a * a - b * b - c * c) ⟨by omega, by omega⟩
        have hr20 : 0 ≤ isq (P - a * a - b * b - c * c) ∧ isq (P - a * a - b * b - c * c) ≤ 20 := ⟨hd0.1, hd0.2.1⟩
        have HRD := Lib.hid (l25Square_any (P - a * a - b * b - c * c) ⟨by omega, by omega⟩)
        clear hd0
        have HE1 : Hid (∀ d, (isq (P - a * a - b * b - c * c) * isq (P - a * a - b * b - c * c) == P - a * a - b * b - c * c) = false → eL P Q a b c d = []) := fun d h => eL_no1 h
        have HE2 : Hid (∀ d, (a * b + b * c + c * d - d * a == Q) = false → eL P Q a b c d = []) := fun d h => eL_no2 h
        have HE3 : Hid (∀ d, (isq (P - a * a - b * b - c * c) * isq (P - a * a - b * b - c * c) == P - a * a - b * b - c * c) = true → (a * b + b * c + c * d - d * a == Q) = true → eL P Q a b c d = [(a, b, c, d)]) := fun d h1 h2 => eL_yes h1 h2
        have HU : Hid (∀ d, d * d = isq (P - a * a - b * b - c * c) * isq (P - a * a - b * b - c * c) → (sqU a b c d == P) = (isq (P - a * a - b * b - c * c) * isq (P - a * a - b * b - c * c) == P - a * a - b * b - c * c)) := fun d h => by
          unfold sqU; rw [h, Bool.eq_iff_iff]; simp only [beq_iff_eq]; omega
        have HV : Hid (∀ d, (sqV a b c d == Q) = (a * b + b * c + c * d - d * a == Q)) := fun d => rfl
        generalize isq (P - a * a - b * b - c * c) = r at *
        have HRg : Hid (∀ d, -20 ≤ d ∧ d ≤ 20 → Rg a b c d = true) := fun d h => rg_small (by omega) (by omega) (by omega) h
        have hXr : wr.heap[w.heap.size]? = some (.cells #[.int .i64 P, .int .i64 Q] 53 (0, 0)) := HS.out.2.2
        have zX : ∀ k, wr.cell? ⟨w.heap.size, k, none⟩ = (#[.int .i64 P, .int .i64 Q] : Array Value)[k]? := fun k => cell_of_row _ _ _ _ _ _ hXr
        have hXl : w.heap.size < wr.heap.size := (Array.getElem?_eq_some_iff.1 hXr).1
        clear hXr
        go_wp2_with (go_at_call 45; ((with_reducible refine (HRD.out _).mono ?_); rintro e w' ⟨rfl, rfl⟩))
        generalize hd : -r = e at *
        generalize hA : wr.heap.size = A at *
        have hd1 : -20 ≤ e ∧ e ≤ 0 := by omega
        have hee : e * e = r * r := by rw [← hd]; exact Int.neg_mul_neg r r
        generalize hok : (r * r == P - a * a - b * b - c * c) = ok at *
        go_loopw [5, 14, 15, 16, 17, 80] (fun ul _ _ _ _ si wr => ∃ (jj : Nat), si = .int .i64 jj ∧ jj ≤ 2 ∧ RF w wr ul P Q ∧ wr.heap[A]? = some (.cells #[.int .i64 e, .int .i64 r] 3 (0, 0)) ∧ nL P Q = (remA P Q a b c e r jj ++ T3) ∧ (jj = 1 → r = 0 → ok = true → (a * b + b * c + c * e - e * a == Q) = true → False)) (fun _ _ _ _ _ si _ => 2 - (intOf si).toNat)
        case atStart => exact ⟨0, rfl, by omega, HS.out.ext ((Ext.refl _).alloc _), by rw [← hA]; exact heap_alloc_new _ _, HL3.out, fun h => by cases h⟩
        case round =>
          obtain ⟨jj, rfl, hj2, hS, hAr, hL, hdp⟩ := hrel
          clear HL3 HS zX hXl
          have HL := Lib.hid hL
          have HS := Lib.hid hS
          have HAr := Lib.hid hAr
          have HD := Lib.hid hdp
          have hXr : wr.heap[w.heap.size]? = some (.cells #[.int .i64 P, .int .i64 Q] 53 (0, 0)) := HS.out.2.2
          have zX : ∀ k, wr.cell? ⟨w.heap.size, k, none⟩ = (#[.int .i64 P, .int .i64 Q] : Array Value)[k]? := fun k => cell_of_row _ _ _ _ _ _ hXr
          have hXl : w.heap.size < wr.heap.size := (Array.getElem?_eq_some_iff.1 hXr).1
          clear hXr
          have zA : ∀ k, wr.cell? ⟨A, k, none⟩ = (#[.int .i64 e, .int .i64 r] : Array Value)[k]? := fun k => cell_of_row _ _ _ _ _ _ hAr
          have hAl : A < wr.heap.size := (Array.getElem?_eq_some_iff.1 hAr).1
          obtain rfl := hS.1
          clear hAr hS hL hdp
          obtain rfl | rfl | rfl : jj = 0 ∨ jj = 1 ∨ jj = 2 := by omega
          · have hj' : ((0 : Nat) : Int) < 2 := by omega
            have HC := fun w => Lib.hid (l1Abs_any a b c e (HRg.out e (by omega)) w)
            have hU := HU.out e hee
            have hV := HV.out e
            generalize hu : sqU a b c e = u at *
            generalize hv : sqV a b c e = v at *
            have hu' : -2000 ≤ u ∧ u ≤ 2000 := by rw [← hu]; unfold sqU; have h1 := bd2 (a := e) (m := 20) (by omega) (by omega); omega
            clear hu hv
            cases ok
            · have hUp : ¬ u = P := by simpa using hU
              go_wp2_with fail
              refine (HC _).out.mono ?_
              rintro e1 w1 ⟨rfl, hx1⟩
              have HE1' : Ext wr w1 := ((Ext.refl wr).alloc _).trans hx1
              have hXl1 : w.heap.size < w1.heap.size := by have := HE1'.size; omega
              have hRl1 : wr.heap.size < w1.heap.size := by have := hx1.size; simp at this; omega
              have zX1 : ∀ k, w1.cell? ⟨w.heap.size, k, none⟩ = (#[.int .i64 P, .int .i64 Q] : Array Value)[k]? := fun k => (HE1'.cells.1 _ k hXl).trans (zX k)
              have zR1 : ∀ k, w1.cell? ⟨wr.heap.size, k, none⟩ = (#[.int .i64 a, .int .i64 b, .int .i64 c, .int .i64 e] : Array Value)[k]? := fun k => cell_of_row _ _ _ _ _ _ ((hx1.heap (by simp)).trans (heap_alloc_new _ _))
              go_wp2
              refine wp_region_madeC (m := 131) (by kernel_rfl) (by kernel_rfl) rfl (fun hxc => ?_)
              repeat (refine mw_quiet ?_; apply Exists.intro; refine ⟨fun σ => ?_, ?_⟩; (first | (go_simp; rfl) | fail); simp only [Act.put, List.setIfInBounds_toArray, List.set_cons_succ, List.set_cons_zero, List.nil_append, List.cons_append])
              refine ⟨by kernel_rfl, fun σ w2 hF2 => ?_⟩
              have hx2 := hF2.ext
              clear hF2 hxc
              obtain ⟨hc2, hf2⟩ := hx2.cells
              have hz2 := hx2.size
              try simp at hz2
              have hs2_0 := sz1 (a := wr.heap.size) (b := w2.heap.size) (by omega)
              have HE : Ext wr w2 := HE1'.trans hx2
              clear hx1 hx2
              go_wp2
              go_roundw
              case rel => exact ⟨1, rfl, by omega, HS.out.ext HE, (HE.heap hAl).trans HAr.out, by rw [HL.out]; simp only [remA]; rw [HE1.out _ (by trivial)]; rfl, fun _ _ h1 h2 => by simp_all⟩
              case measure => simp [intOf]
            · have hUp : u = P := by simpa using hU
              cases hs : (a * b + b * c + c * e - e * a == Q)
              · rw [hs] at hV
                have hVp : ¬ v = Q := by simpa using hV
                go_wp2_with fail
                refine (HC _).out.mono ?_
                rintro e1 w1 ⟨rfl, hx1⟩
                have HE1' : Ext wr w1 := ((Ext.refl wr).alloc _).trans hx1
                have hXl1 : w.heap.size < w1.heap.size := by have := HE1'.size; omega
                have hRl1 : wr.heap.size < w1.heap.size := by have := hx1.size; simp at this; omega
                have zX1 : ∀ k, w1.cell? ⟨w.heap.size, k, none⟩ = (#[.int .i64 P, .int .i64 Q] : Array Value)[k]? := fun k => (HE1'.cells.1 _ k hXl).trans (zX k)
                have zR1 : ∀ k, w1.cell? ⟨wr.heap.size, k, none⟩ = (#[.int .i64 a, .int .i64 b, .int .i64 c, .int .i64 e] : Array Value)[k]? := fun k => cell_of_row _ _ _ _ _ _ ((hx1.heap (by simp)).trans (heap_alloc_new _ _))
                go_wp2
                refine wp_region_madeC (m := 131) (by kernel_rfl) (by kernel_rfl) rfl (fun hxc => ?_)
                repeat (refine mw_quiet ?_; apply Exists.intro; refine ⟨fun σ => ?_, ?_⟩; (first | (go_simp; rfl) | fail); simp only [Act.put, List.setIfInBounds_toArray, List.set_cons_succ, List.set_cons_zero, List.nil_append, List.cons_append])
                refine ⟨by kernel_rfl, fun σ w2 hF2 => ?_⟩
                have hx2 := hF2.ext
                clear hF2 hxc
                obtain ⟨hc2, hf2⟩ := hx2.cells
                have hz2 := hx2.size
                try simp at hz2
                have hs2_0 := sz1 (a := wr.heap.size) (b := w2.heap.size) (by omega)
                have HE : Ext wr w2 := HE1'.trans hx2
                clear hx1 hx2
                go_wp2
                go_roundw
                case rel => exact ⟨1, rfl, by omega, HS.out.ext HE, (HE.heap hAl).trans HAr.out, by rw [HL.out]; simp only [remA]; rw [HE2.out _ hs]; rfl, fun _ _ h1 h2 => by simp_all⟩
                case measure => simp [intOf]
              · rw [hs] at hV
                have hVp : v = Q := by simpa using hV
                by_cases hr0 : r = 0
                case neg =>
                  have hrb : (r == 0) = false := by simpa using hr0
                  go_wp2_with fail
                  refine (HC _).out.mono ?_
                  rintro e1 w1 ⟨rfl, hx1⟩
                  have HE1' : Ext wr w1 := ((Ext.refl wr).alloc _).trans hx1
                  have hXl1 : w.heap.size < w1.heap.size := by have := HE1'.size; omega
                  have hRl1 : wr.heap.size < w1.heap.size := by have := hx1.size; simp at this; omega
                  have zX1 : ∀ k, w1.cell? ⟨w.heap.size, k, none⟩ = (#[.int .i64 P, .int .i64 Q] : Array Value)[k]? := fun k => (HE1'.cells.1 _ k hXl).trans (zX k)
                  have zR1 : ∀ k, w1.cell? ⟨wr.heap.size, k, none⟩ = (#[.int .i64 a, .int .i64 b, .int .i64 c, .int .i64 e] : Array Value)[k]? := fun k => cell_of_row _ _ _ _ _ _ ((hx1.heap (by simp)).trans (heap_alloc_new _ _))
                  go_wp2
                  refine wp_region_madeC (m := 131) (by kernel_rfl) (by kernel_rfl) rfl (fun hxc => ?_)
                  repeat (refine mw_quiet ?_; apply Exists.intro; refine ⟨fun σ => ?_, ?_⟩; (first | (go_simp; rfl) | fail); simp only [Act.put, List.setIfInBounds_toArray, List.set_cons_succ, List.set_cons_zero, List.nil_append, List.cons_append])
                  refine ⟨by kernel_rfl, fun σ w2 hF2 => ?_⟩
                  have hx2 := hF2.ext
                  clear hF2 hxc
                  obtain ⟨hc2, hf2⟩ := hx2.cells
                  have hz2 := hx2.size
                  try simp at hz2
                  have hs2_0 := sz1 (a := wr.heap.size) (b := w2.heap.size) (by omega)
                  have HE : Ext wr w2 := HE1'.trans hx2
                  have hbx : w2.heap[wr.heap.size]? = some (.cells #[.int .i64 a, .int .i64 b, .int .i64 c, .int .i64 e] 33 (0, 0)) := ((hx1.trans hx2).heap (by simp)).trans (heap_alloc_new _ _)
                  have zbx : ∀ k, w2.cell? ⟨wr.heap.size, k, none⟩ = (#[.int .i64 a, .int .i64 b, .int .i64 c, .int .i64 e] : Array Value)[k]? := fun k => cell_of_row _ _ _ _ _ _ hbx
                  have hbl := (Array.getElem?_eq_some_iff.1 hbx).1
                  clear hx1 hx2 hc2 hf2 hbx
                  have HS2 := Lib.hid (HS.out.ext HE)
                  have hsz2 : w.heap.size + 1 ≤ w2.heap.size := by have := HE.size; omega
                  go_wp2_with (at_builtin; refine wpList_append_lies _ rfl (.tmp 123) (.tmp 125) _ rfl (w.heap.size + 1) 33 i0 (.agg #[.int .i64 0, .int .i64 0, .int .i64 0, .int .i64 0]) 4 32 Try.underlying24 hi iz0 iz1 iz2 rfl (by decide) _ 0 [] (by rfl) (own_nil _ _ _ _) ⟨w2.heap.size, 0, none⟩ 1 1 [.int .i64 a, .int .i64 b, .int .i64 c, .int .i64 e] (by rfl) (by rfl) (news1 rfl) (by intro u hu; simp at hu; rcases hu with rfl | rfl | rfl | rfl <;> rfl) (by decide) (by simp only [maxLen]; omega) (by omega) (by simp; omega) (w2.heap.size + 1) (by simp) ?_; intro g2 cap2 w3 hown3 hgrow3 hat3 hlt3; have HO3 := Lib.hid hown3; clear hown3)
                  go_ret
                  refine ⟨_, rfl, ?_, Ext.grown (HS2.out.2.1.alloc _) hgrow3 fun k hk => by cases hk⟩
                  rw [HL.out]
                  simp only [remA]
                  rw [HE3.out _ (by trivial) hs]
                  simpa [flat4] using own_base (base' := w.heap.size) HO3.out (by omega)
                have hrb : (r == 0) = true := by simpa using hr0
                go_wp2_with fail
                refine (HC _).out.mono ?_
                rintro e1 w1 ⟨rfl, hx1⟩
                have HE1' : Ext wr w1 := ((Ext.refl wr).alloc _).trans hx1
                have hXl1 : w.heap.size < w1.heap.size := by have := HE1'.size; omega
                have hRl1 : wr.heap.size < w1.heap.size := by have := hx1.size; simp at this; omega
                have zX1 : ∀ k, w1.cell? ⟨w.heap.size, k, none⟩ = (#[.int .i64 P, .int .i64 Q] : Array Value)[k]? := fun k => (HE1'.cells.1 _ k hXl).trans (zX k)
                have zR1 : ∀ k, w1.cell? ⟨wr.heap.size, k, none⟩ = (#[.int .i64 a, .int .i64 b, .int .i64 c, .int .i64 e] : Array Value)[k]? := fun k => cell_of_row _ _ _ _ _ _ ((hx1.heap (by simp)).trans (heap_alloc_new _ _))
                go_wp2
                refine wp_region_madeC (m := 131) (by kernel_rfl) (by kernel_rfl) rfl (fun hxc => ?_)
                repeat (refine mw_quiet ?_; apply Exists.intro; refine ⟨fun σ => ?_, ?_⟩; (first | (go_simp; rfl) | fail); simp only [Act.put, List.setIfInBounds_toArray, List.set_cons_succ, List.set_cons_zero, List.nil_append, List.cons_append])
                refine ⟨by kernel_rfl, fun σ w2 hF2 => ?_⟩
                have hx2 := hF2.ext
                clear hF2 hxc
                obtain ⟨hc2, hf2⟩ := hx2.cells
                have hz2 := hx2.size
                try simp at hz2
                have hs2_0 := sz1 (a := wr.heap.size) (b := w2.heap.size) (by omega)
                have HE : Ext wr w2 := HE1'.trans hx2
                have hbx : w2.heap[wr.heap.size]? = some (.cells #[.int .i64 a, .int .i64 b, .int .i64 c, .int .i64 e] 33 (0, 0)) := ((hx1.trans hx2).heap (by simp)).trans (heap_alloc_new _ _)
                have zbx : ∀ k, w2.cell? ⟨wr.heap.size, k, none⟩ = (#[.int .i64 a, .int .i64 b, .int .i64 c, .int .i64 e] : Array Value)[k]? := fun k => cell_of_row _ _ _ _ _ _ hbx
                have hbl := (Array.getElem?_eq_some_iff.1 hbx).1
                clear hx1 hx2 hc2 hf2 hbx
                have HS2 := Lib.hid (HS.out.ext HE)
                have hsz2 : w.heap.size + 1 ≤ w2.heap.size := by have := HE.size; omega
                go_wp2_with (at_builtin; refine wpList_append_lies _ rfl (.tmp 123) (.tmp 125) _ rfl (w.heap.size + 1) 33 i0 (.agg #[.int .i64 0, .int .i64 0, .int .i64 0, .int .i64 0]) 4 32 Try.underlying24 hi iz0 iz1 iz2 rfl (by decide) _ 0 [] (by rfl) (own_nil _ _ _ _) ⟨w2.heap.size, 0, none⟩ 1 1 [.int .i64 a, .int .i64 b, .int .i64 c, .int .i64 e] (by rfl) (by rfl) (news1 rfl) (by intro u hu; simp at hu; rcases hu with rfl | rfl | rfl | rfl <;> rfl) (by decide) (by simp only [maxLen]; omega) (by omega) (by simp; omega) (w2.heap.size + 1) (by simp) ?_; intro g2 cap2 w3 hown3 hgrow3 hat3 hlt3; have HO3 := Lib.hid hown3; clear hown3)
                go_ret
                refine ⟨_, rfl, ?_, Ext.grown (HS2.out.2.1.alloc _) hgrow3 fun k hk => by cases hk⟩
                rw [HL.out]
                simp only [remA]
                rw [HE3.out _ (by trivial) hs]
                simpa [flat4] using own_base (base' := w.heap.size) HO3.out (by omega)
          · have hj' : ((1 : Nat) : Int) < 2 := by omega
            have HC := fun w => Lib.hid (l1Abs_any a b c r (HRg.out r (by omega)) w)
            have hU := HU.out r rfl
            have hV := HV.out r
            generalize hu : sqU a b c r = u at *
            generalize hv : sqV a b c r = v at *
            have hu' : -2000 ≤ u ∧ u ≤ 2000 := by rw [← hu]; unfold sqU; have h1 := bd2 (a := r) (m := 20) (by omega) (by omega); omega
            clear hu hv
            cases ok
            · have hUp : ¬ u = P := by simpa using hU
              go_wp2_with fail
              refine (HC _).out.mono ?_
              rintro e1 w1 ⟨rfl, hx1⟩
              have HE1' : Ext wr w1 := ((Ext.refl wr).alloc _).trans hx1
              have hXl1 : w.heap.size < w1.heap.size := by have := HE1'.size; omega
              have hRl1 : wr.heap.size < w1.heap.size := by have := hx1.size; simp at this; omega
              have zX1 : ∀ k, w1.cell? ⟨w.heap.size, k, none⟩ = (#[.int .i64 P, .int .i64 Q] : Array Value)[k]? := fun k => (HE1'.cells.1 _ k hXl).trans (zX k)
              have zR1 : ∀ k, w1.cell? ⟨wr.heap.size, k, none⟩ = (#[.int .i64 a, .int .i64 b, .int .i64 c, .int .i64 r] : Array Value)[k]? := fun k => cell_of_row _ _ _ _ _ _ ((hx1.heap (by simp)).trans (heap_alloc_new _ _))
              go_wp2
              refine wp_region_madeC (m := 131) (by kernel_rfl) (by kernel_rfl) rfl (fun hxc => ?_)
              repeat (refine mw_quiet ?_; apply Exists.intro; refine ⟨fun σ => ?_, ?_⟩; (first | (go_simp; rfl) | fail); simp only [Act.put, List.setIfInBounds_toArray, List.set_cons_succ, List.set_cons_zero, List.nil_append, List.cons_append])
              refine ⟨by kernel_rfl, fun σ w2 hF2 => ?_⟩
              have hx2 := hF2.ext
              clear hF2 hxc
              obtain ⟨hc2, hf2⟩ := hx2.cells
              have hz2 := hx2.size
              try simp at hz2
              have hs2_0 := sz1 (a := wr.heap.size) (b := w2.heap.size) (by omega)
              have HE : Ext wr w2 := HE1'.trans hx2
              clear hx1 hx2
              go_wp2
              go_roundw
              case rel => exact ⟨2, rfl, by omega, HS.out.ext HE, (HE.heap hAl).trans HAr.out, by rw [HL.out]; simp only [remA]; rw [HE1.out _ (by trivial)]; simp, fun h => by omega⟩
              case measure => simp [intOf]
            · have hUp : u = P := by simpa using hU
              cases hs : (a * b + b * c + c * r - r * a == Q)
              · rw [hs] at hV
                have hVp : ¬ v = Q := by simpa using hV
                go_wp2_with fail
                refine (HC _).out.mono ?_
                rintro e1 w1 ⟨rfl, hx1⟩
                have HE1' : Ext wr w1 := ((Ext.refl wr).alloc _).trans hx1
                have hXl1 : w.heap.size < w1.heap.size := by have := HE1'.size; omega
                have hRl1 : wr.heap.size < w1.heap.size := by have := hx1.size; simp at this; omega
                have zX1 : ∀ k, w1.cell? ⟨w.heap.size, k, none⟩ = (#[.int .i64 P, .int .i64 Q] : Array Value)[k]? := fun k => (HE1'.cells.1 _ k hXl).trans (zX k)
                have zR1 : ∀ k, w1.cell? ⟨wr.heap.size, k, none⟩ = (#[.int .i64 a, .int .i64 b, .int .i64 c, .int .i64 r] : Array Value)[k]? := fun k => cell_of_row _ _ _ _ _ _ ((hx1.heap (by simp)).trans (heap_alloc_new _ _))
                go_wp2
                refine wp_region_madeC (m := 131) (by kernel_rfl) (by kernel_rfl) rfl (fun hxc => ?_)
                repeat (refine mw_quiet ?_; apply Exists.intro; refine ⟨fun σ => ?_, ?_⟩; (first | (go_simp; rfl) | fail); simp only [Act.put, List.setIfInBounds_toArray, List.set_cons_succ, List.set_cons_zero, List.nil_append, List.cons_append])
                refine ⟨by kernel_rfl, fun σ w2 hF2 => ?_⟩
                have hx2 := hF2.ext
                clear hF2 hxc
                obtain ⟨hc2, hf2⟩ := hx2.cells
                have hz2 := hx2.size
                try simp at hz2
                have hs2_0 := sz1 (a := wr.heap.size) (b := w2.heap.size) (by omega)
                have HE : Ext wr w2 := HE1'.trans hx2
                clear hx1 hx2
                go_wp2
                go_roundw
                case rel => exact ⟨2, rfl, by omega, HS.out.ext HE, (HE.heap hAl).trans HAr.out, by rw [HL.out]; simp only [remA]; rw [HE2.out _ hs]; simp, fun h => by omega⟩
                case measure => simp [intOf]
              · rw [hs] at hV
                have hVp : v = Q := by simpa using hV
                by_cases hr0 : r = 0
                case neg =>
                  have hrb : (r == 0) = false := by simpa using hr0
                  go_wp2_with fail
                  refine (HC _).out.mono ?_
                  rintro e1 w1 ⟨rfl, hx1⟩
                  have HE1' : Ext wr w1 := ((Ext.refl wr).alloc _).trans hx1
                  have hXl1 : w.heap.size < w1.heap.size := by have := HE1'.size; omega
                  have hRl1 : wr.heap.size < w1.heap.size := by have := hx1.size; simp at this; omega
                  have zX1 : ∀ k, w1.cell? ⟨w.heap.size, k, none⟩ = (#[.int .i64 P, .int .i64 Q] : Array Value)[k]? := fun k => (HE1'.cells.1 _ k hXl).trans (zX k)
                  have zR1 : ∀ k, w1.cell? ⟨wr.heap.size, k, none⟩ = (#[.int .i64 a, .int .i64 b, .int .i64 c, .int .i64 r] : Array Value)[k]? := fun k => cell_of_row _ _ _ _ _ _ ((hx1.heap (by simp)).trans (heap_alloc_new _ _))
                  go_wp2
                  refine wp_region_madeC (m := 131) (by kernel_rfl) (by kernel_rfl) rfl (fun hxc => ?_)
                  repeat (refine mw_quiet ?_; apply Exists.intro; refine ⟨fun σ => ?_, ?_⟩; (first | (go_simp; rfl) | fail); simp only [Act.put, List.setIfInBounds_toArray, List.set_cons_succ, List.set_cons_zero, List.nil_append, List.cons_append])
                  refine ⟨by kernel_rfl, fun σ w2 hF2 => ?_⟩
                  have hx2 := hF2.ext
                  clear hF2 hxc
                  obtain ⟨hc2, hf2⟩ := hx2.cells
                  have hz2 := hx2.size
                  try simp at hz2
                  have hs2_0 := sz1 (a := wr.heap.size) (b := w2.heap.size) (by omega)
                  have HE : Ext wr w2 := HE1'.trans hx2
                  have hbx : w2.heap[wr.heap.size]? = some (.cells #[.int .i64 a, .int .i64 b, .int .i64 c, .int .i64 r] 33 (0, 0)) := ((hx1.trans hx2).heap (by simp)).trans (heap_alloc_new _ _)
                  have zbx : ∀ k, w2.cell? ⟨wr.heap.size, k, none⟩ = (#[.int .i64 a, .int .i64 b, .int .i64 c, .int .i64 r] : Array Value)[k]? := fun k => cell_of_row _ _ _ _ _ _ hbx
                  have hbl := (Array.getElem?_eq_some_iff.1 hbx).1
                  clear hx1 hx2 hc2 hf2 hbx
                  have HS2 := Lib.hid (HS.out.ext HE)
                  have hsz2 : w.heap.size + 1 ≤ w2.heap.size := by have := HE.size; omega
                  go_wp2_with (at_builtin; refine wpList_append_lies _ rfl (.tmp 123) (.tmp 125) _ rfl (w.heap.size + 1) 33 i0 (.agg #[.int .i64 0, .int .i64 0, .int .i64 0, .int .i64 0]) 4 32 Try.underlying24 hi iz0 iz1 iz2 rfl (by decide) _ 0 [] (by rfl) (own_nil _ _ _ _) ⟨w2.heap.size, 0, none⟩ 1 1 [.int .i64 a, .int .i64 b, .int .i64 c, .int .i64 r] (by rfl) (by rfl) (news1 rfl) (by intro u hu; simp at hu; rcases hu with rfl | rfl | rfl | rfl <;> rfl) (by decide) (by simp only [maxLen]; omega) (by omega) (by simp; omega) (w2.heap.size + 1) (by simp) ?_; intro g2 cap2 w3 hown3 hgrow3 hat3 hlt3; have HO3 := Lib.hid hown3; clear hown3)
                  go_ret
                  refine ⟨_, rfl, ?_, Ext.grown (HS2.out.2.1.alloc _) hgrow3 fun k hk => by cases hk⟩
                  rw [HL.out]
                  simp only [remA]
                  rw [if_neg hr0, HE3.out _ (by trivial) hs]
                  simpa [flat4] using own_base (base' := w.heap.size) HO3.out (by omega)
                have hrb : (r == 0) = true := by simpa using hr0
                subst hr0
                obtain rfl : e = 0 := by omega
                exact (HD.out (by trivial) (by trivial) (by trivial) hs).elim
          · go_wp2
            go_roundw
            case rel => exact ⟨c + 1, rfl, by omega, by omega, HS.out, by rw [HL.out, ← HT3.out]; simp [remA]⟩
            case measure => simp [intOf]; omega

end Go.Proofs.Ytbffcpnpdpgfeaa
