/- CandidatesFor: all small numbers are visited (slices of four loops). -/
import Derived.Test.YtbffcpnpdpgfeaaCdQ
namespace Go.Proofs.Ytbffcpnpdpgfeaa
open Go.RowKit
set_option linter.unusedVariables false
set_option linter.unusedSimpArgs false

theorem isq_fact {n : Int} (h : 0 ≤ n ∧ n ≤ 400) : ∃ R, isq n = R ∧ 0 ≤ R ∧ R ≤ 20 ∧ (∀ x : Int, -R ≤ x → x ≤ R → 0 ≤ n - x * x ∧ 0 ≤ x * x) := by
  obtain ⟨h1, h2, -, -⟩ := isq_of h
  refine ⟨_, rfl, h1, h2, fun x a b => ?_⟩
  have := (isq_iff h (x := x)).2 ⟨a, b⟩
  have := sq_nn x
  omega

set_option maxRecDepth 20000 in
set_option maxHeartbeats 40000000 in
theorem smallRings_any (c : Cx) (nb db ob : Nat) (num den : Int) (hk : 0 ≤ c.k ∧ c.k ≤ 8) (hb : Bnd num den = true) (hok : ∀ u, smq u ≤ c.pw → c.ok u) (W0 : World) (hB : Bx4 c nb db num den W0) (w : World) (h : RS c num den W0 ob (VA (-isq c.pw)) w) :
    Calls Try.prog 27 #[.int .i64 c.pw, .func (.func 28) #[] #[.pointer (some ⟨c.tb, 0, none⟩), .pointer (some ⟨c.kb, 0, none⟩), .pointer (some ⟨nb, 0, none⟩), .pointer (some ⟨db, 0, none⟩), .pointer (some ⟨ob, 0, none⟩)]] w fun en w' =>
      en = .returned (.tuple #[]) ∧ RS c num den W0 ob (VA (isq c.pw + 1)) w' := by
  have hp := pw_bd hk
  have HV := Lib.hid (visit_rs c nb db ob num den hk hb)
  have HOK := Lib.hid hok
  have HB := Lib.hid hB
  have HK := Lib.hid hk
  have HH := Lib.hid h
  clear h hB hok hk hb
  obtain ⟨P, hP⟩ : ∃ P, c.pw = P := ⟨_, rfl⟩
  have HP := Lib.hid hP
  rw [hP] at hp HH ⊢
  clear hP
  obtain ⟨R1, hR1, r1a, r1b, r1c⟩ := isq_fact (n := P) ⟨by omega, by omega⟩
  have HE1 := fun w' => Lib.hid (edge_any P ⟨by omega, by omega⟩ w')
  rw [hR1] at HE1 HH ⊢
  have HR1 := Lib.hid hR1
  have HC1 := Lib.hid r1c
  clear hR1 r1c
  go_enter Try.func27, Try.ntmps27
  go_wp2_with (go_at_call 50; ((with_reducible refine ((HE1 _).out).mono ?_); rintro e w' ⟨rfl, rfl⟩))
  go_loopw [5, 6, 7, 8, 9, 10, 11] (fun s5 _ _ _ _ _ _ wr => ∃ a : Int, -R1 ≤ a ∧ a ≤ R1 + 1 ∧ s5 = .int .i64 a ∧ Hid (RS c num den W0 ob (VA a) wr)) (fun s5 _ _ _ _ _ _ _ => (R1 + 1 - intOf s5).toNat)
  case atStart => exact ⟨-R1, by omega, by omega, rfl, HH⟩
  case round =>
    clear HH
    obtain ⟨a, a1, a2, rfl, HH⟩ := hrel
    by_cases a3 : a ≤ R1
    · obtain ⟨q1, Q1⟩ := HC1.out a a1 a3
      obtain ⟨S1, hS1⟩ : ∃ S, a * a = S := ⟨_, rfl⟩
      rw [hS1] at q1 Q1
      obtain ⟨L2, hL2⟩ : ∃ L, P - S1 = L := ⟨_, rfl⟩
      rw [hL2] at q1
      have l2 : L2 ≤ 400 := by omega
      obtain ⟨R2, hR2, r2a, r2b, r2c⟩ := isq_fact (n := L2) ⟨q1, l2⟩
      have HE2 := fun w' => Lib.hid (edge_any L2 ⟨q1, l2⟩ w')
      rw [hR2] at HE2
      have hex : c.pw - a * a = L2 := by rw [HP.out, hS1, hL2]
      have HTO : Hid (∀ u, Good c num den u → ((VA a) u ↔ (VB a (-R2)) u)) := fun u g => by
        have := toB HK.out (num := num) (den := den) (a := a) g
        rwa [hex, hR2] at this
      have HOF1 : Hid (∀ u, Good c num den u → ((VB a (R2 + 1)) u ↔ (VA (a + 1)) u)) := fun u g => by
        have := ofB HK.out (num := num) (den := den) (a := a) g
        rwa [hex, hR2] at this
      have HS1 := Lib.hid hS1
      have HL2 := Lib.hid hL2
      have HR2 := Lib.hid hR2
      have HC2 := Lib.hid r2c
      have HH := Lib.hid (HH.out.congr HTO.out)
      clear hex HTO hR2 r2c
      go_wp2_with (first | (go_at_call 50; ((with_reducible refine ((HE1 _).out).mono ?_); rintro e w' ⟨rfl, rfl⟩)) | (go_at_call 50; ((with_reducible refine ((HE2 _).out).mono ?_); rintro e w' ⟨rfl, rfl⟩)))
      clear hS1
      go_loopw [7, 8, 9, 10, 11] (fun s7 _ _ _ _ wr => ∃ b : Int, -R2 ≤ b ∧ b ≤ R2 + 1 ∧ s7 = .int .i64 b ∧ Hid (RS c num den W0 ob (VB a b) wr)) (fun s7 _ _ _ _ _ => (R2 + 1 - intOf s7).toNat)
      case atStart => exact ⟨-R2, by omega, by omega, rfl, HH⟩
      case round =>
        clear HH
        obtain ⟨b, b1, b2, rfl, HH⟩ := hrel
        by_cases b3 : b ≤ R2
        · obtain ⟨q2, Q2⟩ := HC2.out b b1 b3
          obtain ⟨S2, hS2⟩ : ∃ S, b * b = S := ⟨_, rfl⟩
          rw [hS2] at q2 Q2
          obtain ⟨L3, hL3⟩ : ∃ L, L2 - S2 = L := ⟨_, rfl⟩
          rw [hL3] at q2
          have l3 : L3 ≤ 400 := by omega
          obtain ⟨R3, hR3, r3a, r3b, r3c⟩ := isq_fact (n := L3) ⟨q2, l3⟩
          have HE3 := fun w' => Lib.hid (edge_any L3 ⟨q2, l3⟩ w')
          rw [hR3] at HE3
          have hex : c.pw - a * a - b * b = L3 := by rw [HP.out, HS1.out, HL2.out, hS2, hL3]
          have HTO : Hid (∀ u, Good c num den u → ((VB a b) u ↔ (VC a b (-R3)) u)) := fun u g => by
            have := toC HK.out (num := num) (den := den) (a := a) (b := b) g
            rwa [hex, hR3] at this
          have HOF2 : Hid (∀ u, Good c num den u → ((VC a b (R3 + 1)) u ↔ (VB a (b + 1)) u)) := fun u g => by
            have := ofC HK.out (num := num) (den := den) (a := a) (b := b) g
            rwa [hex, hR3] at this
          have HS2 := Lib.hid hS2
          have HL3 := Lib.hid hL3
          have HR3 := Lib.hid hR3
          have HC3 := Lib.hid r3c
          have HH := Lib.hid (HH.out.congr HTO.out)
          clear hex HTO hR3 r3c
          go_wp2_with (first | (go_at_call 50; ((with_reducible refine ((HE1 _).out).mono ?_); rintro e w' ⟨rfl, rfl⟩)) | (go_at_call 50; ((with_reducible refine ((HE2 _).out).mono ?_); rintro e w' ⟨rfl, rfl⟩)) | (go_at_call 50; ((with_reducible refine ((HE3 _).out).mono ?_); rintro e w' ⟨rfl, rfl⟩)))
          clear hS2
          go_loopw [9, 10, 11] (fun s9 _ _ wr => ∃ e : Int, -R3 ≤ e ∧ e ≤ R3 + 1 ∧ s9 = .int .i64 e ∧ Hid (RS c num den W0 ob (VC a b e) wr)) (fun s9 _ _ _ => (R3 + 1 - intOf s9).toNat)
          case atStart => exact ⟨-R3, by omega, by omega, rfl, HH⟩
          case round =>
            clear HH
            obtain ⟨e, e1, e2, rfl, HH⟩ := hrel
            by_cases e3 : e ≤ R3
            · obtain ⟨q3, Q3⟩ := HC3.out e e1 e3
              obtain ⟨S3, hS3⟩ : ∃ S, e * e = S := ⟨_, rfl⟩
              rw [hS3] at q3 Q3
              obtain ⟨L4, hL4⟩ : ∃ L, L3 - S3 = L := ⟨_, rfl⟩
              rw [hL4] at q3
              have l4 : L4 ≤ 400 := by omega
              obtain ⟨R4, hR4, r4a, r4b, r4c⟩ := isq_fact (n := L4) ⟨q3, l4⟩
              have HE4 := fun w' => Lib.hid (edge_any L4 ⟨q3, l4⟩ w')
              rw [hR4] at HE4
              have hex : c.pw - a * a - b * b - e * e = L4 := by rw [HP.out, HS1.out, HL2.out, HS2.out, HL3.out, hS3, hL4]
              have HTO : Hid (∀ u, Good c num den u → ((VC a b e) u ↔ (VD a b e (-R4)) u)) := fun u g => by
                have := toD HK.out (num := num) (den := den) (a := a) (b := b) (k := e) g
                rwa [hex, hR4] at this
              have HOF3 : Hid (∀ u, Good c num den u → ((VD a b e (R4 + 1)) u ↔ (VC a b (e + 1)) u)) := fun u g => by
                have := ofD HK.out (num := num) (den := den) (a := a) (b := b) (k := e) g
                rwa [hex, hR4] at this
              have HS3 := Lib.hid hS3
              have HL4 := Lib.hid hL4
              have HR4 := Lib.hid hR4
              have HC4 := Lib.hid r4c
              have HH := Lib.hid (HH.out.congr HTO.out)
              clear hex HTO hR4 r4c
              go_wp2_with (first | (go_at_call 50; ((with_reducible refine ((HE1 _).out).mono ?_); rintro e w' ⟨rfl, rfl⟩)) | (go_at_call 50; ((with_reducible refine ((HE2 _).out).mono ?_); rintro e w' ⟨rfl, rfl⟩)) | (go_at_call 50; ((with_reducible refine ((HE3 _).out).mono ?_); rintro e w' ⟨rfl, rfl⟩)) | (go_at_call 50; ((with_reducible refine ((HE4 _).out).mono ?_); rintro e w' ⟨rfl, rfl⟩)))
              clear hS3
              go_loopw [11] (fun s11 wr => ∃ d : Int, -R4 ≤ d ∧ d ≤ R4 + 1 ∧ s11 = .int .i64 d ∧ Hid (RS c num den W0 ob (VD a b e d) wr)) (fun s11 _ => (R4 + 1 - intOf s11).toNat)
              case atStart => exact ⟨-R4, by omega, by omega, rfl, HH⟩
              case round =>
                clear HH
                obtain ⟨d, d1, d2, rfl, HH⟩ := hrel
                by_cases d3 : d ≤ R4
                · obtain ⟨q4, Q4⟩ := HC4.out d d1 d3
                  have hsm : smq ⟨a, b, e, d⟩ ≤ c.pw := by
                    have h0 := smq_parts ⟨a, b, e, d⟩
                    dsimp only at h0
                    have x1 := HS1.out
                    have x2 := HS2.out
                    have x3 := HS3.out
                    have y2 := HL2.out
                    have y3 := HL3.out
                    have y4 := HL4.out
                    have z := HP.out
                    rw [h0, x1, x2, x3, z]
                    omega
                  have HVV := Lib.hid (HV.out a b e d hsm (HOK.out _ hsm) W0 HB.out _ HH.out)
                  clear hsm q4 Q4
                  go_wp2_with fail
                  refine (HVV.out).mono ?_
                  rintro en w1 ⟨rfl, hrs⟩
                  have HRS := Lib.hid hrs
                  clear hrs HVV HH
                  go_wp2_with (first | (go_at_call 50; ((with_reducible refine ((HE1 _).out).mono ?_); rintro e w' ⟨rfl, rfl⟩)) | (go_at_call 50; ((with_reducible refine ((HE2 _).out).mono ?_); rintro e w' ⟨rfl, rfl⟩)) | (go_at_call 50; ((with_reducible refine ((HE3 _).out).mono ?_); rintro e w' ⟨rfl, rfl⟩)) | (go_at_call 50; ((with_reducible refine ((HE4 _).out).mono ?_); rintro e w' ⟨rfl, rfl⟩)))
                  go_roundw
                  case rel => exact ⟨d + 1, by omega, by omega, rfl, HRS⟩
                  case measure => simp only [intOf]; omega
                · obtain rfl : d = R4 + 1 := by omega
                  have HN := Lib.hid (HH.out.congr HOF3.out)
                  clear HH
                  have hbig : ¬ (R4 + 1 : Int) ≤ R4 := by omega
                  go_wp2_with (first | (go_at_call 50; ((with_reducible refine ((HE1 _).out).mono ?_); rintro e w' ⟨rfl, rfl⟩)) | (go_at_call 50; ((with_reducible refine ((HE2 _).out).mono ?_); rintro e w' ⟨rfl, rfl⟩)) | (go_at_call 50; ((with_reducible refine ((HE3 _).out).mono ?_); rintro e w' ⟨rfl, rfl⟩)) | (go_at_call 50; ((with_reducible refine ((HE4 _).out).mono ?_); rintro e w' ⟨rfl, rfl⟩)))
                  go_roundw
                  case rel => exact ⟨e + 1, by omega, by omega, rfl, HN⟩
                  case measure => simp only [intOf]; omega
            · obtain rfl : e = R3 + 1 := by omega
              have HN := Lib.hid (HH.out.congr HOF2.out)
              clear HH
              have hbig : ¬ (R3 + 1 : Int) ≤ R3 := by omega
              go_wp2_with (first | (go_at_call 50; ((with_reducible refine ((HE1 _).out).mono ?_); rintro e w' ⟨rfl, rfl⟩)) | (go_at_call 50; ((with_reducible refine ((HE2 _).out).mono ?_); rintro e w' ⟨rfl, rfl⟩)) | (go_at_call 50; ((with_reducible refine ((HE3 _).out).mono ?_); rintro e w' ⟨rfl, rfl⟩)))
              go_roundw
              case rel => exact ⟨b + 1, by omega, by omega, rfl, HN⟩
              case measure => simp only [intOf]; omega
        · obtain rfl : b = R2 + 1 := by omega
          have HN := Lib.hid (HH.out.congr HOF1.out)
          clear HH
          have hbig : ¬ (R2 + 1 : Int) ≤ R2 := by omega
          go_wp2_with (first | (go_at_call 50; ((with_reducible refine ((HE1 _).out).mono ?_); rintro e w' ⟨rfl, rfl⟩)) | (go_at_call 50; ((with_reducible refine ((HE2 _).out).mono ?_); rintro e w' ⟨rfl, rfl⟩)))
          go_roundw
          case rel => exact ⟨a + 1, by omega, by omega, rfl, HN⟩
          case measure => simp only [intOf]; omega
    · obtain rfl : a = R1 + 1 := by omega
      go_wp2_with (go_at_call 50; ((with_reducible refine ((HE1 _).out).mono ?_); rintro e w' ⟨rfl, rfl⟩))
      go_end0
      exact ⟨rfl, HH.out⟩

end Go.Proofs.Ytbffcpnpdpgfeaa
