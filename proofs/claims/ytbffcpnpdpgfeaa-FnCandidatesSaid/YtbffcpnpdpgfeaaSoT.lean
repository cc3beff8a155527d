/- slices.stableCmpFunc, slices.SortStableFunc. -/
import Derived.Test.YtbffcpnpdpgfeaaSoG
namespace Go.Proofs.Ytbffcpnpdpgfeaa
open Go.RowKit
set_option linter.unusedVariables false
set_option linter.unusedSimpArgs false

/-- the piece a .. b of Y is sorted and holds what X0 holds there -/
abbrev SegC (c : Cx) (X0 : Nat → Q4) (a b : Nat) (Y : Nat → Q4) : Prop := So.Seg c.key lx X0 a b Y
theorem ok_seg {c : Cx} {n : Nat} {X0 Y : Nat → Q4} (h : ∀ p, p < n → c.ok (X0 p)) (hs : ∀ p, p < n → ∃ q, q < n ∧ Y p = X0 q) : ∀ p, p < n → c.ok (Y p) := by
  intro p hp
  obtain ⟨q, q1, e⟩ := hs p hp
  rw [e]
  exact h q q1
theorem to_same {n a b : Nat} {X0 Y Z : Nat → Q4} (hb : b ≤ n) (hs : ∀ p, p < n → ∃ q, q < n ∧ Y p = X0 q) (k : So.Same a b Y Z) : ∀ p, p < n → ∃ q, q < n ∧ Z p = X0 q := by
  intro p hp
  by_cases hi : a ≤ p ∧ p < b
  · obtain ⟨j, j1, j2, e⟩ := k.to p hi.1 hi.2
    obtain ⟨q, q1, e'⟩ := hs j (by omega)
    exact ⟨q, q1, e.trans e'⟩
  · rw [k.off p (by omega)]
    exact hs p hp

set_option maxRecDepth 20000 in
set_option maxHeartbeats 8000000 in
theorem stable_any (c : Cx) (base g n cap : Nat) (ht : c.tb ≠ g) (hk : c.kb ≠ g) (hn : n ≤ 1000000) (h0 : 0 < n) (X : Nat → Q4) (hok : ∀ p, p < n → c.ok (X p)) (hasc : So.Asc lx 0 n X) (w : World) (hR : RW w base g n cap X) (hc : c.at w) :
    Calls Try.prog 55 #[.slice (some ⟨g, 0, none⟩) n cap, .int .i64 n, .func (.func 34) #[] #[.pointer (some ⟨c.tb, 0, none⟩), .pointer (some ⟨c.kb, 0, none⟩)]] w fun e w' => e = .returned (.tuple #[]) ∧ ∃ Y, RW w' base g n cap Y ∧ So.Seg c.key lx X 0 n Y ∧ GX [g] w w' := by
  have HI := fun (Y : Nat → Q4) (hoY : ∀ p, p < n → c.ok (Y p)) (a b : Nat) (h1 : a ≤ b) (h2 : b ≤ n) (hA : So.Asc lx a b Y) (W : World) (hW : RW W base g n cap Y) (hCW : c.at W) => Lib.hid (insertion_any c base g n cap Y a b ht hk hoY hA h1 h2 hn W hW hCW)
  have HM := fun (a m b : Nat) => Lib.hid (symMerge_any c base g n cap ht hk hn (b - a) a m b (Nat.le_refl _))
  have HOK := Lib.hid hok
  have HA := Lib.hid hasc
  have HR := Lib.hid hR
  have HAT := Lib.hid hc
  clear hok hasc hR hc
  go_enter Try.func55, Try.ntmps55
  go_wp2
  go_loopw [7, 8] (fun s7 s8 wr => ∃ (a b : Nat) (Y : Nat → Q4), b = a + 20 ∧ a ≤ n ∧ s7 = .int .i64 a ∧ s8 = .int .i64 b ∧ Hid (RW wr base g n cap Y) ∧ Hid (So.Pre c.key lx X 20 n a Y) ∧ Hid (∀ i, a ≤ i → Y i = X i) ∧ Hid (∀ p, p < n → ∃ q, q < n ∧ Y p = X q) ∧ Hid (GX [g] w wr)) (fun _ s8 _ => n + 20 - (intOf s8).toNat)
  case atStart => exact ⟨0, 20, X, rfl, by omega, rfl, rfl, HR, So.Pre.zero _ _ _, fun _ _ => rfl, fun p hp => ⟨p, hp, rfl⟩, GX.refl _ _⟩
  case round =>
    obtain ⟨a, b, Y, hb, ha, rfl, rfl, HW, HP, HY, HQ, HG⟩ := hrel
    have hoY := Lib.hid (ok_seg HOK.out HQ.out)
    by_cases hlt : b ≤ n
    · have hlt' : (b : Int) ≤ (n : Int) := by omega
      have HIA := fun W h1 h2 => HI Y hoY.out a b (by omega) hlt (fun i j i1 i2 i3 => by rw [HY.out i i1, HY.out j (by omega)]; exact HA.out i j (Nat.zero_le _) i2 (by omega)) W h1 h2
      have HHB := Lib.hid hb
      clear HI HM hb
      go_wp2_with fail
      refine ((HIA _ HW.out (HAT.out.gx HG.out ht hk)).out).mono ?_
      rintro e w1 ⟨rfl, Z, z1, z2, z3, z4⟩
      have HW1 := Lib.hid z1
      have HG1 := Lib.hid (HG.out.trans z4)
      have HQ1 := Lib.hid (to_same hlt HQ.out z2)
      have HY1 : Hid (∀ i, b ≤ i → Z i = X i) := fun i hi => (z2.off i (.inr hi)).trans (HY.out i (by have := HHB.out; omega))
      have HP1 : Hid (So.Pre c.key lx X 20 n b Z) := by
        have hseg : So.Seg c.key lx X a (a + 20) Z := by
          rw [← HHB.out]
          refine ⟨fun i h1 h2 => ?_, fun i h1 h2 => ?_, z3⟩
          · obtain ⟨j, j1, j2, e⟩ := z2.to i h1 h2
            exact ⟨j, j1, j2, e.trans (HY.out j j1)⟩
          · obtain ⟨j, j1, j2, e⟩ := z2.from_ i h1 h2
            exact ⟨j, j1, j2, (HY.out i h1).symm.trans e⟩
        have := So.Pre.step HP.out (by have := HHB.out; omega) (by decide) (fun i hi => z2.off i (.inl hi)) hseg
        rwa [← HHB.out] at this
      clear z1 z2 z3 z4 HIA
      obtain ⟨B, hB⟩ : ∃ B, b + 20 = B := ⟨_, rfl⟩
      have eB : ((b : Int) + 20) = (B : Int) := by omega
      have hm : n + 20 - B < n + 20 - b := by omega
      clear hB
      go_wp2
      go_roundw
      case rel => exact ⟨b, B, Z, by omega, hlt, rfl, rfl, HW1, HP1, HY1, HQ1, HG1⟩
      case measure => simp [intOf]; omega
    · have hlt' : ¬ (b : Int) ≤ (n : Int) := by omega
      have HIA := fun W h1 h2 => HI Y hoY.out a n ha (Nat.le_refl _) (fun i j i1 i2 i3 => by rw [HY.out i i1, HY.out j (by omega)]; exact HA.out i j (Nat.zero_le _) i2 i3) W h1 h2
      have hN20 : n ≤ a + 20 := by omega
      have HN20 := Lib.hid hN20
      clear HI hb hN20
      go_wp2_with fail
      refine ((HIA _ HW.out (HAT.out.gx HG.out ht hk)).out).mono ?_
      rintro e w1 ⟨rfl, Z, z1, z2, z3, z4⟩
      have HW1 := Lib.hid z1
      have HG1 := Lib.hid (HG.out.trans z4)
      have HQ1 := Lib.hid (to_same (Nat.le_refl _) HQ.out z2)
      have HC1 : Hid (So.Ch c.key lx X 20 n Z 0) := by
        refine So.Pre.last HP.out (fun hl => ⟨HN20.out, ?_⟩) (fun i hi => z2.off i (.inl hi))
        refine ⟨fun i h1 h2 => ?_, fun i h1 h2 => ?_, z3⟩
        · obtain ⟨j, j1, j2, e⟩ := z2.to i h1 h2
          exact ⟨j, j1, j2, e.trans (HY.out j j1)⟩
        · obtain ⟨j, j1, j2, e⟩ := z2.from_ i h1 h2
          exact ⟨j, j1, j2, (HY.out i h1).symm.trans e⟩
      clear z1 z2 z3 z4 HIA HP HY HQ HW HG hlt hlt' hoY HN20
      go_wp2
      go_loopw [6, 7, 8, 9] (fun s6 _ _ _ wr => ∃ (bs : Nat) (Y : Nat → Q4), 20 ≤ bs ∧ bs ≤ 2 * n + 40 ∧ s6 = .int .i64 bs ∧ Hid (RW wr base g n cap Y) ∧ Hid (So.Ch c.key lx X bs n Y 0) ∧ Hid (∀ p, p < n → ∃ q, q < n ∧ Y p = X q) ∧ Hid (GX [g] w wr)) (fun s6 _ _ _ _ => n - (intOf s6).toNat)
      case atStart => exact ⟨20, Z, by omega, by omega, rfl, HW1, HC1, HQ1, HG1⟩
      case round =>
        clear HW1 HG1 HQ1 HC1
        obtain ⟨bs, Y, hb1, hb2, rfl, HW, HC, HQ, HG⟩ := hrel
        by_cases hlt : bs < n
        · have hlt' : (bs : Int) < (n : Int) := by omega
          obtain ⟨BB, hBB⟩ : ∃ BB, 2 * bs = BB := ⟨_, rfl⟩
          have eBB : (2 : Int) * (bs : Int) = (BB : Int) := by omega
          have eBB2 : (bs : Int) * 2 = (BB : Int) := by omega
          have HBB := Lib.hid hBB
          clear hBB
          go_wp2
          go_loopw [7, 8] (fun s7 s8 wq => ∃ (a b : Nat) (Z : Nat → Q4), b = a + BB ∧ a ≤ n ∧ s7 = .int .i64 a ∧ s8 = .int .i64 b ∧ Hid (RW wq base g n cap Z) ∧ Hid (So.Pre c.key lx X BB n a Z) ∧ Hid (So.Ch c.key lx X bs n Z a) ∧ Hid (∀ p, p < n → ∃ q, q < n ∧ Z p = X q) ∧ Hid (GX [g] w wq)) (fun _ s8 _ => n + BB - (intOf s8).toNat)
          case atStart => exact ⟨0, BB, Y, by omega, by omega, rfl, rfl, HW, So.Pre.zero _ _ _, HC, HQ, HG⟩
          case round =>
            clear HW HC HQ HG
            obtain ⟨a, b, Z, hb, ha, rfl, rfl, HW, HP, HC, HQ, HG⟩ := hrel
            have hoZ := Lib.hid (ok_seg HOK.out HQ.out)
            obtain ⟨m, hm⟩ : ∃ m, a + bs = m := ⟨_, rfl⟩
            have em : ((a : Int) + (bs : Int)) = (m : Int) := by omega
            have hB := HBB.out
            by_cases hle : b ≤ n
            · have hle' : (b : Int) ≤ (n : Int) := by omega
              obtain ⟨g1, g2, g3⟩ := HC.out.two (by omega)
              rw [hm] at g1 g2 g3
              rw [show min (m + bs) n = b by omega] at g2
              rw [show m + bs = b by omega] at g3
              have HMA := fun W h1 h2 => Lib.hid ((HM a m b).out Z hoZ.out (by omega) (by omega) hle (So.Seg.cross HA.out g1 g2 hle) g1.sorted g2.sorted W h1 h2)
              have G1 := Lib.hid g1
              have G2 := Lib.hid g2
              have G3 := Lib.hid g3
              have hq : a ≤ m ∧ m ≤ b := by omega
              have HQQ := Lib.hid hq
              have HBQ := Lib.hid hb
              clear HM g1 g2 g3 hm hb hB hq
              go_wp2_with fail
              refine ((HMA _ HW.out (HAT.out.gx HG.out ht hk)).out).mono ?_
              rintro e w2 ⟨rfl, V, z1, z2, z3, z4⟩
              have HW2 := Lib.hid z1
              have HG2 := Lib.hid (HG.out.trans z4)
              have HQ2 := Lib.hid (to_same hle HQ.out z2)
              have HP2 : Hid (So.Pre c.key lx X BB n b V) := by
                have hseg := So.Seg.merge HQQ.out.1 HQQ.out.2 G1.out G2.out z2 z3
                have hb := HBQ.out
                rw [hb] at hseg hle ⊢
                exact So.Pre.step HP.out hle (by have := HBB.out; omega) (fun i hi => z2.off i (.inl hi)) hseg
              have HC2 : Hid (So.Ch c.key lx X bs n V b) := G3.out.congr fun i hi => z2.off i (.inr hi)
              clear z1 z2 z3 z4 HMA G1 G2 G3 HW HP HC HQ HG hoZ
              obtain ⟨B, hB⟩ : ∃ B, b + BB = B := ⟨_, rfl⟩
              have eB : ((b : Int) + (BB : Int)) = (B : Int) := by omega
              have hm : n + BB - B < n + BB - b := by have := HBB.out; omega
              clear hB
              go_wp2
              go_roundw
              case rel => exact ⟨b, B, V, by omega, hle, rfl, rfl, HW2, HP2, HC2, HQ2, HG2⟩
              case measure => simp [intOf]; omega
            · have hle' : ¬ (b : Int) ≤ (n : Int) := by omega
              by_cases hmn : m < n
              · have hmn' : (m : Int) < (n : Int) := by omega
                obtain ⟨g1, g2, g3⟩ := HC.out.two (by omega)
                rw [hm] at g1 g2
                rw [show min (m + bs) n = n by omega] at g2
                have HMA := fun W h1 h2 => Lib.hid ((HM a m n).out Z hoZ.out (by omega) hmn (Nat.le_refl _) (So.Seg.cross HA.out g1 g2 (Nat.le_refl _)) g1.sorted g2.sorted W h1 h2)
                have G1 := Lib.hid g1
                have G2 := Lib.hid g2
                have hq : a ≤ m ∧ m ≤ n ∧ n ≤ a + BB := by omega
                have HQQ := Lib.hid hq
                clear HM g1 g2 g3 hm hb hB hq
                go_wp2_with fail
                refine ((HMA _ HW.out (HAT.out.gx HG.out ht hk)).out).mono ?_
                rintro e w2 ⟨rfl, V, z1, z2, z3, z4⟩
                have HW2 := Lib.hid z1
                have HG2 := Lib.hid (HG.out.trans z4)
                have HQ2 := Lib.hid (to_same (Nat.le_refl _) HQ.out z2)
                have HC2 : Hid (So.Ch c.key lx X BB n V 0) := So.Pre.last HP.out (fun _ => ⟨HQQ.out.2.2, So.Seg.merge HQQ.out.1 HQQ.out.2.1 G1.out G2.out z2 z3⟩) (fun i hi => z2.off i (.inl hi))
                clear z1 z2 z3 z4 HMA G1 G2 HW HP HC HQ HG hoZ
                have hbb : 20 ≤ BB ∧ BB ≤ 2 * n + 40 ∧ n - BB < n - bs := by have := HBB.out; omega
                go_wp2
                go_roundw
                case rel => exact ⟨BB, V, hbb.1, hbb.2.1, rfl, HW2, HC2, HQ2, HG2⟩
                case measure => simp [intOf]; omega
              · have hmn' : ¬ (m : Int) < (n : Int) := by omega
                have HC2 : Hid (So.Ch c.key lx X BB n Z 0) := So.Pre.last HP.out (fun hl => ⟨by omega, HC.out.one hl (by omega)⟩) (fun i hi => rfl)
                have hbb : 20 ≤ BB ∧ BB ≤ 2 * n + 40 ∧ n - BB < n - bs := by omega
                clear HM hm hb hB
                go_wp2
                go_roundw
                case rel => exact ⟨BB, Z, hbb.1, hbb.2.1, rfl, HW, HC2, HQ, HG⟩
                case measure => simp [intOf]; omega
        · have hlt' : ¬ (bs : Int) < (n : Int) := by omega
          have HF := Lib.hid (HC.out.one h0 (by omega))
          go_wp2
          go_end0
          exact ⟨rfl, Y, HW.out, HF.out, HG.out⟩

theorem sortStable_any (c : Cx) (base g n cap : Nat) (ht : c.tb ≠ g) (hk : c.kb ≠ g) (hn : n ≤ 1000000) (h0 : 0 < n) (X : Nat → Q4) (hok : ∀ p, p < n → c.ok (X p)) (hasc : So.Asc lx 0 n X) (w : World) (hR : RW w base g n cap X) (hc : c.at w) :
    Calls Try.prog 33 #[.slice (some ⟨g, 0, none⟩) n cap, .func (.func 34) #[] #[.pointer (some ⟨c.tb, 0, none⟩), .pointer (some ⟨c.kb, 0, none⟩)]] w fun e w' => e = .returned (.tuple #[]) ∧ ∃ Y, RW w' base g n cap Y ∧ So.Seg c.key lx X 0 n Y ∧ GX [g] w w' := by
  have HS := Lib.hid (stable_any c base g n cap ht hk hn h0 X hok hasc w hR hc)
  have hn' : (n : Int) ≤ 9223372036854775807 := by omega
  clear hok hasc hR hc
  go_enter Try.func33, Try.ntmps33
  go_wp2_with fail
  refine (HS.out).mono ?_
  rintro e w1 ⟨rfl, h⟩
  have HH := Lib.hid h
  clear h
  go_wp2
  go_end0
  exact ⟨rfl, HH.out⟩

end Go.Proofs.Ytbffcpnpdpgfeaa
