/- slices.symMergeCmpFunc. -/
import Derived.Test.YtbffcpnpdpgfeaaSoC
namespace Go.Proofs.Ytbffcpnpdpgfeaa
open Go.RowKit
set_option linter.unusedVariables false
set_option linter.unusedSimpArgs false

set_option maxRecDepth 20000 in
set_option maxHeartbeats 8000000 in
theorem symMerge1_any (c : Cx) (base g n cap : Nat) (ht : c.tb ≠ g) (hk : c.kb ≠ g) (hn : n ≤ 1000000) (X : Nat → Q4) (hok : ∀ p, p < n → c.ok (X p)) (a m b : Nat) (hm : a + 1 = m) (h2 : m < b) (h3 : b ≤ n) (hcr : So.Cross lx a m b X) (hs2 : So.Sorted c.key lx m b X) (w : World) (hR : RW w base g n cap X) (hc : c.at w) :
    Calls Try.prog 70 #[.slice (some ⟨g, 0, none⟩) n cap, .int .i64 a, .int .i64 m, .int .i64 b, .func (.func 34) #[] #[.pointer (some ⟨c.tb, 0, none⟩), .pointer (some ⟨c.kb, 0, none⟩)]] w fun e w' => e = .returned (.tuple #[]) ∧ ∃ Y, RW w' base g n cap Y ∧ So.Same a b X Y ∧ So.Sorted c.key lx a b Y ∧ GX [g] w w' := by
  obtain ⟨hcap1, hcap2⟩ := hR.caps
  have lg := hR.lt.2
  have e1 : ((m : Int) - (a : Int)) = 1 := by omega
  have o2 := hok a (by omega)
  have HC := fun h (hh : h < n) (W : World) (hx : Ext w W) => Lib.hid (cmp_any c (X h) (X a) (hok h hh) o2 W (hc.ext hx))
  have HN := fun h (hh : h < n) => Lib.hid (Cx.neg (hok h hh) o2)
  have HX := Lib.hid hcr
  have HS := Lib.hid hs2
  have HR := Lib.hid hR
  clear hcr hs2 hR o2 hok hc
  go_enter Try.func70, Try.ntmps70
  go_wp2
  go_loopw [10, 11, 12] (fun s10 s11 _ wr => ∃ (i j : Nat), m ≤ i ∧ i ≤ j ∧ j ≤ b ∧ s10 = .int .i64 i ∧ s11 = .int .i64 j ∧ Hid (m < i → So.Lt c.key lx (X (i - 1)) (X a)) ∧ Hid (j < b → So.Lt c.key lx (X a) (X j)) ∧ Hid (Ext w wr)) (fun s10 s11 _ _ => (intOf s11).toNat - (intOf s10).toNat)
  case atStart => exact ⟨m, b, by omega, by omega, by omega, rfl, rfl, fun h => by omega, fun h => by omega, Ext.refl _⟩
  case round =>
    obtain ⟨i, j, i1, i2, i3, rfl, rfl, HI, HJ, HE⟩ := hrel
    by_cases hij : i < j
    · have hij' : (i : Int) < (j : Int) := by omega
      obtain ⟨h, hh⟩ : ∃ h, (i + j) / 2 = h := ⟨_, rfl⟩
      have eh : ((i : Int) + (j : Int)) / 2 = (h : Int) := by omega
      have h4 : i ≤ h ∧ h < j := by omega
      have hhn : h < n := by omega
      have eh1 : ((h : Int) + 1) = ((h + 1 : Nat) : Int) := by push_cast; rfl
      have HE1 := HE.out
      have HH := fun (W : World) (hx : Ext wr W) => HC h hhn W (HE1.trans hx)
      have hneg := HN h hhn
      have HNo := Lib.hid (fun (q : ¬ c.key (X h) < c.key (X a)) => (So.lt_no (K := c.key) (HX.out a h (Nat.le_refl _) (by omega) (by omega) (by omega)) q : So.Lt c.key lx (X a) (X h)))
      have HYes := Lib.hid (fun (q : c.key (X h) < c.key (X a)) => (So.lt_yes q : So.Lt c.key lx (X h) (X a)))
      have lg1 := (HR.out.ext HE1).lt.2
      obtain ⟨x0, x1, x2, x3⟩ := (HR.out.ext HE1).cells (p := h) hhn
      obtain ⟨y0, y1, y2, y3⟩ := (HR.out.ext HE1).cells (p := a) (by omega)
      generalize c.cmp (X h) (X a) = r at *
      have hh4 : h < j ∧ i < h + 1 := by omega
      clear HC HN hh HE1 eh1
      obtain ⟨x, hxh⟩ : ∃ x, X h = x := ⟨_, rfl⟩
      obtain ⟨y, hya⟩ : ∃ y, X a = y := ⟨_, rfl⟩
      simp only [hxh] at HH x0 x1 x2 x3
      simp only [hya] at HH y0 y1 y2 y3
      have HXY := Lib.hid (And.intro hxh hya)
      clear hxh hya
      have bh : h < n := hhn
      have ba : a < n := by omega
      by_cases hr : r < 0
      · have HQ := Lib.hid (HYes.out (hneg.out.1 hr))
        clear HNo HYes hneg
        go_wp2
        go_wp2
        refine wp_region_xt (by kernel_rfl) (by kernel_rfl) (fun hxc => ?_)
        repeat (first | go_big_quiet_step ((first | (go_at_call 34; exact calls_xt ((HH _ (Xt.ext _)).out)))) | quiet_step ((first | (go_at_call 34; exact calls_xt ((HH _ (Xt.ext _)).out)))))
        refine wpQuiet_nil (forall_xt ?_)
        clear hxc
        intro w1 hx1
        obtain ⟨hc1, hf1⟩ := hx1.cells
        have hz1 := hx1.size
        try simp at hz1
        have HE2 := Lib.hid (HE.out.trans hx1)
        clear HH hc1 hf1 hx1 hz1
        go_wp2
        go_roundw
        case rel => exact ⟨h + 1, j, by omega, by omega, i3, by go_num, rfl, fun _ => by rw [Nat.add_sub_cancel]; exact HQ.out, HJ, HE2⟩
        case measure => simp [intOf]; omega
      · have HQ := Lib.hid (HNo.out (fun q => hr (hneg.out.2 q)))
        clear HNo HYes hneg
        go_wp2
        go_wp2
        refine wp_region_xt (by kernel_rfl) (by kernel_rfl) (fun hxc => ?_)
        repeat (first | go_big_quiet_step ((first | (go_at_call 34; exact calls_xt ((HH _ (Xt.ext _)).out)))) | quiet_step ((first | (go_at_call 34; exact calls_xt ((HH _ (Xt.ext _)).out)))))
        refine wpQuiet_nil (forall_xt ?_)
        clear hxc
        intro w1 hx1
        obtain ⟨hc1, hf1⟩ := hx1.cells
        have hz1 := hx1.size
        try simp at hz1
        have HE2 := Lib.hid (HE.out.trans hx1)
        clear HH hc1 hf1 hx1 hz1
        go_wp2
        go_roundw
        case rel => exact ⟨i, h, i1, by omega, by omega, rfl, rfl, HI, fun _ => HQ.out, HE2⟩
        case measure => simp [intOf]; omega
    · obtain rfl : j = i := by omega
      have HE1 := HE.out
      have HR1 := Lib.hid (HR.out.ext HE1)
      have HG1 : Hid (GX [g] w wr) := GX.ofExt HE1
      have HF : Hid (So.Same a b X (So.rotF a (a + 1) j X) ∧ So.Sorted c.key lx a b (So.rotF a (a + 1) j X)) := by
        refine ⟨(So.same_rot X (by omega) (by omega)).widen (Nat.le_refl _) i3, ?_⟩
        have hs := HS.out
        rw [← hm] at hs i1 HI
        exact So.put_right lx_ord hs i1 i3 HI.out HJ.out
      clear HE1 HE HC HN HI HJ HS HX lg
      obtain ⟨J, hJ⟩ : ∃ J, j - 1 = J := ⟨_, rfl⟩
      have eJ : ((j : Int) - 1) = (J : Int) := by omega
      have hJ2 : J + 1 = j ∧ a ≤ J ∧ J < n := by omega
      clear hJ
      go_wp2
      go_loopw [13] (fun s13 wq => ∃ (k : Nat), a ≤ k ∧ k ≤ J ∧ s13 = .int .i64 k ∧ Hid (RW wq base g n cap (So.rotF a (a + 1) (k + 1) X)) ∧ Hid (GX [g] w wq)) (fun s13 _ => J - (intOf s13).toNat)
      case atStart => exact ⟨a, by omega, by omega, rfl, by rw [So.rot_right]; exact HR1, HG1⟩
      case round =>
        obtain ⟨k, k1, k2, rfl, HZ, HQ⟩ := hrel
        by_cases hlt : k < J
        · have hlt' : (k : Int) < (J : Int) := by omega
          have HSW := Lib.hid (So.swap_rot_right X k1)
          have bk : k < n := by omega
          obtain ⟨K, hK⟩ : ∃ K, k + 1 = K := ⟨_, rfl⟩
          have eK : ((k : Int) + 1) = (K : Int) := by omega
          have bK : K < n := by omega
          have kK : a ≤ K ∧ K ≤ J ∧ k < K := by omega
          have HZ' : Hid (∀ W, RW W base g n cap (So.rotF a (a + 1) (k + 2) X) → RW W base g n cap (So.rotF a (a + 1) (K + 1) X)) := fun W h => by rw [← hK]; exact h
          rw [hK] at HSW HZ
          have HT := Lib.hid ((HZ.out.store (p := k) bk (So.rotF a (a + 1) K X K)).store (p := K) bK (So.rotF a (a + 1) K X k))
          simp only [up4_swap] at HT
          simp only [HSW.out] at HT
          clear hK HSW
          generalize So.rotF a (a + 1) K X = Z at *
          obtain ⟨x0, x1, x2, x3⟩ := HZ.out.cells (p := k) bk
          obtain ⟨y0, y1, y2, y3⟩ := HZ.out.cells (p := K) bK
          generalize Z k = x at *
          generalize Z K = y at *
          have hfr := HZ.out.frozen
          have lg := HZ.out.lt.2
          go_wp2
          go_region
          all_goals
            go_wp2
            go_roundw
            case rel => exact ⟨K, kK.1, kK.2.1, rfl, HZ'.out _ (RW.drew HT.out), HQ.out.trans (by repeat (first | (with_reducible refine GX.setCell ?_ (by first | (simp; done) | (simp; omega)) _) | with_reducible refine GX.alloc ?_ _ | with_reducible refine GX.drew ?_ | with_reducible refine GX.drewN ?_ _ | with_reducible assumption | with_reducible exact GX.refl _ _ | with_reducible refine GX.ext ?_ (by with_reducible assumption) | with_reducible refine GX.trans ?_ (by with_reducible assumption)))⟩
            case measure => simp [intOf]; omega
        · obtain rfl : k = J := by omega
          have HZ2 := HZ.out
          rw [hJ2.1] at HZ2
          have HZ3 := Lib.hid HZ2
          clear HZ2
          go_wp2
          refine bodyPost_ret (results_none rfl _ _ _) rfl ?_
          exact ⟨rfl, _, HZ3.out, HF.out.1, HF.out.2, HQ.out⟩

set_option maxRecDepth 20000 in
set_option maxHeartbeats 8000000 in
theorem symMerge2_any (c : Cx) (base g n cap : Nat) (ht : c.tb ≠ g) (hk : c.kb ≠ g) (hn : n ≤ 1000000) (X : Nat → Q4) (hok : ∀ p, p < n → c.ok (X p)) (a m b : Nat) (ham : a < m) (hm : ¬ a + 1 = m) (h2 : m + 1 = b) (h3 : b ≤ n) (hcr : So.Cross lx a m b X) (hs1 : So.Sorted c.key lx a m X) (w : World) (hR : RW w base g n cap X) (hc : c.at w) :
    Calls Try.prog 70 #[.slice (some ⟨g, 0, none⟩) n cap, .int .i64 a, .int .i64 m, .int .i64 b, .func (.func 34) #[] #[.pointer (some ⟨c.tb, 0, none⟩), .pointer (some ⟨c.kb, 0, none⟩)]] w fun e w' => e = .returned (.tuple #[]) ∧ ∃ Y, RW w' base g n cap Y ∧ So.Same a b X Y ∧ So.Sorted c.key lx a b Y ∧ GX [g] w w' := by
  obtain ⟨hcap1, hcap2⟩ := hR.caps
  obtain ⟨D, hD⟩ : ∃ D, m - a = D := ⟨_, rfl⟩
  have e1 : ((m : Int) - (a : Int)) = (D : Int) := by omega
  have e1' : ((D : Int) == 1) = false := by simp; omega
  clear hD
  have e2 : ((b : Int) - (m : Int)) = 1 := by omega
  have o2 := hok m (by omega)
  have HC := fun h (hh : h < n) (W : World) (hx : Ext w W) => Lib.hid (cmp_any c (X m) (X h) o2 (hok h hh) W (hc.ext hx))
  have HN := fun h (hh : h < n) => Lib.hid (Cx.neg o2 (hok h hh))
  have HX := Lib.hid hcr
  have HS := Lib.hid hs1
  have HR := Lib.hid hR
  clear hcr hs1 hR o2 hok hc
  go_enter Try.func70, Try.ntmps70
  go_wp2
  go_loopw [14, 15, 16] (fun s14 s15 _ wr => ∃ (i j : Nat), a ≤ i ∧ i ≤ j ∧ j ≤ m ∧ s14 = .int .i64 i ∧ s15 = .int .i64 j ∧ Hid (a < i → So.Lt c.key lx (X (i - 1)) (X m)) ∧ Hid (j < m → So.Lt c.key lx (X m) (X j)) ∧ Hid (Ext w wr)) (fun s14 s15 _ _ => (intOf s15).toNat - (intOf s14).toNat)
  case atStart => exact ⟨a, m, by omega, by omega, by omega, rfl, rfl, fun h => by omega, fun h => by omega, Ext.refl _⟩
  case round =>
    obtain ⟨i, j, i1, i2, i3, rfl, rfl, HI, HJ, HE⟩ := hrel
    by_cases hij : i < j
    · have hij' : (i : Int) < (j : Int) := by omega
      obtain ⟨h, hh⟩ : ∃ h, (i + j) / 2 = h := ⟨_, rfl⟩
      have eh : ((i : Int) + (j : Int)) / 2 = (h : Int) := by omega
      have h4 : i ≤ h ∧ h < j := by omega
      have hhn : h < n := by omega
      have HE1 := HE.out
      have HH := fun (W : World) (hx : Ext wr W) => HC h hhn W (HE1.trans hx)
      have hneg := HN h hhn
      have HNo := Lib.hid (fun (q : ¬ c.key (X m) < c.key (X h)) => (So.lt_no (K := c.key) (HX.out h m (by omega) (by omega) (by omega) (by omega)) q : So.Lt c.key lx (X h) (X m)))
      have HYes := Lib.hid (fun (q : c.key (X m) < c.key (X h)) => (So.lt_yes q : So.Lt c.key lx (X m) (X h)))
      have lg1 := (HR.out.ext HE1).lt.2
      obtain ⟨x0, x1, x2, x3⟩ := (HR.out.ext HE1).cells (p := h) hhn
      obtain ⟨y0, y1, y2, y3⟩ := (HR.out.ext HE1).cells (p := m) (by omega)
      generalize c.cmp (X m) (X h) = r at *
      have hh4 : h < j ∧ i < h + 1 := by omega
      clear HC HN hh HE1
      obtain ⟨x, hxh⟩ : ∃ x, X h = x := ⟨_, rfl⟩
      obtain ⟨y, hya⟩ : ∃ y, X m = y := ⟨_, rfl⟩
      simp only [hxh] at HH x0 x1 x2 x3
      simp only [hya] at HH y0 y1 y2 y3
      have HXY := Lib.hid (And.intro hxh hya)
      clear hxh hya
      have bh : h < n := hhn
      have bm : m < n := by omega
      by_cases hr : r < 0
      · have HQ := Lib.hid (HYes.out (hneg.out.1 hr))
        clear HNo HYes hneg
        go_wp2
        go_wp2
        refine wp_region_xt (by kernel_rfl) (by kernel_rfl) (fun hxc => ?_)
        repeat (first | go_big_quiet_step ((first | (go_at_call 34; exact calls_xt ((HH _ (Xt.ext _)).out)))) | quiet_step ((first | (go_at_call 34; exact calls_xt ((HH _ (Xt.ext _)).out)))))
        refine wpQuiet_nil (forall_xt ?_)
        clear hxc
        intro w1 hx1
        obtain ⟨hc1, hf1⟩ := hx1.cells
        have hz1 := hx1.size
        try simp at hz1
        have HE2 := Lib.hid (HE.out.trans hx1)
        clear HH hc1 hf1 hx1 hz1
        go_wp2
        go_roundw
        case rel => exact ⟨i, h, i1, by omega, by omega, rfl, rfl, HI, fun _ => HQ.out, HE2⟩
        case measure => simp [intOf]; omega
      · have HQ := Lib.hid (HNo.out (fun q => hr (hneg.out.2 q)))
        clear HNo HYes hneg
        have hb : decide (r < 0) = false := decide_eq_false hr
        clear hr
        go_wp2
        go_wp2
        refine wp_region_xt (by kernel_rfl) (by kernel_rfl) (fun hxc => ?_)
        repeat (first | go_big_quiet_step ((first | (go_at_call 34; exact calls_xt ((HH _ (Xt.ext _)).out)))) | quiet_step ((first | (go_at_call 34; exact calls_xt ((HH _ (Xt.ext _)).out)))))
        refine wpQuiet_nil (forall_xt ?_)
        clear hxc
        intro w1 hx1
        obtain ⟨hc1, hf1⟩ := hx1.cells
        have hz1 := hx1.size
        try simp at hz1
        have HE2 := Lib.hid (HE.out.trans hx1)
        clear HH hc1 hf1 hx1 hz1
        go_wp2
        go_roundw
        case rel => exact ⟨h + 1, j, by omega, by omega, i3, by go_num, rfl, fun _ => by rw [Nat.add_sub_cancel]; exact HQ.out, HJ, HE2⟩
        case measure => simp [intOf]; omega
    · obtain rfl : j = i := by omega
      have HE1 := HE.out
      have HR1 := Lib.hid (HR.out.ext HE1)
      have HG1 : Hid (GX [g] w wr) := GX.ofExt HE1
      have HF : Hid (So.Same a b X (So.rotF j m (m + 1) X) ∧ So.Sorted c.key lx a b (So.rotF j m (m + 1) X)) := by
        rw [← h2]
        exact ⟨(So.same_rot X i3 (by omega)).widen i1 (Nat.le_refl _), So.put_left lx_ord HS.out i1 i3 HI.out HJ.out⟩
      clear HE1 HE HC HN HI HJ HS HX
      go_wp2
      go_loopw [17] (fun s17 wq => ∃ (k : Nat), j ≤ k ∧ k ≤ m ∧ s17 = .int .i64 k ∧ Hid (RW wq base g n cap (So.rotF k m (m + 1) X)) ∧ Hid (GX [g] w wq)) (fun s17 _ => (intOf s17).toNat)
      case atStart => exact ⟨m, by omega, by omega, rfl, by rw [So.rot_left]; exact HR1, HG1⟩
      case round =>
        obtain ⟨k, k1, k2, rfl, HZ, HQ⟩ := hrel
        by_cases hlt : j < k
        · have hlt' : (j : Int) < (k : Int) := by omega
          have HSW := Lib.hid (So.swap_rot_left (k := k) X (by omega) k2)
          have bk : k < n := by omega
          obtain ⟨K, hK⟩ : ∃ K, k - 1 = K := ⟨_, rfl⟩
          have eK : ((k : Int) - 1) = (K : Int) := by omega
          have bK : K < n := by omega
          have kK : j ≤ K ∧ K ≤ m ∧ K < k := by omega
          rw [hK] at HSW
          have HT := Lib.hid ((HZ.out.store (p := k) bk (So.rotF k m (m + 1) X K)).store (p := K) bK (So.rotF k m (m + 1) X k))
          simp only [up4_swap] at HT
          simp only [HSW.out] at HT
          clear hK HSW
          generalize So.rotF k m (m + 1) X = Z at *
          obtain ⟨x0, x1, x2, x3⟩ := HZ.out.cells (p := k) bk
          obtain ⟨y0, y1, y2, y3⟩ := HZ.out.cells (p := K) bK
          generalize Z k = x at *
          generalize Z K = y at *
          have hfr := HZ.out.frozen
          have lg := HZ.out.lt.2
          go_wp2
          go_region
          all_goals
            go_wp2
            go_roundw
            case rel => exact ⟨K, kK.1, kK.2.1, rfl, RW.drew HT.out, HQ.out.trans (by repeat (first | (with_reducible refine GX.setCell ?_ (by first | (simp; done) | (simp; omega)) _) | with_reducible refine GX.alloc ?_ _ | with_reducible refine GX.drew ?_ | with_reducible refine GX.drewN ?_ _ | with_reducible assumption | with_reducible exact GX.refl _ _ | with_reducible refine GX.ext ?_ (by with_reducible assumption) | with_reducible refine GX.trans ?_ (by with_reducible assumption)))⟩
            case measure => simp [intOf]; omega
        · obtain rfl : k = j := by omega
          go_wp2
          refine bodyPost_ret (results_none rfl _ _ _) rfl ?_
          exact ⟨rfl, _, HZ.out, HF.out.1, HF.out.2, HQ.out⟩

end Go.Proofs.Ytbffcpnpdpgfeaa
