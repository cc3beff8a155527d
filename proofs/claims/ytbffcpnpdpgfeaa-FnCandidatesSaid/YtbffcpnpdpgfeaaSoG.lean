/- slices.symMergeCmpFunc: the general case, and all cases. -/
import Derived.Test.YtbffcpnpdpgfeaaSoS
namespace Go.Proofs.Ytbffcpnpdpgfeaa
open Go.RowKit
set_option linter.unusedVariables false
set_option linter.unusedSimpArgs false

/-- what symMerge does with the piece a .. b -/
def MergeOk (c : Cx) (base g n cap : Nat) (a m b : Nat) : Prop :=
  ∀ (X : Nat → Q4), (∀ p, p < n → c.ok (X p)) → a < m → m < b → b ≤ n → So.Cross lx a m b X → So.Sorted c.key lx a m X → So.Sorted c.key lx m b X → ∀ (w : World), RW w base g n cap X → c.at w →
    Calls Try.prog 70 #[.slice (some ⟨g, 0, none⟩) n cap, .int .i64 a, .int .i64 m, .int .i64 b, .func (.func 34) #[] #[.pointer (some ⟨c.tb, 0, none⟩), .pointer (some ⟨c.kb, 0, none⟩)]] w fun e w' => e = .returned (.tuple #[]) ∧ ∃ Y, RW w' base g n cap Y ∧ So.Same a b X Y ∧ So.Sorted c.key lx a b Y ∧ GX [g] w w'

theorem ok_same {c : Cx} {n a b : Nat} {X Y : Nat → Q4} (h : ∀ p, p < n → c.ok (X p)) (hs : So.Same a b X Y) (hb : b ≤ n) : ∀ p, p < n → c.ok (Y p) := by
  intro p hp
  by_cases hi : a ≤ p ∧ p < b
  · obtain ⟨q, q1, q2, e⟩ := hs.to p hi.1 hi.2
    rw [e]
    exact h q (by omega)
  · rw [hs.off p (by omega)]
    exact h p hp

set_option maxRecDepth 20000 in
set_option maxHeartbeats 40000000 in
theorem symMerge3a_any (c : Cx) (base g n cap : Nat) (ht : c.tb ≠ g) (hk : c.kb ≠ g) (hn : n ≤ 1000000) (a m b M : Nat) (hM : (a + b) / 2 = M) (hMm : M < m) (ham : ¬ a + 1 = m) (hbm : ¬ m + 1 = b) (IH : ∀ a' m' b', b' - a' < b - a → MergeOk c base g n cap a' m' b') : MergeOk c base g n cap a m b := by
  intro X hok h1 h2 h3 hcr hs1 hs2 w hR hc
  obtain ⟨hcap1, hcap2⟩ := hR.caps
  obtain ⟨D, hD⟩ : ∃ D, m - a = D := ⟨_, rfl⟩
  have e1 : ((m : Int) - (a : Int)) = (D : Int) := by omega
  have e1' : ((D : Int) == 1) = false := by simp; omega
  obtain ⟨E, hE⟩ : ∃ E, b - m = E := ⟨_, rfl⟩
  have e2 : ((b : Int) - (m : Int)) = (E : Int) := by omega
  have e2' : ((E : Int) == 1) = false := by simp; omega
  clear hD hE
  have eM : ((a : Int) + (b : Int)) / 2 = (M : Int) := by omega
  obtain ⟨NN, hNN⟩ : ∃ NN, M + m = NN := ⟨_, rfl⟩
  have eN : ((M : Int) + (m : Int)) = (NN : Int) := by omega
  obtain ⟨P, hP⟩ : ∃ P, NN - 1 = P := ⟨_, rfl⟩
  have eP : ((NN : Int) - 1) = (P : Int) := by omega
  have hMm' : (M : Int) < (m : Int) := by omega
  obtain ⟨s0, hs0⟩ : ∃ s0, NN - b = s0 := ⟨_, rfl⟩
  have eS : ((NN : Int) - (b : Int)) = (s0 : Int) := by omega
  have hf : a ≤ s0 ∧ s0 ≤ M ∧ M ≤ m ∧ NN ≤ s0 + b ∧ m + M ≤ NN ∧ (s0 = a ∨ s0 + b = NN) ∧ (M = m ∨ m + M = NN) := by omega
  have HF := Lib.hid hf
  have HC := fun p q (hp : p < n) (hq : q < n) (W : World) (hx : Ext w W) => Lib.hid (cmp_any c (X p) (X q) (hok p hp) (hok q hq) W (hc.ext hx))
  have HN := fun p q (hp : p < n) (hq : q < n) => Lib.hid (Cx.neg (hok p hp) (hok q hq))
  have HOK := Lib.hid hok
  have HX := Lib.hid hcr
  have HS1 := Lib.hid hs1
  have HS2 := Lib.hid hs2
  have HR := Lib.hid hR
  have HAT := Lib.hid hc
  have HIH := Lib.hid IH
  clear hcr hs1 hs2 hR hok hc IH hf
  go_enter Try.func70, Try.ntmps70
  go_wp2
  go_loopw [20, 21, 23] (fun s20 s21 _ wr => ∃ (s r : Nat), s0 ≤ s ∧ s ≤ r ∧ r ≤ M ∧ s20 = .int .i64 s ∧ s21 = .int .i64 r ∧ Hid (s0 < s → So.Lt c.key lx (X (s - 1)) (X (NN - s))) ∧ Hid (r < M → So.Lt c.key lx (X (NN - 1 - r)) (X r)) ∧ Hid (Ext w wr)) (fun s20 s21 _ _ => (intOf s21).toNat - (intOf s20).toNat)
  case atStart => exact ⟨s0, M, by omega, by have := HF.out; omega, by omega, rfl, rfl, fun h => by omega, fun h => by omega, Ext.refl _⟩
  case round =>
    obtain ⟨s, r, i1, i2, i3, rfl, rfl, HI, HJ, HE⟩ := hrel
    have hf := HF.out
    by_cases hij : s < r
    · have hij' : (s : Int) < (r : Int) := by omega
      obtain ⟨h, hh⟩ : ∃ h, (s + r) / 2 = h := ⟨_, rfl⟩
      have eh : ((s : Int) + (r : Int)) / 2 = (h : Int) := by omega
      obtain ⟨q, hq⟩ : ∃ q, P - h = q := ⟨_, rfl⟩
      have eq : ((P : Int) - (h : Int)) = (q : Int) := by omega
      have h4 : s ≤ h ∧ h < r := by omega
      have hhn : h < n := by omega
      have hqn : q < n := by omega
      have hq2 : m ≤ q ∧ q < b ∧ NN - 1 - h = q ∧ NN - (h + 1) = q := by omega
      have HE1 := HE.out
      have HH := fun (W : World) (hx : Ext wr W) => HC q h hqn hhn W (HE1.trans hx)
      have hneg := HN q h hqn hhn
      have HNo := Lib.hid (fun (k : ¬ c.key (X q) < c.key (X h)) => (So.lt_no (K := c.key) (HX.out h q (by omega) (by omega) (by omega) (by omega)) k : So.Lt c.key lx (X h) (X q)))
      have HYes := Lib.hid (fun (k : c.key (X q) < c.key (X h)) => (So.lt_yes k : So.Lt c.key lx (X q) (X h)))
      have lg1 := (HR.out.ext HE1).lt.2
      obtain ⟨x0, x1, x2, x3⟩ := (HR.out.ext HE1).cells (p := h) hhn
      obtain ⟨y0, y1, y2, y3⟩ := (HR.out.ext HE1).cells (p := q) hqn
      generalize c.cmp (X q) (X h) = v at *
      have hh4 : h < r ∧ s < h + 1 ∧ s ≤ h ∧ h + 1 ≤ r := by omega
      have HQ2 := Lib.hid hq2
      clear HC HN hh HE1 hq hq2 h4 hf
      obtain ⟨x, hxh⟩ : ∃ x, X h = x := ⟨_, rfl⟩
      obtain ⟨y, hya⟩ : ∃ y, X q = y := ⟨_, rfl⟩
      simp only [hxh] at HH x0 x1 x2 x3
      simp only [hya] at HH y0 y1 y2 y3
      have HXY := Lib.hid (And.intro hxh hya)
      clear hxh hya
      by_cases hr : v < 0
      · have HQ := Lib.hid (HYes.out (hneg.out.1 hr))
        clear HNo HYes hneg
        go_wp2
        go_wp2
        refine wp_region_xt (by kernel_rfl) (by kernel_rfl) (fun hxc => ?_)
        repeat (first | go_big_quiet_step ((first | (go_at_call 34; exact calls_xt ((HH _ (Xt.ext _)).out)))) | quiet_step ((first | (go_at_call 34; exact calls_xt ((HH _ (Xt.ext _)).out)))))
        refine wpQuiet_nil (forall_xt ?_)
        clear hxc
        intro w1 hx1
        obtain ⟨hc1, hf1⟩ := hx1.cells
        have hz1 := hx1.size
        try simp at hz1
        have HE2 := Lib.hid (HE.out.trans hx1)
        clear HH hc1 hf1 hx1 hz1
        go_wp2
        go_roundw
        case rel => exact ⟨s, h, i1, by omega, by omega, rfl, rfl, HI, fun _ => by rw [HQ2.out.2.2.1]; exact HQ.out, HE2⟩
        case measure => simp [intOf]; omega
      · have HQ := Lib.hid (HNo.out (fun k => hr (hneg.out.2 k)))
        clear HNo HYes hneg
        have hb : decide (v < 0) = false := decide_eq_false hr
        clear hr
        go_wp2
        go_wp2
        refine wp_region_xt (by kernel_rfl) (by kernel_rfl) (fun hxc => ?_)
        repeat (first | go_big_quiet_step ((first | (go_at_call 34; exact calls_xt ((HH _ (Xt.ext _)).out)))) | quiet_step ((first | (go_at_call 34; exact calls_xt ((HH _ (Xt.ext _)).out)))))
        refine wpQuiet_nil (forall_xt ?_)
        clear hxc
        intro w1 hx1
        obtain ⟨hc1, hf1⟩ := hx1.cells
        have hz1 := hx1.size
        try simp at hz1
        have HE2 := Lib.hid (HE.out.trans hx1)
        clear HH hc1 hf1 hx1 hz1
        go_wp2
        go_roundw
        case rel => exact ⟨h + 1, r, by omega, by omega, i3, by go_num, rfl, fun _ => by rw [Nat.add_sub_cancel, HQ2.out.2.2.2]; exact HQ.out, HJ, HE2⟩
        case measure => simp [intOf]; omega
    · obtain rfl : r = s := by omega
      obtain ⟨e, he⟩ : ∃ e, NN - r = e := ⟨_, rfl⟩
      have ee : ((NN : Int) - (r : Int)) = (e : Int) := by omega
      have hse : r ≤ m ∧ m ≤ e ∧ e ≤ b ∧ a ≤ r ∧ r + (e - m) = M ∧ a < M ∧ M < b := by omega
      have D1 : a < r → e < b → So.Lt c.key lx (X (r - 1)) (X e) := fun k1 k2 => by
        have := HI.out (by omega)
        rwa [he] at this
      have D2 : r < m → m < e → So.Lt c.key lx (X (e - 1)) (X r) := fun k1 k2 => by
        have := HJ.out (by omega)
        rwa [show NN - 1 - r = e - 1 by omega] at this
      have HHv := Lib.hid (So.halves lx_ord HS1.out HS2.out hse.2.2.2.1 hse.1 hse.2.1 hse.2.2.1 D1 D2)
      have HZ1 := Lib.hid (So.rot_sorted1 (b := b) HS1.out hse.1 hse.2.1)
      have HZ2 := Lib.hid (So.rot_sorted2 HS2.out hse.1 hse.2.1 hse.2.2.1)
      have HZ3 := Lib.hid (So.rot_sorted3 HS1.out hse.2.2.2.1 hse.1 hse.2.1)
      have HZ4 := Lib.hid (So.rot_sorted4 (s := r) HS2.out hse.2.1)
      have HX1 := Lib.hid (So.rot_cross1 HX.out hse.2.2.2.1 hse.1 hse.2.1 hse.2.2.1)
      have HX2 := Lib.hid (So.rot_cross2 HX.out hse.2.2.2.1 hse.1 hse.2.1 hse.2.2.1)
      have HSM := Lib.hid ((So.same_rot X (a := r) (m := m) (b := e) hse.1 hse.2.1).widen hse.2.2.2.1 hse.2.2.1)
      rw [hse.2.2.2.2.1] at HHv HZ2 HZ3 HX1 HX2
      have HOKZ := Lib.hid (ok_same HOK.out HSM.out h3)
      have HROT := fun (k1 : r < m) (k2 : m < e) (W : World) (h : RW W base g n cap X) => Lib.hid (rotate_any base g n cap X r m e k1 k2 (by omega) hn (.func (.func 34) #[] #[.pointer (some ⟨c.tb, 0, none⟩), .pointer (some ⟨c.kb, 0, none⟩)]) W h)
      have HSR := Lib.hid (fun (k : r = m) => (by rw [k]; exact (So.rot_left m e X).symm : X = So.rotF r m e X))
      have HSE := Lib.hid (fun (k : e = m) => (by rw [k]; exact (So.rot_right r m X).symm : X = So.rotF r m e X))
      have HR1 := Lib.hid (HR.out.ext HE.out)
      have HG1 : Hid (GX [g] w wr) := GX.ofExt HE.out
      obtain ⟨Z, hZ⟩ : ∃ Z, So.rotF r m e X = Z := ⟨_, rfl⟩
      simp only [hZ] at HHv HZ1 HZ2 HZ3 HZ4 HX1 HX2 HSM HOKZ HROT HSR HSE
      have HSQ := Lib.hid hse
      clear hse hZ D1 D2 HI HJ HC HN he HE hf HR HS1 HS2 HX HOK
      by_cases k1 : r < m
      · have k1' : (r : Int) < (m : Int) := by have := HSQ.out; omega
        by_cases k2 : m < e
        · have k2' : (m : Int) < (e : Int) := by have := HSQ.out; omega
          go_wp2_with fail
          refine ((HROT k1 k2 _ HR1.out).out).mono ?_
          rintro e' w2 ⟨rfl, hz, hg⟩
          have HRZ := Lib.hid hz
          have HG2 := Lib.hid (HG1.out.trans hg)
          clear hz hg HROT HSR HSE
          by_cases k3 : a < r
          · have k3' : (a : Int) < (r : Int) := by have := HSQ.out; omega
            by_cases k4 : r < M
            · have k4' : (r : Int) < (M : Int) := by have := HSQ.out; omega
              have HLC := fun (W : World) h1 h2 => Lib.hid (HIH.out a r M (by have := HSQ.out; omega) _ HOKZ.out k3 k4 (by have := HSQ.out; omega) HX1.out HZ1.out HZ2.out W h1 h2)
              go_wp2_with fail
              refine ((HLC _ HRZ.out (HAT.out.gx HG2.out ht hk)).out).mono ?_
              rintro e' w3 ⟨rfl, U, hU1, hU2, hU3, hU4⟩
              have HU1 := Lib.hid hU1
              have HGU := Lib.hid (HG2.out.trans hU4)
              have HLS := Lib.hid hU2
              have HLT := Lib.hid hU3
              clear hU1 hU2 hU3 hU4 HLC
              have HR3 := Lib.hid (So.sorted_off HLS.out HZ3.out (.inr (Nat.le_refl _)))
              have HR4 := Lib.hid (So.sorted_off HLS.out HZ4.out (.inr (by have := HSQ.out; omega)))
              have HRX := Lib.hid (So.cross_off HLS.out HX2.out (.inr (Nat.le_refl _)))
              have HRH := Lib.hid (So.halves_same HHv.out (.inl HLS.out))
              have HRO := Lib.hid (ok_same HOKZ.out HLS.out (by have := HSQ.out; omega))
              have HRS := Lib.hid (HSM.out.trans (HLS.out.widen (Nat.le_refl _) (by have := HSQ.out; omega)))
              by_cases k5 : M < e
              · have k5' : (M : Int) < (e : Int) := by have := HSQ.out; omega
                by_cases k6 : e < b
                · have k6' : (e : Int) < (b : Int) := by have := HSQ.out; omega
                  have HRC := fun (W : World) h1 h2 => Lib.hid (HIH.out M e b (by have := HSQ.out; omega) _ HRO.out k5 k6 h3 HRX.out HR3.out HR4.out W h1 h2)
                  go_wp2_with fail
                  refine ((HRC _ HU1.out (HAT.out.gx HGU.out ht hk)).out).mono ?_
                  rintro e' w4 ⟨rfl, V, hV1, hV2, hV3, hV4⟩
                  have HV1 := Lib.hid hV1
                  have HGV := Lib.hid (HGU.out.trans hV4)
                  have HSV := Lib.hid (HRS.out.trans (hV2.widen (by have := HSQ.out; omega) (Nat.le_refl _)))
                  have HTV := Lib.hid (So.sorted_glue (So.sorted_off hV2 HLT.out (.inl (Nat.le_refl _))) hV3 (So.halves_same HRH.out (.inr hV2)))
                  clear hV1 hV2 hV3 hV4
                  go_wp2
                  first | (refine bodyPost_ret (results_none rfl _ _ _) rfl ?_) | go_end0
                  exact ⟨rfl, V, HV1.out, HSV.out, HTV.out, HGV.out⟩
                · have k6' : ¬ (e : Int) < (b : Int) := by have := HSQ.out; omega
                  have q : e = b := by have := HSQ.out; omega
                  have HTV := Lib.hid (So.sorted_glue HLT.out (by rw [← q]; exact HR3.out) HRH.out)
                  clear q
                  go_wp2
                  first | (refine bodyPost_ret (results_none rfl _ _ _) rfl ?_) | go_end0
                  exact ⟨rfl, U, HU1.out, HRS.out, HTV.out, HGU.out⟩
              · have k5' : ¬ (M : Int) < (e : Int) := by have := HSQ.out; omega
                have q : M = e := by have := HSQ.out; omega
                have HTV := Lib.hid (So.sorted_glue HLT.out (by rw [q]; exact HR4.out) HRH.out)
                clear q
                go_wp2
                first | (refine bodyPost_ret (results_none rfl _ _ _) rfl ?_) | go_end0
                exact ⟨rfl, U, HU1.out, HRS.out, HTV.out, HGU.out⟩
            · have k4' : ¬ (r : Int) < (M : Int) := by have := HSQ.out; omega
              have q : r = M := by have := HSQ.out; omega
              have HLS := Lib.hid (So.Same.refl a M Z)
              have HLT : Hid (So.Sorted c.key lx a M Z) := by rw [← q]; exact HZ1
              clear q
              have HR3 := Lib.hid (So.sorted_off HLS.out HZ3.out (.inr (Nat.le_refl _)))
              have HR4 := Lib.hid (So.sorted_off HLS.out HZ4.out (.inr (by have := HSQ.out; omega)))
              have HRX := Lib.hid (So.cross_off HLS.out HX2.out (.inr (Nat.le_refl _)))
              have HRH := Lib.hid (So.halves_same HHv.out (.inl HLS.out))
              have HRO := Lib.hid (ok_same HOKZ.out HLS.out (by have := HSQ.out; omega))
              have HRS := Lib.hid (HSM.out.trans (HLS.out.widen (Nat.le_refl _) (by have := HSQ.out; omega)))
              by_cases k5 : M < e
              · have k5' : (M : Int) < (e : Int) := by have := HSQ.out; omega
                by_cases k6 : e < b
                · have k6' : (e : Int) < (b : Int) := by have := HSQ.out; omega
                  have HRC := fun (W : World) h1 h2 => Lib.hid (HIH.out M e b (by have := HSQ.out; omega) _ HRO.out k5 k6 h3 HRX.out HR3.out HR4.out W h1 h2)
                  go_wp2_with fail
                  refine ((HRC _ HRZ.out (HAT.out.gx HG2.out ht hk)).out).mono ?_
                  rintro e' w4 ⟨rfl, V, hV1, hV2, hV3, hV4⟩
                  have HV1 := Lib.hid hV1
                  have HGV := Lib.hid (HG2.out.trans hV4)
                  have HSV := Lib.hid (HRS.out.trans (hV2.widen (by have := HSQ.out; omega) (Nat.le_refl _)))
                  have HTV := Lib.hid (So.sorted_glue (So.sorted_off hV2 HLT.out (.inl (Nat.le_refl _))) hV3 (So.halves_same HRH.out (.inr hV2)))
                  clear hV1 hV2 hV3 hV4
                  go_wp2
                  first | (refine bodyPost_ret (results_none rfl _ _ _) rfl ?_) | go_end0
                  exact ⟨rfl, V, HV1.out, HSV.out, HTV.out, HGV.out⟩
                · have k6' : ¬ (e : Int) < (b : Int) := by have := HSQ.out; omega
                  have q : e = b := by have := HSQ.out; omega
                  have HTV := Lib.hid (So.sorted_glue HLT.out (by rw [← q]; exact HR3.out) HRH.out)
                  clear q
                  go_wp2
                  first | (refine bodyPost_ret (results_none rfl _ _ _) rfl ?_) | go_end0
                  exact ⟨rfl, Z, HRZ.out, HRS.out, HTV.out, HG2.out⟩
              · have k5' : ¬ (M : Int) < (e : Int) := by have := HSQ.out; omega
                have q : M = e := by have := HSQ.out; omega
                have HTV := Lib.hid (So.sorted_glue HLT.out (by rw [q]; exact HR4.out) HRH.out)
                clear q
                go_wp2
                first | (refine bodyPost_ret (results_none rfl _ _ _) rfl ?_) | go_end0
                exact ⟨rfl, Z, HRZ.out, HRS.out, HTV.out, HG2.out⟩
          · have k3' : ¬ (a : Int) < (r : Int) := by have := HSQ.out; omega
            have q : a = r := by have := HSQ.out; omega
            have HLS := Lib.hid (So.Same.refl a M Z)
            have HLT : Hid (So.Sorted c.key lx a M Z) := by rw [q]; exact HZ2
            clear q
            have HR3 := Lib.hid (So.sorted_off HLS.out HZ3.out (.inr (Nat.le_refl _)))
            have HR4 := Lib.hid (So.sorted_off HLS.out HZ4.out (.inr (by have := HSQ.out; omega)))
            have HRX := Lib.hid (So.cross_off HLS.out HX2.out (.inr (Nat.le_refl _)))
            have HRH := Lib.hid (So.halves_same HHv.out (.inl HLS.out))
            have HRO := Lib.hid (ok_same HOKZ.out HLS.out (by have := HSQ.out; omega))
            have HRS := Lib.hid (HSM.out.trans (HLS.out.widen (Nat.le_refl _) (by have := HSQ.out; omega)))
            by_cases k5 : M < e
            · have k5' : (M : Int) < (e : Int) := by have := HSQ.out; omega
              by_cases k6 : e < b
              · have k6' : (e : Int) < (b : Int) := by have := HSQ.out; omega
                have HRC := fun (W : World) h1 h2 => Lib.hid (HIH.out M e b (by have := HSQ.out; omega) _ HRO.out k5 k6 h3 HRX.out HR3.out HR4.out W h1 h2)
                go_wp2_with fail
                refine ((HRC _ HRZ.out (HAT.out.gx HG2.out ht hk)).out).mono ?_
                rintro e' w4 ⟨rfl, V, hV1, hV2, hV3, hV4⟩
                have HV1 := Lib.hid hV1
                have HGV := Lib.hid (HG2.out.trans hV4)
                have HSV := Lib.hid (HRS.out.trans (hV2.widen (by have := HSQ.out; omega) (Nat.le_refl _)))
                have HTV := Lib.hid (So.sorted_glue (So.sorted_off hV2 HLT.out (.inl (Nat.le_refl _))) hV3 (So.halves_same HRH.out (.inr hV2)))
                clear hV1 hV2 hV3 hV4
                go_wp2
                first | (refine bodyPost_ret (results_none rfl _ _ _) rfl ?_) | go_end0
                exact ⟨rfl, V, HV1.out, HSV.out, HTV.out, HGV.out⟩
              · have k6' : ¬ (e : Int) < (b : Int) := by have := HSQ.out; omega
                have q : e = b := by have := HSQ.out; omega
                have HTV := Lib.hid (So.sorted_glue HLT.out (by rw [← q]; exact HR3.out) HRH.out)
                clear q
                go_wp2
                first | (refine bodyPost_ret (results_none rfl _ _ _) rfl ?_) | go_end0
                exact ⟨rfl, Z, HRZ.out, HRS.out, HTV.out, HG2.out⟩
            · have k5' : ¬ (M : Int) < (e : Int) := by have := HSQ.out; omega
              have q : M = e := by have := HSQ.out; omega
              have HTV := Lib.hid (So.sorted_glue HLT.out (by rw [q]; exact HR4.out) HRH.out)
              clear q
              go_wp2
              first | (refine bodyPost_ret (results_none rfl _ _ _) rfl ?_) | go_end0
              exact ⟨rfl, Z, HRZ.out, HRS.out, HTV.out, HG2.out⟩
        · have k2' : ¬ (m : Int) < (e : Int) := by have := HSQ.out; omega
          have hxz := HSE.out (by have := HSQ.out; omega)
          have HRZ : Hid (RW wr base g n cap Z) := by rw [← hxz]; exact HR1.out
          clear hxz HROT HSR HSE
          by_cases k3 : a < r
          · have k3' : (a : Int) < (r : Int) := by have := HSQ.out; omega
            by_cases k4 : r < M
            · have k4' : (r : Int) < (M : Int) := by have := HSQ.out; omega
              have HLC := fun (W : World) h1 h2 => Lib.hid (HIH.out a r M (by have := HSQ.out; omega) _ HOKZ.out k3 k4 (by have := HSQ.out; omega) HX1.out HZ1.out HZ2.out W h1 h2)
              go_wp2_with fail
              refine ((HLC _ HRZ.out (HAT.out.gx HG1.out ht hk)).out).mono ?_
              rintro e' w3 ⟨rfl, U, hU1, hU2, hU3, hU4⟩
              have HU1 := Lib.hid hU1
              have HGU := Lib.hid (HG1.out.trans hU4)
              have HLS := Lib.hid hU2
              have HLT := Lib.hid hU3
              clear hU1 hU2 hU3 hU4 HLC
              have HR3 := Lib.hid (So.sorted_off HLS.out HZ3.out (.inr (Nat.le_refl _)))
              have HR4 := Lib.hid (So.sorted_off HLS.out HZ4.out (.inr (by have := HSQ.out; omega)))
              have HRX := Lib.hid (So.cross_off HLS.out HX2.out (.inr (Nat.le_refl _)))
              have HRH := Lib.hid (So.halves_same HHv.out (.inl HLS.out))
              have HRO := Lib.hid (ok_same HOKZ.out HLS.out (by have := HSQ.out; omega))
              have HRS := Lib.hid (HSM.out.trans (HLS.out.widen (Nat.le_refl _) (by have := HSQ.out; omega)))
              by_cases k5 : M < e
              · have k5' : (M : Int) < (e : Int) := by have := HSQ.out; omega
                by_cases k6 : e < b
                · have k6' : (e : Int) < (b : Int) := by have := HSQ.out; omega
                  have HRC := fun (W : World) h1 h2 => Lib.hid (HIH.out M e b (by have := HSQ.out; omega) _ HRO.out k5 k6 h3 HRX.out HR3.out HR4.out W h1 h2)
                  go_wp2_with fail
                  refine ((HRC _ HU1.out (HAT.out.gx HGU.out ht hk)).out).mono ?_
                  rintro e' w4 ⟨rfl, V, hV1, hV2, hV3, hV4⟩
                  have HV1 := Lib.hid hV1
                  have HGV := Lib.hid (HGU.out.trans hV4)
                  have HSV := Lib.hid (HRS.out.trans (hV2.widen (by have := HSQ.out; omega) (Nat.le_refl _)))
                  have HTV := Lib.hid (So.sorted_glue (So.sorted_off hV2 HLT.out (.inl (Nat.le_refl _))) hV3 (So.halves_same HRH.out (.inr hV2)))
                  clear hV1 hV2 hV3 hV4
                  go_wp2
                  first | (refine bodyPost_ret (results_none rfl _ _ _) rfl ?_) | go_end0
                  exact ⟨rfl, V, HV1.out, HSV.out, HTV.out, HGV.out⟩
                · have k6' : ¬ (e : Int) < (b : Int) := by have := HSQ.out; omega
                  have q : e = b := by have := HSQ.out; omega
                  have HTV := Lib.hid (So.sorted_glue HLT.out (by rw [← q]; exact HR3.out) HRH.out)
                  clear q
                  go_wp2
                  first | (refine bodyPost_ret (results_none rfl _ _ _) rfl ?_) | go_end0
                  exact ⟨rfl, U, HU1.out, HRS.out, HTV.out, HGU.out⟩
              · have k5' : ¬ (M : Int) < (e : Int) := by have := HSQ.out; omega
                have q : M = e := by have := HSQ.out; omega
                have HTV := Lib.hid (So.sorted_glue HLT.out (by rw [q]; exact HR4.out) HRH.out)
                clear q
                go_wp2
                first | (refine bodyPost_ret (results_none rfl _ _ _) rfl ?_) | go_end0
                exact ⟨rfl, U, HU1.out, HRS.out, HTV.out, HGU.out⟩
            · have k4' : ¬ (r : Int) < (M : Int) := by have := HSQ.out; omega
              have q : r = M := by have := HSQ.out; omega
              have HLS := Lib.hid (So.Same.refl a M Z)
              have HLT : Hid (So.Sorted c.key lx a M Z) := by rw [← q]; exact HZ1
              clear q
              have HR3 := Lib.hid (So.sorted_off HLS.out HZ3.out (.inr (Nat.le_refl _)))
              have HR4 := Lib.hid (So.sorted_off HLS.out HZ4.out (.inr (by have := HSQ.out; omega)))
              have HRX := Lib.hid (So.cross_off HLS.out HX2.out (.inr (Nat.le_refl _)))
              have HRH := Lib.hid (So.halves_same HHv.out (.inl HLS.out))
              have HRO := Lib.hid (ok_same HOKZ.out HLS.out (by have := HSQ.out; omega))
              have HRS := Lib.hid (HSM.out.trans (HLS.out.widen (Nat.le_refl _) (by have := HSQ.out; omega)))
              by_cases k5 : M < e
              · have k5' : (M : Int) < (e : Int) := by have := HSQ.out; omega
                by_cases k6 : e < b
                · have k6' : (e : Int) < (b : Int) := by have := HSQ.out; omega
                  have HRC := fun (W : World) h1 h2 => Lib.hid (HIH.out M e b (by have := HSQ.out; omega) _ HRO.out k5 k6 h3 HRX.out HR3.out HR4.out W h1 h2)
                  go_wp2_with fail
                  refine ((HRC _ HRZ.out (HAT.out.gx HG1.out ht hk)).out).mono ?_
                  rintro e' w4 ⟨rfl, V, hV1, hV2, hV3, hV4⟩
                  have HV1 := Lib.hid hV1
                  have HGV := Lib.hid (HG1.out.trans hV4)
                  have HSV := Lib.hid (HRS.out.trans (hV2.widen (by have := HSQ.out; omega) (Nat.le_refl _)))
                  have HTV := Lib.hid (So.sorted_glue (So.sorted_off hV2 HLT.out (.inl (Nat.le_refl _))) hV3 (So.halves_same HRH.out (.inr hV2)))
                  clear hV1 hV2 hV3 hV4
                  go_wp2
                  first | (refine bodyPost_ret (results_none rfl _ _ _) rfl ?_) | go_end0
                  exact ⟨rfl, V, HV1.out, HSV.out, HTV.out, HGV.out⟩
                · have k6' : ¬ (e : Int) < (b : Int) := by have := HSQ.out; omega
                  have q : e = b := by have := HSQ.out; omega
                  have HTV := Lib.hid (So.sorted_glue HLT.out (by rw [← q]; exact HR3.out) HRH.out)
                  clear q
                  go_wp2
                  first | (refine bodyPost_ret (results_none rfl _ _ _) rfl ?_) | go_end0
                  exact ⟨rfl, Z, HRZ.out, HRS.out, HTV.out, HG1.out⟩
              · have k5' : ¬ (M : Int) < (e : Int) := by have := HSQ.out; omega
                have q : M = e := by have := HSQ.out; omega
                have HTV := Lib.hid (So.sorted_glue HLT.out (by rw [q]; exact HR4.out) HRH.out)
                clear q
                go_wp2
                first | (refine bodyPost_ret (results_none rfl _ _ _) rfl ?_) | go_end0
                exact ⟨rfl, Z, HRZ.out, HRS.out, HTV.out, HG1.out⟩
          · have k3' : ¬ (a : Int) < (r : Int) := by have := HSQ.out; omega
            have q : a = r := by have := HSQ.out; omega
            have HLS := Lib.hid (So.Same.refl a M Z)
            have HLT : Hid (So.Sorted c.key lx a M Z) := by rw [q]; exact HZ2
            clear q
            have HR3 := Lib.hid (So.sorted_off HLS.out HZ3.out (.inr (Nat.le_refl _)))
            have HR4 := Lib.hid (So.sorted_off HLS.out HZ4.out (.inr (by have := HSQ.out; omega)))
            have HRX := Lib.hid (So.cross_off HLS.out HX2.out (.inr (Nat.le_refl _)))
            have HRH := Lib.hid (So.halves_same HHv.out (.inl HLS.out))
            have HRO := Lib.hid (ok_same HOKZ.out HLS.out (by have := HSQ.out; omega))
            have HRS := Lib.hid (HSM.out.trans (HLS.out.widen (Nat.le_refl _) (by have := HSQ.out; omega)))
            by_cases k5 : M < e
            · have k5' : (M : Int) < (e : Int) := by have := HSQ.out; omega
              by_cases k6 : e < b
              · have k6' : (e : Int) < (b : Int) := by have := HSQ.out; omega
                have HRC := fun (W : World) h1 h2 => Lib.hid (HIH.out M e b (by have := HSQ.out; omega) _ HRO.out k5 k6 h3 HRX.out HR3.out HR4.out W h1 h2)
                go_wp2_with fail
                refine ((HRC _ HRZ.out (HAT.out.gx HG1.out ht hk)).out).mono ?_
                rintro e' w4 ⟨rfl, V, hV1, hV2, hV3, hV4⟩
                have HV1 := Lib.hid hV1
                have HGV := Lib.hid (HG1.out.trans hV4)
                have HSV := Lib.hid (HRS.out.trans (hV2.widen (by have := HSQ.out; omega) (Nat.le_refl _)))
                have HTV := Lib.hid (So.sorted_glue (So.sorted_off hV2 HLT.out (.inl (Nat.le_refl _))) hV3 (So.halves_same HRH.out (.inr hV2)))
                clear hV1 hV2 hV3 hV4
                go_wp2
                first | (refine bodyPost_ret (results_none rfl _ _ _) rfl ?_) | go_end0
                exact ⟨rfl, V, HV1.out, HSV.out, HTV.out, HGV.out⟩
              · have k6' : ¬ (e : Int) < (b : Int) := by have := HSQ.out; omega
                have q : e = b := by have := HSQ.out; omega
                have HTV := Lib.hid (So.sorted_glue HLT.out (by rw [← q]; exact HR3.out) HRH.out)
                clear q
                go_wp2
                first | (refine bodyPost_ret (results_none rfl _ _ _) rfl ?_) | go_end0
                exact ⟨rfl, Z, HRZ.out, HRS.out, HTV.out, HG1.out⟩
            · have k5' : ¬ (M : Int) < (e : Int) := by have := HSQ.out; omega
              have q : M = e := by have := HSQ.out; omega
              have HTV := Lib.hid (So.sorted_glue HLT.out (by rw [q]; exact HR4.out) HRH.out)
              clear q
              go_wp2
              first | (refine bodyPost_ret (results_none rfl _ _ _) rfl ?_) | go_end0
              exact ⟨rfl, Z, HRZ.out, HRS.out, HTV.out, HG1.out⟩
      · have k1' : ¬ (r : Int) < (m : Int) := by have := HSQ.out; omega
        have hxz := HSR.out (by have := HSQ.out; omega)
        have HRZ : Hid (RW wr base g n cap Z) := by rw [← hxz]; exact HR1.out
        clear hxz HROT HSR HSE
        by_cases k3 : a < r
        · have k3' : (a : Int) < (r : Int) := by have := HSQ.out; omega
          by_cases k4 : r < M
          · have k4' : (r : Int) < (M : Int) := by have := HSQ.out; omega
            have HLC := fun (W : World) h1 h2 => Lib.hid (HIH.out a r M (by have := HSQ.out; omega) _ HOKZ.out k3 k4 (by have := HSQ.out; omega) HX1.out HZ1.out HZ2.out W h1 h2)
            go_wp2_with fail
            refine ((HLC _ HRZ.out (HAT.out.gx HG1.out ht hk)).out).mono ?_
            rintro e' w3 ⟨rfl, U, hU1, hU2, hU3, hU4⟩
            have HU1 := Lib.hid hU1
            have HGU := Lib.hid (HG1.out.trans hU4)
            have HLS := Lib.hid hU2
            have HLT := Lib.hid hU3
            clear hU1 hU2 hU3 hU4 HLC
            have HR3 := Lib.hid (So.sorted_off HLS.out HZ3.out (.inr (Nat.le_refl _)))
            have HR4 := Lib.hid (So.sorted_off HLS.out HZ4.out (.inr (by have := HSQ.out; omega)))
            have HRX := Lib.hid (So.cross_off HLS.out HX2.out (.inr (Nat.le_refl _)))
            have HRH := Lib.hid (So.halves_same HHv.out (.inl HLS.out))
            have HRO := Lib.hid (ok_same HOKZ.out HLS.out (by have := HSQ.out; omega))
            have HRS := Lib.hid (HSM.out.trans (HLS.out.widen (Nat.le_refl _) (by have := HSQ.out; omega)))
            by_cases k5 : M < e
            · have k5' : (M : Int) < (e : Int) := by have := HSQ.out; omega
              by_cases k6 : e < b
              · have k6' : (e : Int) < (b : Int) := by have := HSQ.out; omega
                have HRC := fun (W : World) h1 h2 => Lib.hid (HIH.out M e b (by have := HSQ.out; omega) _ HRO.out k5 k6 h3 HRX.out HR3.out HR4.out W h1 h2)
                go_wp2_with fail
                refine ((HRC _ HU1.out (HAT.out.gx HGU.out ht hk)).out).mono ?_
                rintro e' w4 ⟨rfl, V, hV1, hV2, hV3, hV4⟩
                have HV1 := Lib.hid hV1
                have HGV := Lib.hid (HGU.out.trans hV4)
                have HSV := Lib.hid (HRS.out.trans (hV2.widen (by have := HSQ.out; omega) (Nat.le_refl _)))
                have HTV := Lib.hid (So.sorted_glue (So.sorted_off hV2 HLT.out (.inl (Nat.le_refl _))) hV3 (So.halves_same HRH.out (.inr hV2)))
                clear hV1 hV2 hV3 hV4
                go_wp2
                first | (refine bodyPost_ret (results_none rfl _ _ _) rfl ?_) | go_end0
                exact ⟨rfl, V, HV1.out, HSV.out, HTV.out, HGV.out⟩
              · have k6' : ¬ (e : Int) < (b : Int) := by have := HSQ.out; omega
                have q : e = b := by have := HSQ.out; omega
                have HTV := Lib.hid (So.sorted_glue HLT.out (by rw [← q]; exact HR3.out) HRH.out)
                clear q
                go_wp2
                first | (refine bodyPost_ret (results_none rfl _ _ _) rfl ?_) | go_end0
                exact ⟨rfl, U, HU1.out, HRS.out, HTV.out, HGU.out⟩
            · have k5' : ¬ (M : Int) < (e : Int) := by have := HSQ.out; omega
              have q : M = e := by have := HSQ.out; omega
              have HTV := Lib.hid (So.sorted_glue HLT.out (by rw [q]; exact HR4.out) HRH.out)
              clear q
              go_wp2
              first | (refine bodyPost_ret (results_none rfl _ _ _) rfl ?_) | go_end0
              exact ⟨rfl, U, HU1.out, HRS.out, HTV.out, HGU.out⟩
          · have k4' : ¬ (r : Int) < (M : Int) := by have := HSQ.out; omega
            have q : r = M := by have := HSQ.out; omega
            have HLS := Lib.hid (So.Same.refl a M Z)
            have HLT : Hid (So.Sorted c.key lx a M Z) := by rw [← q]; exact HZ1
            clear q
            have HR3 := Lib.hid (So.sorted_off HLS.out HZ3.out (.inr (Nat.le_refl _)))
            have HR4 := Lib.hid (So.sorted_off HLS.out HZ4.out (.inr (by have := HSQ.out; omega)))
            have HRX := Lib.hid (So.cross_off HLS.out HX2.out (.inr (Nat.le_refl _)))
            have HRH := Lib.hid (So.halves_same HHv.out (.inl HLS.out))
            have HRO := Lib.hid (ok_same HOKZ.out HLS.out (by have := HSQ.out; omega))
            have HRS := Lib.hid (HSM.out.trans (HLS.out.widen (Nat.le_refl _) (by have := HSQ.out; omega)))
            by_cases k5 : M < e
            · have k5' : (M : Int) < (e : Int) := by have := HSQ.out; omega
              by_cases k6 : e < b
              · have k6' : (e : Int) < (b : Int) := by have := HSQ.out; omega
                have HRC := fun (W : World) h1 h2 => Lib.hid (HIH.out M e b (by have := HSQ.out; omega) _ HRO.out k5 k6 h3 HRX.out HR3.out HR4.out W h1 h2)
                go_wp2_with fail
                refine ((HRC _ HRZ.out (HAT.out.gx HG1.out ht hk)).out).mono ?_
                rintro e' w4 ⟨rfl, V, hV1, hV2, hV3, hV4⟩
                have HV1 := Lib.hid hV1
                have HGV := Lib.hid (HG1.out.trans hV4)
                have HSV := Lib.hid (HRS.out.trans (hV2.widen (by have := HSQ.out; omega) (Nat.le_refl _)))
                have HTV := Lib.hid (So.sorted_glue (So.sorted_off hV2 HLT.out (.inl (Nat.le_refl _))) hV3 (So.halves_same HRH.out (.inr hV2)))
                clear hV1 hV2 hV3 hV4
                go_wp2
                first | (refine bodyPost_ret (results_none rfl _ _ _) rfl ?_) | go_end0
                exact ⟨rfl, V, HV1.out, HSV.out, HTV.out, HGV.out⟩
              · have k6' : ¬ (e : Int) < (b : Int) := by have := HSQ.out; omega
                have q : e = b := by have := HSQ.out; omega
                have HTV := Lib.hid (So.sorted_glue HLT.out (by rw [← q]; exact HR3.out) HRH.out)
                clear q
                go_wp2
                first | (refine bodyPost_ret (results_none rfl _ _ _) rfl ?_) | go_end0
                exact ⟨rfl, Z, HRZ.out, HRS.out, HTV.out, HG1.out⟩
            · have k5' : ¬ (M : Int) < (e : Int) := by have := HSQ.out; omega
              have q : M = e := by have := HSQ.out; omega
              have HTV := Lib.hid (So.sorted_glue HLT.out (by rw [q]; exact HR4.out) HRH.out)
              clear q
              go_wp2
              first | (refine bodyPost_ret (results_none rfl _ _ _) rfl ?_) | go_end0
              exact ⟨rfl, Z, HRZ.out, HRS.out, HTV.out, HG1.out⟩
        · have k3' : ¬ (a : Int) < (r : Int) := by have := HSQ.out; omega
          have q : a = r := by have := HSQ.out; omega
          have HLS := Lib.hid (So.Same.refl a M Z)
          have HLT : Hid (So.Sorted c.key lx a M Z) := by rw [q]; exact HZ2
          clear q
          have HR3 := Lib.hid (So.sorted_off HLS.out HZ3.out (.inr (Nat.le_refl _)))
          have HR4 := Lib.hid (So.sorted_off HLS.out HZ4.out (.inr (by have := HSQ.out; omega)))
          have HRX := Lib.hid (So.cross_off HLS.out HX2.out (.inr (Nat.le_refl _)))
          have HRH := Lib.hid (So.halves_same HHv.out (.inl HLS.out))
          have HRO := Lib.hid (ok_same HOKZ.out HLS.out (by have := HSQ.out; omega))
          have HRS := Lib.hid (HSM.out.trans (HLS.out.widen (Nat.le_refl _) (by have := HSQ.out; omega)))
          by_cases k5 : M < e
          · have k5' : (M : Int) < (e : Int) := by have := HSQ.out; omega
            by_cases k6 : e < b
            · have k6' : (e : Int) < (b : Int) := by have := HSQ.out; omega
              have HRC := fun (W : World) h1 h2 => Lib.hid (HIH.out M e b (by have := HSQ.out; omega) _ HRO.out k5 k6 h3 HRX.out HR3.out HR4.out W h1 h2)
              go_wp2_with fail
              refine ((HRC _ HRZ.out (HAT.out.gx HG1.out ht hk)).out).mono ?_
              rintro e' w4 ⟨rfl, V, hV1, hV2, hV3, hV4⟩
              have HV1 := Lib.hid hV1
              have HGV := Lib.hid (HG1.out.trans hV4)
              have HSV := Lib.hid (HRS.out.trans (hV2.widen (by have := HSQ.out; omega) (Nat.le_refl _)))
              have HTV := Lib.hid (So.sorted_glue (So.sorted_off hV2 HLT.out (.inl (Nat.le_refl _))) hV3 (So.halves_same HRH.out (.inr hV2)))
              clear hV1 hV2 hV3 hV4
              go_wp2
              first | (refine bodyPost_ret (results_none rfl _ _ _) rfl ?_) | go_end0
              exact ⟨rfl, V, HV1.out, HSV.out, HTV.out, HGV.out⟩
            · have k6' : ¬ (e : Int) < (b : Int) := by have := HSQ.out; omega
              have q : e = b := by have := HSQ.out; omega
              have HTV := Lib.hid (So.sorted_glue HLT.out (by rw [← q]; exact HR3.out) HRH.out)
              clear q
              go_wp2
              first | (refine bodyPost_ret (results_none rfl _ _ _) rfl ?_) | go_end0
              exact ⟨rfl, Z, HRZ.out, HRS.out, HTV.out, HG1.out⟩
          · have k5' : ¬ (M : Int) < (e : Int) := by have := HSQ.out; omega
            have q : M = e := by have := HSQ.out; omega
            have HTV := Lib.hid (So.sorted_glue HLT.out (by rw [q]; exact HR4.out) HRH.out)
            clear q
            go_wp2
            first | (refine bodyPost_ret (results_none rfl _ _ _) rfl ?_) | go_end0
            exact ⟨rfl, Z, HRZ.out, HRS.out, HTV.out, HG1.out⟩

set_option maxRecDepth 20000 in
set_option maxHeartbeats 40000000 in
theorem symMerge3b_any (c : Cx) (base g n cap : Nat) (ht : c.tb ≠ g) (hk : c.kb ≠ g) (hn : n ≤ 1000000) (a m b M : Nat) (hM : (a + b) / 2 = M) (hMm : ¬ M < m) (ham : ¬ a + 1 = m) (hbm : ¬ m + 1 = b) (IH : ∀ a' m' b', b' - a' < b - a → MergeOk c base g n cap a' m' b') : MergeOk c base g n cap a m b := by
  intro X hok h1 h2 h3 hcr hs1 hs2 w hR hc
  obtain ⟨hcap1, hcap2⟩ := hR.caps
  obtain ⟨D, hD⟩ : ∃ D, m - a = D := ⟨_, rfl⟩
  have e1 : ((m : Int) - (a : Int)) = (D : Int) := by omega
  have e1' : ((D : Int) == 1) = false := by simp; omega
  obtain ⟨E, hE⟩ : ∃ E, b - m = E := ⟨_, rfl⟩
  have e2 : ((b : Int) - (m : Int)) = (E : Int) := by omega
  have e2' : ((E : Int) == 1) = false := by simp; omega
  clear hD hE
  have eM : ((a : Int) + (b : Int)) / 2 = (M : Int) := by omega
  obtain ⟨NN, hNN⟩ : ∃ NN, M + m = NN := ⟨_, rfl⟩
  have eN : ((M : Int) + (m : Int)) = (NN : Int) := by omega
  obtain ⟨P, hP⟩ : ∃ P, NN - 1 = P := ⟨_, rfl⟩
  have eP : ((NN : Int) - 1) = (P : Int) := by omega
  have hMm' : ¬ (M : Int) < (m : Int) := by omega
  have hf : a ≤ a ∧ a ≤ m ∧ m ≤ m ∧ NN ≤ a + b ∧ m + m ≤ NN ∧ (a = a ∨ a + b = NN) ∧ (m = m ∨ m + m = NN) := by omega
  have HF := Lib.hid hf
  have HC := fun p q (hp : p < n) (hq : q < n) (W : World) (hx : Ext w W) => Lib.hid (cmp_any c (X p) (X q) (hok p hp) (hok q hq) W (hc.ext hx))
  have HN := fun p q (hp : p < n) (hq : q < n) => Lib.hid (Cx.neg (hok p hp) (hok q hq))
  have HOK := Lib.hid hok
  have HX := Lib.hid hcr
  have HS1 := Lib.hid hs1
  have HS2 := Lib.hid hs2
  have HR := Lib.hid hR
  have HAT := Lib.hid hc
  have HIH := Lib.hid IH
  clear hcr hs1 hs2 hR hok hc IH hf
  go_enter Try.func70, Try.ntmps70
  go_wp2
  go_loopw [20, 21, 23] (fun s20 s21 _ wr => ∃ (s r : Nat), a ≤ s ∧ s ≤ r ∧ r ≤ m ∧ s20 = .int .i64 s ∧ s21 = .int .i64 r ∧ Hid (a < s → So.Lt c.key lx (X (s - 1)) (X (NN - s))) ∧ Hid (r < m → So.Lt c.key lx (X (NN - 1 - r)) (X r)) ∧ Hid (Ext w wr)) (fun s20 s21 _ _ => (intOf s21).toNat - (intOf s20).toNat)
  case atStart => exact ⟨a, m, by omega, by have := HF.out; omega, by omega, rfl, rfl, fun h => by omega, fun h => by omega, Ext.refl _⟩
  case round =>
    obtain ⟨s, r, i1, i2, i3, rfl, rfl, HI, HJ, HE⟩ := hrel
    have hf := HF.out
    by_cases hij : s < r
    · have hij' : (s : Int) < (r : Int) := by omega
      obtain ⟨h, hh⟩ : ∃ h, (s + r) / 2 = h := ⟨_, rfl⟩
      have eh : ((s : Int) + (r : Int)) / 2 = (h : Int) := by omega
      obtain ⟨q, hq⟩ : ∃ q, P - h = q := ⟨_, rfl⟩
      have eq : ((P : Int) - (h : Int)) = (q : Int) := by omega
      have h4 : s ≤ h ∧ h < r := by omega
      have hhn : h < n := by omega
      have hqn : q < n := by omega
      have hq2 : m ≤ q ∧ q < b ∧ NN - 1 - h = q ∧ NN - (h + 1) = q := by omega
      have HE1 := HE.out
      have HH := fun (W : World) (hx : Ext wr W) => HC q h hqn hhn W (HE1.trans hx)
      have hneg := HN q h hqn hhn
      have HNo := Lib.hid (fun (k : ¬ c.key (X q) < c.key (X h)) => (So.lt_no (K := c.key) (HX.out h q (by omega) (by omega) (by omega) (by omega)) k : So.Lt c.key lx (X h) (X q)))
      have HYes := Lib.hid (fun (k : c.key (X q) < c.key (X h)) => (So.lt_yes k : So.Lt c.key lx (X q) (X h)))
      have lg1 := (HR.out.ext HE1).lt.2
      obtain ⟨x0, x1, x2, x3⟩ := (HR.out.ext HE1).cells (p := h) hhn
      obtain ⟨y0, y1, y2, y3⟩ := (HR.out.ext HE1).cells (p := q) hqn
      generalize c.cmp (X q) (X h) = v at *
      have hh4 : h < r ∧ s < h + 1 ∧ s ≤ h ∧ h + 1 ≤ r := by omega
      have HQ2 := Lib.hid hq2
      clear HC HN hh HE1 hq hq2 h4 hf
      obtain ⟨x, hxh⟩ : ∃ x, X h = x := ⟨_, rfl⟩
      obtain ⟨y, hya⟩ : ∃ y, X q = y := ⟨_, rfl⟩
      simp only [hxh] at HH x0 x1 x2 x3
      simp only [hya] at HH y0 y1 y2 y3
      have HXY := Lib.hid (And.intro hxh hya)
      clear hxh hya
      by_cases hr : v < 0
      · have HQ := Lib.hid (HYes.out (hneg.out.1 hr))
        clear HNo HYes hneg
        go_wp2
        go_wp2
        refine wp_region_xt (by kernel_rfl) (by kernel_rfl) (fun hxc => ?_)
        repeat (first | go_big_quiet_step ((first | (go_at_call 34; exact calls_xt ((HH _ (Xt.ext _)).out)))) | quiet_step ((first | (go_at_call 34; exact calls_xt ((HH _ (Xt.ext _)).out)))))
        refine wpQuiet_nil (forall_xt ?_)
        clear hxc
        intro w1 hx1
        obtain ⟨hc1, hf1⟩ := hx1.cells
        have hz1 := hx1.size
        try simp at hz1
        have HE2 := Lib.hid (HE.out.trans hx1)
        clear HH hc1 hf1 hx1 hz1
        go_wp2
        go_roundw
        case rel => exact ⟨s, h, i1, by omega, by omega, rfl, rfl, HI, fun _ => by rw [HQ2.out.2.2.1]; exact HQ.out, HE2⟩
        case measure => simp [intOf]; omega
      · have HQ := Lib.hid (HNo.out (fun k => hr (hneg.out.2 k)))
        clear HNo HYes hneg
        have hb : decide (v < 0) = false := decide_eq_false hr
        clear hr
        go_wp2
        go_wp2
        refine wp_region_xt (by kernel_rfl) (by kernel_rfl) (fun hxc => ?_)
        repeat (first | go_big_quiet_step ((first | (go_at_call 34; exact calls_xt ((HH _ (Xt.ext _)).out)))) | quiet_step ((first | (go_at_call 34; exact calls_xt ((HH _ (Xt.ext _)).out)))))
        refine wpQuiet_nil (forall_xt ?_)
        clear hxc
        intro w1 hx1
        obtain ⟨hc1, hf1⟩ := hx1.cells
        have hz1 := hx1.size
        try simp at hz1
        have HE2 := Lib.hid (HE.out.trans hx1)
        clear HH hc1 hf1 hx1 hz1
        go_wp2
        go_roundw
        case rel => exact ⟨h + 1, r, by omega, by omega, i3, by go_num, rfl, fun _ => by rw [Nat.add_sub_cancel, HQ2.out.2.2.2]; exact HQ.out, HJ, HE2⟩
        case measure => simp [intOf]; omega
    · obtain rfl : r = s := by omega
      obtain ⟨e, he⟩ : ∃ e, NN - r = e := ⟨_, rfl⟩
      have ee : ((NN : Int) - (r : Int)) = (e : Int) := by omega
      have hse : r ≤ m ∧ m ≤ e ∧ e ≤ b ∧ a ≤ r ∧ r + (e - m) = M ∧ a < M ∧ M < b := by omega
      have D1 : a < r → e < b → So.Lt c.key lx (X (r - 1)) (X e) := fun k1 k2 => by
        have := HI.out (by omega)
        rwa [he] at this
      have D2 : r < m → m < e → So.Lt c.key lx (X (e - 1)) (X r) := fun k1 k2 => by
        have := HJ.out (by omega)
        rwa [show NN - 1 - r = e - 1 by omega] at this
      have HHv := Lib.hid (So.halves lx_ord HS1.out HS2.out hse.2.2.2.1 hse.1 hse.2.1 hse.2.2.1 D1 D2)
      have HZ1 := Lib.hid (So.rot_sorted1 (b := b) HS1.out hse.1 hse.2.1)
      have HZ2 := Lib.hid (So.rot_sorted2 HS2.out hse.1 hse.2.1 hse.2.2.1)
      have HZ3 := Lib.hid (So.rot_sorted3 HS1.out hse.2.2.2.1 hse.1 hse.2.1)
      have HZ4 := Lib.hid (So.rot_sorted4 (s := r) HS2.out hse.2.1)
      have HX1 := Lib.hid (So.rot_cross1 HX.out hse.2.2.2.1 hse.1 hse.2.1 hse.2.2.1)
      have HX2 := Lib.hid (So.rot_cross2 HX.out hse.2.2.2.1 hse.1 hse.2.1 hse.2.2.1)
      have HSM := Lib.hid ((So.same_rot X (a := r) (m := m) (b := e) hse.1 hse.2.1).widen hse.2.2.2.1 hse.2.2.1)
      rw [hse.2.2.2.2.1] at HHv HZ2 HZ3 HX1 HX2
      have HOKZ := Lib.hid (ok_same HOK.out HSM.out h3)
      have HROT := fun (k1 : r < m) (k2 : m < e) (W : World) (h : RW W base g n cap X) => Lib.hid (rotate_any base g n cap X r m e k1 k2 (by omega) hn (.func (.func 34) #[] #[.pointer (some ⟨c.tb, 0, none⟩), .pointer (some ⟨c.kb, 0, none⟩)]) W h)
      have HSR := Lib.hid (fun (k : r = m) => (by rw [k]; exact (So.rot_left m e X).symm : X = So.rotF r m e X))
      have HSE := Lib.hid (fun (k : e = m) => (by rw [k]; exact (So.rot_right r m X).symm : X = So.rotF r m e X))
      have HR1 := Lib.hid (HR.out.ext HE.out)
      have HG1 : Hid (GX [g] w wr) := GX.ofExt HE.out
      obtain ⟨Z, hZ⟩ : ∃ Z, So.rotF r m e X = Z := ⟨_, rfl⟩
      simp only [hZ] at HHv HZ1 HZ2 HZ3 HZ4 HX1 HX2 HSM HOKZ HROT HSR HSE
      have HSQ := Lib.hid hse
      clear hse hZ D1 D2 HI HJ HC HN he HE hf HR HS1 HS2 HX HOK
      by_cases k1 : r < m
      · have k1' : (r : Int) < (m : Int) := by have := HSQ.out; omega
        by_cases k2 : m < e
        · have k2' : (m : Int) < (e : Int) := by have := HSQ.out; omega
          go_wp2_with fail
          refine ((HROT k1 k2 _ HR1.out).out).mono ?_
          rintro e' w2 ⟨rfl, hz, hg⟩
          have HRZ := Lib.hid hz
          have HG2 := Lib.hid (HG1.out.trans hg)
          clear hz hg HROT HSR HSE
          by_cases k3 : a < r
          · have k3' : (a : Int) < (r : Int) := by have := HSQ.out; omega
            by_cases k4 : r < M
            · have k4' : (r : Int) < (M : Int) := by have := HSQ.out; omega
              have HLC := fun (W : World) h1 h2 => Lib.hid (HIH.out a r M (by have := HSQ.out; omega) _ HOKZ.out k3 k4 (by have := HSQ.out; omega) HX1.out HZ1.out HZ2.out W h1 h2)
              go_wp2_with fail
              refine ((HLC _ HRZ.out (HAT.out.gx HG2.out ht hk)).out).mono ?_
              rintro e' w3 ⟨rfl, U, hU1, hU2, hU3, hU4⟩
              have HU1 := Lib.hid hU1
              have HGU := Lib.hid (HG2.out.trans hU4)
              have HLS := Lib.hid hU2
              have HLT := Lib.hid hU3
              clear hU1 hU2 hU3 hU4 HLC
              have HR3 := Lib.hid (So.sorted_off HLS.out HZ3.out (.inr (Nat.le_refl _)))
              have HR4 := Lib.hid (So.sorted_off HLS.out HZ4.out (.inr (by have := HSQ.out; omega)))
              have HRX := Lib.hid (So.cross_off HLS.out HX2.out (.inr (Nat.le_refl _)))
              have HRH := Lib.hid (So.halves_same HHv.out (.inl HLS.out))
              have HRO := Lib.hid (ok_same HOKZ.out HLS.out (by have := HSQ.out; omega))
              have HRS := Lib.hid (HSM.out.trans (HLS.out.widen (Nat.le_refl _) (by have := HSQ.out; omega)))
              by_cases k5 : M < e
              · have k5' : (M : Int) < (e : Int) := by have := HSQ.out; omega
                by_cases k6 : e < b
                · have k6' : (e : Int) < (b : Int) := by have := HSQ.out; omega
                  have HRC := fun (W : World) h1 h2 => Lib.hid (HIH.out M e b (by have := HSQ.out; omega) _ HRO.out k5 k6 h3 HRX.out HR3.out HR4.out W h1 h2)
                  go_wp2_with fail
                  refine ((HRC _ HU1.out (HAT.out.gx HGU.out ht hk)).out).mono ?_
                  rintro e' w4 ⟨rfl, V, hV1, hV2, hV3, hV4⟩
                  have HV1 := Lib.hid hV1
                  have HGV := Lib.hid (HGU.out.trans hV4)
                  have HSV := Lib.hid (HRS.out.trans (hV2.widen (by have := HSQ.out; omega) (Nat.le_refl _)))
                  have HTV := Lib.hid (So.sorted_glue (So.sorted_off hV2 HLT.out (.inl (Nat.le_refl _))) hV3 (So.halves_same HRH.out (.inr hV2)))
                  clear hV1 hV2 hV3 hV4
                  go_wp2
                  first | (refine bodyPost_ret (results_none rfl _ _ _) rfl ?_) | go_end0
                  exact ⟨rfl, V, HV1.out, HSV.out, HTV.out, HGV.out⟩
                · have k6' : ¬ (e : Int) < (b : Int) := by have := HSQ.out; omega
                  have q : e = b := by have := HSQ.out; omega
                  have HTV := Lib.hid (So.sorted_glue HLT.out (by rw [← q]; exact HR3.out) HRH.out)
                  clear q
                  go_wp2
                  first | (refine bodyPost_ret (results_none rfl _ _ _) rfl ?_) | go_end0
                  exact ⟨rfl, U, HU1.out, HRS.out, HTV.out, HGU.out⟩
              · have k5' : ¬ (M : Int) < (e : Int) := by have := HSQ.out; omega
                have q : M = e := by have := HSQ.out; omega
                have HTV := Lib.hid (So.sorted_glue HLT.out (by rw [q]; exact HR4.out) HRH.out)
                clear q
                go_wp2
                first | (refine bodyPost_ret (results_none rfl _ _ _) rfl ?_) | go_end0
                exact ⟨rfl, U, HU1.out, HRS.out, HTV.out, HGU.out⟩
            · have k4' : ¬ (r : Int) < (M : Int) := by have := HSQ.out; omega
              have q : r = M := by have := HSQ.out; omega
              have HLS := Lib.hid (So.Same.refl a M Z)
              have HLT : Hid (So.Sorted c.key lx a M Z) := by rw [← q]; exact HZ1
              clear q
              have HR3 := Lib.hid (So.sorted_off HLS.out HZ3.out (.inr (Nat.le_refl _)))
              have HR4 := Lib.hid (So.sorted_off HLS.out HZ4.out (.inr (by have := HSQ.out; omega)))
              have HRX := Lib.hid (So.cross_off HLS.out HX2.out (.inr (Nat.le_refl _)))
              have HRH := Lib.hid (So.halves_same HHv.out (.inl HLS.out))
              have HRO := Lib.hid (ok_same HOKZ.out HLS.out (by have := HSQ.out; omega))
              have HRS := Lib.hid (HSM.out.trans (HLS.out.widen (Nat.le_refl _) (by have := HSQ.out; omega)))
              by_cases k5 : M < e
              · have k5' : (M : Int) < (e : Int) := by have := HSQ.out; omega
                by_cases k6 : e < b
                · have k6' : (e : Int) < (b : Int) := by have := HSQ.out; omega
                  have HRC := fun (W : World) h1 h2 => Lib.hid (HIH.out M e b (by have := HSQ.out; omega) _ HRO.out k5 k6 h3 HRX.out HR3.out HR4.out W h1 h2)
                  go_wp2_with fail
                  refine ((HRC _ HRZ.out (HAT.out.gx HG2.out ht hk)).out).mono ?_
                  rintro e' w4 ⟨rfl, V, hV1, hV2, hV3, hV4⟩
                  have HV1 := Lib.hid hV1
                  have HGV := Lib.hid (HG2.out.trans hV4)
                  have HSV := Lib.hid (HRS.out.trans (hV2.widen (by have := HSQ.out; omega) (Nat.le_refl _)))
                  have HTV := Lib.hid (So.sorted_glue (So.sorted_off hV2 HLT.out (.inl (Nat.le_refl _))) hV3 (So.halves_same HRH.out (.inr hV2)))
                  clear hV1 hV2 hV3 hV4
                  go_wp2
                  first | (refine bodyPost_ret (results_none rfl _ _ _) rfl ?_) | go_end0
                  exact ⟨rfl, V, HV1.out, HSV.out, HTV.out, HGV.out⟩
                · have k6' : ¬ (e : Int) < (b : Int) := by have := HSQ.out; omega
                  have q : e = b := by have := HSQ.out; omega
                  have HTV := Lib.hid (So.sorted_glue HLT.out (by rw [← q]; exact HR3.out) HRH.out)
                  clear q
                  go_wp2
                  first | (refine bodyPost_ret (results_none rfl _ _ _) rfl ?_) | go_end0
                  exact ⟨rfl, Z, HRZ.out, HRS.out, HTV.out, HG2.out⟩
              · have k5' : ¬ (M : Int) < (e : Int) := by have := HSQ.out; omega
                have q : M = e := by have := HSQ.out; omega
                have HTV := Lib.hid (So.sorted_glue HLT.out (by rw [q]; exact HR4.out) HRH.out)
                clear q
                go_wp2
                first | (refine bodyPost_ret (results_none rfl _ _ _) rfl ?_) | go_end0
                exact ⟨rfl, Z, HRZ.out, HRS.out, HTV.out, HG2.out⟩
          · have k3' : ¬ (a : Int) < (r : Int) := by have := HSQ.out; omega
            have q : a = r := by have := HSQ.out; omega
            have HLS := Lib.hid (So.Same.refl a M Z)
            have HLT : Hid (So.Sorted c.key lx a M Z) := by rw [q]; exact HZ2
            clear q
            have HR3 := Lib.hid (So.sorted_off HLS.out HZ3.out (.inr (Nat.le_refl _)))
            have HR4 := Lib.hid (So.sorted_off HLS.out HZ4.out (.inr (by have := HSQ.out; omega)))
            have HRX := Lib.hid (So.cross_off HLS.out HX2.out (.inr (Nat.le_refl _)))
            have HRH := Lib.hid (So.halves_same HHv.out (.inl HLS.out))
            have HRO := Lib.hid (ok_same HOKZ.out HLS.out (by have := HSQ.out; omega))
            have HRS := Lib.hid (HSM.out.trans (HLS.out.widen (Nat.le_refl _) (by have := HSQ.out; omega)))
            by_cases k5 : M < e
            · have k5' : (M : Int) < (e : Int) := by have := HSQ.out; omega
              by_cases k6 : e < b
              · have k6' : (e : Int) < (b : Int) := by have := HSQ.out; omega
                have HRC := fun (W : World) h1 h2 => Lib.hid (HIH.out M e b (by have := HSQ.out; omega) _ HRO.out k5 k6 h3 HRX.out HR3.out HR4.out W h1 h2)
                go_wp2_with fail
                refine ((HRC _ HRZ.out (HAT.out.gx HG2.out ht hk)).out).mono ?_
                rintro e' w4 ⟨rfl, V, hV1, hV2, hV3, hV4⟩
                have HV1 := Lib.hid hV1
                have HGV := Lib.hid (HG2.out.trans hV4)
                have HSV := Lib.hid (HRS.out.trans (hV2.widen (by have := HSQ.out; omega) (Nat.le_refl _)))
                have HTV := Lib.hid (So.sorted_glue (So.sorted_off hV2 HLT.out (.inl (Nat.le_refl _))) hV3 (So.halves_same HRH.out (.inr hV2)))
                clear hV1 hV2 hV3 hV4
                go_wp2
                first | (refine bodyPost_ret (results_none rfl _ _ _) rfl ?_) | go_end0
                exact ⟨rfl, V, HV1.out, HSV.out, HTV.out, HGV.out⟩
              · have k6' : ¬ (e : Int) < (b : Int) := by have := HSQ.out; omega
                have q : e = b := by have := HSQ.out; omega
                have HTV := Lib.hid (So.sorted_glue HLT.out (by rw [← q]; exact HR3.out) HRH.out)
                clear q
                go_wp2
                first | (refine bodyPost_ret (results_none rfl _ _ _) rfl ?_) | go_end0
                exact ⟨rfl, Z, HRZ.out, HRS.out, HTV.out, HG2.out⟩
            · have k5' : ¬ (M : Int) < (e : Int) := by have := HSQ.out; omega
              have q : M = e := by have := HSQ.out; omega
              have HTV := Lib.hid (So.sorted_glue HLT.out (by rw [q]; exact HR4.out) HRH.out)
              clear q
              go_wp2
              first | (refine bodyPost_ret (results_none rfl _ _ _) rfl ?_) | go_end0
              exact ⟨rfl, Z, HRZ.out, HRS.out, HTV.out, HG2.out⟩
        · have k2' : ¬ (m : Int) < (e : Int) := by have := HSQ.out; omega
          have hxz := HSE.out (by have := HSQ.out; omega)
          have HRZ : Hid (RW wr base g n cap Z) := by rw [← hxz]; exact HR1.out
          clear hxz HROT HSR HSE
          by_cases k3 : a < r
          · have k3' : (a : Int) < (r : Int) := by have := HSQ.out; omega
            by_cases k4 : r < M
            · have k4' : (r : Int) < (M : Int) := by have := HSQ.out; omega
              have HLC := fun (W : World) h1 h2 => Lib.hid (HIH.out a r M (by have := HSQ.out; omega) _ HOKZ.out k3 k4 (by have := HSQ.out; omega) HX1.out HZ1.out HZ2.out W h1 h2)
              go_wp2_with fail
              refine ((HLC _ HRZ.out (HAT.out.gx HG1.out ht hk)).out).mono ?_
              rintro e' w3 ⟨rfl, U, hU1, hU2, hU3, hU4⟩
              have HU1 := Lib.hid hU1
              have HGU := Lib.hid (HG1.out.trans hU4)
              have HLS := Lib.hid hU2
              have HLT := Lib.hid hU3
              clear hU1 hU2 hU3 hU4 HLC
              have HR3 := Lib.hid (So.sorted_off HLS.out HZ3.out (.inr (Nat.le_refl _)))
              have HR4 := Lib.hid (So.sorted_off HLS.out HZ4.out (.inr (by have := HSQ.out; omega)))
              have HRX := Lib.hid (So.cross_off HLS.out HX2.out (.inr (Nat.le_refl _)))
              have HRH := Lib.hid (So.halves_same HHv.out (.inl HLS.out))
              have HRO := Lib.hid (ok_same HOKZ.out HLS.out (by have := HSQ.out; omega))
              have HRS := Lib.hid (HSM.out.trans (HLS.out.widen (Nat.le_refl _) (by have := HSQ.out; omega)))
              by_cases k5 : M < e
              · have k5' : (M : Int) < (e : Int) := by have := HSQ.out; omega
                by_cases k6 : e < b
                · have k6' : (e : Int) < (b : Int) := by have := HSQ.out; omega
                  have HRC := fun (W : World) h1 h2 => Lib.hid (HIH.out M e b (by have := HSQ.out; omega) _ HRO.out k5 k6 h3 HRX.out HR3.out HR4.out W h1 h2)
                  go_wp2_with fail
                  refine ((HRC _ HU1.out (HAT.out.gx HGU.out ht hk)).out).mono ?_
                  rintro e' w4 ⟨rfl, V, hV1, hV2, hV3, hV4⟩
                  have HV1 := Lib.hid hV1
                  have HGV := Lib.hid (HGU.out.trans hV4)
                  have HSV := Lib.hid (HRS.out.trans (hV2.widen (by have := HSQ.out; omega) (Nat.le_refl _)))
                  have HTV := Lib.hid (So.sorted_glue (So.sorted_off hV2 HLT.out (.inl (Nat.le_refl _))) hV3 (So.halves_same HRH.out (.inr hV2)))
                  clear hV1 hV2 hV3 hV4
                  go_wp2
                  first | (refine bodyPost_ret (results_none rfl _ _ _) rfl ?_) | go_end0
                  exact ⟨rfl, V, HV1.out, HSV.out, HTV.out, HGV.out⟩
                · have k6' : ¬ (e : Int) < (b : Int) := by have := HSQ.out; omega
                  have q : e = b := by have := HSQ.out; omega
                  have HTV := Lib.hid (So.sorted_glue HLT.out (by rw [← q]; exact HR3.out) HRH.out)
                  clear q
                  go_wp2
                  first | (refine bodyPost_ret (results_none rfl _ _ _) rfl ?_) | go_end0
                  exact ⟨rfl, U, HU1.out, HRS.out, HTV.out, HGU.out⟩
              · have k5' : ¬ (M : Int) < (e : Int) := by have := HSQ.out; omega
                have q : M = e := by have := HSQ.out; omega
                have HTV := Lib.hid (So.sorted_glue HLT.out (by rw [q]; exact HR4.out) HRH.out)
                clear q
                go_wp2
                first | (refine bodyPost_ret (results_none rfl _ _ _) rfl ?_) | go_end0
                exact ⟨rfl, U, HU1.out, HRS.out, HTV.out, HGU.out⟩
            · have k4' : ¬ (r : Int) < (M : Int) := by have := HSQ.out; omega
              have q : r = M := by have := HSQ.out; omega
              have HLS := Lib.hid (So.Same.refl a M Z)
              have HLT : Hid (So.Sorted c.key lx a M Z) := by rw [← q]; exact HZ1
              clear q
              have HR3 := Lib.hid (So.sorted_off HLS.out HZ3.out (.inr (Nat.le_refl _)))
              have HR4 := Lib.hid (So.sorted_off HLS.out HZ4.out (.inr (by have := HSQ.out; omega)))
              have HRX := Lib.hid (So.cross_off HLS.out HX2.out (.inr (Nat.le_refl _)))
              have HRH := Lib.hid (So.halves_same HHv.out (.inl HLS.out))
              have HRO := Lib.hid (ok_same HOKZ.out HLS.out (by have := HSQ.out; omega))
              have HRS := Lib.hid (HSM.out.trans (HLS.out.widen (Nat.le_refl _) (by have := HSQ.out; omega)))
              by_cases k5 : M < e
              · have k5' : (M : Int) < (e : Int) := by have := HSQ.out; omega
                by_cases k6 : e < b
                · have k6' : (e : Int) < (b : Int) := by have := HSQ.out; omega
                  have HRC := fun (W : World) h1 h2 => Lib.hid (HIH.out M e b (by have := HSQ.out; omega) _ HRO.out k5 k6 h3 HRX.out HR3.out HR4.out W h1 h2)
                  go_wp2_with fail
                  refine ((HRC _ HRZ.out (HAT.out.gx HG1.out ht hk)).out).mono ?_
                  rintro e' w4 ⟨rfl, V, hV1, hV2, hV3, hV4⟩
                  have HV1 := Lib.hid hV1
                  have HGV := Lib.hid (HG1.out.trans hV4)
                  have HSV := Lib.hid (HRS.out.trans (hV2.widen (by have := HSQ.out; omega) (Nat.le_refl _)))
                  have HTV := Lib.hid (So.sorted_glue (So.sorted_off hV2 HLT.out (.inl (Nat.le_refl _))) hV3 (So.halves_same HRH.out (.inr hV2)))
                  clear hV1 hV2 hV3 hV4
                  go_wp2
                  first | (refine bodyPost_ret (results_none rfl _ _ _) rfl ?_) | go_end0
                  exact ⟨rfl, V, HV1.out, HSV.out, HTV.out, HGV.out⟩
                · have k6' : ¬ (e : Int) < (b : Int) := by have := HSQ.out; omega
                  have q : e = b := by have := HSQ.out; omega
                  have HTV := Lib.hid (So.sorted_glue HLT.out (by rw [← q]; exact HR3.out) HRH.out)
                  clear q
                  go_wp2
                  first | (refine bodyPost_ret (results_none rfl _ _ _) rfl ?_) | go_end0
                  exact ⟨rfl, Z, HRZ.out, HRS.out, HTV.out, HG1.out⟩
              · have k5' : ¬ (M : Int) < (e : Int) := by have := HSQ.out; omega
                have q : M = e := by have := HSQ.out; omega
                have HTV := Lib.hid (So.sorted_glue HLT.out (by rw [q]; exact HR4.out) HRH.out)
                clear q
                go_wp2
                first | (refine bodyPost_ret (results_none rfl _ _ _) rfl ?_) | go_end0
                exact ⟨rfl, Z, HRZ.out, HRS.out, HTV.out, HG1.out⟩
          · have k3' : ¬ (a : Int) < (r : Int) := by have := HSQ.out; omega
            have q : a = r := by have := HSQ.out; omega
            have HLS := Lib.hid (So.Same.refl a M Z)
            have HLT : Hid (So.Sorted c.key lx a M Z) := by rw [q]; exact HZ2
            clear q
            have HR3 := Lib.hid (So.sorted_off HLS.out HZ3.out (.inr (Nat.le_refl _)))
            have HR4 := Lib.hid (So.sorted_off HLS.out HZ4.out (.inr (by have := HSQ.out; omega)))
            have HRX := Lib.hid (So.cross_off HLS.out HX2.out (.inr (Nat.le_refl _)))
            have HRH := Lib.hid (So.halves_same HHv.out (.inl HLS.out))
            have HRO := Lib.hid (ok_same HOKZ.out HLS.out (by have := HSQ.out; omega))
            have HRS := Lib.hid (HSM.out.trans (HLS.out.widen (Nat.le_refl _) (by have := HSQ.out; omega)))
            by_cases k5 : M < e
            · have k5' : (M : Int) < (e : Int) := by have := HSQ.out; omega
              by_cases k6 : e < b
              · have k6' : (e : Int) < (b : Int) := by have := HSQ.out; omega
                have HRC := fun (W : World) h1 h2 => Lib.hid (HIH.out M e b (by have := HSQ.out; omega) _ HRO.out k5 k6 h3 HRX.out HR3.out HR4.out W h1 h2)
                go_wp2_with fail
                refine ((HRC _ HRZ.out (HAT.out.gx HG1.out ht hk)).out).mono ?_
                rintro e' w4 ⟨rfl, V, hV1, hV2, hV3, hV4⟩
                have HV1 := Lib.hid hV1
                have HGV := Lib.hid (HG1.out.trans hV4)
                have HSV := Lib.hid (HRS.out.trans (hV2.widen (by have := HSQ.out; omega) (Nat.le_refl _)))
                have HTV := Lib.hid (So.sorted_glue (So.sorted_off hV2 HLT.out (.inl (Nat.le_refl _))) hV3 (So.halves_same HRH.out (.inr hV2)))
                clear hV1 hV2 hV3 hV4
                go_wp2
                first | (refine bodyPost_ret (results_none rfl _ _ _) rfl ?_) | go_end0
                exact ⟨rfl, V, HV1.out, HSV.out, HTV.out, HGV.out⟩
              · have k6' : ¬ (e : Int) < (b : Int) := by have := HSQ.out; omega
                have q : e = b := by have := HSQ.out; omega
                have HTV := Lib.hid (So.sorted_glue HLT.out (by rw [← q]; exact HR3.out) HRH.out)
                clear q
                go_wp2
                first | (refine bodyPost_ret (results_none rfl _ _ _) rfl ?_) | go_end0
                exact ⟨rfl, Z, HRZ.out, HRS.out, HTV.out, HG1.out⟩
            · have k5' : ¬ (M : Int) < (e : Int) := by have := HSQ.out; omega
              have q : M = e := by have := HSQ.out; omega
              have HTV := Lib.hid (So.sorted_glue HLT.out (by rw [q]; exact HR4.out) HRH.out)
              clear q
              go_wp2
              first | (refine bodyPost_ret (results_none rfl _ _ _) rfl ?_) | go_end0
              exact ⟨rfl, Z, HRZ.out, HRS.out, HTV.out, HG1.out⟩
      · have k1' : ¬ (r : Int) < (m : Int) := by have := HSQ.out; omega
        have hxz := HSR.out (by have := HSQ.out; omega)
        have HRZ : Hid (RW wr base g n cap Z) := by rw [← hxz]; exact HR1.out
        clear hxz HROT HSR HSE
        by_cases k3 : a < r
        · have k3' : (a : Int) < (r : Int) := by have := HSQ.out; omega
          by_cases k4 : r < M
          · have k4' : (r : Int) < (M : Int) := by have := HSQ.out; omega
            have HLC := fun (W : World) h1 h2 => Lib.hid (HIH.out a r M (by have := HSQ.out; omega) _ HOKZ.out k3 k4 (by have := HSQ.out; omega) HX1.out HZ1.out HZ2.out W h1 h2)
            go_wp2_with fail
            refine ((HLC _ HRZ.out (HAT.out.gx HG1.out ht hk)).out).mono ?_
            rintro e' w3 ⟨rfl, U, hU1, hU2, hU3, hU4⟩
            have HU1 := Lib.hid hU1
            have HGU := Lib.hid (HG1.out.trans hU4)
            have HLS := Lib.hid hU2
            have HLT := Lib.hid hU3
            clear hU1 hU2 hU3 hU4 HLC
            have HR3 := Lib.hid (So.sorted_off HLS.out HZ3.out (.inr (Nat.le_refl _)))
            have HR4 := Lib.hid (So.sorted_off HLS.out HZ4.out (.inr (by have := HSQ.out; omega)))
            have HRX := Lib.hid (So.cross_off HLS.out HX2.out (.inr (Nat.le_refl _)))
            have HRH := Lib.hid (So.halves_same HHv.out (.inl HLS.out))
            have HRO := Lib.hid (ok_same HOKZ.out HLS.out (by have := HSQ.out; omega))
            have HRS := Lib.hid (HSM.out.trans (HLS.out.widen (Nat.le_refl _) (by have := HSQ.out; omega)))
            by_cases k5 : M < e
            · have k5' : (M : Int) < (e : Int) := by have := HSQ.out; omega
              by_cases k6 : e < b
              · have k6' : (e : Int) < (b : Int) := by have := HSQ.out; omega
                have HRC := fun (W : World) h1 h2 => Lib.hid (HIH.out M e b (by have := HSQ.out; omega) _ HRO.out k5 k6 h3 HRX.out HR3.out HR4.out W h1 h2)
                go_wp2_with fail
                refine ((HRC _ HU1.out (HAT.out.gx HGU.out ht hk)).out).mono ?_
                rintro e' w4 ⟨rfl, V, hV1, hV2, hV3, hV4⟩
                have HV1 := Lib.hid hV1
                have HGV := Lib.hid (HGU.out.trans hV4)
                have HSV := Lib.hid (HRS.out.trans (hV2.widen (by have := HSQ.out; omega) (Nat.le_refl _)))
                have HTV := Lib.hid (So.sorted_glue (So.sorted_off hV2 HLT.out (.inl (Nat.le_refl _))) hV3 (So.halves_same HRH.out (.inr hV2)))
                clear hV1 hV2 hV3 hV4
                go_wp2
                first | (refine bodyPost_ret (results_none rfl _ _ _) rfl ?_) | go_end0
                exact ⟨rfl, V, HV1.out, HSV.out, HTV.out, HGV.out⟩
              · have k6' : ¬ (e : Int) < (b : Int) := by have := HSQ.out; omega
                have q : e = b := by have := HSQ.out; omega
                have HTV := Lib.hid (So.sorted_glue HLT.out (by rw [← q]; exact HR3.out) HRH.out)
                clear q
                go_wp2
                first | (refine bodyPost_ret (results_none rfl _ _ _) rfl ?_) | go_end0
                exact ⟨rfl, U, HU1.out, HRS.out, HTV.out, HGU.out⟩
            · have k5' : ¬ (M : Int) < (e : Int) := by have := HSQ.out; omega
              have q : M = e := by have := HSQ.out; omega
              have HTV := Lib.hid (So.sorted_glue HLT.out (by rw [q]; exact HR4.out) HRH.out)
              clear q
              go_wp2
              first | (refine bodyPost_ret (results_none rfl _ _ _) rfl ?_) | go_end0
              exact ⟨rfl, U, HU1.out, HRS.out, HTV.out, HGU.out⟩
          · have k4' : ¬ (r : Int) < (M : Int) := by have := HSQ.out; omega
            have q : r = M := by have := HSQ.out; omega
            have HLS := Lib.hid (So.Same.refl a M Z)
            have HLT : Hid (So.Sorted c.key lx a M Z) := by rw [← q]; exact HZ1
            clear q
            have HR3 := Lib.hid (So.sorted_off HLS.out HZ3.out (.inr (Nat.le_refl _)))
            have HR4 := Lib.hid (So.sorted_off HLS.out HZ4.out (.inr (by have := HSQ.out; omega)))
            have HRX := Lib.hid (So.cross_off HLS.out HX2.out (.inr (Nat.le_refl _)))
            have HRH := Lib.hid (So.halves_same HHv.out (.inl HLS.out))
            have HRO := Lib.hid (ok_same HOKZ.out HLS.out (by have := HSQ.out; omega))
            have HRS := Lib.hid (HSM.out.trans (HLS.out.widen (Nat.le_refl _) (by have := HSQ.out; omega)))
            by_cases k5 : M < e
            · have k5' : (M : Int) < (e : Int) := by have := HSQ.out; omega
              by_cases k6 : e < b
              · have k6' : (e : Int) < (b : Int) := by have := HSQ.out; omega
                have HRC := fun (W : World) h1 h2 => Lib.hid (HIH.out M e b (by have := HSQ.out; omega) _ HRO.out k5 k6 h3 HRX.out HR3.out HR4.out W h1 h2)
                go_wp2_with fail
                refine ((HRC _ HRZ.out (HAT.out.gx HG1.out ht hk)).out).mono ?_
                rintro e' w4 ⟨rfl, V, hV1, hV2, hV3, hV4⟩
                have HV1 := Lib.hid hV1
                have HGV := Lib.hid (HG1.out.trans hV4)
                have HSV := Lib.hid (HRS.out.trans (hV2.widen (by have := HSQ.out; omega) (Nat.le_refl _)))
                have HTV := Lib.hid (So.sorted_glue (So.sorted_off hV2 HLT.out (.inl (Nat.le_refl _))) hV3 (So.halves_same HRH.out (.inr hV2)))
                clear hV1 hV2 hV3 hV4
                go_wp2
                first | (refine bodyPost_ret (results_none rfl _ _ _) rfl ?_) | go_end0
                exact ⟨rfl, V, HV1.out, HSV.out, HTV.out, HGV.out⟩
              · have k6' : ¬ (e : Int) < (b : Int) := by have := HSQ.out; omega
                have q : e = b := by have := HSQ.out; omega
                have HTV := Lib.hid (So.sorted_glue HLT.out (by rw [← q]; exact HR3.out) HRH.out)
                clear q
                go_wp2
                first | (refine bodyPost_ret (results_none rfl _ _ _) rfl ?_) | go_end0
                exact ⟨rfl, Z, HRZ.out, HRS.out, HTV.out, HG1.out⟩
            · have k5' : ¬ (M : Int) < (e : Int) := by have := HSQ.out; omega
              have q : M = e := by have := HSQ.out; omega
              have HTV := Lib.hid (So.sorted_glue HLT.out (by rw [q]; exact HR4.out) HRH.out)
              clear q
              go_wp2
              first | (refine bodyPost_ret (results_none rfl _ _ _) rfl ?_) | go_end0
              exact ⟨rfl, Z, HRZ.out, HRS.out, HTV.out, HG1.out⟩
        · have k3' : ¬ (a : Int) < (r : Int) := by have := HSQ.out; omega
          have q : a = r := by have := HSQ.out; omega
          have HLS := Lib.hid (So.Same.refl a M Z)
          have HLT : Hid (So.Sorted c.key lx a M Z) := by rw [q]; exact HZ2
          clear q
          have HR3 := Lib.hid (So.sorted_off HLS.out HZ3.out (.inr (Nat.le_refl _)))
          have HR4 := Lib.hid (So.sorted_off HLS.out HZ4.out (.inr (by have := HSQ.out; omega)))
          have HRX := Lib.hid (So.cross_off HLS.out HX2.out (.inr (Nat.le_refl _)))
          have HRH := Lib.hid (So.halves_same HHv.out (.inl HLS.out))
          have HRO := Lib.hid (ok_same HOKZ.out HLS.out (by have := HSQ.out; omega))
          have HRS := Lib.hid (HSM.out.trans (HLS.out.widen (Nat.le_refl _) (by have := HSQ.out; omega)))
          by_cases k5 : M < e
          · have k5' : (M : Int) < (e : Int) := by have := HSQ.out; omega
            by_cases k6 : e < b
            · have k6' : (e : Int) < (b : Int) := by have := HSQ.out; omega
              have HRC := fun (W : World) h1 h2 => Lib.hid (HIH.out M e b (by have := HSQ.out; omega) _ HRO.out k5 k6 h3 HRX.out HR3.out HR4.out W h1 h2)
              go_wp2_with fail
              refine ((HRC _ HRZ.out (HAT.out.gx HG1.out ht hk)).out).mono ?_
              rintro e' w4 ⟨rfl, V, hV1, hV2, hV3, hV4⟩
              have HV1 := Lib.hid hV1
              have HGV := Lib.hid (HG1.out.trans hV4)
              have HSV := Lib.hid (HRS.out.trans (hV2.widen (by have := HSQ.out; omega) (Nat.le_refl _)))
              have HTV := Lib.hid (So.sorted_glue (So.sorted_off hV2 HLT.out (.inl (Nat.le_refl _))) hV3 (So.halves_same HRH.out (.inr hV2)))
              clear hV1 hV2 hV3 hV4
              go_wp2
              first | (refine bodyPost_ret (results_none rfl _ _ _) rfl ?_) | go_end0
              exact ⟨rfl, V, HV1.out, HSV.out, HTV.out, HGV.out⟩
            · have k6' : ¬ (e : Int) < (b : Int) := by have := HSQ.out; omega
              have q : e = b := by have := HSQ.out; omega
              have HTV := Lib.hid (So.sorted_glue HLT.out (by rw [← q]; exact HR3.out) HRH.out)
              clear q
              go_wp2
              first | (refine bodyPost_ret (results_none rfl _ _ _) rfl ?_) | go_end0
              exact ⟨rfl, Z, HRZ.out, HRS.out, HTV.out, HG1.out⟩
          · have k5' : ¬ (M : Int) < (e : Int) := by have := HSQ.out; omega
            have q : M = e := by have := HSQ.out; omega
            have HTV := Lib.hid (So.sorted_glue HLT.out (by rw [q]; exact HR4.out) HRH.out)
            clear q
            go_wp2
            first | (refine bodyPost_ret (results_none rfl _ _ _) rfl ?_) | go_end0
            exact ⟨rfl, Z, HRZ.out, HRS.out, HTV.out, HG1.out⟩

theorem symMerge_any (c : Cx) (base g n cap : Nat) (ht : c.tb ≠ g) (hk : c.kb ≠ g) (hn : n ≤ 1000000) : ∀ (N a m b : Nat), b - a ≤ N → MergeOk c base g n cap a m b
  | 0, a, m, b, hN => fun X hok h1 h2 => by omega
  | N + 1, a, m, b, hN => by
    by_cases hma : a + 1 = m
    · intro X hok h1 h2 h3 hcr hs1 hs2 w hR hc
      exact symMerge1_any c base g n cap ht hk hn X hok a m b hma h2 h3 hcr hs2 w hR hc
    · by_cases hbm : m + 1 = b
      · intro X hok h1 h2 h3 hcr hs1 hs2 w hR hc
        exact symMerge2_any c base g n cap ht hk hn X hok a m b h1 hma hbm h3 hcr hs1 w hR hc
      · have IH : ∀ a' m' b', b' - a' < b - a → MergeOk c base g n cap a' m' b' := fun a' m' b' h => symMerge_any c base g n cap ht hk hn N a' m' b' (by omega)
        by_cases hM : (a + b) / 2 < m
        · exact symMerge3a_any c base g n cap ht hk hn a m b _ rfl hM hma hbm IH
        · exact symMerge3b_any c base g n cap ht hk hn a m b _ rfl hM hma hbm IH

end Go.Proofs.Ytbffcpnpdpgfeaa
