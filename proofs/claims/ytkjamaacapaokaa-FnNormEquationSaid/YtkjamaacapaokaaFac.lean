/- The prime factors of a number. -/
import Derived.Test.YtkjamaacapaokaaRows
import Derived.Test.YtkjamaacapaokaaRoot2
import Derived.Test.YtkjamaacapaokaaOwn
namespace Go.Proofs.Ytkjamaacapaokaa
open Go.RowKit

def strip : Nat → Int → Int → Int × Int
  | 0, n, _ => (n, 0)
  | g + 1, n, p => if n % p = 0 then ((strip g (n / p) p).1, (strip g (n / p) p).2 + 1) else (n, 0)
def facL : Nat → Int → Int → List (Int × Int)
  | 0, n, _ => if 1 < n then [(n, 1)] else []
  | f + 1, n, p => if p * p ≤ n then (if n % p = 0 then (p, (strip 64 n p).2) :: facL f (strip 64 n p).1 (p + 1) else facL f n (p + 1)) else if 1 < n then [(n, 1)] else []
/-- the prime factorisation -/
def facs (n : Int) : List (Int × Int) := facL 40000 n 2
theorem div_half {n p : Int} (h1 : 1 ≤ n) (hp : 2 ≤ p) (hd : n % p = 0) : 1 ≤ n / p ∧ 2 * (n / p) ≤ n ∧ n / p < n := by
  have h2 := Int.emod_add_mul_ediv n p
  rw [hd] at h2
  have h3 : 1 ≤ n / p := by
    by_cases h : 0 < n / p
    · omega
    · have := Int.mul_nonneg (a := p) (b := -(n / p)) (by omega) (by omega)
      rw [Int.mul_neg] at this
      omega
  have h4 := Int.mul_le_mul_of_nonneg_right (a := 2) (b := p) (c := n / p) hp (by omega)
  omega
theorem strip_bd : ∀ (g : Nat) (n p : Int), 1 ≤ n → 2 ≤ p → 1 ≤ (strip g n p).1 ∧ (strip g n p).1 ≤ n ∧ 0 ≤ (strip g n p).2 ∧ (strip g n p).2 ≤ g := by
  intro g
  induction g with
  | zero => intro n p h1 _; simp [strip]; omega
  | succ g ih =>
    intro n p h1 hp
    unfold strip
    split
    · rename_i hd
      have := div_half h1 hp hd
      have := ih (n / p) p (by omega) hp
      simp only []
      omega
    · simp only []
      omega
theorem strip_pos {n p : Int} (h1 : 1 ≤ n) (hp : 2 ≤ p) (hd : n % p = 0) : 1 ≤ (strip 64 n p).2 := by
  unfold strip
  rw [if_pos hd]
  have := strip_bd 63 (n / p) p (by have := div_half h1 hp hd; omega) hp
  simp only []
  omega
theorem strip_end {g : Nat} {n p : Int} (hd : n % p ≠ 0) : strip g n p = (n, 0) := by
  cases g with
  | zero => rfl
  | succ g => unfold strip; rw [if_neg hd]
theorem strip_step {g : Nat} {n p : Int} (hd : n % p = 0) : strip (g + 1) n p = ((strip g (n / p) p).1, (strip g (n / p) p).2 + 1) := by
  conv => lhs; unfold strip
  rw [if_pos hd]
theorem facL_hit {f : Nat} {n p : Int} (h : p * p ≤ n) (hd : n % p = 0) : facL (f + 1) n p = (p, (strip 64 n p).2) :: facL f (strip 64 n p).1 (p + 1) := by
  conv => lhs; unfold facL
  rw [if_pos h, if_pos hd]
theorem facL_miss {f : Nat} {n p : Int} (h : p * p ≤ n) (hd : n % p ≠ 0) : facL (f + 1) n p = facL f n (p + 1) := by
  conv => lhs; unfold facL
  rw [if_pos h, if_neg hd]
theorem facL_end {f : Nat} {n p : Int} (h : ¬ p * p ≤ n) : facL (f + 1) n p = if 1 < n then [(n, 1)] else [] := by
  conv => lhs; unfold facL
  rw [if_neg h]

/-- what the inner loop says: n0 is being divided by p -/
def SRel (n0 p : Int) (un ue : Value) : Prop :=
  ∃ (n e : Int) (g : Nat), un = .int .i64 n ∧ ue = .int .i64 e ∧ 1 ≤ n ∧ n ≤ n0 ∧ n < 2 ^ g ∧ 0 ≤ e ∧ e + g = 64 ∧ (strip 64 n0 p).1 = (strip g n p).1 ∧ (strip 64 n0 p).2 = e + (strip g n p).2
/-- what the outer loop says -/
def FRel (n0 : Int) (t : TypeId) (w : World) (un uo up : Value) (wr : World) : Prop :=
  ∃ (n p : Int) (f : Nat) (L : List (Int × Int)), un = .int .i64 n ∧ up = .int .i64 p ∧ 1 ≤ n ∧ n ≤ 1000000000 ∧ 2 ≤ p ∧ p ≤ 31623 ∧ f + p = 40002 ∧ (L.length : Int) + 2 ≤ p ∧
    wr.ownsRow w.heap.size t 2 uo L.length (flat2 L) ∧ Ext w wr ∧ facs n0 = L ++ facL f n p

theorem info_pp : (Try.prog.info? 68).map (fun i => (i.zero, i.size, i.bytes)) = some (some (.agg #[.int .i64 0, .int .i64 0]), 2, 16) := by kernel_rfl

set_option maxHeartbeats 1000000 in
theorem factors_any (n : Int) (h1 : 1 ≤ n) (h2 : n ≤ 1000000000) (w : World) :
    Calls Try.prog 61 #[.int .i64 n] w fun e w' => ∃ v, e = .returned v ∧ w'.ownsRow w.heap.size 68 2 v (facs n).length (flat2 (facs n)) ∧ Ext w w' := by
  obtain ⟨i0, hi, hz0, hz1, hz2⟩ := info_parts info_pp
  have HF : Hid (facs n = facL 40000 n 2) := rfl
  go_enter Try.func61, Try.ntmps61
  go_wp2
  go_loopw [0, 3, 4, 5] (fun un uo up _ wr => FRel n 68 w un uo up wr) (fun _ _ up _ _ => (40002 - intOf up).toNat)
  case atStart =>
    refine ⟨n, 2, 40000, [], rfl, rfl, h1, h2, by omega, by omega, by omega, by simp, ?_, ?_, by simpa using HF.out⟩
    · exact World.ownsRow_lit _ _ 0 (Nat.le_refl _) (by decide) rfl
    · exact (by repeat (first | exact Ext.refl _ | assumption | refine Ext.alloc ?_ _ | refine Ext.drew ?_ | refine Ext.drewN ?_ _ | refine Ext.setCell ?_ (by first | omega | (dsimp only; omega) | (simp; done) | (simp; omega)) _ | refine Ext.trans ?_ (by assumption)))
  case round =>
    obtain ⟨m, p, f, L, rfl, rfl, b1, b2, b3, b4, b5, b6, hown, hE, hF⟩ := hrel
    have HFF := Lib.hid hF
    have HO := Lib.hid hown
    clear hF hown HF
    have hpp := sq_bd (a := p) (A := 31623) (by omega) b4
    obtain ⟨f', rfl⟩ : ∃ f', f = f' + 1 := ⟨f - 1, by omega⟩
    by_cases hle : p * p ≤ m
    · have b7 : p ≤ 31622 := by
        by_cases h : 31622 < p
        · obtain rfl : p = 31623 := by omega
          omega
        · omega
      go_wp2
      go_loop [0, 5] (fun un ue => SRel m p un ue) (fun un _ => (intOf un).toNat)
      case atStart => exact ⟨m, 0, 64, rfl, rfl, b1, by omega, by omega, by omega, by omega, rfl, by omega⟩
      case round =>
        obtain ⟨q, e, g, rfl, rfl, c1, c2, c3, c4, c5, c6, c7⟩ := hrel
        have C6 := Lib.hid c6
        have C7 := Lib.hid c7
        have C3 := Lib.hid c3
        have C5 := Lib.hid c5
        have c8 : e ≤ 64 := by omega
        clear c3 c5 c6 c7
        by_cases hd : q % p = 0
        · have hd' : (q % p == 0) = true := by simpa using hd
          have hdv := div_half c1 b3 hd
          have HD := Lib.hid hd
          clear hd
          obtain ⟨g', rfl⟩ : ∃ g', g = g' + 1 := by
            cases g with
            | zero => have := C3.out; omega
            | succ g => exact ⟨g, rfl⟩
          go_wp2
          go_round
          case rel =>
            refine ⟨q / p, e + 1, g', rfl, rfl, hdv.1, by omega, ?_, by omega, ?_, ?_, ?_⟩
            · have := C3.out; rw [Int.pow_succ] at this; omega
            · have := C5.out; omega
            · rw [C6.out, strip_step HD.out]
            · rw [C7.out, strip_step HD.out]; omega
          case measure => simp [intOf]; omega
        · have hd' : (q % p == 0) = false := by simpa using hd
          have HE1 : Hid ((strip 64 m p).1 = q) := by unfold Hid; rw [C6.out, strip_end hd]
          have HE2 : Hid ((strip 64 m p).2 = e) := by unfold Hid; rw [C7.out, strip_end hd]; omega
          clear hd C6 C7 C3 C5
          by_cases he : 0 < e
          · have hmp : m % p = 0 := by
              by_cases h : m % p = 0
              · exact h
              · have h1 := HE2.out
                rw [strip_end h] at h1
                omega
            have HFS := Lib.hid (facL_hit (f := f') hle hmp)
            clear hmp
            go_wp2_with (at_builtin; refine wpList_append_lies _ rfl (.tmp 25) (.tmp 29) _ rfl w.heap.size 68 i0 (.agg #[.int .i64 0, .int .i64 0]) 2 16 Try.underlying22 hi hz0 hz1 hz2 rfl (by decide) _ L.length (flat2 L) (by rfl) (HO.out.alloc _) ⟨wr.heap.size, 0, none⟩ 1 1 [.int .i64 p, .int .i64 e] (by rfl) (by rfl) (news1 rfl) (by intro u hu; simp at hu; rcases hu with rfl | rfl <;> rfl) (by decide) (by simp only [maxLen]; omega) (by omega) (by have := hE.size; simp; omega) (wr.heap.size + 1) (by simp) ?_; intro g2 cap w1 hown1 hgrow hat hlt)
            have hx1 : Ext w w1 := Ext.grown (hE.alloc _) hgrow fun k hk => (HO.out.lt k hk).1
            go_roundw
            case rel =>
              refine ⟨q, p + 1, f', L ++ [(p, e)], rfl, rfl, c1, by omega, by omega, by omega, by omega, by simp; omega, ?_, hx1, ?_⟩
              · rw [flat2_snoc]; simpa using hown1
              · rw [HFF.out, HFS.out, HE1.out, HE2.out]; simp
            case measure => simp [intOf]; omega
          · have hmp : m % p ≠ 0 := fun h => by
              have h1 := HE2.out
              have h2 := strip_pos b1 b3 h
              omega
            have HFS := Lib.hid (facL_miss (f := f') hle hmp)
            have hqm : m = q := by have h1 := HE1.out; rw [strip_end hmp] at h1; exact h1
            subst hqm
            clear hmp
            go_wp2
            go_roundw
            case rel => exact ⟨m, p + 1, f', L, rfl, rfl, c1, by omega, by omega, by omega, by omega, by omega, HO.out, hE, by rw [HFF.out, HFS.out]⟩
            case measure => simp [intOf]; omega
    · have HFS := Lib.hid (facL_end (f := f') hle)
      by_cases h1m : 1 < m
      · go_wp2_with (at_builtin; refine wpList_append_lies _ rfl (.tmp 33) (.tmp 36) _ rfl w.heap.size 68 i0 (.agg #[.int .i64 0, .int .i64 0]) 2 16 Try.underlying22 hi hz0 hz1 hz2 rfl (by decide) _ L.length (flat2 L) (by rfl) (HO.out.alloc _) ⟨wr.heap.size, 0, none⟩ 1 1 [.int .i64 m, .int .i64 1] (by rfl) (by rfl) (news1 rfl) (by intro u hu; simp at hu; rcases hu with rfl | rfl <;> rfl) (by decide) (by simp only [maxLen]; omega) (by omega) (by have := hE.size; simp; omega) (wr.heap.size + 1) (by simp) ?_; intro g2 cap w1 hown1 hgrow hat hlt)
        have hx1 : Ext w w1 := Ext.grown (hE.alloc _) hgrow fun k hk => (HO.out.lt k hk).1
        go_ret
        refine ⟨_, rfl, ?_, hx1⟩
        rw [HFF.out, HFS.out, if_pos h1m, flat2_snoc]
        simpa using hown1
      · go_wp2
        go_ret
        refine ⟨_, rfl, ?_, hE⟩
        rw [HFF.out, HFS.out, if_neg (by omega), List.append_nil]
        exact HO.out

set_option maxHeartbeats 1000000 in
theorem l26Factor_any (n : Int) (h1 : 1 ≤ n) (h2 : n ≤ 1000000000) (w : World) :
    Calls Try.prog 59 #[.int .i64 n] w fun e w' => ∃ v, e = .returned v ∧ w'.ownsRow w.heap.size 68 2 v (facs n).length (flat2 (facs n)) ∧ Ext w w' := by
  obtain ⟨i0, hi, hz0, hz1, hz2⟩ := info_parts info_pp
  have HF : Hid (facs n = facL 40000 n 2) := rfl
  go_enter Try.func59, Try.ntmps59
  go_wp2
  go_loopw [0, 3, 4, 5] (fun un uo up _ wr => FRel n 68 w un uo up wr) (fun _ _ up _ _ => (40002 - intOf up).toNat)
  case atStart => exact ⟨n, 2, 40000, [], rfl, rfl, h1, h2, by omega, by omega, by omega, by simp, own_nil _ _ _ _, Ext.refl _, by simpa using HF.out⟩
  case round =>
    obtain ⟨m, p, f, L, rfl, rfl, b1, b2, b3, b4, b5, b6, hown, hE, hF⟩ := hrel
    have HFF := Lib.hid hF
    have HO := Lib.hid hown
    clear hF hown HF
    have hpp := sq_bd (a := p) (A := 31623) (by omega) b4
    obtain ⟨f', rfl⟩ : ∃ f', f = f' + 1 := ⟨f - 1, by omega⟩
    by_cases hle : p * p ≤ m
    · have b7 : p ≤ 31622 := by
        by_cases h : 31622 < p
        · obtain rfl : p = 31623 := by omega
          omega
        · omega
      by_cases hmp : m % p = 0
      · have HFS := Lib.hid (facL_hit (f := f') hle hmp)
        have HSP := Lib.hid (strip_pos b1 b3 hmp)
        have hmp' : (m % p == 0) = true := by simpa using hmp
        have hmp'' : (m % p != 0) = false := by simpa using hmp
        clear hmp
        go_wp2
        go_loop [0, 5] (fun un ue => SRel m p un ue) (fun un _ => (intOf un).toNat)
        case atStart => exact ⟨m, 0, 64, rfl, rfl, b1, by omega, by omega, by omega, by omega, rfl, by omega⟩
        case round =>
          obtain ⟨q, e, g, rfl, rfl, c1, c2, c3, c4, c5, c6, c7⟩ := hrel
          have C6 := Lib.hid c6
          have C7 := Lib.hid c7
          have C3 := Lib.hid c3
          have C5 := Lib.hid c5
          have c8 : e ≤ 64 := by omega
          clear c3 c5 c6 c7 hmp' hmp''
          by_cases hd : q % p = 0
          · have hd' : (q % p == 0) = true := by simpa using hd
            have hdv := div_half c1 b3 hd
            have HD := Lib.hid hd
            clear hd
            obtain ⟨g', rfl⟩ : ∃ g', g = g' + 1 := by
              cases g with
              | zero => have := C3.out; omega
              | succ g => exact ⟨g, rfl⟩
            go_wp2
            go_round
            case rel =>
              refine ⟨q / p, e + 1, g', rfl, rfl, hdv.1, by omega, ?_, by omega, ?_, ?_, ?_⟩
              · have := C3.out; rw [Int.pow_succ] at this; omega
              · have := C5.out; omega
              · rw [C6.out, strip_step HD.out]
              · rw [C7.out, strip_step HD.out]; omega
            case measure => simp [intOf]; omega
          · have hd' : (q % p == 0) = false := by simpa using hd
            have HE1 : Hid ((strip 64 m p).1 = q) := by unfold Hid; rw [C6.out, strip_end hd]
            have HE2 : Hid ((strip 64 m p).2 = e) := by unfold Hid; rw [C7.out, strip_end hd]; omega
            clear hd C6 C7 C3 C5
            go_wp2_with (at_builtin; refine wpList_append_lies _ rfl (.tmp 26) (.tmp 30) _ rfl w.heap.size 68 i0 (.agg #[.int .i64 0, .int .i64 0]) 2 16 Try.underlying22 hi hz0 hz1 hz2 rfl (by decide) _ L.length (flat2 L) (by rfl) (HO.out.alloc _) ⟨wr.heap.size, 0, none⟩ 1 1 [.int .i64 p, .int .i64 e] (by rfl) (by rfl) (news1 rfl) (by intro u hu; simp at hu; rcases hu with rfl | rfl <;> rfl) (by decide) (by simp only [maxLen]; omega) (by omega) (by have := hE.size; simp; omega) (wr.heap.size + 1) (by simp) ?_; intro g2 cap w1 hown1 hgrow hat hlt)
            have hx1 : Ext w w1 := Ext.grown (hE.alloc _) hgrow fun k hk => (HO.out.lt k hk).1
            go_roundw
            case rel =>
              refine ⟨q, p + 1, f', L ++ [(p, e)], rfl, rfl, c1, by omega, by omega, by omega, by omega, by simp; omega, ?_, hx1, ?_⟩
              · rw [flat2_snoc]; simpa using hown1
              · rw [HFF.out, HFS.out, HE1.out, HE2.out]; simp
            case measure => simp [intOf]; omega
      · have HFS := Lib.hid (facL_miss (f := f') hle hmp)
        have hmp' : (m % p == 0) = false := by simpa using hmp
        have hmp'' : (m % p != 0) = true := by simpa using hmp
        clear hmp
        go_wp2
        go_roundw
        case rel => exact ⟨m, p + 1, f', L, rfl, rfl, b1, by omega, by omega, by omega, by omega, by omega, HO.out, hE, by rw [HFF.out, HFS.out]⟩
        case measure => simp [intOf]; omega
    · have HFS := Lib.hid (facL_end (f := f') hle)
      by_cases h1m : 1 < m
      · go_wp2_with (at_builtin; refine wpList_append_lies _ rfl (.tmp 34) (.tmp 37) _ rfl w.heap.size 68 i0 (.agg #[.int .i64 0, .int .i64 0]) 2 16 Try.underlying22 hi hz0 hz1 hz2 rfl (by decide) _ L.length (flat2 L) (by rfl) (HO.out.alloc _) ⟨wr.heap.size, 0, none⟩ 1 1 [.int .i64 m, .int .i64 1] (by rfl) (by rfl) (news1 rfl) (by intro u hu; simp at hu; rcases hu with rfl | rfl <;> rfl) (by decide) (by simp only [maxLen]; omega) (by omega) (by have := hE.size; simp; omega) (wr.heap.size + 1) (by simp) ?_; intro g2 cap w1 hown1 hgrow hat hlt)
        have hx1 : Ext w w1 := Ext.grown (hE.alloc _) hgrow fun k hk => (HO.out.lt k hk).1
        go_ret
        refine ⟨_, rfl, ?_, hx1⟩
        rw [HFF.out, HFS.out, if_pos h1m, flat2_snoc]
        simpa using hown1
      · go_wp2
        go_ret
        refine ⟨_, rfl, ?_, hE⟩
        rw [HFF.out, HFS.out, if_neg (by omega), List.append_nil]
        exact HO.out

/-! ### Primes -/
def prm (n : Int) : Bool := match facs n with
  | [x] => x.2 == 1
  | _ => false
theorem prm_one {n : Int} {x : Int × Int} (h : facs n = [x]) : prm n = (x.2 == 1) := by unfold prm; rw [h]
theorem prm_not {n : Int} (h : (facs n).length ≠ 1) : prm n = false := by
  unfold prm
  split
  · rename_i x hx; rw [hx] at h; exact absurd rfl h
  · rfl
theorem facL_len : ∀ (f : Nat) (n p : Int), (facL f n p).length ≤ f + 1 := by
  intro f
  induction f with
  | zero => intro n p; unfold facL; split <;> simp
  | succ f ih =>
    intro n p
    unfold facL
    split
    · split
      · have := ih (strip 64 n p).1 (p + 1); simp; omega
      · have := ih n (p + 1); omega
    · split <;> simp

theorem isPrime_any (n : Int) (h1 : 1 ≤ n) (h2 : n ≤ 1000000000) (w : World) :
    Calls Try.prog 85 #[.int .i64 n] w fun e w' => e = .returned (.bool (prm n)) ∧ Ext w w' := by
  have hlen : (facs n).length ≤ 40001 := facL_len 40000 n 2
  by_cases hl : (facs n).length = 1
  · obtain ⟨x, hx⟩ := List.length_eq_one_iff.1 hl
    have HP := Lib.hid (prm_one hx)
    have HX := Lib.hid hx
    clear hx hl
    go_enter Try.func85, Try.ntmps85
    go_wp2_with fail
    refine (factors_any n h1 h2 _).mono ?_
    rintro e w1 ⟨v, rfl, hown, hx1⟩
    rw [HX.out] at hown
    obtain ⟨a, cap, rfl, hn, hc, hpos⟩ := own_shape hown
    obtain ⟨g, rfl, hg1, hg2, hcell, hfr⟩ := hpos (by simp)
    have c1 := hcell 1 (.int .i64 x.2) rfl
    clear hcell hfr hown
    go_wp2
    go_ret
    exact ⟨ret_bool (by rw [HP.out]), hx1⟩
  · have HP := Lib.hid (prm_not hl)
    have hl' : (((facs n).length : Int) == 1) = false := by rw [beq_eq_false_iff_ne]; omega
    clear hl
    go_enter Try.func85, Try.ntmps85
    go_wp2_with fail
    refine (factors_any n h1 h2 _).mono ?_
    rintro e w1 ⟨v, rfl, hown, hx1⟩
    obtain ⟨a, cap, rfl, hn, hc, hpos⟩ := own_shape hown
    clear hown hpos
    go_wp2
    go_ret
    exact ⟨ret_bool (by rw [HP.out]), hx1⟩

theorem l26Prime_any (n : Int) (h1 : 1 ≤ n) (h2 : n ≤ 1000000000) (w : World) :
    Calls Try.prog 83 #[.int .i64 n] w fun e w' => e = .returned (.bool (prm n)) ∧ Ext w w' := by
  have hlen : (facs n).length ≤ 40001 := facL_len 40000 n 2
  by_cases hl : (facs n).length = 1
  · obtain ⟨x, hx⟩ := List.length_eq_one_iff.1 hl
    have HP := Lib.hid (prm_one hx)
    have HX := Lib.hid hx
    clear hx hl
    go_enter Try.func83, Try.ntmps83
    go_wp2_with fail
    refine (l26Factor_any n h1 h2 _).mono ?_
    rintro e w1 ⟨v, rfl, hown, hx1⟩
    rw [HX.out] at hown
    obtain ⟨a, cap, rfl, hn, hc, hpos⟩ := own_shape hown
    obtain ⟨g, rfl, hg1, hg2, hcell, hfr⟩ := hpos (by simp)
    have c1 := hcell 1 (.int .i64 x.2) rfl
    clear hcell hfr hown
    go_wp2
    go_ret
    exact ⟨ret_bool (by rw [HP.out]), hx1⟩
  · have HP := Lib.hid (prm_not hl)
    have hl' : (((facs n).length : Int) == 1) = false := by rw [beq_eq_false_iff_ne]; omega
    clear hl
    go_enter Try.func83, Try.ntmps83
    go_wp2_with fail
    refine (l26Factor_any n h1 h2 _).mono ?_
    rintro e w1 ⟨v, rfl, hown, hx1⟩
    obtain ⟨a, cap, rfl, hn, hc, hpos⟩ := own_shape hown
    clear hown hpos
    go_wp2
    go_ret
    exact ⟨ret_bool (by rw [HP.out]), hx1⟩

def In9 (n : Int) : Bool := Wn n 1 1000000000

theorem s_isPrimeInt_any (n : Int) (w : World) :
    Calls Try.prog 42 #[.int .i64 n] w fun e w' => e = .returned (.tuple #[.bool (In9 n && prm n), .bool (In9 n)]) ∧ Ext w w' := by
  have HI : Hid (In9 n = Wn n 1 1000000000) := rfl
  cases h : Wn n 1 1000000000
  · go_enter Try.func42, Try.ntmps42
    go_wp2_with (go_at_call 58; ((with_reducible refine (l1In_any _ _ _ _).mono ?_); rintro e w' ⟨rfl, rfl⟩))
    go_ret2
    exact ⟨by rw [HI.out, h]; rfl, (by repeat (first | exact Ext.refl _ | assumption | refine Ext.alloc ?_ _ | refine Ext.drew ?_ | refine Ext.drewN ?_ _ | refine Ext.setCell ?_ (by first | omega | (dsimp only; omega) | (simp; done) | (simp; omega)) _ | refine Ext.trans ?_ (by assumption)))⟩
  · have b := Wn_iff.1 h
    go_enter Try.func42, Try.ntmps42
    go_wp2_with (go_at_call 58; ((with_reducible refine (l1In_any _ _ _ _).mono ?_); rintro e w' ⟨rfl, rfl⟩))
    refine (l26Prime_any n b.1 b.2 _).mono ?_
    rintro e w1 ⟨rfl, hx1⟩
    go_wp2
    go_ret2
    exact ⟨by rw [HI.out, h]; rfl, (by repeat (first | exact Ext.refl _ | assumption | refine Ext.alloc ?_ _ | refine Ext.drew ?_ | refine Ext.drewN ?_ _ | refine Ext.setCell ?_ (by first | omega | (dsimp only; omega) | (simp; done) | (simp; omega)) _ | refine Ext.trans ?_ (by assumption)))⟩

end Go.Proofs.Ytkjamaacapaokaa
