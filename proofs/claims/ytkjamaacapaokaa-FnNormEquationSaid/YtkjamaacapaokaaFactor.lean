/- The law on FactorInt. -/
import Derived.Test.YtkjamaacapaokaaRows
import Derived.Test.YtkjamaacapaokaaFac
import Derived.Test.YtkjamaacapaokaaSlPrimePower
namespace Go.Proofs.Ytkjamaacapaokaa
open Go.RowKit

def fl2 (l : List (Int × Int)) : List Int := l.flatMap fun x => [x.1, x.2]
theorem flat2_il (l : List (Int × Int)) : flat2 l = IL (fl2 l) := by
  induction l with
  | nil => rfl
  | cons x l ih => simp only [flat2, fl2, IL, List.flatMap_cons, List.map_append] at *; rw [ih]; rfl
theorem fl2_length (l : List (Int × Int)) : (fl2 l).length = l.length * 2 := by
  induction l with
  | nil => rfl
  | cons x l ih => simp only [fl2, List.flatMap_cons, List.length_append, List.length_cons, List.length_nil] at *; omega
theorem facL_len1 : ∀ (f : Nat) (n p : Int), (facL f n p).length ≤ f + 1 := by
  intro f
  induction f with
  | zero => intro n p; unfold facL; split <;> simp
  | succ f ih =>
    intro n p
    unfold facL
    split
    · split
      · have := ih (strip 64 n p).1 (p + 1); simp; omega
      · have := ih n (p + 1); omega
    · split <;> simp
def okF (n : Int) : Bool := Wn n 1 1000000000
def facR (n : Int) : List (Int × Int) := if okF n then facs n else []
theorem facR_len (n : Int) : (facR n).length ≤ 1000000000 := by
  unfold facR
  split
  · have := facL_len1 40000 n 2; unfold facs; omega
  · simp

theorem factorInt_any (n : Int) (w : World) :
    Calls Try.prog 16 #[.int .i64 n] w fun e w' => ∃ v, e = .returned (.tuple #[v, .bool (okF n)]) ∧ w'.ownsRow w.heap.size 68 2 v (facR n).length (IL (fl2 (facR n))) ∧ Ext w w' := by
  cases h : Wn n 1 1000000000
  · have HO : Hid (okF n = false) := h
    have HR : Hid (facR n = []) := by unfold Hid facR; rw [HO.out]; rfl
    rw [HO.out, HR.out]
    go_enter Try.func16, Try.ntmps16
    go_wp2_with (go_at_call 60; ((with_reducible refine (within_any _ _ _ _).mono ?_); rintro e w' ⟨rfl, rfl⟩))
    go_ret2
    exact ⟨_, rfl, own_nil _ _ _ _, Ext.refl _⟩
  · have HO : Hid (okF n = true) := h
    have HR : Hid (facR n = facs n) := by unfold Hid facR; rw [HO.out]; rfl
    have hb := Wn_iff.1 h
    rw [HO.out, HR.out]
    go_enter Try.func16, Try.ntmps16
    go_wp2_with (go_at_call 60; ((with_reducible refine (within_any _ _ _ _).mono ?_); rintro e w' ⟨rfl, rfl⟩))
    refine (factors_any n hb.1 hb.2 _).mono ?_
    rintro e w1 ⟨v, rfl, hown, hx⟩
    have HW := Lib.hid hown
    clear hown
    go_wp2
    go_ret2
    exact ⟨_, rfl, flat2_il _ ▸ HW.out, hx⟩

theorem s_factorInt_any (n : Int) (w : World) :
    Calls Try.prog 15 #[.int .i64 n] w fun e w' => ∃ v, e = .returned (.tuple #[v, .bool (okF n)]) ∧ w'.ownsRow w.heap.size 68 2 v (facR n).length (IL (fl2 (facR n))) ∧ Ext w w' := by
  cases h : Wn n 1 1000000000
  · have HO : Hid (okF n = false) := h
    have HR : Hid (facR n = []) := by unfold Hid facR; rw [HO.out]; rfl
    rw [HO.out, HR.out]
    go_enter Try.func15, Try.ntmps15
    go_wp2_with (go_at_call 58; ((with_reducible refine (l1In_any _ _ _ _).mono ?_); rintro e w' ⟨rfl, rfl⟩))
    go_ret2
    exact ⟨_, rfl, own_nil _ _ _ _, Ext.refl _⟩
  · have HO : Hid (okF n = true) := h
    have HR : Hid (facR n = facs n) := by unfold Hid facR; rw [HO.out]; rfl
    have hb := Wn_iff.1 h
    rw [HO.out, HR.out]
    go_enter Try.func15, Try.ntmps15
    go_wp2_with (go_at_call 58; ((with_reducible refine (l1In_any _ _ _ _).mono ?_); rintro e w' ⟨rfl, rfl⟩))
    refine (l26Factor_any n hb.1 hb.2 _).mono ?_
    rintro e w1 ⟨v, rfl, hown, hx⟩
    have HW := Lib.hid hown
    clear hown
    go_wp2
    go_ret2
    exact ⟨_, rfl, flat2_il _ ▸ HW.out, hx⟩

set_option maxHeartbeats 1000000 in
theorem law_FactorInt (n : Int) (w : World) :
    Calls Try.prog 3 #[.int .i64 n] w fun e w' => e = .returned (.bool true) ∧ Ext w w' := by
  have hn := facR_len n
  have HL := Lib.hid (fl2_length (facR n))
  have HI := Lib.hid (factorInt_any n)
  have HS := Lib.hid (s_factorInt_any n)
  generalize fl2 (facR n) = xs at *
  generalize (facR n).length = N at *
  generalize okF n = ok at *
  go_enter Try.func3, Try.ntmps3
  go_wp2_with fail
  refine (HS.out _).mono ?_
  rintro e w1 ⟨v0, rfl, o0, hx1⟩
  have O0 := Lib.hid o0
  clear o0
  go_wp2_with fail
  refine (HI.out _).mono ?_
  rintro e w2 ⟨v1, rfl, o1, hx2⟩
  have O1 := Lib.hid o1
  clear o1
  have O2 := Lib.hid (own_ext O0.out hx2)
  go_wp2_with fail
  refine (eqPrimePowerS_same HL.out hn _ O1.out O2.out).mono ?_
  rintro e w3 ⟨rfl, hx3⟩
  have O3 := Lib.hid (own_ext O1.out hx3)
  go_wp2_with fail
  refine (markPrimePowerS_any (by rw [il_length]; exact HL.out) hn 1 (by omega) _ O3.out).mono ?_
  rintro e w4 ⟨rfl, o4, hg4⟩
  have O4 := Lib.hid o4
  clear o4
  have hv1 : ∀ k, v1.ownBlock = some k → w1.heap.size ≤ k := fun k hk => (O1.out.lt k hk).1
  have hx4 : Ext w1 w4 := Ext.grown (hx2.trans hx3) hg4 hv1
  have hE4 : Ext w w4 := hx1.trans hx4
  have O5 := Lib.hid (own_ext O0.out hx4)
  go_wp2_with fail
  refine (heldPrimePowerS_any hn 1 (by omega) _ O4.out).mono ?_
  rintro e w' ⟨rfl, rfl⟩
  go_wp2_with fail
  refine (HI.out _).mono ?_
  rintro e w5 ⟨v2, rfl, o6, hx5⟩
  have O6 := Lib.hid o6
  clear o6
  have O7 := Lib.hid (own_ext O5.out hx5)
  go_wp2_with fail
  refine (eqPrimePowerS_same HL.out hn _ O6.out O7.out).mono ?_
  rintro e w6 ⟨rfl, hx6⟩
  have O8 := Lib.hid (own_ext (own_ext O4.out hx5) hx6)
  go_wp2_with fail
  refine (heldPrimePowerS_any hn 1 (by omega) _ O8.out).mono ?_
  rintro e w' ⟨rfl, rfl⟩
  go_wp2
  go_ret
  exact ⟨rfl, (hE4.trans hx5).trans hx6⟩

end Go.Proofs.Ytkjamaacapaokaa
