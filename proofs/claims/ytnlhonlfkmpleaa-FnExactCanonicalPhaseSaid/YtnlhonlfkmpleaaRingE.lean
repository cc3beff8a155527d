/- Evenness in the ring; the reference's plain operations. -/
import Derived.Test.YtnlhonlfkmpleaaRows
import Derived.Test.YtnlhonlfkmpleaaRingOps
namespace Go.Proofs.Ytnlhonlfkmpleaa
open Go.RowKit

def evR (a b c d : Int) : Bool := (Int.tmod (a + c) 2 == 0) && (Int.tmod (b + d) 2 == 0)

theorem isEven_any (a b c d : Int) (h : Rg a b c d = true) (w : World) :
    Calls Try.prog 117 #[.agg #[.int .i64 a, .int .i64 b, .int .i64 c, .int .i64 d]] w fun e w' => e = .returned (.bool (evR a b c d)) ∧ Ext w w' := by
  obtain ⟨ba, bb, bc, bd⟩ := Rg_bd h
  cases h1 : (Int.tmod (a + c) 2 == 0)
  · have HE : Hid (evR a b c d = false) := by unfold Hid evR; rw [h1]; rfl
    go_enter Try.func117, Try.ntmps117
    go_wp2
    go_ret
    exact ⟨ret_bool (by rw [HE.out]), (by repeat (first | exact Ext.refl _ | assumption | refine Ext.alloc ?_ _ | refine Ext.drew ?_ | refine Ext.drewN ?_ _ | refine Ext.setCell ?_ (by first | omega | (dsimp only; omega) | (simp; done) | (simp; omega)) _ | refine Ext.trans ?_ (by assumption)))⟩
  · have HE : Hid (evR a b c d = (Int.tmod (b + d) 2 == 0)) := by unfold Hid evR; rw [h1]; rfl
    go_enter Try.func117, Try.ntmps117
    go_wp2
    go_ret
    exact ⟨ret_bool (by rw [HE.out]), (by repeat (first | exact Ext.refl _ | assumption | refine Ext.alloc ?_ _ | refine Ext.drew ?_ | refine Ext.drewN ?_ _ | refine Ext.setCell ?_ (by first | omega | (dsimp only; omega) | (simp; done) | (simp; omega)) _ | refine Ext.trans ?_ (by assumption)))⟩

theorem l1Even_any (a b c d : Int) (h : Rg a b c d = true) (w : World) :
    Calls Try.prog 102 #[.agg #[.int .i64 a, .int .i64 b, .int .i64 c, .int .i64 d]] w fun e w' => e = .returned (.bool (evR a b c d)) ∧ Ext w w' := by
  obtain ⟨ba, bb, bc, bd⟩ := Rg_bd h
  cases h1 : (Int.tmod (a + c) 2 == 0)
  · have HE : Hid (evR a b c d = false) := by unfold Hid evR; rw [h1]; rfl
    go_enter Try.func102, Try.ntmps102
    go_wp2
    go_ret
    exact ⟨ret_bool (by rw [HE.out]), (by repeat (first | exact Ext.refl _ | assumption | refine Ext.alloc ?_ _ | refine Ext.drew ?_ | refine Ext.drewN ?_ _ | refine Ext.setCell ?_ (by first | omega | (dsimp only; omega) | (simp; done) | (simp; omega)) _ | refine Ext.trans ?_ (by assumption)))⟩
  · have HE : Hid (evR a b c d = (Int.tmod (b + d) 2 == 0)) := by unfold Hid evR; rw [h1]; rfl
    go_enter Try.func102, Try.ntmps102
    go_wp2
    go_ret
    exact ⟨ret_bool (by rw [HE.out]), (by repeat (first | exact Ext.refl _ | assumption | refine Ext.alloc ?_ _ | refine Ext.drew ?_ | refine Ext.drewN ?_ _ | refine Ext.setCell ?_ (by first | omega | (dsimp only; omega) | (simp; done) | (simp; omega)) _ | refine Ext.trans ?_ (by assumption)))⟩

theorem l1Root_any (a b c d : Int) (h : Rg a b c d = true) (w : World) :
    Calls Try.prog 104 #[.agg #[.int .i64 a, .int .i64 b, .int .i64 c, .int .i64 d]] w fun e w' => e = .returned (.agg #[.int .i64 (b - d), .int .i64 (a + c), .int .i64 (b + d), .int .i64 (c - a)]) ∧ Ext w w' := by
  obtain ⟨ba, bb, bc, bd⟩ := Rg_bd h
  go_enter Try.func104, Try.ntmps104
  go_wp2
  refine bodyPost_ret (v := .agg #[.int .i64 (b - d), .int .i64 (a + c), .int .i64 (b + d), .int .i64 (c - a)]) (by simp [results, Try.results104, go_sem, *]) rfl ⟨rfl, ?_⟩
  exact (by repeat (first | (with_reducible refine Ext.setCell ?_ (by first | (simp; done) | (simp; omega)) _) | with_reducible refine Ext.alloc ?_ _ | with_reducible refine Ext.drew ?_ | with_reducible refine Ext.drewN ?_ _ | with_reducible assumption | with_reducible exact Ext.refl _ | with_reducible refine Ext.trans ?_ (by with_reducible assumption)))

theorem l1Add_any (a b c d e f g h : Int) (h1 : Rg a b c d = true) (h2 : Rg e f g h = true) (w : World) :
    Calls Try.prog 106 #[.agg #[.int .i64 a, .int .i64 b, .int .i64 c, .int .i64 d], .agg #[.int .i64 e, .int .i64 f, .int .i64 g, .int .i64 h]] w fun en w' => en = .returned (.agg #[.int .i64 (a + e), .int .i64 (b + f), .int .i64 (c + g), .int .i64 (d + h)]) ∧ Ext w w' := by
  obtain ⟨ba, bb, bc, bd⟩ := Rg_bd h1
  obtain ⟨be, bf, bg, bh⟩ := Rg_bd h2
  go_enter Try.func106, Try.ntmps106
  go_wp2
  refine bodyPost_ret (v := .agg #[.int .i64 (a + e), .int .i64 (b + f), .int .i64 (c + g), .int .i64 (d + h)]) (by simp [results, Try.results106, go_sem, *]) rfl ⟨rfl, ?_⟩
  exact (by repeat (first | (with_reducible refine Ext.setCell ?_ (by first | (simp; done) | (simp; omega)) _) | with_reducible refine Ext.alloc ?_ _ | with_reducible refine Ext.drew ?_ | with_reducible refine Ext.drewN ?_ _ | with_reducible assumption | with_reducible exact Ext.refl _ | with_reducible refine Ext.trans ?_ (by with_reducible assumption)))

theorem l1Neg_any (a b c d : Int) (h : Rg a b c d = true) (w : World) :
    Calls Try.prog 109 #[.agg #[.int .i64 a, .int .i64 b, .int .i64 c, .int .i64 d]] w fun e w' => e = .returned (.agg #[.int .i64 (-a), .int .i64 (-b), .int .i64 (-c), .int .i64 (-d)]) ∧ Ext w w' := by
  obtain ⟨ba, bb, bc, bd⟩ := Rg_bd h
  go_enter Try.func109, Try.ntmps109
  go_wp2
  refine bodyPost_ret (v := .agg #[.int .i64 (-a), .int .i64 (-b), .int .i64 (-c), .int .i64 (-d)]) (by simp [results, Try.results109, go_sem, *]) rfl ⟨rfl, ?_⟩
  exact (by repeat (first | (with_reducible refine Ext.setCell ?_ (by first | (simp; done) | (simp; omega)) _) | with_reducible refine Ext.alloc ?_ _ | with_reducible refine Ext.drew ?_ | with_reducible refine Ext.drewN ?_ _ | with_reducible assumption | with_reducible exact Ext.refl _ | with_reducible refine Ext.trans ?_ (by with_reducible assumption)))

theorem l1Conj_any (a b c d : Int) (h : Rg a b c d = true) (w : World) :
    Calls Try.prog 144 #[.agg #[.int .i64 a, .int .i64 b, .int .i64 c, .int .i64 d]] w fun e w' => e = .returned (.agg #[.int .i64 a, .int .i64 (-d), .int .i64 (-c), .int .i64 (-b)]) ∧ Ext w w' := by
  obtain ⟨ba, bb, bc, bd⟩ := Rg_bd h
  go_enter Try.func144, Try.ntmps144
  go_wp2
  refine bodyPost_ret (v := .agg #[.int .i64 a, .int .i64 (-d), .int .i64 (-c), .int .i64 (-b)]) (by simp [results, Try.results144, go_sem, *]) rfl ⟨rfl, ?_⟩
  exact (by repeat (first | (with_reducible refine Ext.setCell ?_ (by first | (simp; done) | (simp; omega)) _) | with_reducible refine Ext.alloc ?_ _ | with_reducible refine Ext.drew ?_ | with_reducible refine Ext.drewN ?_ _ | with_reducible assumption | with_reducible exact Ext.refl _ | with_reducible refine Ext.trans ?_ (by with_reducible assumption)))

end Go.Proofs.Ytnlhonlfkmpleaa
