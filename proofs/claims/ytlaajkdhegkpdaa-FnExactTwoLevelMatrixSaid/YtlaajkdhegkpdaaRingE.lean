/- Evenness in the ring; the reference's plain operations. -/
import Derived.Test.YtlaajkdhegkpdaaRows
import Derived.Test.YtlaajkdhegkpdaaRingOps
namespace Go.Proofs.Ytlaajkdhegkpdaa
open Go.RowKit

def evR (a b c d : Int) : Bool := (Int.tmod (a + c) 2 == 0) && (Int.tmod (b + d) 2 == 0)

theorem isEven_any (a b c d : Int) (h : Rg a b c d = true) (w : World) :
    Calls Try.prog 51 #[.agg #[.int .i64 a, .int .i64 b, .int .i64 c, .int .i64 d]] w fun e w' => e = .returned (.bool (evR a b c d)) ∧ Ext w w' := by
  obtain ⟨ba, bb, bc, bd⟩ := Rg_bd h
  cases h1 : (Int.tmod (a + c) 2 == 0)
  · have HE : Hid (evR a b c d = false) := by unfold Hid evR; rw [h1]; rfl
    go_enter Try.func51, Try.ntmps51
    go_wp2
    go_ret
    exact ⟨ret_bool (by rw [HE.out]), (by repeat (first | exact Ext.refl _ | assumption | refine Ext.alloc ?_ _ | refine Ext.drew ?_ | refine Ext.drewN ?_ _ | refine Ext.setCell ?_ (by first | omega | (dsimp only; omega) | (simp; done) | (simp; omega)) _ | refine Ext.trans ?_ (by assumption)))⟩
  · have HE : Hid (evR a b c d = (Int.tmod (b + d) 2 == 0)) := by unfold Hid evR; rw [h1]; rfl
    go_enter Try.func51, Try.ntmps51
    go_wp2
    go_ret
    exact ⟨ret_bool (by rw [HE.out]), (by repeat (first | exact Ext.refl _ | assumption | refine Ext.alloc ?_ _ | refine Ext.drew ?_ | refine Ext.drewN ?_ _ | refine Ext.setCell ?_ (by first | omega | (dsimp only; omega) | (simp; done) | (simp; omega)) _ | refine Ext.trans ?_ (by assumption)))⟩

theorem l1Even_any (a b c d : Int) (h : Rg a b c d = true) (w : World) :
    Calls Try.prog 46 #[.agg #[.int .i64 a, .int .i64 b, .int .i64 c, .int .i64 d]] w fun e w' => e = .returned (.bool (evR a b c d)) ∧ Ext w w' := by
  obtain ⟨ba, bb, bc, bd⟩ := Rg_bd h
  cases h1 : (Int.tmod (a + c) 2 == 0)
  · have HE : Hid (evR a b c d = false) := by unfold Hid evR; rw [h1]; rfl
    go_enter Try.func46, Try.ntmps46
    go_wp2
    go_ret
    exact ⟨ret_bool (by rw [HE.out]), (by repeat (first | exact Ext.refl _ | assumption | refine Ext.alloc ?_ _ | refine Ext.drew ?_ | refine Ext.drewN ?_ _ | refine Ext.setCell ?_ (by first | omega | (dsimp only; omega) | (simp; done) | (simp; omega)) _ | refine Ext.trans ?_ (by assumption)))⟩
  · have HE : Hid (evR a b c d = (Int.tmod (b + d) 2 == 0)) := by unfold Hid evR; rw [h1]; rfl
    go_enter Try.func46, Try.ntmps46
    go_wp2
    go_ret
    exact ⟨ret_bool (by rw [HE.out]), (by repeat (first | exact Ext.refl _ | assumption | refine Ext.alloc ?_ _ | refine Ext.drew ?_ | refine Ext.drewN ?_ _ | refine Ext.setCell ?_ (by first | omega | (dsimp only; omega) | (simp; done) | (simp; omega)) _ | refine Ext.trans ?_ (by assumption)))⟩

theorem l1Root_any (a b c d : Int) (h : Rg a b c d = true) (w : World) :
    Calls Try.prog 38 #[.agg #[.int .i64 a, .int .i64 b, .int .i64 c, .int .i64 d]] w fun e w' => e = .returned (.agg #[.int .i64 (b - d), .int .i64 (a + c), .int .i64 (b + d), .int .i64 (c - a)]) ∧ Ext w w' := by
  obtain ⟨ba, bb, bc, bd⟩ := Rg_bd h
  go_enter Try.func38, Try.ntmps38
  go_wp2
  refine bodyPost_ret (v := .agg #[.int .i64 (b - d), .int .i64 (a + c), .int .i64 (b + d), .int .i64 (c - a)]) (by simp [results, Try.results38, go_sem, *]) rfl ⟨rfl, ?_⟩
  exact (by repeat (first | (with_reducible refine Ext.setCell ?_ (by first | (simp; done) | (simp; omega)) _) | with_reducible refine Ext.alloc ?_ _ | with_reducible refine Ext.drew ?_ | with_reducible refine Ext.drewN ?_ _ | with_reducible assumption | with_reducible exact Ext.refl _ | with_reducible refine Ext.trans ?_ (by with_reducible assumption)))

theorem l1Add_any (a b c d e f g h : Int) (h1 : Rg a b c d = true) (h2 : Rg e f g h = true) (w : World) :
    Calls Try.prog 39 #[.agg #[.int .i64 a, .int .i64 b, .int .i64 c, .int .i64 d], .agg #[.int .i64 e, .int .i64 f, .int .i64 g, .int .i64 h]] w fun en w' => en = .returned (.agg #[.int .i64 (a + e), .int .i64 (b + f), .int .i64 (c + g), .int .i64 (d + h)]) ∧ Ext w w' := by
  obtain ⟨ba, bb, bc, bd⟩ := Rg_bd h1
  obtain ⟨be, bf, bg, bh⟩ := Rg_bd h2
  go_enter Try.func39, Try.ntmps39
  go_wp2
  refine bodyPost_ret (v := .agg #[.int .i64 (a + e), .int .i64 (b + f), .int .i64 (c + g), .int .i64 (d + h)]) (by simp [results, Try.results39, go_sem, *]) rfl ⟨rfl, ?_⟩
  exact (by repeat (first | (with_reducible refine Ext.setCell ?_ (by first | (simp; done) | (simp; omega)) _) | with_reducible refine Ext.alloc ?_ _ | with_reducible refine Ext.drew ?_ | with_reducible refine Ext.drewN ?_ _ | with_reducible assumption | with_reducible exact Ext.refl _ | with_reducible refine Ext.trans ?_ (by with_reducible assumption)))

theorem l1Neg_any (a b c d : Int) (h : Rg a b c d = true) (w : World) :
    Calls Try.prog 40 #[.agg #[.int .i64 a, .int .i64 b, .int .i64 c, .int .i64 d]] w fun e w' => e = .returned (.agg #[.int .i64 (-a), .int .i64 (-b), .int .i64 (-c), .int .i64 (-d)]) ∧ Ext w w' := by
  obtain ⟨ba, bb, bc, bd⟩ := Rg_bd h
  go_enter Try.func40, Try.ntmps40
  go_wp2
  refine bodyPost_ret (v := .agg #[.int .i64 (-a), .int .i64 (-b), .int .i64 (-c), .int .i64 (-d)]) (by simp [results, Try.results40, go_sem, *]) rfl ⟨rfl, ?_⟩
  exact (by repeat (first | (with_reducible refine Ext.setCell ?_ (by first | (simp; done) | (simp; omega)) _) | with_reducible refine Ext.alloc ?_ _ | with_reducible refine Ext.drew ?_ | with_reducible refine Ext.drewN ?_ _ | with_reducible assumption | with_reducible exact Ext.refl _ | with_reducible refine Ext.trans ?_ (by with_reducible assumption)))

end Go.Proofs.Ytlaajkdhegkpdaa
