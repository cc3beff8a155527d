/- Targets: points on a circle. -/
import Derived.Test.YtbffcpnpdpgfeaaRows
import Derived.Test.YtbffcpnpdpgfeaaRoot2
namespace Go.Proofs.Ytbffcpnpdpgfeaa
open Go.RowKit

def Tg (x y n : Int) : Bool := Wn n 1 1000 && Wn x (-n) n && Wn y (-n) n && decide (x * x + y * y = n * n)
theorem sq_le {x n : Int} (h1 : -n ≤ x) (h2 : x ≤ n) (h3 : n ≤ 1000) : 0 ≤ x * x ∧ x * x ≤ 1000000 := sq_bd (A := 1000) (by omega) (by omega)
theorem Tg_ways (x y n : Int) : (Wn n 1 1000 = false ∧ Tg x y n = false) ∨ (Wn n 1 1000 = true ∧ Wn x (-n) n = false ∧ Tg x y n = false ∧ 1 ≤ n ∧ n ≤ 1000) ∨ (Wn n 1 1000 = true ∧ Wn x (-n) n = true ∧ Wn y (-n) n = false ∧ Tg x y n = false ∧ 1 ≤ n ∧ n ≤ 1000) ∨
    (Wn n 1 1000 = true ∧ Wn x (-n) n = true ∧ Wn y (-n) n = true ∧ Tg x y n = (x * x + y * y == n * n) ∧ 1 ≤ n ∧ n ≤ 1000 ∧ (0 ≤ x * x ∧ x * x ≤ 1000000) ∧ (0 ≤ y * y ∧ y * y ≤ 1000000) ∧ (0 ≤ n * n ∧ n * n ≤ 1000000)) := by
  unfold Tg
  cases h1 : Wn n 1 1000 <;> cases h2 : Wn x (-n) n <;> cases h3 : Wn y (-n) n <;> simp
  all_goals simp only [Wn_iff] at *
  all_goals try omega
  refine ⟨rfl, by omega, by omega, sq_le h2.1 h2.2 h1.2, sq_le h3.1 h3.2 h1.2, sq_le (n := n) (by omega) (by omega) h1.2⟩

theorem toTarget_any (a b c : Int) (w : World) :
    Calls Try.prog 7 #[.agg #[.int .i64 a, .int .i64 b, .int .i64 c]] w fun e w' => e = .returned (.agg #[.int .i64 a, .int .i64 b, .int .i64 c]) ∧ Ext w w' := by
  go_enter Try.func7, Try.ntmps7
  go_wp2
  refine bodyPost_ret (v := .agg #[.int .i64 a, .int .i64 b, .int .i64 c]) (by simp [results, Try.results7, go_sem]) rfl ⟨rfl, ?_⟩
  exact (by repeat (first | exact Ext.refl _ | assumption | refine Ext.alloc ?_ _ | refine Ext.drew ?_ | refine Ext.drewN ?_ _ | refine Ext.setCell ?_ (by first | omega | (dsimp only; omega) | (simp; done) | (simp; omega)) _ | refine Ext.trans ?_ (by assumption)))

theorem isValidTarget_any (x y n : Int) (w : World) :
    Calls Try.prog 20 #[.agg #[.int .i64 x, .int .i64 y, .int .i64 n]] w fun e w' => e = .returned (.bool (Tg x y n)) ∧ Ext w w' := by
  rcases Tg_ways x y n with ⟨h1, hr⟩ | ⟨h1, h2, hr, b1, b2⟩ | ⟨h1, h2, h3, hr, b1, b2⟩ | ⟨h1, h2, h3, hr, b1, b2, b3, b4, b5⟩
  all_goals
    have HR := Lib.hid hr
    clear hr
    go_enter Try.func20, Try.ntmps20
    go_wp2_with (go_at_call 25; ((with_reducible refine (within_any _ _ _ _).mono ?_); rintro e w' ⟨rfl, rfl⟩))
    go_ret
    exact ⟨ret_bool (by rw [HR.out]), (by repeat (first | exact Ext.refl _ | assumption | refine Ext.alloc ?_ _ | refine Ext.drew ?_ | refine Ext.drewN ?_ _ | refine Ext.setCell ?_ (by first | omega | (dsimp only; omega) | (simp; done) | (simp; omega)) _ | refine Ext.trans ?_ (by assumption)))⟩

theorem l1AllN_any (p q n : Int) (b cap : Nat) (w : World) (v : Bool) (hv : (Wn p (-n) n && Wn q (-n) n) = v) (h0 : w.cell? ⟨b, 0, none⟩ = some (.int .i64 p)) (h1 : w.cell? ⟨b, 1, none⟩ = some (.int .i64 q)) :
    Calls Try.prog 44 #[.slice (some ⟨b, 0, none⟩) 2 cap, .int .i64 (-n), .int .i64 n] w fun e w' => e = .returned (.bool v) ∧ w = w' :=
  (l1All2_any p q b cap _ _ w h0 h1).mono fun _ _ ⟨h, hw⟩ => ⟨h.trans (by rw [allW2, hv]), hw⟩

theorem l27Target_any (x y n : Int) (w : World) :
    Calls Try.prog 21 #[.agg #[.int .i64 x, .int .i64 y, .int .i64 n]] w fun e w' => e = .returned (.bool (Tg x y n)) ∧ Ext w w' := by
  rcases Tg_ways x y n with ⟨h1, hr⟩ | ⟨h1, h2, hr, b1, b2⟩ | ⟨h1, h2, h3, hr, b1, b2⟩ | ⟨h1, h2, h3, hr, b1, b2, b3, b4, b5⟩
  · have HR := Lib.hid hr
    clear hr
    go_enter Try.func21, Try.ntmps21
    go_wp2_with (first | (go_at_call 22; ((with_reducible refine (l1In_any _ _ _ _).mono ?_); rintro e w' ⟨rfl, rfl⟩)))
    go_ret
    exact ⟨ret_bool (by rw [HR.out]), (by repeat (first | exact Ext.refl _ | assumption | refine Ext.alloc ?_ _ | refine Ext.drew ?_ | refine Ext.drewN ?_ _ | refine Ext.setCell ?_ (by first | omega | (dsimp only; omega) | (simp; done) | (simp; omega)) _ | refine Ext.trans ?_ (by assumption)))⟩
  · have HR := Lib.hid hr
    have ha : (Wn x (-n) n && Wn y (-n) n) = false := by rw [h2]; rfl
    have HA := Lib.hid ha
    clear hr ha
    go_enter Try.func21, Try.ntmps21
    go_wp2_with (first | (go_at_call 22; ((with_reducible refine (l1In_any _ _ _ _).mono ?_); rintro e w' ⟨rfl, rfl⟩)) | (go_at_call 44; ((with_reducible refine (l1AllN_any x y n _ _ _ _ HA.out (by simp [go_sem]) (by simp [go_sem])).mono ?_); rintro e w' ⟨rfl, rfl⟩)))
    go_ret
    exact ⟨ret_bool (by rw [HR.out]), (by repeat (first | exact Ext.refl _ | assumption | refine Ext.alloc ?_ _ | refine Ext.drew ?_ | refine Ext.drewN ?_ _ | refine Ext.setCell ?_ (by first | omega | (dsimp only; omega) | (simp; done) | (simp; omega)) _ | refine Ext.trans ?_ (by assumption)))⟩
  · have HR := Lib.hid hr
    have ha : (Wn x (-n) n && Wn y (-n) n) = false := by rw [h2, h3]; rfl
    have HA := Lib.hid ha
    clear hr ha
    go_enter Try.func21, Try.ntmps21
    go_wp2_with (first | (go_at_call 22; ((with_reducible refine (l1In_any _ _ _ _).mono ?_); rintro e w' ⟨rfl, rfl⟩)) | (go_at_call 44; ((with_reducible refine (l1AllN_any x y n _ _ _ _ HA.out (by simp [go_sem]) (by simp [go_sem])).mono ?_); rintro e w' ⟨rfl, rfl⟩)))
    go_ret
    exact ⟨ret_bool (by rw [HR.out]), (by repeat (first | exact Ext.refl _ | assumption | refine Ext.alloc ?_ _ | refine Ext.drew ?_ | refine Ext.drewN ?_ _ | refine Ext.setCell ?_ (by first | omega | (dsimp only; omega) | (simp; done) | (simp; omega)) _ | refine Ext.trans ?_ (by assumption)))⟩
  · have HR := Lib.hid hr
    have ha : (Wn x (-n) n && Wn y (-n) n) = true := by rw [h2, h3]; rfl
    have HA := Lib.hid ha
    clear hr ha
    go_enter Try.func21, Try.ntmps21
    go_wp2_with (first | (go_at_call 22; ((with_reducible refine (l1In_any _ _ _ _).mono ?_); rintro e w' ⟨rfl, rfl⟩)) | (go_at_call 44; ((with_reducible refine (l1AllN_any x y n _ _ _ _ HA.out (by simp [go_sem]) (by simp [go_sem])).mono ?_); rintro e w' ⟨rfl, rfl⟩)))
    go_ret
    exact ⟨ret_bool (by rw [HR.out]), (by repeat (first | exact Ext.refl _ | assumption | refine Ext.alloc ?_ _ | refine Ext.drew ?_ | refine Ext.drewN ?_ _ | refine Ext.setCell ?_ (by first | omega | (dsimp only; omega) | (simp; done) | (simp; omega)) _ | refine Ext.trans ?_ (by assumption)))⟩

/-! ### The target of two numbers -/
def okTo (m n : Int) : Bool := Wn m (-1000) 1000 && Wn n (-1000) 1000 && Wn (m * m + n * n) 1 1000
def toX (m n : Int) : Int := if okTo m n then m * m - n * n else 0
def toY (m n : Int) : Int := if okTo m n then 2 * m * n else 0
def toN (m n : Int) : Int := if okTo m n then m * m + n * n else 0
theorem okTo_ways (m n : Int) : (Wn m (-1000) 1000 = false ∧ okTo m n = false) ∨ (Wn m (-1000) 1000 = true ∧ Wn n (-1000) 1000 = false ∧ okTo m n = false) ∨
    (Wn m (-1000) 1000 = true ∧ Wn n (-1000) 1000 = true ∧ okTo m n = Wn (m * m + n * n) 1 1000 ∧ (0 ≤ m * m ∧ m * m ≤ 1000000) ∧ (0 ≤ n * n ∧ n * n ≤ 1000000) ∧ (-2000000 ≤ 2 * m * n ∧ 2 * m * n ≤ 2000000) ∧ -1000 ≤ m ∧ m ≤ 1000) := by
  unfold okTo
  cases h1 : Wn m (-1000) 1000 <;> cases h2 : Wn n (-1000) 1000 <;> simp
  simp only [Wn_iff] at *
  refine ⟨sq_bd (A := 1000) h1.1 h1.2, sq_bd (A := 1000) h2.1 h2.2, ?_, h1⟩
  exact mul_bd (A := 2000) (B := 1000) (by omega) (by omega) h2.1 h2.2

theorem targetOf_any (m n : Int) (w : World) :
    Calls Try.prog 18 #[.int .i64 m, .int .i64 n] w fun e w' => e = .returned (.tuple #[.agg #[.int .i64 (toX m n), .int .i64 (toY m n), .int .i64 (toN m n)], .bool (okTo m n)]) ∧ Ext w w' := by
  have HX : Hid (toX m n = if okTo m n then m * m - n * n else 0) := rfl
  have HY : Hid (toY m n = if okTo m n then 2 * m * n else 0) := rfl
  have HN : Hid (toN m n = if okTo m n then m * m + n * n else 0) := rfl
  rcases okTo_ways m n with ⟨h1, hr⟩ | ⟨h1, h2, hr⟩ | ⟨h1, h2, hr, b1, b2, b3, b4, b5⟩
  · rw [HX.out, HY.out, HN.out, hr]
    clear hr HX HY HN
    go_enter Try.func18, Try.ntmps18
    go_wp2_with (go_at_call 25; ((with_reducible refine (within_any _ _ _ _).mono ?_); rintro e w' ⟨rfl, rfl⟩))
    refine bodyPost_ret (v := .tuple #[.agg #[.int .i64 0, .int .i64 0, .int .i64 0], .bool false]) (by simp [results, Try.results18, go_sem]) rfl ⟨rfl, ?_⟩
    exact (by repeat (first | exact Ext.refl _ | assumption | refine Ext.alloc ?_ _ | refine Ext.drew ?_ | refine Ext.drewN ?_ _ | refine Ext.setCell ?_ (by first | omega | (dsimp only; omega) | (simp; done) | (simp; omega)) _ | refine Ext.trans ?_ (by assumption)))
  · rw [HX.out, HY.out, HN.out, hr]
    clear hr HX HY HN
    go_enter Try.func18, Try.ntmps18
    go_wp2_with (go_at_call 25; ((with_reducible refine (within_any _ _ _ _).mono ?_); rintro e w' ⟨rfl, rfl⟩))
    refine bodyPost_ret (v := .tuple #[.agg #[.int .i64 0, .int .i64 0, .int .i64 0], .bool false]) (by simp [results, Try.results18, go_sem]) rfl ⟨rfl, ?_⟩
    exact (by repeat (first | exact Ext.refl _ | assumption | refine Ext.alloc ?_ _ | refine Ext.drew ?_ | refine Ext.drewN ?_ _ | refine Ext.setCell ?_ (by first | omega | (dsimp only; omega) | (simp; done) | (simp; omega)) _ | refine Ext.trans ?_ (by assumption)))
  · rw [HX.out, HY.out, HN.out, hr]
    clear hr HX HY HN
    cases h3 : Wn (m * m + n * n) 1 1000
    · go_enter Try.func18, Try.ntmps18
      go_wp2_with (go_at_call 25; ((with_reducible refine (within_any _ _ _ _).mono ?_); rintro e w' ⟨rfl, rfl⟩))
      refine bodyPost_ret (v := .tuple #[.agg #[.int .i64 0, .int .i64 0, .int .i64 0], .bool false]) (by simp [results, Try.results18, go_sem]) rfl ⟨rfl, ?_⟩
      exact (by repeat (first | exact Ext.refl _ | assumption | refine Ext.alloc ?_ _ | refine Ext.drew ?_ | refine Ext.drewN ?_ _ | refine Ext.setCell ?_ (by first | omega | (dsimp only; omega) | (simp; done) | (simp; omega)) _ | refine Ext.trans ?_ (by assumption)))
    · go_enter Try.func18, Try.ntmps18
      go_wp2_with (go_at_call 25; ((with_reducible refine (within_any _ _ _ _).mono ?_); rintro e w' ⟨rfl, rfl⟩))
      refine bodyPost_ret (v := .tuple #[.agg #[.int .i64 (m * m - n * n), .int .i64 (2 * m * n), .int .i64 (m * m + n * n)], .bool true]) (by simp [results, Try.results18, go_sem]) rfl ⟨rfl, ?_⟩
      exact (by repeat (first | exact Ext.refl _ | assumption | refine Ext.alloc ?_ _ | refine Ext.drew ?_ | refine Ext.drewN ?_ _ | refine Ext.setCell ?_ (by first | omega | (dsimp only; omega) | (simp; done) | (simp; omega)) _ | refine Ext.trans ?_ (by assumption)))

theorem l1AllM_any (p q : Int) (b cap : Nat) (w : World) (v : Bool) (hv : (Wn p (-1000) 1000 && Wn q (-1000) 1000) = v) (h0 : w.cell? ⟨b, 0, none⟩ = some (.int .i64 p)) (h1 : w.cell? ⟨b, 1, none⟩ = some (.int .i64 q)) :
    Calls Try.prog 44 #[.slice (some ⟨b, 0, none⟩) 2 cap, .int .i64 (-1000), .int .i64 1000] w fun e w' => e = .returned (.bool v) ∧ w = w' :=
  (l1All2_any p q b cap _ _ w h0 h1).mono fun _ _ ⟨h, hw⟩ => ⟨h.trans (by rw [allW2, hv]), hw⟩

theorem s_targetOf_any (m n : Int) (w : World) :
    Calls Try.prog 19 #[.int .i64 m, .int .i64 n] w fun e w' => e = .returned (.tuple #[.agg #[.int .i64 (toX m n), .int .i64 (toY m n), .int .i64 (toN m n)], .bool (okTo m n)]) ∧ Ext w w' := by
  have HX : Hid (toX m n = if okTo m n then m * m - n * n else 0) := rfl
  have HY : Hid (toY m n = if okTo m n then 2 * m * n else 0) := rfl
  have HN : Hid (toN m n = if okTo m n then m * m + n * n else 0) := rfl
  rcases okTo_ways m n with ⟨h1, hr⟩ | ⟨h1, h2, hr⟩ | ⟨h1, h2, hr, b1, b2, b3, b4, b5⟩
  · have HA : Hid ((Wn m (-1000) 1000 && Wn n (-1000) 1000) = false) := by unfold Hid; rw [h1]; rfl
    rw [HX.out, HY.out, HN.out, hr]
    clear hr HX HY HN
    go_enter Try.func19, Try.ntmps19
    go_wp2_with (first | (go_at_call 22; ((with_reducible refine (l1In_any _ _ _ _).mono ?_); rintro e w' ⟨rfl, rfl⟩)) | (go_at_call 44; ((with_reducible refine (l1AllM_any m n _ _ _ _ HA.out (by simp [go_sem]) (by simp [go_sem])).mono ?_); rintro e w' ⟨rfl, rfl⟩)))
    refine bodyPost_ret (v := .tuple #[.agg #[.int .i64 0, .int .i64 0, .int .i64 0], .bool false]) (by simp [results, Try.results19, go_sem]) rfl ⟨rfl, ?_⟩
    exact (by repeat (first | exact Ext.refl _ | assumption | refine Ext.alloc ?_ _ | refine Ext.drew ?_ | refine Ext.drewN ?_ _ | refine Ext.setCell ?_ (by first | omega | (dsimp only; omega) | (simp; done) | (simp; omega)) _ | refine Ext.trans ?_ (by assumption)))
  · have HA : Hid ((Wn m (-1000) 1000 && Wn n (-1000) 1000) = false) := by unfold Hid; rw [h1, h2]; rfl
    rw [HX.out, HY.out, HN.out, hr]
    clear hr HX HY HN
    go_enter Try.func19, Try.ntmps19
    go_wp2_with (first | (go_at_call 22; ((with_reducible refine (l1In_any _ _ _ _).mono ?_); rintro e w' ⟨rfl, rfl⟩)) | (go_at_call 44; ((with_reducible refine (l1AllM_any m n _ _ _ _ HA.out (by simp [go_sem]) (by simp [go_sem])).mono ?_); rintro e w' ⟨rfl, rfl⟩)))
    refine bodyPost_ret (v := .tuple #[.agg #[.int .i64 0, .int .i64 0, .int .i64 0], .bool false]) (by simp [results, Try.results19, go_sem]) rfl ⟨rfl, ?_⟩
    exact (by repeat (first | exact Ext.refl _ | assumption | refine Ext.alloc ?_ _ | refine Ext.drew ?_ | refine Ext.drewN ?_ _ | refine Ext.setCell ?_ (by first | omega | (dsimp only; omega) | (simp; done) | (simp; omega)) _ | refine Ext.trans ?_ (by assumption)))
  · have HA : Hid ((Wn m (-1000) 1000 && Wn n (-1000) 1000) = true) := by unfold Hid; rw [h1, h2]; rfl
    rw [HX.out, HY.out, HN.out, hr]
    clear hr HX HY HN
    cases h3 : Wn (m * m + n * n) 1 1000
    · go_enter Try.func19, Try.ntmps19
      go_wp2_with (first | (go_at_call 22; ((with_reducible refine (l1In_any _ _ _ _).mono ?_); rintro e w' ⟨rfl, rfl⟩)) | (go_at_call 44; ((with_reducible refine (l1AllM_any m n _ _ _ _ HA.out (by simp [go_sem]) (by simp [go_sem])).mono ?_); rintro e w' ⟨rfl, rfl⟩)))
      refine bodyPost_ret (v := .tuple #[.agg #[.int .i64 0, .int .i64 0, .int .i64 0], .bool false]) (by simp [results, Try.results19, go_sem]) rfl ⟨rfl, ?_⟩
      exact (by repeat (first | exact Ext.refl _ | assumption | refine Ext.alloc ?_ _ | refine Ext.drew ?_ | refine Ext.drewN ?_ _ | refine Ext.setCell ?_ (by first | omega | (dsimp only; omega) | (simp; done) | (simp; omega)) _ | refine Ext.trans ?_ (by assumption)))
    · go_enter Try.func19, Try.ntmps19
      go_wp2_with (first | (go_at_call 22; ((with_reducible refine (l1In_any _ _ _ _).mono ?_); rintro e w' ⟨rfl, rfl⟩)) | (go_at_call 44; ((with_reducible refine (l1AllM_any m n _ _ _ _ HA.out (by simp [go_sem]) (by simp [go_sem])).mono ?_); rintro e w' ⟨rfl, rfl⟩)))
      refine bodyPost_ret (v := .tuple #[.agg #[.int .i64 (m * m - n * n), .int .i64 (2 * m * n), .int .i64 (m * m + n * n)], .bool true]) (by simp [results, Try.results19, go_sem]) rfl ⟨rfl, ?_⟩
      exact (by repeat (first | exact Ext.refl _ | assumption | refine Ext.alloc ?_ _ | refine Ext.drew ?_ | refine Ext.drewN ?_ _ | refine Ext.setCell ?_ (by first | omega | (dsimp only; omega) | (simp; done) | (simp; omega)) _ | refine Ext.trans ?_ (by assumption)))

end Go.Proofs.Ytbffcpnpdpgfeaa
