/- The reference's ring: validity, products, squares. -/
import Derived.Test.YtamiploliebplaaDoorRows
import Derived.Test.YtamiploliebplaaDoorMulRing
namespace Go.Proofs.YtamiploliebplaaDoor
open Go.RowKit

theorem allW4 (a b c d : Int) : AllW [a, b, c, d] (-1000000000) 1000000000 = Rg a b c d := by simp [AllW, Rg, Cf, Bool.and_assoc]
theorem l1Good_any (a b c d : Int) (w : World) :
    Calls Tryd.prog 35 #[.agg #[.int .i64 a, .int .i64 b, .int .i64 c, .int .i64 d]] w fun e w' => e = .returned (.bool (Rg a b c d)) ∧ Ext w w' := by
  go_enter Tryd.func35, Tryd.ntmps35
  go_wp2_with fail
  refine (l1All_any [a, b, c, d] _ _ _ _ _ _ rfl (by simp) (fun k hk => ?_)).mono ?_
  · rcases k with _ | _ | _ | _ | k
    · simp [go_sem]
    · simp [go_sem]
    · simp [go_sem]
    · simp [go_sem]
    · simp at hk
      omega
  rintro e w' ⟨rfl, rfl⟩
  go_wp2
  go_ret
  exact ⟨ret_bool (allW4 _ _ _ _), (by repeat (first | exact Ext.refl _ | assumption | refine Ext.alloc ?_ _ | refine Ext.drew ?_ | refine Ext.drewN ?_ _ | refine Ext.setCell ?_ (by first | omega | (dsimp only; omega) | (simp; done) | (simp; omega)) _ | refine Ext.trans ?_ (by assumption)))⟩

set_option maxHeartbeats 1000000 in
theorem l1Mul_any (a b c d e f g h : Int) (h0 : P16 a b c d e f g h) (w : World) :
    Calls Tryd.prog 73 #[.agg #[.int .i64 a, .int .i64 b, .int .i64 c, .int .i64 d], .agg #[.int .i64 e, .int .i64 f, .int .i64 g, .int .i64 h]] w fun en w' =>
      en = .returned (.agg #[.int .i64 (mrA a b c d e f g h), .int .i64 (mrB a b c d e f g h), .int .i64 (mrC a b c d e f g h), .int .i64 (mrD a b c d e f g h)]) ∧ Ext w w' := by
  obtain ⟨p1, p2, p3, p4, p5, p6, p7, p8, p9, p10, p11, p12, p13, p14, p15, p16⟩ := h0
  go_enter Tryd.func73, Tryd.ntmps73
  go_wp2
  refine bodyPost_ret (v := .agg #[.int .i64 (a * e - b * h - c * g - d * f), .int .i64 (a * f + b * e - c * h - d * g), .int .i64 (a * g + b * f + c * e - d * h), .int .i64 (a * h + b * g + c * f + d * e)]) (by simp [results, Tryd.results73, go_sem, *]) rfl ⟨rfl, ?_⟩
  exact (by repeat (first | exact Ext.refl _ | assumption | refine Ext.alloc ?_ _ | refine Ext.drew ?_ | refine Ext.drewN ?_ _ | refine Ext.setCell ?_ (by first | omega | (dsimp only; omega) | (simp; done) | (simp; omega)) _ | refine Ext.trans ?_ (by assumption)))

theorem l1AllC_any (p q : Int) (b cap : Nat) (w : World) (v : Bool) (hv : (Cf p && Cf q) = v) (h0 : w.cell? ⟨b, 0, none⟩ = some (.int .i64 p)) (h1 : w.cell? ⟨b, 1, none⟩ = some (.int .i64 q)) :
    Calls Tryd.prog 69 #[.slice (some ⟨b, 0, none⟩) 2 cap, .int .i64 (-1000000000), .int .i64 1000000000] w fun e w' => e = .returned (.bool v) ∧ w = w' :=
  (l1All2_any p q b cap _ _ w h0 h1).mono fun _ _ ⟨h, hw⟩ => ⟨h.trans (by rw [allW2]; exact congrArg _ (congrArg _ hv)), hw⟩

end Go.Proofs.YtamiploliebplaaDoor
