/- The law on TableGates. -/
import Derived.Test.YtnlhonlfkmpleaaRows
import Derived.Test.YtnlhonlfkmpleaaTable
namespace Go.Proofs.Ytnlhonlfkmpleaa
open Go.RowKit

set_option maxHeartbeats 1000000 in
theorem law_TableGates (n : Int) (w : World) :
    Calls Try.prog 3 #[.int .i64 n] w fun e w' => e = .returned (.bool true) ∧ Ext w w' := by
  have hlen := tabR_len n
  have HL := Lib.hid hlen.2
  have hn : (tabR n).length / 3 ≤ 1000000000 := by omega
  have HI := Lib.hid (tableGates_pub n)
  have HS := Lib.hid (s_tableGates_pub n)
  clear hlen
  generalize hN : (tabR n).length / 3 = N at *
  clear hN
  generalize tabR n = xs at *
  generalize okT n = ok at *
  go_enter Try.func3, Try.ntmps3
  go_wp2_with fail
  refine (HS.out _).mono ?_
  rintro e w1 ⟨v0, rfl, o0, hx1⟩
  have O0 := Lib.hid o0
  clear o0
  go_wp2_with fail
  refine (HI.out _).mono ?_
  rintro e w2 ⟨v1, rfl, o1, hx2⟩
  have O1 := Lib.hid o1
  clear o1
  have O2 := Lib.hid (own_ext O0.out hx2)
  go_wp2_with fail
  refine (eqGateS_same HL.out hn _ O1.out O2.out).mono ?_
  rintro e w3 ⟨rfl, hx3⟩
  have O3 := Lib.hid (own_ext O1.out hx3)
  go_wp2_with fail
  refine (markGateS_any (by rw [il_length]; exact HL.out) hn 1 (by omega) _ O3.out).mono ?_
  rintro e w4 ⟨rfl, o4, hg4⟩
  have O4 := Lib.hid o4
  clear o4
  have hv1 : ∀ k, v1.ownBlock = some k → w1.heap.size ≤ k := fun k hk => (O1.out.lt k hk).1
  have hx4 : Ext w1 w4 := Ext.grown (hx2.trans hx3) hg4 hv1
  have hE4 : Ext w w4 := hx1.trans hx4
  have O5 := Lib.hid (own_ext O0.out hx4)
  go_wp2_with fail
  refine (heldGateS_any hn 1 (by omega) _ O4.out).mono ?_
  rintro e w' ⟨rfl, rfl⟩
  go_wp2_with fail
  refine (HI.out _).mono ?_
  rintro e w5 ⟨v2, rfl, o6, hx5⟩
  have O6 := Lib.hid o6
  clear o6
  have O7 := Lib.hid (own_ext O5.out hx5)
  go_wp2_with fail
  refine (eqGateS_same HL.out hn _ O6.out O7.out).mono ?_
  rintro e w6 ⟨rfl, hx6⟩
  have O8 := Lib.hid (own_ext (own_ext O4.out hx5) hx6)
  go_wp2_with fail
  refine (heldGateS_any hn 1 (by omega) _ O8.out).mono ?_
  rintro e w' ⟨rfl, rfl⟩
  go_wp2
  go_ret
  exact ⟨rfl, (hE4.trans hx5).trans hx6⟩

end Go.Proofs.Ytnlhonlfkmpleaa
