/- The gates of the table. -/
import Derived.Test.YtnlhonlfkmpleaaRows
import Derived.Test.YtnlhonlfkmpleaaRoot2
import Derived.Test.YtnlhonlfkmpleaaSlGate
import Derived.Test.YtnlhonlfkmpleaaSlB
namespace Go.Proofs.Ytnlhonlfkmpleaa
open Go.RowKit

theorem info_gate : (Try.prog.info? 80).map (fun i => (i.zero, i.size, i.bytes)) = some (some (.agg #[.int .i64 0, .int .i64 0, .int .i64 0]), 3, 24) := by kernel_rfl
/-- the gates of one qubit, up to the i-th kind and q-th qubit -/
def gts (n : Nat) : List Int := if n = 1 then [1, 0, 0, 5, 0, 0, 7, 0, 0] else [1, 0, 0, 1, 1, 0, 5, 0, 0, 5, 1, 0, 7, 0, 0, 7, 1, 0]
def tabL (n : Nat) : List Int := if n = 1 then gts 1 else gts 2 ++ [9, 0, 1, 9, 1, 0]
def kind (i : Nat) : Int := if i = 0 then 1 else if i = 1 then 5 else 7

def GR (w : World) (L : List Int) (k : Nat) (v : Value) (wr : World) : Prop :=
  wr.ownsRow w.heap.size 80 3 v k (IL L) ∧ (∀ j, wr.cell? ⟨w.heap.size + 1, j, none⟩ = (#[.int .i64 1, .int .i64 5, .int .i64 7] : Array Value)[j]?) ∧ (∀ g, v.ownBlock = some g → g ≠ w.heap.size + 1) ∧ Ext w wr ∧ w.heap.size + 2 ≤ wr.heap.size
theorem GR.step {w wr w1 : World} {L M : List Int} {k k' m : Nat} {v : Value} {o : Obj} {g cap : Nat} {news : List Value} (h : GR w L k v wr) (hn : news = IL M) (hk : k' = k + m) (hown : w1.ownsRow w.heap.size 80 3 (.slice (some ⟨g, 0, none⟩) (k + m) cap) (k + m) (IL L ++ news))
    (hg : (wr.alloc o).grownBy w1 v.ownBlock) (hat : v.ownBlock = some g ∨ g = (wr.alloc o).heap.size) : GR w (L ++ M) k' (.slice (some ⟨g, 0, none⟩) (k + m) cap) w1 := by
  obtain ⟨h1, h2, h3, h4, h5⟩ := h
  subst hn
  subst hk
  refine ⟨by simpa [IL] using hown, fun j => ?_, fun g' e => ?_, Ext.grown (h4.alloc _) hg fun k hk => (h1.lt k hk).1, ?_⟩
  · rw [hg.cell_far ⟨w.heap.size + 1, j, none⟩ (by simp; omega) (fun e => h3 _ e.symm rfl)]
    rw [((Ext.refl wr).alloc o).cellA (p := ⟨w.heap.size + 1, j, none⟩) (show w.heap.size + 1 < wr.heap.size by omega)]
    exact h2 j
  · have e' : g = g' := by simpa [Value.ownBlock] using e
    subst e'
    rcases hat with hat | hat
    · exact h3 _ hat
    · rw [World.size_alloc] at hat
      omega
  · have := hg.size
    simp at this
    omega

theorem gts_step {w : World} {n j p g cap : Nat} {w1 : World} (hn : n = 1 ∨ n = 2) (hj : j < 3) (hp : p < n) (h : GR w ((gts n).take ((j * n + p) * 3) ++ [kind j, p, 0]) (j * n + (p + 1)) (.slice (some ⟨g, 0, none⟩) (j * n + p + 1) cap) w1) :
    GR w ((gts n).take ((j * n + (p + 1)) * 3)) (j * n + (p + 1)) (.slice (some ⟨g, 0, none⟩) (j * n + p + 1) cap) w1 := by
  have e : (gts n).take ((j * n + p) * 3) ++ [kind j, p, 0] = (gts n).take ((j * n + (p + 1)) * 3) := by
    have h1 : j = 0 ∨ j = 1 ∨ j = 2 := by omega
    rcases hn with rfl | rfl
    · obtain rfl : p = 0 := by omega
      rcases h1 with rfl | rfl | rfl <;> rfl
    · have h2 : p = 0 ∨ p = 1 := by omega
      rcases h1 with rfl | rfl | rfl <;> rcases h2 with rfl | rfl <;> rfl
  rw [e] at h
  exact h

set_option maxHeartbeats 2000000 in
set_option maxRecDepth 20000 in
theorem tableGates_any (n : Nat) (hn : n = 1 ∨ n = 2) (w : World) :
    Calls Try.prog 50 #[.int .i64 n] w fun e w' => ∃ v, e = .returned v ∧ w'.ownsRow w.heap.size 80 3 v ((tabL n).length / 3) (IL (tabL n)) ∧ Ext w w' := by
  obtain ⟨i0, hi, hz0, hz1, hz2⟩ := info_parts info_gate
  have hn12 : 1 ≤ n ∧ n ≤ 2 := by omega
  go_enter Try.func50, Try.ntmps50
  go_wp2
  go_loopw [3, 5, 6, 10, 15] (fun v _ _ i _ wr => ∃ (j : Nat), j ≤ 3 ∧ i = .int .i64 j ∧ GR w ((gts n).take (j * n * 3)) (j * n) v wr) (fun _ _ _ i _ _ => 3 - (intOf i).toNat)
  case atStart =>
    refine ⟨0, by omega, rfl, ?_, ?_, ?_, (by repeat (first | exact Ext.refl _ | assumption | refine Ext.alloc ?_ _ | refine Ext.drew ?_ | refine Ext.drewN ?_ _ | refine Ext.setCell ?_ (by first | omega | (dsimp only; omega) | (simp; done) | (simp; omega)) _ | refine Ext.trans ?_ (by assumption))), by simp⟩
    · simpa [IL] using (World.ownsRow_lit w #[] 0 (Nat.le_refl _) (by decide) rfl : (w.alloc (.cells #[] 80)).ownsRow w.heap.size 80 3 _ 0 _).alloc _
    · intro j
      have := heap_alloc_new (w.alloc (.cells #[] 80)) (.cells #[.int .i64 1, .int .i64 5, .int .i64 7] 3)
      rw [World.size_alloc] at this
      exact cell_of_row _ _ _ _ _ _ this
    · intro g e
      simp [Value.ownBlock] at e
      omega
  case round =>
    obtain ⟨j, hj, rfl, hG⟩ := hrel
    have HG := Lib.hid hG
    have hs2 := hG.2.2.2.2
    have hck := hG.2.1 j
    clear hG
    by_cases hlt : j < 3
    · have hck' : wr.cell? ⟨w.heap.size + 1, j, none⟩ = some (.int .i64 (kind j)) := by
        rw [hck]
        have : j = 0 ∨ j = 1 ∨ j = 2 := by omega
        rcases this with rfl | rfl | rfl <;> rfl
      clear hck
      have hsb : w.heap.size + 1 < wr.heap.size := by omega
      have hlt3 : (j : Int) < 3 := by omega
      go_wp2
      go_loopw [3, 6, 15] (fun v _ q wq => ∃ (p : Nat), p ≤ n ∧ q = .int .i64 p ∧ GR w ((gts n).take ((j * n + p) * 3)) (j * n + p) v wq) (fun _ _ q _ => n - (intOf q).toNat)
      case atStart => exact ⟨0, by omega, rfl, by simpa using HG.out⟩
      case round =>
        obtain ⟨p, hp, rfl, hQ⟩ := hrel
        have HQ := Lib.hid hQ
        have ht2 := hQ.2.2.2.2
        have hjn : j * n ≤ 6 := by
          have := Nat.mul_le_mul (show j ≤ 3 by omega) (show n ≤ 2 by omega)
          omega
        clear hQ
        by_cases hlp : p < n
        · have hlp' : (p : Int) < n := by omega
          go_wp2_with (at_builtin; refine wpList_append_lies _ rfl (.tmp 18) (.tmp 22) _ rfl w.heap.size 80 i0 (.agg #[.int .i64 0, .int .i64 0, .int .i64 0]) 3 24 Try.underlying22 hi hz0 hz1 hz2 rfl (by decide) _ (j * n + p) (IL ((gts n).take ((j * n + p) * 3))) (by rfl) (HQ.out.1.alloc _) ⟨_, 0, none⟩ 1 1 [.int .i64 (kind j), .int .i64 p, .int .i64 0] (by rfl) (by rfl) (news3 rfl rfl) (by intro u hu; simp at hu; rcases hu with rfl | rfl | rfl <;> rfl) (by decide) (by simp only [maxLen]; omega) (by omega) (by simp; omega) _ (by rfl) ?_; intro g2 cap w1 hown1 hgrow hat hlt2)
          go_roundw
          case rel =>
            refine ⟨p + 1, by omega, by go_num, ?_⟩
            exact GR.step HQ.out (M := [kind j, p, 0]) rfl (by rw [Nat.add_assoc]) hown1 hgrow hat |> gts_step hn hlt hlp
          case measure => simp [intOf]; omega
        · obtain rfl : p = n := by omega
          go_wp2
          go_roundw
          case rel =>
            refine ⟨j + 1, by omega, by go_num, ?_⟩
            have := HQ.out
            rw [show j * p + p = (j + 1) * p by rw [Nat.succ_mul]] at this
            exact this
          case measure => simp [intOf]; omega
    · obtain rfl : j = 3 := by omega
      clear hck
      rcases hn with rfl | rfl
      · go_wp2
        go_ret
        exact ⟨_, rfl, HG.out.1, HG.out.2.2.2.1⟩
      · have HG2 := Lib.hid (show wr.ownsRow w.heap.size 80 3 _ 6 (IL (gts 2)) from HG.out.1)
        go_wp2_with (at_builtin; refine wpList_append_lies _ rfl (.tmp 28) (.tmp 31) _ rfl w.heap.size 80 i0 (.agg #[.int .i64 0, .int .i64 0, .int .i64 0]) 3 24 Try.underlying22 hi hz0 hz1 hz2 rfl (by decide) _ 6 (IL (gts 2)) (by rfl) (HG2.out.alloc _) ⟨_, 0, none⟩ 2 2 [.int .i64 9, .int .i64 0, .int .i64 1, .int .i64 9, .int .i64 1, .int .i64 0] (by rfl) (by rfl) (news3 rfl rfl) (by intro u hu; simp at hu; rcases hu with rfl | rfl | rfl | rfl | rfl | rfl <;> rfl) (by decide) (by simp only [maxLen]; omega) (by omega) (by simp; omega) _ (by rfl) ?_; intro g2 cap w1 hown1 hgrow hat hlt2)
        have hx1 : Ext w w1 := Ext.grown (HG.out.2.2.2.1.alloc _) hgrow fun k hk => (HG.out.1.lt k hk).1
        go_ret
        exact ⟨_, rfl, hown1, hx1⟩

theorem l28Gates_any (n : Nat) (hn : n = 1 ∨ n = 2) (w : World) :
    Calls Try.prog 48 #[.int .i64 n] w fun e w' => ∃ v, e = .returned v ∧ w'.ownsRow w.heap.size 80 3 v ((tabL n).length / 3) (IL (tabL n)) ∧ Ext w w' := by
  rcases hn with rfl | rfl
  · go_enter Try.func48, Try.ntmps48
    go_wp2
    go_ret
    exact ⟨_, rfl, own_lit3 rfl (by decide) rfl rfl, (by repeat (first | exact Ext.refl _ | assumption | refine Ext.alloc ?_ _ | refine Ext.drew ?_ | refine Ext.drewN ?_ _ | refine Ext.setCell ?_ (by first | omega | (dsimp only; omega) | (simp; done) | (simp; omega)) _ | refine Ext.trans ?_ (by assumption)))⟩
  · go_enter Try.func48, Try.ntmps48
    go_wp2
    go_ret
    exact ⟨_, rfl, own_lit3 rfl (by decide) rfl rfl, (by repeat (first | exact Ext.refl _ | assumption | refine Ext.alloc ?_ _ | refine Ext.drew ?_ | refine Ext.drewN ?_ _ | refine Ext.setCell ?_ (by first | omega | (dsimp only; omega) | (simp; done) | (simp; omega)) _ | refine Ext.trans ?_ (by assumption)))⟩

def okT (n : Int) : Bool := Wn n 1 2
def tabR (n : Int) : List Int := if okT n then tabL n.toNat else []
theorem tabR_len (n : Int) : (tabR n).length ≤ 24 ∧ (tabR n).length = (tabR n).length / 3 * 3 := by
  unfold tabR
  split
  · rename_i h
    have := Wn_iff.1 h
    have h2 : n = 1 ∨ n = 2 := by omega
    rcases h2 with rfl | rfl <;> decide
  · decide

theorem tableGates_pub (n : Int) (w : World) :
    Calls Try.prog 14 #[.int .i64 n] w fun e w' => ∃ v, e = .returned (.tuple #[v, .bool (okT n)]) ∧ w'.ownsRow w.heap.size 80 3 v ((tabR n).length / 3) (IL (tabR n)) ∧ Ext w w' := by
  cases h : Wn n 1 2
  · have HO : Hid (okT n = false) := h
    have HR : Hid (tabR n = []) := by unfold Hid tabR; rw [HO.out]; rfl
    rw [HO.out, HR.out]
    go_enter Try.func14, Try.ntmps14
    go_wp2_with (go_at_call 49; ((with_reducible refine (within_any _ _ _ _).mono ?_); rintro e w' ⟨rfl, rfl⟩))
    go_ret2
    exact ⟨_, rfl, own_nil _ _ _ _, Ext.refl _⟩
  · have HO : Hid (okT n = true) := h
    have HR : Hid (tabR n = tabL n.toNat) := by unfold Hid tabR; rw [HO.out]; rfl
    have hb := Wn_iff.1 h
    obtain ⟨m, rfl⟩ : ∃ m : Nat, n = m := ⟨n.toNat, by omega⟩
    rw [HO.out, HR.out]
    go_enter Try.func14, Try.ntmps14
    go_wp2_with (go_at_call 49; ((with_reducible refine (within_any _ _ _ _).mono ?_); rintro e w' ⟨rfl, rfl⟩))
    refine (tableGates_any m (by omega) _).mono ?_
    rintro e w1 ⟨v, rfl, hown, hx⟩
    have HW := Lib.hid hown
    clear hown
    go_wp2
    go_ret2
    exact ⟨_, rfl, HW.out, hx⟩

theorem s_tableGates_pub (n : Int) (w : World) :
    Calls Try.prog 13 #[.int .i64 n] w fun e w' => ∃ v, e = .returned (.tuple #[v, .bool (okT n)]) ∧ w'.ownsRow w.heap.size 80 3 v ((tabR n).length / 3) (IL (tabR n)) ∧ Ext w w' := by
  cases h : Wn n 1 2
  · have HO : Hid (okT n = false) := h
    have HR : Hid (tabR n = []) := by unfold Hid tabR; rw [HO.out]; rfl
    rw [HO.out, HR.out]
    go_enter Try.func13, Try.ntmps13
    go_wp2_with (go_at_call 47; ((with_reducible refine (l1In_any _ _ _ _).mono ?_); rintro e w' ⟨rfl, rfl⟩))
    go_ret2
    exact ⟨_, rfl, own_nil _ _ _ _, Ext.refl _⟩
  · have HO : Hid (okT n = true) := h
    have HR : Hid (tabR n = tabL n.toNat) := by unfold Hid tabR; rw [HO.out]; rfl
    have hb := Wn_iff.1 h
    obtain ⟨m, rfl⟩ : ∃ m : Nat, n = m := ⟨n.toNat, by omega⟩
    rw [HO.out, HR.out]
    go_enter Try.func13, Try.ntmps13
    go_wp2_with (go_at_call 47; ((with_reducible refine (l1In_any _ _ _ _).mono ?_); rintro e w' ⟨rfl, rfl⟩))
    refine (l28Gates_any m (by omega) _).mono ?_
    rintro e w1 ⟨v, rfl, hown, hx⟩
    have HW := Lib.hid hown
    clear hown
    go_wp2
    go_ret2
    exact ⟨_, rfl, HW.out, hx⟩

end Go.Proofs.Ytnlhonlfkmpleaa
