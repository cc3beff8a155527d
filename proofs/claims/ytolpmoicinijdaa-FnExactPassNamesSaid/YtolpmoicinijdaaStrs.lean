/- Slices of strings: equal, marked, held. -/
import Derived.Test.YtolpmoicinijdaaRows
import Derived.Test.YtolpmoicinijdaaOwn
import Derived.Test.YtolpmoicinijdaaSlB
import Derived.Laws.BytesArg
namespace Go.Proofs.Ytolpmoicinijdaa
open Go.RowKit
set_option linter.unusedVariables false
set_option linter.unusedSimpArgs false

theorem conv1 (W : World) (d : Int) : (convert 57 9 (.slice (some ⟨W.heap.size, 0, none⟩) 1 1)).run Try.prog (W.alloc (.cells #[.int .u8 d] 5)) = .ok (.string (strOfNums [d])) (W.alloc (.cells #[.int .u8 d] 5)) :=
  run_convert_bytes_arg (W.alloc (.cells #[.int .u8 d] 5)) 57 5 Try.underlying57 Try.underlying5 W.heap.size 0 1 1 [d] rfl (fun i hi => by
    obtain rfl : i = 0 := by omega
    rw [World.cell?_alloc_at _ _ _ _ rfl]
    rfl) 9 Try.underlying9

/-- the text of a mark -/
def MT (k : Int) : ByteArray := ⟨#[109]⟩ ++ (strOfNums [48 + k] ++ ⟨#[]⟩)
set_option maxRecDepth 20000 in
set_option maxHeartbeats 2000000 in
theorem markText_one (k : Int) (hk : 1 ≤ k ∧ k ≤ 5) (w : World) : Calls Try.prog 16 #[.int .i64 k] w fun e w' => e = .returned (.string (MT k)) ∧ Ext w w' := by
  have hc := conv1
  have HM : Hid (MT k = ⟨#[109]⟩ ++ (strOfNums [48 + k] ++ ⟨#[]⟩)) := rfl
  go_enter Try.func16, Try.ntmps16
  go_wp2
  go_loopw [0, 3] (fun kv ov wr => ((kv = .int .i64 k ∧ ov = .string ⟨#[]⟩) ∨ (kv = .int .i64 0 ∧ ov = .string (strOfNums [48 + k] ++ ⟨#[]⟩))) ∧ Ext w wr) (fun kv _ _ => (intOf kv).toNat)
  case atStart => exact ⟨.inl ⟨rfl, rfl⟩, (by repeat (first | exact Ext.refl _ | assumption | refine Ext.alloc ?_ _ | refine Ext.drew ?_ | refine Ext.drewN ?_ _ | refine Ext.setCell ?_ (by first | omega | (dsimp only; omega) | (simp; done) | (simp; omega)) _ | refine Ext.trans ?_ (by assumption)))⟩
  case round =>
    obtain ⟨hr, hE⟩ := hrel
    rcases hr with ⟨rfl, rfl⟩ | ⟨rfl, rfl⟩
    · have hk1 : k % 10 = k := by omega
      have hk2 : k / 10 = 0 := by omega
      go_wp2
      refine ⟨⟨.inr ⟨by rw [hk2], rfl⟩, (by repeat (first | exact Ext.refl _ | assumption | refine Ext.alloc ?_ _ | refine Ext.drew ?_ | refine Ext.drewN ?_ _ | refine Ext.setCell ?_ (by first | omega | (dsimp only; omega) | (simp; done) | (simp; omega)) _ | refine Ext.trans ?_ (by assumption)))⟩, ?_⟩
      rw [hk2]
      simp [intOf]
      omega
    · go_wp2
      go_ret
      exact ⟨by rw [HM.out]; rfl, hE⟩

def SLs (ss : List ByteArray) : List Value := ss.map .string
theorem sls_get {ss : List ByteArray} {j : Nat} (h : j < ss.length) : (SLs ss)[j]? = some (.string ss[j]) := by simp [SLs, h]
theorem grown_ext {W W' : World} (h : Ext W W') (row : Option Nat) : W.grownBy W' row := by
  have h' : Below W.heap.size W W' := h
  exact ⟨h'.os, h'.tape, h'.output, h'.size, fun k hk _ => h'.block k hk⟩

set_option maxHeartbeats 2000000 in
theorem eqStringS_same {n b1 b2 : Nat} {v1 v2 : Value} {ss : List ByteArray} (hl : ss.length = n) (hn : n ≤ 1000) (w : World) (h1 : w.ownsRow b1 9 1 v1 n (SLs ss)) (h2 : w.ownsRow b2 9 1 v2 n (SLs ss)) :
    Calls Try.prog 7 #[v1, v2] w fun e w' => e = .returned (.bool true) ∧ Ext w w' := by
  obtain ⟨a1, cp1, rfl, q1, q2, q3⟩ := own_shape h1
  obtain ⟨a2, cp2, rfl, q4, q5, q6⟩ := own_shape h2
  have Q3 := Lib.hid q3
  have Q6 := Lib.hid q6
  clear q3 q6 h1 h2
  go_enter Try.func7, Try.ntmps7
  go_wp2
  go_loopw [5] (fun i wr => ∃ j : Nat, j ≤ n ∧ i = .int .i64 j ∧ Ext w wr) (fun i _ => n - (intOf i).toNat)
  case atStart => exact ⟨0, by omega, rfl, Ext.refl _⟩
  case round =>
    obtain ⟨j, hj, rfl, hE⟩ := hrel
    by_cases hlt : j < n
    · have hlt' : (j : Int) < n := by omega
      obtain ⟨g1, rfl, _, hg1, hc1, _⟩ := Q3.out (by omega)
      obtain ⟨g2, rfl, _, hg2, hc2, _⟩ := Q6.out (by omega)
      have z1 : wr.cell? ⟨g1, j, none⟩ = some (.string (ss[j]'(by omega))) := (hE.cells.1 g1 j hg1).trans (hc1 _ _ (sls_get (by omega)))
      have z2 : wr.cell? ⟨g2, j, none⟩ = some (.string (ss[j]'(by omega))) := (hE.cells.1 g2 j hg2).trans (hc2 _ _ (sls_get (by omega)))
      have l1 : g1 < wr.heap.size := by have := hE.size; omega
      have l2 : g2 < wr.heap.size := by have := hE.size; omega
      clear hc1 hc2
      generalize ss[j]'(by omega) = s at *
      go_wp2
      refine wp_region_xt (by kernel_rfl) (by kernel_rfl) (fun hxc => ?_)
      repeat (first | go_big_quiet_step (fail) | quiet_step (fail))
      refine wpQuiet_nil (forall_xt ?_)
      clear hxc
      intro w3 hx3
      obtain ⟨hc3, hf3⟩ := hx3.cells
      have hz3 := hx3.size
      try simp at hz3
      have hE3 := hE.trans hx3
      go_wp2
      go_roundw
      case rel => exact ⟨j + 1, by omega, by go_num, hE3⟩
      case measure => simp [intOf]; omega
    · obtain rfl : j = n := by omega
      go_wp2
      go_ret
      exact ⟨rfl, hE⟩

set_option maxHeartbeats 2000000 in
theorem markStringS_any {b : Nat} {v : Value} {zs0 : List Value} (hl : zs0.length = 5) (w : World) (h : w.ownsRow b 9 1 v 5 zs0) :
    Calls Try.prog 8 #[v, .int .i64 1] w fun e w' => e = .returned (.int .i64 6) ∧ w'.ownsRow b 9 1 v 5 (SLs [MT 1, MT 2, MT 3, MT 4, MT 5]) ∧ w.grownBy w' v.ownBlock := by
  have H0 := Lib.hid h
  obtain ⟨a1, cp1, rfl, q1, q2, q3⟩ := own_shape h
  obtain ⟨g, rfl, hb, hg, -, -⟩ := q3 (by omega)
  have HMT := fun (j : Nat) (hj : j < 5) w => Lib.hid (markText_one (1 + (j : Int)) (by omega) w)
  clear h
  go_enter Try.func8, Try.ntmps8
  go_wp2
  go_loopw [1, 5] (fun kv i wr => ∃ (j : Nat) (zs : List Value), j ≤ 5 ∧ kv = .int .i64 (1 + j) ∧ i = .int .i64 j ∧ zs.length = 5 ∧ Hid (wr.ownsRow b 9 1 (.slice (some ⟨g, 0, none⟩) 5 cp1) 5 zs) ∧ Hid (∀ t : Nat, t < j → zs[t]? = some (.string (MT (1 + (t : Int))))) ∧ Hid (w.grownBy wr (some g))) (fun _ i _ => 5 - (intOf i).toNat)
  case atStart => exact ⟨0, zs0, by omega, rfl, rfl, hl, H0.out, fun t ht => absurd ht (by omega), World.grownBy.refl w _⟩
  case round =>
    obtain ⟨j, zs, hj, rfl, rfl, hzl, HW, HC, HG⟩ := hrel
    by_cases hlt : j < 5
    · have hlt' : (j : Int) < 5 := by omega
      go_wp2_with fail
      refine (HMT j hlt _).out.mono ?_
      rintro e w1 ⟨rfl, hx1⟩
      have HW1 := Lib.hid (own_ext HW.out hx1)
      have hf1 : ∀ k, w1.frozen? ⟨g, k, none⟩ = false := HW1.out.frozenAt
      obtain ⟨u0, q0⟩ := own_at (N := 5) HW1.out hzl (k := j) (by omega)
      generalize hms : MT (1 + (j : Int)) = ms at *
      have HMS := Lib.hid hms
      clear hms
      go_wp2
      go_roundw
      case rel =>
        have s0 := World.ownsRow.stored (HW1.out) j (.string ms)
        refine ⟨j + 1, _, by omega, ?_, by go_num, ?_, s0.1, fun t ht => ?_, ?_⟩
        · show Value.int .i64 (1 + (j : Int) + 1) = _
          first | (congr 1; done) | (congr 1; omega) | (congr 1; push_cast; omega)
        · simpa using hzl
        · rw [List.getElem?_set]
          split
          · rename_i e2
            subst e2
            first | rw [if_pos (by omega), HMS.out] | rw [HMS.out]
          · exact HC.out t (by omega)
        · exact HG.out.trans ((grown_ext hx1 _).trans s0.2)
      case measure => simp [intOf]; omega
    · obtain rfl : j = 5 := by omega
      have hzz : zs = SLs [MT 1, MT 2, MT 3, MT 4, MT 5] := by
        apply List.ext_getElem?
        intro t
        by_cases ht : t < 5
        · rw [HC.out t ht]
          have : t = 0 ∨ t = 1 ∨ t = 2 ∨ t = 3 ∨ t = 4 := by omega
          rcases this with rfl | rfl | rfl | rfl | rfl <;> rfl
        · rw [List.getElem?_eq_none (by omega), List.getElem?_eq_none (by simp [SLs]; omega)]
      have HZZ := Lib.hid hzz
      clear hzz
      go_wp2
      go_ret
      exact ⟨rfl, by rw [← HZZ.out]; exact HW.out, HG.out⟩

set_option maxHeartbeats 2000000 in
theorem heldStringS_any {b : Nat} {v : Value} (w : World) (h : w.ownsRow b 9 1 v 5 (SLs [MT 1, MT 2, MT 3, MT 4, MT 5])) :
    Calls Try.prog 9 #[v, .int .i64 1] w fun e w' => e = .returned (.int .i64 6) ∧ Ext w w' := by
  obtain ⟨a1, cp1, rfl, q1, q2, q3⟩ := own_shape h
  obtain ⟨g, rfl, hb, hg, hc, -⟩ := q3 (by omega)
  have HMT := fun (j : Nat) (hj : j < 5) w => Lib.hid (markText_one (1 + (j : Int)) (by omega) w)
  have HC : Hid (∀ j : Nat, j < 5 → w.cell? ⟨g, j, none⟩ = some (.string (MT (1 + (j : Int))))) := fun j hj => hc j _ (by
    have : j = 0 ∨ j = 1 ∨ j = 2 ∨ j = 3 ∨ j = 4 := by omega
    rcases this with rfl | rfl | rfl | rfl | rfl <;> rfl)
  clear h hc
  go_enter Try.func9, Try.ntmps9
  go_wp2
  go_loopw [1, 5] (fun kv i wr => ∃ (j : Nat), j ≤ 5 ∧ kv = .int .i64 (1 + j) ∧ i = .int .i64 j ∧ Ext w wr) (fun _ i _ => 5 - (intOf i).toNat)
  case atStart => exact ⟨0, by omega, rfl, rfl, Ext.refl _⟩
  case round =>
    obtain ⟨j, hj, rfl, rfl, hE⟩ := hrel
    by_cases hlt : j < 5
    · have hlt' : (j : Int) < 5 := by omega
      have z1 : wr.cell? ⟨g, j, none⟩ = some (.string (MT (1 + (j : Int)))) := (hE.cells.1 g j hg).trans (HC.out j hlt)
      have lg : g < wr.heap.size := by have := hE.size; omega
      have HMj := HMT j hlt
      generalize MT (1 + (j : Int)) = ms at *
      go_wp2
      refine wp_region_xt (by kernel_rfl) (by kernel_rfl) (fun hxc => ?_)
      repeat (first | go_big_quiet_step ((first | (go_at_call 16; exact calls_xt ((HMj _).out)))) | quiet_step ((first | (go_at_call 16; exact calls_xt ((HMj _).out)))))
      refine wpQuiet_nil (forall_xt ?_)
      clear hxc
      intro w3 hx3
      obtain ⟨hc3, hf3⟩ := hx3.cells
      have hz3 := hx3.size
      try simp at hz3
      have hE3 := hE.trans hx3
      go_wp2
      go_roundw
      case rel =>
        refine ⟨j + 1, by omega, ?_, by go_num, hE3⟩
        show Value.int .i64 (1 + (j : Int) + 1) = _
        first | (congr 1; done) | (congr 1; omega) | (congr 1; push_cast; omega)
      case measure => simp [intOf]; omega
    · obtain rfl : j = 5 := by omega
      go_wp2
      go_ret
      exact ⟨rfl, hE⟩

def PN : List ByteArray := [⟨#[99, 97, 110, 99, 101, 108]⟩, ⟨#[102, 111, 108, 100]⟩, ⟨#[112, 104, 97, 115, 101]⟩, ⟨#[111, 110, 101, 113, 117, 98, 105, 116]⟩, ⟨#[112, 101, 101, 112, 104, 111, 108, 101]⟩]
theorem s_passNames_any (w : World) : Calls Try.prog 5 #[] w fun e w' => ∃ v, e = .returned v ∧ w'.ownsRow w.heap.size 9 1 v 5 (SLs PN) ∧ Ext w w' := by
  go_enter Try.func5, Try.ntmps5
  go_wp2
  go_ret
  exact ⟨_, rfl, own_lit3 rfl (by decide) rfl rfl, (by repeat (first | exact Ext.refl _ | assumption | refine Ext.alloc ?_ _ | refine Ext.drew ?_ | refine Ext.drewN ?_ _ | refine Ext.setCell ?_ (by first | omega | (dsimp only; omega) | (simp; done) | (simp; omega)) _ | refine Ext.trans ?_ (by assumption)))⟩
theorem passNames_any (w : World) : Calls Try.prog 6 #[] w fun e w' => ∃ v, e = .returned v ∧ w'.ownsRow w.heap.size 9 1 v 5 (SLs PN) ∧ Ext w w' := by
  go_enter Try.func6, Try.ntmps6
  go_wp2
  go_ret
  exact ⟨_, rfl, own_lit3 rfl (by decide) rfl rfl, (by repeat (first | exact Ext.refl _ | assumption | refine Ext.alloc ?_ _ | refine Ext.drew ?_ | refine Ext.drewN ?_ _ | refine Ext.setCell ?_ (by first | omega | (dsimp only; omega) | (simp; done) | (simp; omega)) _ | refine Ext.trans ?_ (by assumption)))⟩

theorem own_far1 {w w' : World} {base : Nat} {e : TypeId} {size : Nat} {v : Value} {n : Nat} {xs : List Value} {row : Option Nat} (h : w.ownsRow base e size v n xs) (hg : w.grownBy w' row) (hne : ∀ j, row = some j → ∀ k, v.ownBlock = some k → j ≠ k) : w'.ownsRow base e size v n xs := by
  refine h.kept hg ?_
  cases hv : v.ownBlock with
  | none => exact .inl rfl
  | some k => exact .inr fun he => hne k he.symm k hv rfl

set_option maxHeartbeats 2000000 in
theorem law_PassNames (w : World) : Calls Try.prog 3 #[] w fun e w' => e = .returned (.bool true) ∧ Ext w w' := by
  go_enter Try.func3, Try.ntmps3
  go_wp2_with fail
  refine (s_passNames_any _).mono ?_
  rintro e w1 ⟨v0, rfl, o0, hx1⟩
  have O0 := Lib.hid o0
  have hk0 : Hid (∀ k, v0.ownBlock = some k → w.heap.size ≤ k ∧ k < w1.heap.size) := fun k hk => O0.out.lt k hk
  clear o0
  go_wp2_with fail
  refine (passNames_any _).mono ?_
  rintro e w2 ⟨v1, rfl, o1, hx2⟩
  have O1 := Lib.hid o1
  have hk1 : Hid (∀ k, v1.ownBlock = some k → w1.heap.size ≤ k ∧ k < w2.heap.size) := fun k hk => O1.out.lt k hk
  clear o1
  have P1 := Lib.hid (own_ext O0.out hx2)
  go_wp2_with fail
  refine (eqStringS_same rfl (by decide) _ O1.out P1.out).mono ?_
  rintro e w3 ⟨rfl, hx3⟩
  have P2 := Lib.hid (own_ext P1.out hx3)
  have Q2 := Lib.hid (own_ext O1.out hx3)
  have hE3 := (hx1.trans hx2).trans hx3
  go_wp2_with fail
  refine (markStringS_any rfl _ Q2.out).mono ?_
  rintro e w4 ⟨rfl, o4, hg4⟩
  have M4 := Lib.hid o4
  have P4 := Lib.hid (own_far1 P2.out hg4 (fun j hj k hk => by have := hk1.out j hj; have := hk0.out k hk; omega))
  have hE4 : Ext w w4 := Ext.grown hE3 hg4 (fun k hk => by have := hk1.out k hk; have := hx1.size; omega)
  clear o4 hg4
  go_wp2_with fail
  refine (heldStringS_any _ M4.out).mono ?_
  rintro e w5 ⟨rfl, hx5⟩
  have P5 := Lib.hid (own_ext P4.out hx5)
  have M5 := Lib.hid (own_ext M4.out hx5)
  go_wp2_with fail
  refine (passNames_any _).mono ?_
  rintro e w6 ⟨v2, rfl, o6, hx6⟩
  have O6 := Lib.hid o6
  have P6 := Lib.hid (own_ext P5.out hx6)
  have M6 := Lib.hid (own_ext M5.out hx6)
  clear o6
  go_wp2_with fail
  refine (eqStringS_same rfl (by decide) _ O6.out P6.out).mono ?_
  rintro e w7 ⟨rfl, hx7⟩
  have M7 := Lib.hid (own_ext M6.out hx7)
  go_wp2_with fail
  refine (heldStringS_any _ M7.out).mono ?_
  rintro e w8 ⟨rfl, hx8⟩
  have hE8 := (((hE4.trans hx5).trans hx6).trans hx7).trans hx8
  go_wp2
  go_ret
  exact ⟨rfl, hE8⟩

end Go.Proofs.Ytolpmoicinijdaa
