/- CanonicalPhase: the reference's side. -/
import Derived.Test.YtamiploliebplaaDoorCpT
import Derived.Test.YtamiploliebplaaDoorMo
import Derived.Test.YtamiploliebplaaDoorWro
import Derived.Test.YtamiploliebplaaDoorLs
namespace Go.Proofs.YtamiploliebplaaDoor
open Go.RowKit Go.Lib
set_option linter.unusedVariables false
set_option linter.unusedSimpArgs false

theorem elt_dyadic : Elt Tryd.prog 28 46 5 40 := elt_of (z := .agg #[.int .i64 0, .int .i64 0, .int .i64 0, .int .i64 0, .int .i64 0]) Tryd.underlying28 (by kernel_rfl) rfl (by decide) (by decide)

theorem nz_eq {xs : List Int} {j : Nat} {g : Bool} (h : nzAt xs j = g) : ((at3 xs (j * 5) == 0) && ((at3 xs (j * 5 + 1) == 0) && ((at3 xs (j * 5 + 2) == 0) && ((at3 xs (j * 5 + 3) == 0) && (at3 xs (j * 5 + 4) == 0))))) = !g := by
  rw [← h]
  unfold nzAt
  rw [Bool.not_not]

set_option maxRecDepth 20000 in
set_option maxHeartbeats 8000000 in
theorem l28Canonical_any (r c : Int) {v : Value} {n : Nat} {xs : List Int} (hn : n ≤ 2000000) (hm : mOk xs n = true) (w : World) (h : RV w 5 v n xs) :
    Calls Tryd.prog 34 #[.agg #[.int .i64 r, .int .i64 c, v]] w fun en w' => ∃ v', en = .returned (.tuple #[.agg #[.int .i64 (ifZ (decide (0 ≤ fz xs n)) r), .int .i64 (ifZ (decide (0 ≤ fz xs n)) c), v'], .int .i64 (ifZ (decide (0 ≤ fz xs n)) (cpK n xs : Nat)), .bool (decide (0 ≤ fz xs n))]) ∧
      w'.ownsRow w.heap.size 46 5 v' (ifN (decide (0 ≤ fz xs n)) n) (IL (ifL (decide (0 ≤ fz xs n)) (cpM xs (cpK n xs) n))) ∧ Ext w w' := by
  obtain ⟨hl, a1, cap1, rfl, c1, c2, H⟩ := h
  have HX := Lib.hid H
  have HLX := Lib.hid hl
  have HM := Lib.hid hm
  have HKK : Hid (cpK n xs = cpB (dyAt xs (fz xs n).toNat) 7) := rfl
  clear H hl hm
  go_enter Tryd.func34, Tryd.ntmps34
  go_wp2
  go_loopw [6, 14] (fun _ i wr => ∃ j : Nat, j ≤ n ∧ i = .int .i64 j ∧ Hid (fz xs j = -1) ∧ Ext (w.alloc (.cells #[.int .i64 r, .int .i64 c, .slice a1 n cap1] 30 (0, 0)) |>.alloc (.cells #[.int .i64 0, .int .i64 0, .slice none 0 0] 30 (0, 0))) wr) (fun _ i _ => n - (intOf i).toNat)
  case atStart => exact ⟨0, by omega, rfl, rfl, Ext.refl _⟩
  case round =>
    obtain ⟨j, hj, rfl, HO, hE0⟩ := hrel
    have hE : Ext w wr := (((Ext.refl w).alloc _).alloc _).trans hE0
    have hA : wr.heap[w.heap.size]? = some (.cells #[.int .i64 r, .int .i64 c, .slice a1 n cap1] 30 (0, 0)) := (hE0.heap (by simp; omega)).trans (heap_alloc_lt (heap_alloc_new _ _))
    have hR : wr.heap[w.heap.size + 1]? = some (.cells #[.int .i64 0, .int .i64 0, .slice none 0 0] 30 (0, 0)) := (hE0.heap (by simp)).trans (heap_alloc_at _ _ _ (by simp))
    have lA := (Array.getElem?_eq_some_iff.1 hA).1
    have lR := (Array.getElem?_eq_some_iff.1 hR).1
    have HA := Lib.hid hA
    have HR := Lib.hid hR
    have zA : ∀ q, wr.cell? ⟨w.heap.size, q, none⟩ = (#[.int .i64 r, .int .i64 c, .slice a1 n cap1] : Array Value)[q]? := fun q => cell_of_row _ _ _ _ _ _ hA
    have zR : ∀ q, wr.cell? ⟨w.heap.size + 1, q, none⟩ = (#[.int .i64 0, .int .i64 0, .slice none 0 0] : Array Value)[q]? := fun q => cell_of_row _ _ _ _ _ _ hR
    have fR : ∀ q, wr.frozen? ⟨w.heap.size + 1, q, none⟩ = false := fun q => frozen_of_row _ _ _ _ _ hR
    clear hA hR
    by_cases hlt : j < n
    · have hlt' : (j : Int) < n := by omega
      obtain ⟨bx, offx, rfl, hbx, hcx⟩ := HX.out (by omega)
      have HCX : Hid (∀ W, Ext w W → ∀ p, p < n → W.cell? ⟨bx, offx + p * 5, none⟩ = some (.int .i64 (at3 xs (p * 5))) ∧ W.cell? ⟨bx, offx + p * 5 + 1, none⟩ = some (.int .i64 (at3 xs (p * 5 + 1))) ∧ W.cell? ⟨bx, offx + p * 5 + 2, none⟩ = some (.int .i64 (at3 xs (p * 5 + 2))) ∧ W.cell? ⟨bx, offx + p * 5 + 3, none⟩ = some (.int .i64 (at3 xs (p * 5 + 3))) ∧ W.cell? ⟨bx, offx + p * 5 + 4, none⟩ = some (.int .i64 (at3 xs (p * 5 + 4)))) := by
        intro W hW p hp
        have l0 := HLX.out
        refine ⟨?_, ?_, ?_, ?_, ?_⟩
        · rw [hW.cells.1 _ _ hbx, hcx _ _ (at3_get (by omega))]
        · rw [Nat.add_assoc, hW.cells.1 _ _ hbx, hcx _ _ (at3_get (by omega))]
        · rw [Nat.add_assoc, hW.cells.1 _ _ hbx, hcx _ _ (at3_get (by omega))]
        · rw [Nat.add_assoc, hW.cells.1 _ _ hbx, hcx _ _ (at3_get (by omega))]
        · rw [Nat.add_assoc, hW.cells.1 _ _ hbx, hcx _ _ (at3_get (by omega))]
      clear hcx
      obtain ⟨zx0, zx1, zx2, zx3, zx4⟩ := HCX.out wr hE j hlt
      have lx : bx < wr.heap.size := by have := hE.size; omega
      have HB : Hid (nzAt xs j = true → fz xs n = j) := fun h => fz_hit HO.out h hlt
      have HS : Hid (nzAt xs j = false → fz xs (j + 1) = -1) := fun h => fz_miss HO.out h
      cases hg : nzAt xs j
      · have hz := nz_eq hg
        simp only [Bool.not_false, Bool.and_eq_true, beq_iff_eq] at hz
        obtain ⟨e0, e1, e2, e3, e4⟩ := hz
        rw [e0] at zx0
        rw [e1] at zx1
        rw [e2] at zx2
        rw [e3] at zx3
        rw [e4] at zx4
        clear e0 e1 e2 e3 e4 HCX HB HKK
        go_wp2
        go_roundw
        case rel => exact ⟨j + 1, by omega, by go_num, HS.out hg, (by repeat (first | exact Ext.refl _ | assumption | refine Ext.alloc ?_ _ | refine Ext.drew ?_ | refine Ext.drewN ?_ _ | refine Ext.setCell ?_ (by first | omega | (dsimp only; omega) | (simp; done) | (simp; omega)) _ | refine Ext.trans ?_ (by assumption)))⟩
        case measure => simp [intOf]; omega
      · have hz := nz_eq hg
        have HF := Lib.hid (HB.out hg)
        clear HS HB
        have HK2 : Hid (cpK n xs = cpB (dyAt xs j) 7) := by have := HKK.out; unfold Hid; rw [this, HF.out]; rfl
        have HTU := fun w' => Lib.hid (l28Turn_any (dyAt xs j) (GD_rg (mOk_at HM.out hlt)).1 w')
        rw [← HK2.out] at HTU
        have HLT : Hid (cpK n xs ≤ 7) := by unfold Hid; rw [HK2.out]; exact cpB_le _ _
        clear HKK HK2
        unfold dyAt at HTU
        dsimp only at HTU
        generalize at3 xs (j * 5) = x0 at *
        generalize at3 xs (j * 5 + 1) = x1 at *
        generalize at3 xs (j * 5 + 2) = x2 at *
        generalize at3 xs (j * 5 + 3) = x3 at *
        generalize at3 xs (j * 5 + 4) = x4 at *
        obtain ⟨KK, hKK⟩ : ∃ K, cpK n xs = K := ⟨_, rfl⟩
        simp only [hKK] at HTU HLT
        have HKE := Lib.hid (And.intro hKK trivial)
        clear hKK
        clear hg
        go_wp2_with fail
        all_goals try (exfalso; revert hz; subst_vars; decide)
        all_goals subst_vars
        all_goals
          clear hz
          refine (HTU _).out.mono ?_
          rintro e wt ⟨rfl, hxt⟩
          have hEt : Ext w wt := (by repeat (first | (with_reducible refine Ext.setCell ?_ (by first | (simp; done) | (simp; omega)) _) | with_reducible refine Ext.alloc ?_ _ | with_reducible refine Ext.drew ?_ | with_reducible refine Ext.drewN ?_ _ | with_reducible assumption | with_reducible exact Ext.refl _ | with_reducible refine Ext.trans ?_ (by with_reducible assumption)))
          have hAt := Lib.hid ((hxt.heap (by simp; omega)).trans (heap_alloc_lt HA.out))
          have hRt := Lib.hid ((hxt.heap (by simp; omega)).trans (heap_alloc_lt HR.out))
          have lAt := (Array.getElem?_eq_some_iff.1 hAt.out).1
          have lRt := (Array.getElem?_eq_some_iff.1 hRt.out).1
          have zAt : ∀ q, wt.cell? ⟨w.heap.size, q, none⟩ = (#[.int .i64 r, .int .i64 c, .slice (some ⟨bx, offx, none⟩) n cap1] : Array Value)[q]? := fun q => cell_of_row _ _ _ _ _ _ hAt.out
          clear HTU zx0 zx1 zx2 zx3 zx4 zA zR fR hE0 hE hxt lA lR HA HR lx HO
          go_wp2
          go_loopw [10, 32] (fun _ i wq => ∃ (p : Nat) (v' : Value), p ≤ n ∧ i = .int .i64 p ∧ Hid (wq.ownsRow (wt.heap.size + 1) 46 5 v' p (IL (cpM xs KK p))) ∧ Hid (wq.heap[wt.heap.size]? = some (.cells #[.int .i64 r, .int .i64 c, v'] 30 (0, 0))) ∧ Ext wt wq) (fun _ i _ => n - (intOf i).toNat)
          case atStart => exact ⟨0, .slice none 0 0, by omega, rfl, own_nil _ _ _ _, heap_alloc_new _ _, (by repeat (first | exact Ext.refl _ | assumption | refine Ext.alloc ?_ _ | refine Ext.drew ?_ | refine Ext.drewN ?_ _ | refine Ext.setCell ?_ (by first | omega | (dsimp only; omega) | (simp; done) | (simp; omega)) _ | refine Ext.trans ?_ (by assumption)))⟩
          case round =>
            clear zAt
            obtain ⟨p, v', hp, rfl, hO, hM, hE⟩ := hrel
            obtain ⟨av, cv, rfl, _, _, _⟩ := own_shape hO.out
            have lM := (Array.getElem?_eq_some_iff.1 hM.out).1
            have zM : ∀ q, wr.cell? ⟨wt.heap.size, q, none⟩ = (#[.int .i64 r, .int .i64 c, .slice av p cv] : Array Value)[q]? := fun q => cell_of_row _ _ _ _ _ _ hM.out
            by_cases hlp : p < n
            · have hlp' : (p : Int) < n := by omega
              obtain ⟨zy0, zy1, zy2, zy3, zy4⟩ := HCX.out wr (hEt.trans hE) p hlp
              have lx : bx < wr.heap.size := by have := hE.size; have := hEt.size; omega
              have HTT := fun w' => Lib.hid (l1Turn_any (dyAt xs p) (GD_rg (mOk_at HM.out hlp)).1 KK HLT.out w')
              have HSU : Hid (IL (cpM xs KK (p + 1)) = IL (cpM xs KK p) ++ [.int .i64 (turns KK (dyAt xs p)).a, .int .i64 (turns KK (dyAt xs p)).b, .int .i64 (turns KK (dyAt xs p)).c, .int .i64 (turns KK (dyAt xs p)).d, .int .i64 (exAt xs p)]) := moL_succ _ _ _
              generalize turns KK (dyAt xs p) = Q at *
              unfold dyAt at HTT
              unfold exAt at HSU
              dsimp only at HTT
              generalize at3 xs (p * 5) = y0 at *
              generalize at3 xs (p * 5 + 1) = y1 at *
              generalize at3 xs (p * 5 + 2) = y2 at *
              generalize at3 xs (p * 5 + 3) = y3 at *
              generalize at3 xs (p * 5 + 4) = y4 at *
              go_wp2
              refine Wr.wp_region_wra (m := 53) (fun n => .slice (some ⟨n, 0, none⟩) 1 1) 46 #[.int .i64 Q.a, .int .i64 Q.b, .int .i64 Q.c, .int .i64 Q.d, .int .i64 y4] [⟨wt.heap.size, 30, #[.int .i64 r, .int .i64 c, .slice av p cv]⟩, ⟨wr.heap.size, 46, #[.int .i64 y0, .int .i64 y1, .int .i64 y2, .int .i64 y3, .int .i64 y4]⟩] (by kernel_rfl) (by kernel_rfl) rfl (by simp; try omega) ?_ ?_
              · intro s hs
                rcases s with _ | _ | s
                · exact (show (World.heap _)[wt.heap.size]? = some (Obj.cells #[.int .i64 r, .int .i64 c, .slice av p cv] 30 (0, 0)) from heap_alloc_lt hM.out)
                · exact (show (World.heap _)[wr.heap.size]? = some (Obj.cells #[.int .i64 y0, .int .i64 y1, .int .i64 y2, .int .i64 y3, .int .i64 y4] 46 (0, 0)) from heap_alloc_new _ _)
                · simp at hs
                  try omega
              (refine Wr.wa_plain ?_; apply Exists.intro; refine ⟨?_, ?_⟩; (first | (go_simp; (try intro x); (try go_bits); rfl)); simp only [Act.put, List.setIfInBounds_toArray, List.set_cons_succ, List.set_cons_zero, List.nil_append, List.cons_append])
              refine Wr.wa_read 0 (wt.heap.size) 30 #[.int .i64 r, .int .i64 c, .slice av p cv] (by simp) rfl rfl rfl (fun hr => ?_)
              apply Exists.intro
              refine ⟨?_, ?_⟩
              · go_simp
                (try intro x)
                (try go_bits)
                rfl
              clear hr
              simp only [Act.put, List.setIfInBounds_toArray, List.set_cons_succ, List.set_cons_zero, List.nil_append, List.cons_append]
              (refine Wr.wa_plain ?_; apply Exists.intro; refine ⟨?_, ?_⟩; (first | (go_simp; (try intro x); (try go_bits); rfl)); simp only [Act.put, List.setIfInBounds_toArray, List.set_cons_succ, List.set_cons_zero, List.nil_append, List.cons_append])
              refine Wr.wa_read 1 (wr.heap.size) 46 #[.int .i64 y0, .int .i64 y1, .int .i64 y2, .int .i64 y3, .int .i64 y4] (by simp) rfl rfl rfl (fun hr => ?_)
              apply Exists.intro
              refine ⟨?_, ?_⟩
              · go_simp
                (try intro x)
                (try go_bits)
                rfl
              clear hr
              simp only [Act.put, List.setIfInBounds_toArray, List.set_cons_succ, List.set_cons_zero, List.nil_append, List.cons_append]
              (refine Wr.wa_plain ?_; apply Exists.intro; refine ⟨?_, ?_⟩; (first | (go_simp; (try intro x); (try go_bits); rfl)); simp only [Act.put, List.setIfInBounds_toArray, List.set_cons_succ, List.set_cons_zero, List.nil_append, List.cons_append])
              (refine Wr.wa_plain ?_; apply Exists.intro; refine ⟨?_, ?_⟩; (first | (go_simp; (try intro x); (try go_bits); rfl) | (go_simp; intro x; go_at_call 37; exact (HTT _).out)); simp only [Act.put, List.setIfInBounds_toArray, List.set_cons_succ, List.set_cons_zero, List.nil_append, List.cons_append])
              (refine Wr.wa_plain ?_; apply Exists.intro; refine ⟨?_, ?_⟩; (first | (go_simp; (try intro x); (try go_bits); rfl)); simp only [Act.put, List.setIfInBounds_toArray, List.set_cons_succ, List.set_cons_zero, List.nil_append, List.cons_append])
              refine Wr.wa_read 1 (wr.heap.size) 46 #[.int .i64 y0, .int .i64 y1, .int .i64 y2, .int .i64 y3, .int .i64 y4] (by simp) rfl rfl rfl (fun hr => ?_)
              apply Exists.intro
              refine ⟨?_, ?_⟩
              · go_simp
                (try intro x)
                (try go_bits)
                rfl
              clear hr
              simp only [Act.put, List.setIfInBounds_toArray, List.set_cons_succ, List.set_cons_zero, List.nil_append, List.cons_append]
              (refine Wr.wa_plain ?_; apply Exists.intro; refine ⟨?_, ?_⟩; (first | (go_simp; (try intro x); (try go_bits); rfl)); simp only [Act.put, List.setIfInBounds_toArray, List.set_cons_succ, List.set_cons_zero, List.nil_append, List.cons_append])
              refine Wr.wa_stop (fun _ => by kernel_rfl) (by kernel_rfl) (by rfl) (fun W hW => ?_) (fun w3 B3 hg3 hs3 hB3 hm3 => ?_)
              · first | (go_simp; done) | (go_simp; rfl)
              simp only [Act.put, List.setIfInBounds_toArray, List.set_cons_succ, List.set_cons_zero, List.nil_append, List.cons_append]
              have hb3_0 : w3.heap[wt.heap.size]? = some (.cells #[.int .i64 r, .int .i64 c, .slice av p cv] 30 (0, 0)) := hs3 0 (by simp)
              have hb3_1 : w3.heap[wr.heap.size]? = some (.cells #[.int .i64 y0, .int .i64 y1, .int .i64 y2, .int .i64 y3, .int .i64 y4] 46 (0, 0)) := hs3 1 (by simp)
              clear hs3
              simp only [List.map_cons, List.map_nil] at hg3
              have hO0 := own_ext hO.out ((Ext.refl wr).alloc (.cells #[.int .i64 y0, .int .i64 y1, .int .i64 y2, .int .i64 y3, .int .i64 y4] 46 (0, 0)))
              have hg := GX.trans (((GX.refl [wt.heap.size, wr.heap.size] wr).alloc _)) hg3
              have hO3 := Lib.hid (own_gxl hO.out hg (by intro k hk; simp at hk; omega))
              have lwr := hE.size
              have hE3 := Lib.hid (((GX.ofExt (S := [wt.heap.size, wr.heap.size]) hE).trans hg).toExt (by intro k hk; simp at hk; omega))
              have hs3 := hg3.size
              simp only [World.size_alloc] at hs3
              have l3 : wt.heap.size < w3.heap.size := by omega
              have z3 : ∀ q, w3.cell? ⟨wt.heap.size, q, none⟩ = (#[.int .i64 r, .int .i64 c, .slice av p cv] : Array Value)[q]? := fun q => cell_of_row _ _ _ _ _ _ hb3_0
              have f3 : ∀ q, w3.frozen? ⟨wt.heap.size, q, none⟩ = false := fun q => frozen_of_row _ _ _ _ _ hb3_0
              have HB3 := Lib.hid hb3_0
              have HM3 := Lib.hid hm3
              have b3 : wt.heap.size + 1 ≤ w3.heap.size := by omega
              clear hg3 hg hO0 hb3_0 hb3_1 hm3 hB3 zM zy0 zy1 zy2 zy3 zy4 lx HTT HCX hE hM hO
              go_wp2_with (at_builtin; go_loud (refine wpList_append_rv rfl elt_dyadic rfl _ p (cpM xs KK p) rfl hO3.out _ 1 [Q.a, Q.b, Q.c, Q.d, y4] rfl (rv_heap HM3.out rfl rfl (by omega) (by decide)) (by omega) b3 ?_); intro v4 w4 hown4 hgrow4 hiff4; obtain ⟨a4, c4, rfl, _, _, _⟩ := own_shape hown4; have hb4 := heap_grownB hgrow4 hO3.out (by omega) HB3.out; have z4 : ∀ q, w4.cell? ⟨wt.heap.size, q, none⟩ = (#[.int .i64 r, .int .i64 c, .slice av p cv] : Array Value)[q]? := (fun q => cell_of_row _ _ _ _ _ _ hb4); have f4 : ∀ q, w4.frozen? ⟨wt.heap.size, q, none⟩ = false := (fun q => frozen_of_row _ _ _ _ _ hb4))
              go_roundw
              case rel =>
                have e := il_append (cpM xs KK p) [Q.a, Q.b, Q.c, Q.d, y4]
                rw [e, show IL [Q.a, Q.b, Q.c, Q.d, y4] = [.int .i64 Q.a, .int .i64 Q.b, .int .i64 Q.c, .int .i64 Q.d, .int .i64 y4] from rfl, ← HSU.out] at hown4
                exact ⟨p + 1, _, by omega, by go_num, own_set hown4 (by simp) _, heap_set_at hb4 2 _, Ext.setCell (ext_grownB hE3.out hgrow4 hO3.out (by omega)) (by simp) _⟩
              case measure => simp [intOf]; omega
            · obtain rfl : p = n := by omega
              have hRq := (hE.heap lRt).trans hRt.out
              have lRq := (Array.getElem?_eq_some_iff.1 hRq).1
              have zRq : ∀ q, wr.cell? ⟨w.heap.size + 1, q, none⟩ = (#[.int .i64 0, .int .i64 0, .slice none 0 0] : Array Value)[q]? := fun q => cell_of_row _ _ _ _ _ _ hRq
              have fRq : ∀ q, wr.frozen? ⟨w.heap.size + 1, q, none⟩ = false := fun q => frozen_of_row _ _ _ _ _ hRq
              clear hRq
              have hd : decide (0 ≤ fz xs p) = true := by rw [HF.out]; simp
              have HD := Lib.hid hd
              have HE := Lib.hid (hEt.trans hE)
              clear hd
              go_wp2
              refine bodyPost_ret (v := .tuple #[.agg #[.int .i64 r, .int .i64 c, .slice av p cv], .int .i64 KK, .bool true]) (by simp [results, Tryd.results34, go_sem, *]) rfl ?_
              rw [HD.out, HKE.out.1]
              have hx := HE.out
              have hl := hEt.size
              exact ⟨_, rfl, (by refine own_base (base := wt.heap.size + 1) ?_ (by first | omega | (simp; omega)); repeat (first | (with_reducible exact hO.out) | (with_reducible refine own_set ?_ (by first | omega | (simp; done) | (simp; omega)) _) | (with_reducible refine own_ext ?_ ((Ext.refl _).alloc _)) | (with_reducible refine own_ext ?_ (Ext.refl _).drew) | (with_reducible refine own_ext ?_ ((Ext.refl _).drewN _)) | (exact hO.out))), (by repeat (first | (with_reducible refine Ext.setCell ?_ (by first | (simp; done) | (simp; omega)) _) | with_reducible refine Ext.alloc ?_ _ | with_reducible refine Ext.drew ?_ | with_reducible refine Ext.drewN ?_ _ | with_reducible assumption | with_reducible exact Ext.refl _ | with_reducible refine Ext.trans ?_ (by with_reducible assumption)))⟩
    · obtain rfl : j = n := by omega
      clear HKK
      go_wp2
      refine bodyPost_ret (v := .tuple #[.agg #[.int .i64 0, .int .i64 0, .slice none 0 0], .int .i64 0, .bool false]) (by simp [results, Tryd.results34, go_sem, *]) rfl ?_
      rw [HO.out]
      exact ⟨_, rfl, own_nil _ _ _ _, (by repeat (first | (with_reducible refine Ext.setCell ?_ (by first | (simp; done) | (simp; omega)) _) | with_reducible refine Ext.alloc ?_ _ | with_reducible refine Ext.drew ?_ | with_reducible refine Ext.drewN ?_ _ | with_reducible assumption | with_reducible exact Ext.refl _ | with_reducible refine Ext.trans ?_ (by with_reducible assumption)))⟩

set_option maxHeartbeats 2000000 in
theorem s_canonicalPhase_any (r c : Int) {v : Value} {n : Nat} {xs : List Int} (hn : n ≤ 2000000) (w : World) (h : RV w 5 v n xs) :
    Calls Tryd.prog 13 #[.agg #[.int .i64 r, .int .i64 c, v]] w fun en w' => ∃ v', en = .returned (.tuple #[.agg #[.int .i64 (ifZ (cpOk r c n xs) r), .int .i64 (ifZ (cpOk r c n xs) c), v'], .int .i64 (ifZ (cpOk r c n xs) (cpK n xs : Nat)), .bool (cpOk r c n xs)]) ∧
      w'.ownsRow w.heap.size 46 5 v' (ifN (cpOk r c n xs) n) (IL (ifL (cpOk r c n xs) (cpM xs (cpK n xs) n))) ∧ Ext w w' := by
  have HV := fun w' (hx : Ext w w') => Lib.hid (l3Good_any r c w' (h.ext hx))
  have HC := fun hm w' (hx : Ext w w') => Lib.hid (l28Canonical_any r c hn hm w' (h.ext hx))
  have HO : Hid (cpOk r c n xs = (mGood r c n xs && decide (0 ≤ fz xs n))) := rfl
  obtain ⟨_, a1, cap1, rfl, _⟩ := h
  cases g1 : mGood r c n xs
  · rw [g1] at HV HO
    have HF : Hid (cpOk r c n xs = false) := HO.out.trans (by simp)
    clear HC
    go_enter Tryd.func13, Tryd.ntmps13
    go_wp2_with fail
    refine ((HV _ (by repeat (first | exact Ext.refl _ | assumption | refine Ext.alloc ?_ _ | refine Ext.drew ?_ | refine Ext.drewN ?_ _ | refine Ext.setCell ?_ (by first | omega | (dsimp only; omega) | (simp; done) | (simp; omega)) _ | refine Ext.trans ?_ (by assumption)))).out).mono ?_
    rintro e w1 ⟨rfl, hx1⟩
    obtain ⟨hc1, hf1⟩ := hx1.cells
    have hz1 := hx1.size
    try simp at hz1
    have hs1_0 := sz2 (a := w.heap.size) (b := w1.heap.size) (by omega)
    go_wp2
    refine bodyPost_ret (v := .tuple #[.agg #[.int .i64 0, .int .i64 0, .slice none 0 0], .int .i64 0, .bool false]) (by simp [results, Tryd.results13, go_sem, *]) rfl ?_
    rw [HF.out]
    exact ⟨_, rfl, own_nil _ _ _ _, (by repeat (first | (with_reducible refine Ext.setCell ?_ (by first | (simp; done) | (simp; omega)) _) | with_reducible refine Ext.alloc ?_ _ | with_reducible refine Ext.drew ?_ | with_reducible refine Ext.drewN ?_ _ | with_reducible assumption | with_reducible exact Ext.refl _ | with_reducible refine Ext.trans ?_ (by with_reducible assumption)))⟩
  · have HC := HC (mGood_facts g1).2.2.2
    rw [g1] at HV HO
    have HF : Hid (decide (0 ≤ fz xs n) = cpOk r c n xs) := HO.out.symm
    simp only [HF.out] at HC
    clear HO HF
    generalize cpOk r c n xs = o at *
    generalize cpK n xs = KK at *
    generalize cpM xs KK n = L at *
    go_enter Tryd.func13, Tryd.ntmps13
    go_wp2_with fail
    refine ((HV _ (by repeat (first | exact Ext.refl _ | assumption | refine Ext.alloc ?_ _ | refine Ext.drew ?_ | refine Ext.drewN ?_ _ | refine Ext.setCell ?_ (by first | omega | (dsimp only; omega) | (simp; done) | (simp; omega)) _ | refine Ext.trans ?_ (by assumption)))).out).mono ?_
    rintro e w1 ⟨rfl, hx1⟩
    obtain ⟨hc1, hf1⟩ := hx1.cells
    have hz1 := hx1.size
    try simp at hz1
    have hs1_0 := sz2 (a := w.heap.size) (b := w1.heap.size) (by omega)
    go_wp2_with fail
    refine (HC _ (by repeat (first | (with_reducible refine Ext.setCell ?_ (by first | (simp; done) | (simp; omega)) _) | with_reducible refine Ext.alloc ?_ _ | with_reducible refine Ext.drew ?_ | with_reducible refine Ext.drewN ?_ _ | with_reducible assumption | with_reducible exact Ext.refl _ | with_reducible refine Ext.trans ?_ (by with_reducible assumption)))).out.mono ?_
    rintro e w2 ⟨v', rfl, o2, hx2⟩
    obtain ⟨hc2, hf2⟩ := hx2.cells
    have hz2 := hx2.size
    try simp at hz2
    have hs2_0 := sz2 (a := w.heap.size) (b := w2.heap.size) (by omega)
    obtain ⟨a2, c2, rfl, _, _, q⟩ := own_shape o2
    have O2 := Lib.hid o2
    clear o2 q
    have h1 := hx1.size
    simp at h1
    go_wp2
    refine bodyPost_ret (v := .tuple #[.agg #[.int .i64 (ifZ o r), .int .i64 (ifZ o c), .slice a2 (ifN o n) c2], .int .i64 (ifZ o KK), .bool o]) (by simp [results, Tryd.results13, go_sem, *]) rfl ?_
    exact ⟨_, rfl, (by refine own_base (base := w1.heap.size) ?_ (by first | omega | (simp; omega)); repeat (first | (with_reducible exact O2.out) | (with_reducible refine own_set ?_ (by first | omega | (simp; done) | (simp; omega)) _) | (with_reducible refine own_ext ?_ ((Ext.refl _).alloc _)) | (with_reducible refine own_ext ?_ (Ext.refl _).drew) | (with_reducible refine own_ext ?_ ((Ext.refl _).drewN _)) | (exact O2.out))), (by repeat (first | (with_reducible refine Ext.setCell ?_ (by first | (simp; done) | (simp; omega)) _) | with_reducible refine Ext.alloc ?_ _ | with_reducible refine Ext.drew ?_ | with_reducible refine Ext.drewN ?_ _ | with_reducible assumption | with_reducible exact Ext.refl _ | with_reducible refine Ext.trans ?_ (by with_reducible assumption)))⟩

end Go.Proofs.YtamiploliebplaaDoor
