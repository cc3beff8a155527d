/- MulMatrix: the reference's loops. -/
import Derived.Test.YtnlhonlfkmpleaaMuT
namespace Go.Proofs.Ytnlhonlfkmpleaa
open Go.RowKit Go.Lib
set_option linter.unusedVariables false
set_option linter.unusedSimpArgs false

set_option maxRecDepth 20000 in
set_option maxHeartbeats 8000000 in
theorem times_any (bc : Nat) (R K C : Nat) (bR : R ≤ 32) (bK : K ≤ 32) (bC : C ≤ 32) {v1 v2 : Value} {xs ys : List Int} (mx : mOk xs (R * K) = true) (my : mOk ys (K * C) = true) (w0 w : World) (h1 : RV w0 5 v1 (R * K) xs) (h2 : RV w0 5 v2 (K * C) ys) (hx0 : Ext w0 w) (hbc : w0.heap.size ≤ bc)
    (hb : w.heap[bc]? = some (.cells #[.bool false] 84 (0, 0))) :
    Calls Try.prog 92 #[.pointer (some ⟨bc, 0, none⟩), .agg #[.int .i64 R, .int .i64 K, v1], .agg #[.int .i64 K, .int .i64 C, v2]] w fun en w' => ∃ (a : Option Addr) (cap : Nat) (β : Bool) (L : List Int), en = .returned (.agg #[.int .i64 R, .int .i64 C, .slice a (R * C) cap]) ∧
      w'.ownsRow w.heap.size 34 5 (.slice a (R * C) cap) (R * C) (IL L) ∧ w'.heap[bc]? = some (.cells #[.bool β] 84 (0, 0)) ∧ GX [bc] w w' ∧
      (β = false → mmTo xs ys K C (R * C) = true ∧ L = mmLM xs ys K C (R * C)) ∧ (β = true → mmTo xs ys K C (R * C) = false) := by
  obtain ⟨i0, hi, iz0, iz1, iz2⟩ := info_parts info_dyadic
  obtain ⟨hlx, a1, cap1, rfl, -, -, hhx⟩ := h1
  obtain ⟨hly, a2, cap2, rfl, -, -, hhy⟩ := h2
  have HX := Lib.hid hhx
  have HY := Lib.hid hhy
  have HLX := Lib.hid hlx
  have HLY := Lib.hid hly
  have MX := Lib.hid mx
  have MY := Lib.hid my
  clear hhx hhy hlx hly mx my
  have lbc : bc < w.heap.size := (Array.getElem?_eq_some_iff.1 hb).1
  have hsw : w0.heap.size ≤ w.heap.size := hx0.size
  have hRC : R * C ≤ 1024 := Nat.mul_le_mul bR bC
  have hRi : (0 : Int) ≤ R ∧ (R : Int) ≤ 32 := by omega
  have hKi : (0 : Int) ≤ K ∧ (K : Int) ≤ 32 := by omega
  have hCi : (0 : Int) ≤ C ∧ (C : Int) ≤ 32 := by omega
  have HB0 := Lib.hid hb
  clear hb
  go_enter Try.func92, Try.ntmps92
  go_wp2
  go_loopw [8, 9, 10, 11] (fun s8 _ _ _ wr => ∃ (i : Nat) (v : Value) (β : Bool) (L : List Int), i ≤ R ∧ s8 = .int .i64 i ∧ Hid (TS bc R K C (.slice a1 (R * K) cap1) (.slice a2 (K * C) cap2) w β L (i * C) v wr) ∧ Hid (β = false → mmTo xs ys K C (i * C) = true ∧ L = mmLM xs ys K C (i * C)) ∧ Hid (β = true → mmTo xs ys K C (R * C) = false)) (fun s8 _ _ _ _ => R - (intOf s8).toNat)
  case atStart =>
    refine ⟨0, .slice none 0 0, false, [], by omega, rfl, ?_, fun _ => ⟨by rw [Nat.zero_mul]; rfl, by rw [Nat.zero_mul]; rfl⟩, fun h => by cases h⟩
    unfold Hid
    rw [Nat.zero_mul]
    exact ⟨own_nil _ _ _ _, heap_alloc_lt (heap_alloc_lt (heap_alloc_lt (heap_alloc_lt HB0.out))), heap_alloc_lt (heap_alloc_lt (heap_alloc_lt (heap_alloc_new _ _))), heap_alloc_lt (heap_alloc_lt (heap_alloc_at _ _ _ (by simp))),
      heap_alloc_lt (heap_alloc_at _ _ _ (by simp)), heap_alloc_at _ _ _ (by simp), ((((GX.refl _ _).alloc _).alloc _).alloc _).alloc _⟩
  case round =>
    obtain ⟨i, v, β, L, hi', rfl, HT, HG, HBd⟩ := hrel
    obtain ⟨av, cv, rfl, -, -, -⟩ := own_shape HT.out.own
    have lr := HT.out.lt
    by_cases hlt : i < R
    · have hlt' : (i : Int) < R := by omega
      have zA : ∀ q, wr.cell? ⟨w.heap.size, q, none⟩ = (#[.int .i64 R, .int .i64 K, .slice a1 (R * K) cap1] : Array Value)[q]? := fun q => cell_of_row _ _ _ _ _ _ HT.out.a
      go_wp2
      clear zA
      go_loopw [9, 10, 11] (fun s9 _ _ wq => ∃ (j : Nat) (v : Value) (β : Bool) (L : List Int), j ≤ C ∧ s9 = .int .i64 j ∧ Hid (TS bc R K C (.slice a1 (R * K) cap1) (.slice a2 (K * C) cap2) w β L (i * C + j) v wq) ∧ Hid (β = false → mmTo xs ys K C (i * C + j) = true ∧ L = mmLM xs ys K C (i * C + j)) ∧ Hid (β = true → mmTo xs ys K C (R * C) = false)) (fun s9 _ _ _ => C - (intOf s9).toNat)
      case atStart => exact ⟨0, .slice av (i * C) cv, β, L, by omega, rfl, HT, HG, HBd⟩
      case round =>
        rename World => wq
        clear HT HG HBd lr
        clear L β
        obtain ⟨j, v, β, L, hj, rfl, HT, HG, HBd⟩ := hrel
        obtain ⟨av, cv, rfl, -, -, -⟩ := own_shape HT.out.own
        have lq := HT.out.lt
        have zB : ∀ q, wq.cell? ⟨w.heap.size + 1, q, none⟩ = (#[.int .i64 K, .int .i64 C, .slice a2 (K * C) cap2] : Array Value)[q]? := fun q => cell_of_row _ _ _ _ _ _ HT.out.b
        by_cases hlj : j < C
        · have hlj' : (j : Int) < C := by omega
          have HLQ : Hid (∀ g, (Value.slice av (i * C + j) cv).ownBlock = some g → g < wq.heap.size) := fun g hg => (HT.out.own.lt g hg).2
          go_wp2
          clear zB
          go_loopw [11] (fun s11 wk => ∃ (k : Nat) (β' : Bool) (Z : R4) (z : Nat), k ≤ K ∧ s11 = .int .i64 k ∧ Z.rg = true ∧ z ≤ 60 ∧ Hid (TS bc R K C (.slice a1 (R * K) cap1) (.slice a2 (K * C) cap2) w β' L (i * C + j) (.slice av (i * C + j) cv) wk) ∧
            Hid (wk.heap[wq.heap.size]? = some (.cells #[.int .i64 Z.a, .int .i64 Z.b, .int .i64 Z.c, .int .i64 Z.d, .int .i64 z] 34 (0, 0))) ∧
            Hid (β' = false → β = false ∧ mlO xs ys K C i j k = true ∧ mlV xs ys K C i j k = (Z, (z : Int))) ∧ Hid (β' = true → mmTo xs ys K C (R * C) = false)) (fun s11 _ => K - (intOf s11).toNat)
          case atStart => exact ⟨0, β, R4.zero, 0, by omega, rfl, rg_zero, by omega, HT.out.ext ((Ext.refl wq).alloc _), heap_alloc_new _ _, fun h => ⟨h, rfl, rfl⟩, HBd⟩
          case round =>
            rename World => wk
            obtain ⟨k, β', Z, z, hk, rfl, hZr, hz, HT2, HS, HV, HBD⟩ := hrel
            have lS := (Array.getElem?_eq_some_iff.1 HS.out).1
            clear HT HBd
            by_cases hlk : k < K
            · have hlk' : (k : Int) < K := by omega
              cases β'
              · have hE : Ext w0 wk := ((GX.ofExt (S := [bc]) hx0).trans HT2.out.gx).toExt (by simp; omega)
                obtain ⟨hβ, hO, hV⟩ := HV.out rfl
                have hG1 := mOk_at MX.out (row_lt hlt hlk)
                have hG2 := mOk_at MY.out (row_lt hlk hlj)
                obtain ⟨p, hp⟩ : ∃ p, i * K + k = p := ⟨_, rfl⟩
                obtain ⟨q, hq⟩ : ∃ q, k * C + j = q := ⟨_, rfl⟩
                have hpn : p < R * K := by rw [← hp]; exact row_lt hlt hlk
                have hqn : q < K * C := by rw [← hq]; exact row_lt hlk hlj
                have hpi : (i : Int) * K + k = (p : Int) := by rw [← hp]; push_cast; rfl
                have hqi : (k : Int) * C + j = (q : Int) := by rw [← hq]; push_cast; rfl
                have hpp : (p : Int) < (R : Int) * K := by
                  have : ((R * K : Nat) : Int) = (R : Int) * K := by push_cast; rfl
                  omega
                have hqq : (q : Int) < (K : Int) * C := by
                  have : ((K * C : Nat) : Int) = (K : Int) * C := by push_cast; rfl
                  omega
                have hm1 := mul_bd (a := (i : Int)) (b := (K : Int)) (A := 32) (B := 32) (by omega) (by omega) (by omega) (by omega)
                have hm2 := mul_bd (a := (k : Int)) (b := (C : Int)) (A := 32) (B := 32) (by omega) (by omega) (by omega) (by omega)
                rw [hp] at hG1
                rw [hq] at hG2
                obtain ⟨r1, u1, u2, _⟩ := GD_rg hG1
                obtain ⟨r2, u3, u4, _⟩ := GD_rg hG2
                obtain ⟨st1, st2⟩ := ml_step (congrArg (dyAt xs) hp) (congrArg (exAt xs) hp) (congrArg (dyAt ys) hq) (congrArg (exAt ys) hq) hO hV hG1 hG2
                have HO := Lib.hid hO
                have HS1 := Lib.hid st1
                have HS2 := Lib.hid st2
                have HSU := Lib.hid (mlO_succ xs ys K C i j k)
                have HBA : Hid (mlB xs ys K C i j k = false → mmTo xs ys K C (R * C) = false) := fun h => mmTo_bad hlt hlj (mlO_bad h hlk)
                have HHB := Lib.hid hβ
                have hPG := GD_rg (mv_gd (X := dyAt xs p) (m := (exAt xs p).toNat) (Y := dyAt ys q) (n := (exAt ys q).toNat))
                have HRG : Hid ((dyX Z z (mvX (dyAt xs p) (exAt xs p).toNat (dyAt ys q) (exAt ys q).toNat) (mvE (dyAt xs p) (exAt xs p).toNat (dyAt ys q) (exAt ys q).toNat)).rg = true ∧
                    dyE Z z (mvX (dyAt xs p) (exAt xs p).toNat (dyAt ys q) (exAt ys q).toNat) (mvE (dyAt xs p) (exAt xs p).toNat (dyAt ys q) (exAt ys q).toNat) ≤ 60) := by
                  have := GD_rg (ad_gd (X := Z) (m := z) (Y := mvX (dyAt xs p) (exAt xs p).toNat (dyAt ys q) (exAt ys q).toNat) (n := mvE (dyAt xs p) (exAt xs p).toNat (dyAt ys q) (exAt ys q).toNat) (by omega) (by omega))
                  exact ⟨this.1, by omega⟩
                have hMUL := fun (w' : World) (h : w'.heap[bc]? = some (.cells #[.bool false] 84 (0, 0))) => Lib.hid (mul_any bc false (dyAt xs p) (exAt xs p).toNat (dyAt ys q) (exAt ys q).toNat r1 (by omega) r2 (by omega) w' h)
                have HADD := fun (b : Bool) (w' : World) (h : w'.heap[bc]? = some (.cells #[.bool b] 84 (0, 0))) => Lib.hid (add_any bc b Z z (mvX (dyAt xs p) (exAt xs p).toNat (dyAt ys q) (exAt ys q).toNat) (mvE (dyAt xs p) (exAt xs p).toNat (dyAt ys q) (exAt ys q).toNat) hZr hz hPG.1 (by omega) w' h)
                have t1 : ((exAt xs p).toNat : Int) = exAt xs p := Int.toNat_of_nonneg u1
                have t2 : ((exAt ys q).toNat : Int) = exAt ys q := Int.toNat_of_nonneg u3
                simp only [t1, t2] at hMUL
                clear t1 t2 r1 r2 u1 u2 u3 u4 st1 st2 hO hV hβ hG1 hG2 hPG hp hq HV MX MY
                generalize mvX (dyAt xs p) (exAt xs p).toNat (dyAt ys q) (exAt ys q).toNat = P at *
                generalize mvE (dyAt xs p) (exAt xs p).toNat (dyAt ys q) (exAt ys q).toNat = pe at *
                generalize mvBad (dyAt xs p) (exAt xs p).toNat (dyAt ys q) (exAt ys q).toNat = mb at *
                generalize dyX Z z P pe = Q at *
                generalize dyE Z z P pe = qe at *
                generalize dyBad Z z P pe = ab at *
                have HMUL := hMUL
                unfold dyAt exAt at HMUL
                simp only at HMUL
                clear hMUL
                obtain ⟨bx, offx, rfl, hbkx, hcellx⟩ := HX.out (by omega)
                have hbrx : bx < wk.heap.size := by have := hE.size; omega
                have zx0 : wk.cell? ⟨bx, offx + p * 5, none⟩ = some (.int .i64 (at3 xs (p * 5))) := (hE.cells.1 bx (offx + (p * 5)) hbkx).trans (hcellx _ _ (at3_get (by have := HLX.out; omega)))
                have zx1 : wk.cell? ⟨bx, offx + p * 5 + 1, none⟩ = some (.int .i64 (at3 xs (p * 5 + 1))) := (hE.cells.1 bx (offx + (p * 5 + 1)) hbkx).trans (hcellx _ _ (at3_get (by have := HLX.out; omega)))
                have zx2 : wk.cell? ⟨bx, offx + p * 5 + 2, none⟩ = some (.int .i64 (at3 xs (p * 5 + 2))) := (hE.cells.1 bx (offx + (p * 5 + 2)) hbkx).trans (hcellx _ _ (at3_get (by have := HLX.out; omega)))
                have zx3 : wk.cell? ⟨bx, offx + p * 5 + 3, none⟩ = some (.int .i64 (at3 xs (p * 5 + 3))) := (hE.cells.1 bx (offx + (p * 5 + 3)) hbkx).trans (hcellx _ _ (at3_get (by have := HLX.out; omega)))
                have zx4 : wk.cell? ⟨bx, offx + p * 5 + 4, none⟩ = some (.int .i64 (at3 xs (p * 5 + 4))) := (hE.cells.1 bx (offx + (p * 5 + 4)) hbkx).trans (hcellx _ _ (at3_get (by have := HLX.out; omega)))
                clear hcellx
                obtain ⟨bz, offz, rfl, hbkz, hcellz⟩ := HY.out (by omega)
                have hbrz : bz < wk.heap.size := by have := hE.size; omega
                have zz0 : wk.cell? ⟨bz, offz + q * 5, none⟩ = some (.int .i64 (at3 ys (q * 5))) := (hE.cells.1 bz (offz + (q * 5)) hbkz).trans (hcellz _ _ (at3_get (by have := HLY.out; omega)))
                have zz1 : wk.cell? ⟨bz, offz + q * 5 + 1, none⟩ = some (.int .i64 (at3 ys (q * 5 + 1))) := (hE.cells.1 bz (offz + (q * 5 + 1)) hbkz).trans (hcellz _ _ (at3_get (by have := HLY.out; omega)))
                have zz2 : wk.cell? ⟨bz, offz + q * 5 + 2, none⟩ = some (.int .i64 (at3 ys (q * 5 + 2))) := (hE.cells.1 bz (offz + (q * 5 + 2)) hbkz).trans (hcellz _ _ (at3_get (by have := HLY.out; omega)))
                have zz3 : wk.cell? ⟨bz, offz + q * 5 + 3, none⟩ = some (.int .i64 (at3 ys (q * 5 + 3))) := (hE.cells.1 bz (offz + (q * 5 + 3)) hbkz).trans (hcellz _ _ (at3_get (by have := HLY.out; omega)))
                have zz4 : wk.cell? ⟨bz, offz + q * 5 + 4, none⟩ = some (.int .i64 (at3 ys (q * 5 + 4))) := (hE.cells.1 bz (offz + (q * 5 + 4)) hbkz).trans (hcellz _ _ (at3_get (by have := HLY.out; omega)))
                clear hcellz
                generalize at3 xs (p * 5) = x0 at *
                generalize at3 xs (p * 5 + 1) = x1 at *
                generalize at3 xs (p * 5 + 2) = x2 at *
                generalize at3 xs (p * 5 + 3) = x3 at *
                generalize at3 xs (p * 5 + 4) = x4 at *
                generalize at3 ys (q * 5) = y0 at *
                generalize at3 ys (q * 5 + 1) = y1 at *
                generalize at3 ys (q * 5 + 2) = y2 at *
                generalize at3 ys (q * 5 + 3) = y3 at *
                generalize at3 ys (q * 5 + 4) = y4 at *
                have zA : ∀ o, wk.cell? ⟨w.heap.size, o, none⟩ = (#[.int .i64 R, .int .i64 K, .slice (some ⟨bx, offx, none⟩) (R * K) cap1] : Array Value)[o]? := fun o => cell_of_row _ _ _ _ _ _ HT2.out.a
                have zB : ∀ o, wk.cell? ⟨w.heap.size + 1, o, none⟩ = (#[.int .i64 K, .int .i64 C, .slice (some ⟨bz, offz, none⟩) (K * C) cap2] : Array Value)[o]? := fun o => cell_of_row _ _ _ _ _ _ HT2.out.b
                have zc : ∀ o, wk.cell? ⟨bc, o, none⟩ = (#[.bool false] : Array Value)[o]? := fun o => cell_of_row _ _ _ _ _ _ HT2.out.bad
                go_wp2
                clear zc
                go_wp2
                refine Wr.wp_region_wr (m := 75) [⟨bc, 84, #[.bool false]⟩, ⟨wq.heap.size, 34, #[.int .i64 Z.a, .int .i64 Z.b, .int .i64 Z.c, .int .i64 Z.d, .int .i64 z]⟩] (by kernel_rfl) (by kernel_rfl) rfl (by simp; try omega) ?_ ?_
                · intro s hs
                  rcases s with _ | _ | s
                  · exact (show (World.heap _)[bc]? = some (Obj.cells #[.bool false] 84 (0, 0)) from HT2.out.bad)
                  · exact (show (World.heap _)[wq.heap.size]? = some (Obj.cells #[.int .i64 Z.a, .int .i64 Z.b, .int .i64 Z.c, .int .i64 Z.d, .int .i64 z] 34 (0, 0)) from HS.out)
                  · simp at hs
                    try omega
                refine Wr.ww_old (w.heap.size) (by first | omega | (simp; done) | (simp; omega)) (by first | (simp; done) | (simp; omega)) (fun hold0 => ?_)
                refine Wr.ww_old (w.heap.size + 1) (by first | omega | (simp; done) | (simp; omega)) (by first | (simp; done) | (simp; omega)) (fun hold1 => ?_)
                refine Wr.ww_old (bx) (by first | omega | (simp; done) | (simp; omega)) (by first | (simp; done) | (simp; omega)) (fun hold2 => ?_)
                refine Wr.ww_old (bz) (by first | omega | (simp; done) | (simp; omega)) (by first | (simp; done) | (simp; omega)) (fun hold3 => ?_)
                (refine Wr.ww_plain ?_; apply Exists.intro; refine ⟨?_, ?_⟩; (first | (go_simp; (try intro x); (try go_bits); rfl)); simp only [Act.put, List.setIfInBounds_toArray, List.set_cons_succ, List.set_cons_zero, List.nil_append, List.cons_append])
                refine Wr.ww_read 1 (wq.heap.size) 34 #[.int .i64 Z.a, .int .i64 Z.b, .int .i64 Z.c, .int .i64 Z.d, .int .i64 z] (by simp) rfl rfl rfl (fun hr => ?_)
                apply Exists.intro
                refine ⟨?_, ?_⟩
                · go_simp
                  (try intro x)
                  (try go_bits)
                  rfl
                clear hr
                simp only [Act.put, List.setIfInBounds_toArray, List.set_cons_succ, List.set_cons_zero, List.nil_append, List.cons_append]
                (refine Wr.ww_plain ?_; apply Exists.intro; refine ⟨?_, ?_⟩; (first | (go_simp; (try intro x); (try go_bits); rfl)); simp only [Act.put, List.setIfInBounds_toArray, List.set_cons_succ, List.set_cons_zero, List.nil_append, List.cons_append])
                (refine Wr.ww_plain ?_; apply Exists.intro; refine ⟨?_, ?_⟩; (first | (go_simp; (try intro x); (try go_bits); rfl)); simp only [Act.put, List.setIfInBounds_toArray, List.set_cons_succ, List.set_cons_zero, List.nil_append, List.cons_append])
                (refine Wr.ww_plain ?_; apply Exists.intro; refine ⟨?_, ?_⟩; (first | (go_simp; (try intro x); (try go_bits); rfl)); simp only [Act.put, List.setIfInBounds_toArray, List.set_cons_succ, List.set_cons_zero, List.nil_append, List.cons_append])
                (refine Wr.ww_plain ?_; apply Exists.intro; refine ⟨?_, ?_⟩; (first | (go_simp; (try intro x); (try go_bits); rfl)); simp only [Act.put, List.setIfInBounds_toArray, List.set_cons_succ, List.set_cons_zero, List.nil_append, List.cons_append])
                (refine Wr.ww_plain ?_; apply Exists.intro; refine ⟨?_, ?_⟩; (first | (go_simp; (try intro x); (try go_bits); rfl)); simp only [Act.put, List.setIfInBounds_toArray, List.set_cons_succ, List.set_cons_zero, List.nil_append, List.cons_append])
                (refine Wr.ww_plain ?_; apply Exists.intro; refine ⟨?_, ?_⟩; (first | (go_simp; (try intro x); (try go_bits); rfl)); simp only [Act.put, List.setIfInBounds_toArray, List.set_cons_succ, List.set_cons_zero, List.nil_append, List.cons_append])
                (refine Wr.ww_plain ?_; apply Exists.intro; refine ⟨?_, ?_⟩; (first | (go_simp; (try intro x); (try go_bits); rfl)); simp only [Act.put, List.setIfInBounds_toArray, List.set_cons_succ, List.set_cons_zero, List.nil_append, List.cons_append])
                (refine Wr.ww_plain ?_; apply Exists.intro; refine ⟨?_, ?_⟩; (first | (go_simp; (try intro x); (try go_bits); rfl)); simp only [Act.put, List.setIfInBounds_toArray, List.set_cons_succ, List.set_cons_zero, List.nil_append, List.cons_append])
                (refine Wr.ww_plain ?_; apply Exists.intro; refine ⟨?_, ?_⟩; (first | (go_simp; (try intro x); (try go_bits); rfl)); simp only [Act.put, List.setIfInBounds_toArray, List.set_cons_succ, List.set_cons_zero, List.nil_append, List.cons_append])
                (refine Wr.ww_plain ?_; apply Exists.intro; refine ⟨?_, ?_⟩; (first | (go_simp; (try intro x); (try go_bits); rfl)); simp only [Act.put, List.setIfInBounds_toArray, List.set_cons_succ, List.set_cons_zero, List.nil_append, List.cons_append])
                (refine Wr.ww_plain ?_; apply Exists.intro; refine ⟨?_, ?_⟩; (first | (go_simp; (try intro x); (try go_bits); rfl)); simp only [Act.put, List.setIfInBounds_toArray, List.set_cons_succ, List.set_cons_zero, List.nil_append, List.cons_append])
                (refine Wr.ww_plain ?_; apply Exists.intro; refine ⟨?_, ?_⟩; (first | (go_simp; (try intro x); (try go_bits); rfl)); simp only [Act.put, List.setIfInBounds_toArray, List.set_cons_succ, List.set_cons_zero, List.nil_append, List.cons_append])
                (refine Wr.ww_plain ?_; apply Exists.intro; refine ⟨?_, ?_⟩; (first | (go_simp; (try intro x); (try go_bits); rfl)); simp only [Act.put, List.setIfInBounds_toArray, List.set_cons_succ, List.set_cons_zero, List.nil_append, List.cons_append])
                (refine Wr.ww_plain ?_; apply Exists.intro; refine ⟨?_, ?_⟩; (first | (go_simp; (try intro x); (try go_bits); rfl)); simp only [Act.put, List.setIfInBounds_toArray, List.set_cons_succ, List.set_cons_zero, List.nil_append, List.cons_append])
                (refine Wr.ww_plain ?_; apply Exists.intro; refine ⟨?_, ?_⟩; (first | (go_simp; (try intro x); (try go_bits); rfl)); simp only [Act.put, List.setIfInBounds_toArray, List.set_cons_succ, List.set_cons_zero, List.nil_append, List.cons_append])
                (refine Wr.ww_plain ?_; apply Exists.intro; refine ⟨?_, ?_⟩; (first | (go_simp; (try intro x); (try go_bits); rfl)); simp only [Act.put, List.setIfInBounds_toArray, List.set_cons_succ, List.set_cons_zero, List.nil_append, List.cons_append])
                (refine Wr.ww_plain ?_; apply Exists.intro; refine ⟨?_, ?_⟩; (first | (go_simp; (try intro x); (try go_bits); rfl)); simp only [Act.put, List.setIfInBounds_toArray, List.set_cons_succ, List.set_cons_zero, List.nil_append, List.cons_append])
                (refine Wr.ww_plain ?_; apply Exists.intro; refine ⟨?_, ?_⟩; (first | (go_simp; (try intro x); (try go_bits); rfl)); simp only [Act.put, List.setIfInBounds_toArray, List.set_cons_succ, List.set_cons_zero, List.nil_append, List.cons_append])
                (refine Wr.ww_plain ?_; apply Exists.intro; refine ⟨?_, ?_⟩; (first | (go_simp; (try intro x); (try go_bits); rfl)); simp only [Act.put, List.setIfInBounds_toArray, List.set_cons_succ, List.set_cons_zero, List.nil_append, List.cons_append])
                (refine Wr.ww_plain ?_; apply Exists.intro; refine ⟨?_, ?_⟩; (first | (go_simp; (try intro x); (try go_bits); rfl)); simp only [Act.put, List.setIfInBounds_toArray, List.set_cons_succ, List.set_cons_zero, List.nil_append, List.cons_append])
                (refine Wr.ww_plain ?_; apply Exists.intro; refine ⟨?_, ?_⟩; (first | (go_simp; (try intro x); (try go_bits); rfl)); simp only [Act.put, List.setIfInBounds_toArray, List.set_cons_succ, List.set_cons_zero, List.nil_append, List.cons_append])
                refine Wr.ww_call (.agg #[.int .i64 P.a, .int .i64 P.b, .int .i64 P.c, .int .i64 P.d, .int .i64 pe]) 0 (bc) 84 #[.bool false] #[.bool (or false mb)] rfl (by simp) rfl rfl rfl (fun x => ?_) ?_
                · apply Exists.intro
                  apply Exists.intro
                  refine ⟨?_, ?_⟩
                  · go_simp
                    (try go_bits)
                    first | rfl | exact ⟨rfl, rfl⟩
                  · exact (HMUL _ x.2.2).out
                simp only [Act.put, List.setIfInBounds_toArray, List.set_cons_succ, List.set_cons_zero, List.nil_append, List.cons_append]
                refine Wr.ww_call (.agg #[.int .i64 Q.a, .int .i64 Q.b, .int .i64 Q.c, .int .i64 Q.d, .int .i64 qe]) 0 (bc) 84 #[.bool (or false mb)] #[.bool (or (or false mb) ab)] rfl (by simp) rfl rfl rfl (fun x => ?_) ?_
                · apply Exists.intro
                  apply Exists.intro
                  refine ⟨?_, ?_⟩
                  · go_simp
                    (try go_bits)
                    first | rfl | exact ⟨rfl, rfl⟩
                  · exact (HADD (or false mb) _ x.2.2).out
                simp only [Act.put, List.setIfInBounds_toArray, List.set_cons_succ, List.set_cons_zero, List.nil_append, List.cons_append]
                refine Wr.ww_store 1 (wq.heap.size) 34 #[.int .i64 Z.a, .int .i64 Z.b, .int .i64 Z.c, .int .i64 Z.d, .int .i64 z] #[.int .i64 Q.a, .int .i64 Q.b, .int .i64 Q.c, .int .i64 Q.d, .int .i64 qe] rfl (by simp) rfl rfl rfl (fun x => ?_) ?_
                · have hcell : ∀ kk, x.w.cell? ⟨wq.heap.size, kk, none⟩ = (#[.int .i64 Z.a, .int .i64 Z.b, .int .i64 Z.c, .int .i64 Z.d, .int .i64 z] : Array Value)[kk]? := fun kk => cell_of_row _ _ _ _ _ _ x.2.2
                  have hfr : ∀ kk, x.w.frozen? ⟨wq.heap.size, kk, none⟩ = false := fun kk => frozen_of_row _ _ _ _ _ x.2.2
                  apply Exists.intro
                  refine ⟨?_, ?_⟩
                  · go_simp
                    (try go_bits)
                    rfl
                  · exact (((((Fill.start x.2.2).set 0 _).set 1 _).set 2 _).set 3 _).set 4 _
                simp only [Act.put, List.setIfInBounds_toArray, List.set_cons_succ, List.set_cons_zero, List.nil_append, List.cons_append]
                refine Wr.ww_done (by kernel_rfl) (by kernel_rfl) (fun w3 hg3 hs3 => ?_)
                have hb3_0 : w3.heap[bc]? = some (.cells #[.bool (or (or false mb) ab)] 84 (0, 0)) := hs3 0 (by simp)
                have hb3_1 : w3.heap[wq.heap.size]? = some (.cells #[.int .i64 Q.a, .int .i64 Q.b, .int .i64 Q.c, .int .i64 Q.d, .int .i64 qe] 34 (0, 0)) := hs3 1 (by simp)
                clear hs3
                simp only [List.map_cons, List.map_nil] at hg3
                have HT3 := Lib.hid (HT2.out.gx2 lbc lq (fun g hg => by have := HLQ.out g hg; omega) hg3 hb3_0)
                clear HMUL HADD zA zB
                go_wp2
                go_roundw
                case rel =>
                  refine ⟨k + 1, or (or false mb) ab, Q, qe, by omega, by go_num, HRG.out.1, HRG.out.2, HT3, hb3_1, fun h => ?_, fun h => ?_⟩
                  · have h2 : (mb || ab) = false := by simpa using h
                    exact ⟨HHB.out, by rw [HSU.out, HO.out, HS1.out, h2]; rfl, HS2.out h2⟩
                  · have h2 : (mb || ab) = true := by simpa using h
                    exact HBA.out (by rw [HS1.out, h2]; rfl)
                case measure => simp [intOf]; omega
              · have HFIN : Hid (true = false → mmTo xs ys K C (i * C + j + 1) = true ∧ L ++ [Z.a, Z.b, Z.c, Z.d, (z : Int)] = mmLM xs ys K C (i * C + j + 1)) := fun h => by cases h
                clear HV HG
                have HIL : Hid (IL (L ++ [Z.a, Z.b, Z.c, Z.d, (z : Int)]) = IL L ++ [.int .i64 Z.a, .int .i64 Z.b, .int .i64 Z.c, .int .i64 Z.d, .int .i64 z]) := by simp [Hid, IL]
                have zo : ∀ q, wk.cell? ⟨w.heap.size + 3, q, none⟩ = (#[.int .i64 R, .int .i64 C, .slice av (i * C + j) cv] : Array Value)[q]? := fun q => cell_of_row _ _ _ _ _ _ HT2.out.out
                have fo : ∀ q, wk.frozen? ⟨w.heap.size + 3, q, none⟩ = false := fun q => frozen_of_row _ _ _ _ _ HT2.out.out
                have zs : ∀ q, wk.cell? ⟨wq.heap.size, q, none⟩ = (#[.int .i64 Z.a, .int .i64 Z.b, .int .i64 Z.c, .int .i64 Z.d, .int .i64 z] : Array Value)[q]? := fun q => cell_of_row _ _ _ _ _ _ HS.out
                have zc : ∀ q, wk.cell? ⟨bc, q, none⟩ = (#[.bool true] : Array Value)[q]? := fun q => cell_of_row _ _ _ _ _ _ HT2.out.bad
                have zA : ∀ q, wk.cell? ⟨w.heap.size, q, none⟩ = (#[.int .i64 R, .int .i64 K, .slice a1 (R * K) cap1] : Array Value)[q]? := fun q => cell_of_row _ _ _ _ _ _ HT2.out.a
                have lk := HT2.out.lt
                have hfar : ∀ g, (Value.slice av (i * C + j) cv).ownBlock = some g → g ≠ w.heap.size + 3 := fun g hg => by have := (HT2.out.own.lt g hg).1; omega
                have hcnt : i * C + j < 1024 := by have := row_lt hlt hlj; omega
                clear HX HY HLX HLY MX MY
                go_wp2_with (at_builtin; refine wpList_append_lies _ rfl (.tmp 69) (.tmp 71) _ rfl (w.heap.size + 4) 34 i0 (.agg #[.int .i64 0, .int .i64 0, .int .i64 0, .int .i64 0, .int .i64 0]) 5 40 Try.underlying49 hi iz0 iz1 iz2 rfl (by decide) _ (i * C + j) (IL L) (by rfl) (HT2.out.own.alloc _) ⟨wk.heap.size, 0, none⟩ 1 1 [.int .i64 Z.a, .int .i64 Z.b, .int .i64 Z.c, .int .i64 Z.d, .int .i64 z] (by rfl) (by rfl) (news3 rfl rfl) (by intro u hu; simp at hu; rcases hu with rfl | rfl | rfl | rfl | rfl <;> rfl) (by decide) (by first | omega | (simp only [maxLen] <;> omega)) (by omega) (by first | omega | (simp <;> omega)) _ (by rfl) ?_; intro g2 cap w2 hown2 hgrow hat hlt2; have f2 : ∀ q, w2.frozen? ⟨w.heap.size + 3, q, none⟩ = false := fun q => (hgrow.frozen_far ⟨w.heap.size + 3, q, none⟩ (by first | omega | (simp <;> omega)) (fun e => hfar _ e.symm rfl)).trans (((Ext.refl wk).alloc _).cells.2 _ _ (by omega) |>.trans (fo q)); have z2 : ∀ q, w2.cell? ⟨w.heap.size + 3, q, none⟩ = (#[.int .i64 R, .int .i64 C, .slice av (i * C + j) cv] : Array Value)[q]? := fun q => (hgrow.cell_far ⟨w.heap.size + 3, q, none⟩ (by first | omega | (simp <;> omega)) (fun e => hfar _ e.symm rfl)).trans (((Ext.refl wk).alloc _).cells.1 _ _ (by omega) |>.trans (zo q)))
                go_roundw
                case rel =>
                  refine ⟨j + 1, .slice (some ⟨g2, 0, none⟩) (i * C + j + 1) cap, true, L ++ [Z.a, Z.b, Z.c, Z.d, (z : Int)], by omega, by go_num, ?_, HFIN, HBD⟩
                  rw [← HIL.out] at hown2
                  exact HT2.out.step lbc ((Ext.refl wk).alloc _) hgrow hown2
                case measure => simp [intOf]; omega
            · obtain rfl : k = K := by omega
              have HFIN : Hid (β' = false → mmTo xs ys k C (i * C + j + 1) = true ∧ L ++ [Z.a, Z.b, Z.c, Z.d, (z : Int)] = mmLM xs ys k C (i * C + j + 1)) := fun h => by
                obtain ⟨hβ, hO, hV⟩ := HV.out h
                obtain ⟨g1, g2⟩ := HG.out hβ
                refine ⟨by rw [mmTo_succ _ _ _ _ _ _ hlj, g1, hO]; rfl, ?_⟩
                rw [mmLM_succ xs ys k C i j hlj ((mcV_yes hO).trans hV), g2]
              clear HV HG
              have HIL : Hid (IL (L ++ [Z.a, Z.b, Z.c, Z.d, (z : Int)]) = IL L ++ [.int .i64 Z.a, .int .i64 Z.b, .int .i64 Z.c, .int .i64 Z.d, .int .i64 z]) := by simp [Hid, IL]
              have zo : ∀ q, wk.cell? ⟨w.heap.size + 3, q, none⟩ = (#[.int .i64 R, .int .i64 C, .slice av (i * C + j) cv] : Array Value)[q]? := fun q => cell_of_row _ _ _ _ _ _ HT2.out.out
              have fo : ∀ q, wk.frozen? ⟨w.heap.size + 3, q, none⟩ = false := fun q => frozen_of_row _ _ _ _ _ HT2.out.out
              have zs : ∀ q, wk.cell? ⟨wq.heap.size, q, none⟩ = (#[.int .i64 Z.a, .int .i64 Z.b, .int .i64 Z.c, .int .i64 Z.d, .int .i64 z] : Array Value)[q]? := fun q => cell_of_row _ _ _ _ _ _ HS.out
              have zc : ∀ q, wk.cell? ⟨bc, q, none⟩ = (#[.bool β'] : Array Value)[q]? := fun q => cell_of_row _ _ _ _ _ _ HT2.out.bad
              have zA : ∀ q, wk.cell? ⟨w.heap.size, q, none⟩ = (#[.int .i64 R, .int .i64 k, .slice a1 (R * k) cap1] : Array Value)[q]? := fun q => cell_of_row _ _ _ _ _ _ HT2.out.a
              have lk := HT2.out.lt
              have hfar : ∀ g, (Value.slice av (i * C + j) cv).ownBlock = some g → g ≠ w.heap.size + 3 := fun g hg => by have := (HT2.out.own.lt g hg).1; omega
              have hcnt : i * C + j < 1024 := by have := row_lt hlt hlj; omega
              clear HX HY HLX HLY MX MY
              go_wp2_with (at_builtin; refine wpList_append_lies _ rfl (.tmp 69) (.tmp 71) _ rfl (w.heap.size + 4) 34 i0 (.agg #[.int .i64 0, .int .i64 0, .int .i64 0, .int .i64 0, .int .i64 0]) 5 40 Try.underlying49 hi iz0 iz1 iz2 rfl (by decide) _ (i * C + j) (IL L) (by rfl) (HT2.out.own.alloc _) ⟨wk.heap.size, 0, none⟩ 1 1 [.int .i64 Z.a, .int .i64 Z.b, .int .i64 Z.c, .int .i64 Z.d, .int .i64 z] (by rfl) (by rfl) (news3 rfl rfl) (by intro u hu; simp at hu; rcases hu with rfl | rfl | rfl | rfl | rfl <;> rfl) (by decide) (by first | omega | (simp only [maxLen] <;> omega)) (by omega) (by first | omega | (simp <;> omega)) _ (by rfl) ?_; intro g2 cap w2 hown2 hgrow hat hlt2; have f2 : ∀ q, w2.frozen? ⟨w.heap.size + 3, q, none⟩ = false := fun q => (hgrow.frozen_far ⟨w.heap.size + 3, q, none⟩ (by first | omega | (simp <;> omega)) (fun e => hfar _ e.symm rfl)).trans (((Ext.refl wk).alloc _).cells.2 _ _ (by omega) |>.trans (fo q)); have z2 : ∀ q, w2.cell? ⟨w.heap.size + 3, q, none⟩ = (#[.int .i64 R, .int .i64 C, .slice av (i * C + j) cv] : Array Value)[q]? := fun q => (hgrow.cell_far ⟨w.heap.size + 3, q, none⟩ (by first | omega | (simp <;> omega)) (fun e => hfar _ e.symm rfl)).trans (((Ext.refl wk).alloc _).cells.1 _ _ (by omega) |>.trans (zo q)))
              go_roundw
              case rel =>
                refine ⟨j + 1, .slice (some ⟨g2, 0, none⟩) (i * C + j + 1) cap, β', L ++ [Z.a, Z.b, Z.c, Z.d, (z : Int)], by omega, by go_num, ?_, HFIN, HBD⟩
                rw [← HIL.out] at hown2
                exact HT2.out.step lbc ((Ext.refl wk).alloc _) hgrow hown2
              case measure => simp [intOf]; omega
        · obtain rfl : j = C := by omega
          go_wp2
          go_roundw
          case rel =>
            refine ⟨i + 1, .slice av (i * j + j) cv, β, L, by omega, by go_num, ?_, ?_, HBd⟩
            · rw [Nat.succ_mul]; exact HT
            · rw [Nat.succ_mul]; exact HG
          case measure => simp [intOf]; omega
    · obtain rfl : i = R := by omega
      have zA : ∀ q, wr.cell? ⟨w.heap.size, q, none⟩ = (#[.int .i64 i, .int .i64 K, .slice a1 (i * K) cap1] : Array Value)[q]? := fun q => cell_of_row _ _ _ _ _ _ HT.out.a
      have zo : ∀ q, wr.cell? ⟨w.heap.size + 3, q, none⟩ = (#[.int .i64 i, .int .i64 C, .slice av (i * C) cv] : Array Value)[q]? := fun q => cell_of_row _ _ _ _ _ _ HT.out.out
      have zr : ∀ q, wr.cell? ⟨w.heap.size + 2, q, none⟩ = (#[.int .i64 0, .int .i64 0, .slice none 0 0] : Array Value)[q]? := fun q => cell_of_row _ _ _ _ _ _ HT.out.res
      have fr : ∀ q, wr.frozen? ⟨w.heap.size + 2, q, none⟩ = false := fun q => frozen_of_row _ _ _ _ _ HT.out.res
      go_wp2
      refine bodyPost_ret (v := .agg #[.int .i64 i, .int .i64 C, .slice av (i * C) cv]) (by simp [results, Try.results92, go_sem, *]) rfl ?_
      refine ⟨av, cv, β, L, rfl, own_base (own_set (own_set (own_set HT.out.own (by simp) _) (by simp) _) (by simp) _) (by omega), heap_set_ne (by simp; omega) (heap_set_ne (by simp; omega) (heap_set_ne (by simp; omega) HT.out.bad)), ?_, HG.out, HBd.out⟩
      exact ((HT.out.gx.setCell (.inr (by simp; omega)) _).setCell (.inr (by simp; omega)) _).setCell (.inr (by simp; omega)) _

end Go.Proofs.Ytnlhonlfkmpleaa
