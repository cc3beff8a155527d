/- MulMatrix: the plain sums; a cell of the product, as the program's closure gives it. -/
import Derived.Test.YtbddgeoaaklgpaaCopM
import Derived.Test.YtbddgeoaaklgpaaDyJ
import Derived.Test.YtbddgeoaaklgpaaRing
import Derived.Test.YtbddgeoaaklgpaaMade
namespace Go.Proofs.Ytbddgeoaaklgpaa
open Go.RowKit Go.Lib
set_option linter.unusedVariables false
set_option linter.unusedSimpArgs false

/-- the sum of the first n products -/
def mlV (xs ys : List Int) (K C i j : Nat) : Nat → R4 × Int
  | 0 => (R4.zero, 0)
  | k + 1 => (adX (mlV xs ys K C i j k).1 (mlV xs ys K C i j k).2 (muX (dyAt xs (i * K + k)) (exAt xs (i * K + k)) (dyAt ys (k * C + j)) (exAt ys (k * C + j))) (muE (dyAt xs (i * K + k)) (exAt xs (i * K + k)) (dyAt ys (k * C + j)) (exAt ys (k * C + j))),
      adE (mlV xs ys K C i j k).1 (mlV xs ys K C i j k).2 (muX (dyAt xs (i * K + k)) (exAt xs (i * K + k)) (dyAt ys (k * C + j)) (exAt ys (k * C + j))) (muE (dyAt xs (i * K + k)) (exAt xs (i * K + k)) (dyAt ys (k * C + j)) (exAt ys (k * C + j))))
def mlB (xs ys : List Int) (K C i j k : Nat) : Bool := muOk (dyAt xs (i * K + k)) (exAt xs (i * K + k)) (dyAt ys (k * C + j)) (exAt ys (k * C + j)) &&
  adOk (mlV xs ys K C i j k).1 (mlV xs ys K C i j k).2 (muX (dyAt xs (i * K + k)) (exAt xs (i * K + k)) (dyAt ys (k * C + j)) (exAt ys (k * C + j))) (muE (dyAt xs (i * K + k)) (exAt xs (i * K + k)) (dyAt ys (k * C + j)) (exAt ys (k * C + j)))
def mlO (xs ys : List Int) (K C i j n : Nat) : Bool := allTo (mlB xs ys K C i j) n
theorem mlO_succ (xs ys : List Int) (K C i j n : Nat) : mlO xs ys K C i j (n + 1) = (mlO xs ys K C i j n && mlB xs ys K C i j n) := rfl
theorem mlO_bad {xs ys : List Int} {K C i j k n : Nat} (h : mlB xs ys K C i j k = false) (hk : k < n) : mlO xs ys K C i j n = false := allTo_false (k := k) h hk
/-- the product's cell -/
def mcV (xs ys : List Int) (K C i j : Nat) : R4 × Int := if mlO xs ys K C i j K then mlV xs ys K C i j K else (R4.zero, 0)
theorem mcV_no {xs ys : List Int} {K C i j : Nat} (h : mlO xs ys K C i j K = false) : mcV xs ys K C i j = (R4.zero, 0) := by unfold mcV; rw [h]; rfl
theorem mcV_yes {xs ys : List Int} {K C i j : Nat} (h : mlO xs ys K C i j K = true) : mcV xs ys K C i j = mlV xs ys K C i j K := by unfold mcV; rw [h]; rfl
theorem heap_set5 {w : World} {g : Nat} {t : TypeId} {a b c d e x y z u v : Value} (h : w.heap[g]? = some (.cells #[a, b, c, d, e] t (0, 0))) : (((((w.setCell ⟨g, 0, none⟩ x).setCell ⟨g, 1, none⟩ y).setCell ⟨g, 2, none⟩ z).setCell ⟨g, 3, none⟩ u).setCell ⟨g, 4, none⟩ v).heap[g]? = some (.cells #[x, y, z, u, v] t (0, 0)) :=
  heap_set_at (heap_set_at (heap_set_at (heap_set_at (heap_set_at h 0 x) 1 y) 2 z) 3 u) 4 v
theorem heap_sets5 {w : World} {g k : Nat} {o : Obj} {x y z u v : Value} (hk : k ≠ g) (h : w.heap[k]? = some o) : (((((w.setCell ⟨g, 0, none⟩ x).setCell ⟨g, 1, none⟩ y).setCell ⟨g, 2, none⟩ z).setCell ⟨g, 3, none⟩ u).setCell ⟨g, 4, none⟩ v).heap[k]? = some o :=
  heap_set_ne hk (heap_set_ne hk (heap_set_ne hk (heap_set_ne hk (heap_set_ne hk h))))
theorem heap_keepE {W W' : World} {k : Nat} {x : Obj} (hx : Ext W W') (h : W.heap[k]? = some x) : W'.heap[k]? = some x := (hx.heap (Array.getElem?_eq_some_iff.1 h).1).trans h
theorem row_lt {i R k K : Nat} (hi : i < R) (hk : k < K) : i * K + k < R * K := by
  have : (i + 1) * K ≤ R * K := Nat.mul_le_mul_right K hi
  rw [Nat.succ_mul] at this
  omega
theorem row_bd {i K : Nat} (hi : i ≤ 32) (hK : K ≤ 32) : -1000000 ≤ (i : Int) * K ∧ (i : Int) * K ≤ 1000000 := by
  have := mul_bd (a := (i : Int)) (b := (K : Int)) (A := 32) (B := 32) (by omega) (by omega) (by omega) (by omega)
  omega

set_option maxRecDepth 20000 in
set_option maxHeartbeats 4000000 in
theorem mulCell_any (R K C : Nat) (bR : R ≤ 32) (bK : K ≤ 32) (bC : C ≤ 32) {v1 v2 : Value} {xs ys : List Int} (i j : Nat) (hi : i < R) (hj : j < C) (b1 b2 : Nat) (w : World) (h1 : RV w 5 v1 (R * K) xs) (h2 : RV w 5 v2 (K * C) ys)
    (hc1 : w.heap[b1]? = some (.cells #[.int .i64 R, .int .i64 K, v1] 71 (0, 0))) (hc2 : w.heap[b2]? = some (.cells #[.int .i64 K, .int .i64 C, v2] 71 (0, 0))) :
    Calls Try.prog 101 #[.int .i64 i, .int .i64 j, .pointer (some ⟨b1, 0, none⟩), .pointer (some ⟨b2, 0, none⟩)] w fun en w' =>
      en = .returned (.tuple #[.agg #[.int .i64 (mcV xs ys K C i j).1.a, .int .i64 (mcV xs ys K C i j).1.b, .int .i64 (mcV xs ys K C i j).1.c, .int .i64 (mcV xs ys K C i j).1.d, .int .i64 (mcV xs ys K C i j).2], .bool (mlO xs ys K C i j K)]) ∧ Ext w w' := by
  have hn1 : R * K ≤ 2000000 := by have := Nat.mul_le_mul bR bK; omega
  have hn2 : K * C ≤ 2000000 := by have := Nat.mul_le_mul bK bC; omega
  have H1 := fun (k : Nat) (hk : k < K) w' (hx : Ext w w') => Lib.hid (at_any R K hn1 i k (i * K + k) (by push_cast; rfl) (row_lt hi hk) (row_bd (by omega) bK) (by omega) w' (h1.ext hx))
  have H2 := fun (k : Nat) (hk : k < K) w' (hx : Ext w w') => Lib.hid (at_any K C hn2 k j (k * C + j) (by push_cast; rfl) (row_lt hk hj) (row_bd (by omega) bC) (by omega) w' (h2.ext hx))
  have HNo : Hid (mlO xs ys K C i j K = false → mcV xs ys K C i j = (R4.zero, 0)) := mcV_no
  have HYes : Hid (mlO xs ys K C i j K = true → mcV xs ys K C i j = mlV xs ys K C i j K) := mcV_yes
  obtain ⟨-, a1, cap1, rfl, -⟩ := h1
  obtain ⟨-, a2, cap2, rfl, -⟩ := h2
  have hl1 : b1 < w.heap.size := (Array.getElem?_eq_some_iff.1 hc1).1
  have hl2 : b2 < w.heap.size := (Array.getElem?_eq_some_iff.1 hc2).1
  have HC1 := Lib.hid hc1
  have HC2 := Lib.hid hc2
  have z2 : ∀ k, w.cell? ⟨b1, k, none⟩ = (#[.int .i64 R, .int .i64 K, .slice a1 (R * K) cap1] : Array Value)[k]? := fun k => cell_of_row _ _ _ _ _ _ hc1
  clear hc1 hc2 hn1 hn2 hi hj
  have hKi : (0 : Int) ≤ K ∧ (K : Int) ≤ 32 := by omega
  go_enter Try.func101, Try.ntmps101
  go_wp2
  go_loopw [9, 10, 11, 12, 13, 17] (fun _ _ _ _ _ q wr => ∃ (k : Nat), k ≤ K ∧ q = .int .i64 k ∧ Hid (mlO xs ys K C i j k = true) ∧
    Hid (wr.heap[w.heap.size + 1]? = some (.cells #[.int .i64 (mlV xs ys K C i j k).1.a, .int .i64 (mlV xs ys K C i j k).1.b, .int .i64 (mlV xs ys K C i j k).1.c, .int .i64 (mlV xs ys K C i j k).1.d, .int .i64 (mlV xs ys K C i j k).2] 107 (0, 0))) ∧
    Hid (wr.heap[w.heap.size]? = some (.cells #[.int .i64 0, .int .i64 0, .int .i64 0, .int .i64 0, .int .i64 0] 107 (0, 0))) ∧ Ext w wr) (fun _ _ _ _ _ q _ => K - (intOf q).toNat)
  case atStart => exact ⟨0, by omega, rfl, rfl, heap_alloc_at _ _ _ (by simp), heap_alloc_lt (heap_alloc_new _ _), (by repeat (first | exact Ext.refl _ | assumption | refine Ext.alloc ?_ _ | refine Ext.drew ?_ | refine Ext.drewN ?_ _ | refine Ext.setCell ?_ (by first | omega | (dsimp only; omega) | (simp; done) | (simp; omega)) _ | refine Ext.trans ?_ (by assumption)))⟩
  case round =>
    clear z2
    obtain ⟨k, hk, rfl, HT, HS, HR, hE⟩ := hrel
    have lS := (Array.getElem?_eq_some_iff.1 HS.out).1
    have lR := (Array.getElem?_eq_some_iff.1 HR.out).1
    by_cases hlt : k < K
    · have hlt' : (k : Int) < K := by omega
      have zA : ∀ q, wr.cell? ⟨b1, q, none⟩ = (#[.int .i64 R, .int .i64 K, .slice a1 (R * K) cap1] : Array Value)[q]? := fun q => cell_of_row _ _ _ _ _ _ (heap_keepE hE HC1.out)
      have zB : ∀ q, wr.cell? ⟨b2, q, none⟩ = (#[.int .i64 K, .int .i64 C, .slice a2 (K * C) cap2] : Array Value)[q]? := fun q => cell_of_row _ _ _ _ _ _ (heap_keepE hE HC2.out)
      have lA : b1 < wr.heap.size := by have := hE.size; omega
      have lB : b2 < wr.heap.size := by have := hE.size; omega
      have HAT1 := H1 k hlt
      have HAT2 := H2 k hlt
      have HSU := Lib.hid (mlO_succ xs ys K C i j k)
      have HBA : Hid (mlB xs ys K C i j k = false → mlO xs ys K C i j K = false) := fun h => mlO_bad h hlt
      have HBD : Hid (mlB xs ys K C i j k = (muOk (dyAt xs (i * K + k)) (exAt xs (i * K + k)) (dyAt ys (k * C + j)) (exAt ys (k * C + j)) &&
        adOk (mlV xs ys K C i j k).1 (mlV xs ys K C i j k).2 (muX (dyAt xs (i * K + k)) (exAt xs (i * K + k)) (dyAt ys (k * C + j)) (exAt ys (k * C + j))) (muE (dyAt xs (i * K + k)) (exAt xs (i * K + k)) (dyAt ys (k * C + j)) (exAt ys (k * C + j))))) := rfl
      have HN : Hid (mlV xs ys K C i j (k + 1) = (adX (mlV xs ys K C i j k).1 (mlV xs ys K C i j k).2 (muX (dyAt xs (i * K + k)) (exAt xs (i * K + k)) (dyAt ys (k * C + j)) (exAt ys (k * C + j))) (muE (dyAt xs (i * K + k)) (exAt xs (i * K + k)) (dyAt ys (k * C + j)) (exAt ys (k * C + j))),
        adE (mlV xs ys K C i j k).1 (mlV xs ys K C i j k).2 (muX (dyAt xs (i * K + k)) (exAt xs (i * K + k)) (dyAt ys (k * C + j)) (exAt ys (k * C + j))) (muE (dyAt xs (i * K + k)) (exAt xs (i * K + k)) (dyAt ys (k * C + j)) (exAt ys (k * C + j))))) := rfl
      have HMU := fun w' => Lib.hid (mulDyadic_any (dyAt xs (i * K + k)) (exAt xs (i * K + k)) (dyAt ys (k * C + j)) (exAt ys (k * C + j)) w')
      have HAD := fun w' => Lib.hid (addDyadic_any (mlV xs ys K C i j k).1 (mlV xs ys K C i j k).2 (muX (dyAt xs (i * K + k)) (exAt xs (i * K + k)) (dyAt ys (k * C + j)) (exAt ys (k * C + j))) (muE (dyAt xs (i * K + k)) (exAt xs (i * K + k)) (dyAt ys (k * C + j)) (exAt ys (k * C + j))) w')
      clear H1 H2
      generalize dyAt xs (i * K + k) = X1 at *
      generalize exAt xs (i * K + k) = e1 at *
      generalize dyAt ys (k * C + j) = X2 at *
      generalize exAt ys (k * C + j) = e2 at *
      generalize muX X1 e1 X2 e2 = P at *
      generalize muE X1 e1 X2 e2 = p at *
      generalize muOk X1 e1 X2 e2 = o1 at *
      generalize (mlV xs ys K C i j k).1 = Z at *
      generalize (mlV xs ys K C i j k).2 = z at *
      generalize adX Z z P p = Q at *
      generalize adE Z z P p = q at *
      generalize adOk Z z P p = o2 at *
      go_wp2
      refine wp_region_madeC (m := 48) (by kernel_rfl) (by kernel_rfl) rfl (fun hxc => ?_)
      repeat (refine mw_quiet ?_; apply Exists.intro; refine ⟨fun σ => ?_, ?_⟩; (first | (go_simp; rfl) | (go_simp; intro x; first | (go_at_call 103; with_reducible exact (HAT1 _ (hE.trans x.ext)).out) | (go_at_call 103; with_reducible exact (HAT2 _ (hE.trans x.ext)).out) | (go_at_call 102; with_reducible exact (HMU _).out) | (go_at_call 103; exact (HAT1 _ (hE.trans x.ext)).out) | (go_at_call 103; exact (HAT2 _ (hE.trans x.ext)).out) | (go_at_call 102; exact (HMU _).out))); simp only [Act.put, List.setIfInBounds_toArray, List.set_cons_succ, List.set_cons_zero, List.nil_append, List.cons_append])
      refine mw_maker (fun n => .pointer (some ⟨n, 0, none⟩)) 107 #[.int .i64 0, .int .i64 0, .int .i64 0, .int .i64 0, .int .i64 0] 13 #[.int .i64 P.a, .int .i64 P.b, .int .i64 P.c, .int .i64 P.d, .int .i64 p] rfl (fun σ x => ?_) ?_
      · go_simp
      simp only [Act.put, List.setIfInBounds_toArray, List.set_cons_succ, List.set_cons_zero, List.nil_append, List.cons_append, List.length_cons, List.length_nil, Nat.reduceAdd]
      repeat (refine mw_quiet ?_; apply Exists.intro; refine ⟨fun σ => ?_, ?_⟩; (first | (go_simp; rfl) | (go_simp; intro x; first | (go_at_call 103; with_reducible exact (HAT1 _ (hE.trans x.ext)).out) | (go_at_call 103; with_reducible exact (HAT2 _ (hE.trans x.ext)).out) | (go_at_call 102; with_reducible exact (HMU _).out) | (go_at_call 103; exact (HAT1 _ (hE.trans x.ext)).out) | (go_at_call 103; exact (HAT2 _ (hE.trans x.ext)).out) | (go_at_call 102; exact (HMU _).out))); simp only [Act.put, List.setIfInBounds_toArray, List.set_cons_succ, List.set_cons_zero, List.nil_append, List.cons_append])
      refine mw_store 12 rfl rfl (fun σ x hb hc => ?_) ?_
      · have hcell : ∀ k, x.w.cell? ⟨σ 12, k, none⟩ = (#[.int .i64 0, .int .i64 0, .int .i64 0, .int .i64 0, .int .i64 0] : Array Value)[k]? := fun k => cell_of_row _ _ _ _ _ _ hc
        have hfr : ∀ k, x.w.frozen? ⟨σ 12, k, none⟩ = false := fun k => frozen_of_row _ _ _ _ _ hc
        apply Exists.intro
        refine ⟨?_, ?_⟩
        · go_simp
          rfl
        · exact (((((Fill.start hc).set 0 _).set 1 _).set 2 _).set 3 _).set 4 _
      simp only [Act.put, List.nil_append, List.cons_append]
      repeat (refine mw_quiet ?_; apply Exists.intro; refine ⟨fun σ => ?_, ?_⟩; (first | (go_simp; rfl) | (go_simp; intro x; first | (go_at_call 103; with_reducible exact (HAT1 _ (hE.trans x.ext)).out) | (go_at_call 103; with_reducible exact (HAT2 _ (hE.trans x.ext)).out) | (go_at_call 102; with_reducible exact (HMU _).out) | (go_at_call 103; exact (HAT1 _ (hE.trans x.ext)).out) | (go_at_call 103; exact (HAT2 _ (hE.trans x.ext)).out) | (go_at_call 102; exact (HMU _).out))); simp only [Act.put, List.setIfInBounds_toArray, List.set_cons_succ, List.set_cons_zero, List.nil_append, List.cons_append])
      refine ⟨by kernel_rfl, fun σ w2 hF2 => ?_⟩
      have hx2 := hF2.ext
      obtain ⟨hm2_12, hl2_12, hq2_12, hr2_12⟩ := mfin_blk hF2 12 13 rfl (by decide) #[.int .i64 P.a, .int .i64 P.b, .int .i64 P.c, .int .i64 P.d, .int .i64 p] rfl
      dsimp only
      generalize σ 12 = B2_12 at *
      clear hF2 hxc
      obtain ⟨hc2, hf2⟩ := hx2.cells
      have hz2 := hx2.size
      try simp at hz2
      clear HMU HAT1 HAT2 zA zB lA lB
      have HS2 := Lib.hid (heap_keepE hx2 HS.out)
      have HR2 := Lib.hid (heap_keepE hx2 HR.out)
      have hE2 : Ext w w2 := hE.trans hx2
      have zS2 : ∀ q, w2.cell? ⟨w.heap.size + 1, q, none⟩ = (#[.int .i64 Z.a, .int .i64 Z.b, .int .i64 Z.c, .int .i64 Z.d, .int .i64 z] : Array Value)[q]? := fun q => cell_of_row _ _ _ _ _ _ HS2.out
      have zP2 := hq2_12
      clear HS HR hE lS lR
      clear hm2_12 hq2_12 hr2_12 hx2
      go_wp2_with fail
      refine (HAD _).out.mono ?_
      rintro e w3 ⟨rfl, hx3⟩
      clear zS2 zP2 HAD
      have HS3 := Lib.hid (heap_keepE hx3 HS2.out)
      have HR3 := Lib.hid (heap_keepE hx3 HR2.out)
      have hE3 := Lib.hid (hE2.trans hx3)
      have lS := (Array.getElem?_eq_some_iff.1 HS3.out).1
      have lR := (Array.getElem?_eq_some_iff.1 HR3.out).1
      clear hx3 hE2 HS2 HR2 hl2_12
      have zS3 : ∀ q, w3.cell? ⟨w.heap.size + 1, q, none⟩ = (#[.int .i64 Z.a, .int .i64 Z.b, .int .i64 Z.c, .int .i64 Z.d, .int .i64 z] : Array Value)[q]? := fun q => cell_of_row _ _ _ _ _ _ HS3.out
      have fS3 : ∀ q, w3.frozen? ⟨w.heap.size + 1, q, none⟩ = false := fun q => frozen_of_row _ _ _ _ _ HS3.out
      have zR3 : ∀ q, w3.cell? ⟨w.heap.size, q, none⟩ = (#[.int .i64 0, .int .i64 0, .int .i64 0, .int .i64 0, .int .i64 0] : Array Value)[q]? := fun q => cell_of_row _ _ _ _ _ _ HR3.out
      have fR3 : ∀ q, w3.frozen? ⟨w.heap.size, q, none⟩ = false := fun q => frozen_of_row _ _ _ _ _ HR3.out
      cases o1
      · have HF : Hid (mlO xs ys K C i j K = false) := HBA.out (by rw [HBD.out]; rfl)
        have HZ := Lib.hid (HNo.out HF.out)
        go_wp2
        refine bodyPost_ret (v := .tuple #[.agg #[.int .i64 0, .int .i64 0, .int .i64 0, .int .i64 0, .int .i64 0], .bool false]) (by simp [results, Try.results101, go_sem, *]) rfl ?_
        rw [HF.out, HZ.out]
        have hx := hE3.out
        exact ⟨rfl, (by repeat (first | (with_reducible refine Ext.setCell ?_ (by first | (simp; done) | (simp; omega)) _) | with_reducible refine Ext.alloc ?_ _ | with_reducible refine Ext.drew ?_ | with_reducible refine Ext.drewN ?_ _ | with_reducible assumption | with_reducible exact Ext.refl _ | with_reducible refine Ext.trans ?_ (by with_reducible assumption)))⟩
      cases o2
      · have HF : Hid (mlO xs ys K C i j K = false) := HBA.out (by rw [HBD.out]; rfl)
        have HZ := Lib.hid (HNo.out HF.out)
        go_wp2
        refine bodyPost_ret (v := .tuple #[.agg #[.int .i64 0, .int .i64 0, .int .i64 0, .int .i64 0, .int .i64 0], .bool false]) (by simp [results, Try.results101, go_sem, *]) rfl ?_
        rw [HF.out, HZ.out]
        have hx := hE3.out
        exact ⟨rfl, (by repeat (first | (with_reducible refine Ext.setCell ?_ (by first | (simp; done) | (simp; omega)) _) | with_reducible refine Ext.alloc ?_ _ | with_reducible refine Ext.drew ?_ | with_reducible refine Ext.drewN ?_ _ | with_reducible assumption | with_reducible exact Ext.refl _ | with_reducible refine Ext.trans ?_ (by with_reducible assumption)))⟩
      go_wp2
      go_roundw
      case rel =>
        have hx := hE3.out
        refine ⟨k + 1, by omega, by go_num, by unfold Hid; rw [HSU.out, HT.out, HBD.out]; rfl, ?_, ?_, (by repeat (first | (with_reducible refine Ext.setCell ?_ (by first | (simp; done) | (simp; omega)) _) | with_reducible refine Ext.alloc ?_ _ | with_reducible refine Ext.drew ?_ | with_reducible refine Ext.drewN ?_ _ | with_reducible assumption | with_reducible exact Ext.refl _ | with_reducible refine Ext.trans ?_ (by with_reducible assumption)))⟩
        · unfold Hid
          rw [HN.out]
          exact heap_alloc_lt (heap_set5 HS3.out)
        · exact heap_alloc_lt (heap_sets5 (by omega) HR3.out)
      case measure => simp [intOf]; omega
    · obtain rfl : k = K := by omega
      have HY := Lib.hid (HYes.out HT.out)
      clear H1 H2
      generalize mlV xs ys k C i j k = ZZ at *
      obtain ⟨Z, z⟩ := ZZ
      have zS : ∀ q, wr.cell? ⟨w.heap.size + 1, q, none⟩ = (#[.int .i64 Z.a, .int .i64 Z.b, .int .i64 Z.c, .int .i64 Z.d, .int .i64 z] : Array Value)[q]? := fun q => cell_of_row _ _ _ _ _ _ HS.out
      have zR : ∀ q, wr.cell? ⟨w.heap.size, q, none⟩ = (#[.int .i64 0, .int .i64 0, .int .i64 0, .int .i64 0, .int .i64 0] : Array Value)[q]? := fun q => cell_of_row _ _ _ _ _ _ HR.out
      have fR : ∀ q, wr.frozen? ⟨w.heap.size, q, none⟩ = false := fun q => frozen_of_row _ _ _ _ _ HR.out
      have HEE := Lib.hid hE
      go_wp2
      refine bodyPost_ret (v := .tuple #[.agg #[.int .i64 Z.a, .int .i64 Z.b, .int .i64 Z.c, .int .i64 Z.d, .int .i64 z], .bool true]) (by simp [results, Try.results101, go_sem, *]) rfl ?_
      rw [HT.out, HY.out]
      have hx := HEE.out
      exact ⟨rfl, (by repeat (first | (with_reducible refine Ext.setCell ?_ (by first | (simp; done) | (simp; omega)) _) | with_reducible refine Ext.alloc ?_ _ | with_reducible refine Ext.drew ?_ | with_reducible refine Ext.drewN ?_ _ | with_reducible assumption | with_reducible exact Ext.refl _ | with_reducible refine Ext.trans ?_ (by with_reducible assumption)))⟩


open Go.RowKit Go.Lib
set_option linter.unusedVariables false
set_option linter.unusedSimpArgs false

/-- whether two matrices can be multiplied, whether their product is there -/
def mmTo (xs ys : List Int) (K C n : Nat) : Bool := allTo (fun p => mlO xs ys K C (p / C) (p % C) K) n
def mmLM (xs ys : List Int) (K C n : Nat) : List Int := moL (fun p => (mcV xs ys K C (p / C) (p % C)).1) (fun p => (mcV xs ys K C (p / C) (p % C)).2) n
def mmOkM (r c : Int) (n : Nat) (xs : List Int) (r' c' : Int) (m : Nat) (ys : List Int) : Bool := (mGood r c n xs && (mGood r' c' m ys && (c == r'))) && mmTo xs ys c.toNat c'.toNat (r.toNat * c'.toNat)
theorem nat_of_dim {r : Int} (h : dimB r = true) : ∃ R : Nat, r = R := ⟨r.toNat, by have := dim_bd h; omega⟩
theorem pair_div {i j C : Nat} (hj : j < C) : (i * C + j) / C = i ∧ (i * C + j) % C = j := by
  constructor
  · rw [Nat.add_comm, Nat.add_mul_div_right _ _ (by omega), Nat.div_eq_of_lt hj, Nat.zero_add]
  · rw [Nat.add_comm, Nat.add_mul_mod_self_right, Nat.mod_eq_of_lt hj]
theorem mm_le (r c : Int) (n : Nat) (xs : List Int) (r' c' : Int) (m : Nat) (ys : List Int) : ifN (mmOkM r c n xs r' c' m ys) (r.toNat * c'.toNat) ≤ 1024 := by
  unfold ifN
  split
  case isFalse => omega
  case isTrue h =>
    unfold mmOkM at h
    simp only [Bool.and_eq_true] at h
    have b1 := dim_bd (mGood_facts h.1.1).1
    have b2 := dim_bd (mGood_facts h.1.2.1).2.1
    exact Nat.mul_le_mul (show r.toNat ≤ 32 by omega) (show c'.toNat ≤ 32 by omega)

set_option maxHeartbeats 4000000 in
theorem mulMatrix_any (r c r' c' : Int) {v1 v2 : Value} {n m : Nat} {xs ys : List Int} (hn : n ≤ 2000000) (hm : m ≤ 2000000) (w : World) (h1 : RV w 5 v1 n xs) (h2 : RV w 5 v2 m ys) :
    Calls Try.prog 82 #[.agg #[.int .i64 r, .int .i64 c, v1], .agg #[.int .i64 r', .int .i64 c', v2]] w fun en w' => ∃ v, en = .returned (.tuple #[.agg #[.int .i64 (ifZ (mmOkM r c n xs r' c' m ys) r), .int .i64 (ifZ (mmOkM r c n xs r' c' m ys) c'), v], .bool (mmOkM r c n xs r' c' m ys)]) ∧
      w'.ownsRow w.heap.size 107 5 v (ifN (mmOkM r c n xs r' c' m ys) (r.toNat * c'.toNat)) (IL (ifL (mmOkM r c n xs r' c' m ys) (mmLM xs ys c.toNat c'.toNat (r.toNat * c'.toNat)))) ∧ Ext w w' := by
  have HV1 := fun w' (hx : Ext w w') => Lib.hid (isValidMatrix_any r c hn w' (h1.ext hx))
  have HV2 := fun w' (hx : Ext w w') => Lib.hid (isValidMatrix_any r' c' hm w' (h2.ext hx))
  have HO : Hid (mmOkM r c n xs r' c' m ys = ((mGood r c n xs && (mGood r' c' m ys && (c == r'))) && mmTo xs ys c.toNat c'.toNat (r.toNat * c'.toNat))) := rfl
  have R1 := fun w' (hx : Ext w w') => Lib.hid (h1.ext hx)
  have R2' := fun w' (hx : Ext w w') => Lib.hid (h2.ext hx)
  obtain ⟨_, a1, cap1, rfl, _⟩ := h1
  obtain ⟨_, a2, cap2, rfl, _⟩ := h2
  cases g1 : mGood r c n xs
  · rw [g1] at HV1 HO
    have HF : Hid (mmOkM r c n xs r' c' m ys = false) := HO.out.trans (by simp)
    go_enter Try.func82, Try.ntmps82
    go_wp2_with fail
    refine ((HV1 _ (by repeat (first | exact Ext.refl _ | assumption | refine Ext.alloc ?_ _ | refine Ext.drew ?_ | refine Ext.drewN ?_ _ | refine Ext.setCell ?_ (by first | omega | (dsimp only; omega) | (simp; done) | (simp; omega)) _ | refine Ext.trans ?_ (by assumption)))).out).mono ?_
    rintro e w1 ⟨rfl, hx1⟩
    obtain ⟨hc1, hf1⟩ := hx1.cells
    have hz1 := hx1.size
    try simp at hz1
    have hs1_0 := sz3 (a := w.heap.size) (b := w1.heap.size) (by omega)
    go_wp2
    refine bodyPost_ret (v := .tuple #[.agg #[.int .i64 0, .int .i64 0, .slice none 0 0], .bool false]) (by simp [results, Try.results82, go_sem, *]) rfl ?_
    rw [HF.out]
    exact ⟨_, rfl, own_nil _ _ _ _, (by repeat (first | (with_reducible refine Ext.setCell ?_ (by first | (simp; done) | (simp; omega)) _) | with_reducible refine Ext.alloc ?_ _ | with_reducible refine Ext.drew ?_ | with_reducible refine Ext.drewN ?_ _ | with_reducible assumption | with_reducible exact Ext.refl _ | with_reducible refine Ext.trans ?_ (by with_reducible assumption)))⟩
  cases g2 : mGood r' c' m ys
  · rw [g1] at HV1 HO
    rw [g2] at HV2 HO
    have HF : Hid (mmOkM r c n xs r' c' m ys = false) := HO.out.trans (by simp)
    go_enter Try.func82, Try.ntmps82
    go_wp2_with fail
    refine ((HV1 _ (by repeat (first | exact Ext.refl _ | assumption | refine Ext.alloc ?_ _ | refine Ext.drew ?_ | refine Ext.drewN ?_ _ | refine Ext.setCell ?_ (by first | omega | (dsimp only; omega) | (simp; done) | (simp; omega)) _ | refine Ext.trans ?_ (by assumption)))).out).mono ?_
    rintro e w1 ⟨rfl, hx1⟩
    obtain ⟨hc1, hf1⟩ := hx1.cells
    have hz1 := hx1.size
    try simp at hz1
    have hs1_0 := sz3 (a := w.heap.size) (b := w1.heap.size) (by omega)
    go_wp2_with fail
    refine ((HV2 _ (by repeat (first | exact Ext.refl _ | assumption | refine Ext.alloc ?_ _ | refine Ext.drew ?_ | refine Ext.drewN ?_ _ | refine Ext.setCell ?_ (by first | omega | (dsimp only; omega) | (simp; done) | (simp; omega)) _ | refine Ext.trans ?_ (by assumption)))).out).mono ?_
    rintro e w2 ⟨rfl, hx2⟩
    obtain ⟨hc2, hf2⟩ := hx2.cells
    have hz2 := hx2.size
    try simp at hz2
    have hs2_0 := sz3 (a := w.heap.size) (b := w2.heap.size) (by omega)
    go_wp2
    refine bodyPost_ret (v := .tuple #[.agg #[.int .i64 0, .int .i64 0, .slice none 0 0], .bool false]) (by simp [results, Try.results82, go_sem, *]) rfl ?_
    rw [HF.out]
    exact ⟨_, rfl, own_nil _ _ _ _, (by repeat (first | (with_reducible refine Ext.setCell ?_ (by first | (simp; done) | (simp; omega)) _) | with_reducible refine Ext.alloc ?_ _ | with_reducible refine Ext.drew ?_ | with_reducible refine Ext.drewN ?_ _ | with_reducible assumption | with_reducible exact Ext.refl _ | with_reducible refine Ext.trans ?_ (by with_reducible assumption)))⟩
  by_cases g3 : c = r'
  case neg =>
    rw [g1] at HV1 HO
    rw [g2] at HV2 HO
    have HF : Hid (mmOkM r c n xs r' c' m ys = false) := HO.out.trans (by simp [g3])
    go_enter Try.func82, Try.ntmps82
    go_wp2_with fail
    refine ((HV1 _ (by repeat (first | exact Ext.refl _ | assumption | refine Ext.alloc ?_ _ | refine Ext.drew ?_ | refine Ext.drewN ?_ _ | refine Ext.setCell ?_ (by first | omega | (dsimp only; omega) | (simp; done) | (simp; omega)) _ | refine Ext.trans ?_ (by assumption)))).out).mono ?_
    rintro e w1 ⟨rfl, hx1⟩
    obtain ⟨hc1, hf1⟩ := hx1.cells
    have hz1 := hx1.size
    try simp at hz1
    have hs1_0 := sz3 (a := w.heap.size) (b := w1.heap.size) (by omega)
    go_wp2_with fail
    refine ((HV2 _ (by repeat (first | exact Ext.refl _ | assumption | refine Ext.alloc ?_ _ | refine Ext.drew ?_ | refine Ext.drewN ?_ _ | refine Ext.setCell ?_ (by first | omega | (dsimp only; omega) | (simp; done) | (simp; omega)) _ | refine Ext.trans ?_ (by assumption)))).out).mono ?_
    rintro e w2 ⟨rfl, hx2⟩
    obtain ⟨hc2, hf2⟩ := hx2.cells
    have hz2 := hx2.size
    try simp at hz2
    have hs2_0 := sz3 (a := w.heap.size) (b := w2.heap.size) (by omega)
    go_wp2
    refine bodyPost_ret (v := .tuple #[.agg #[.int .i64 0, .int .i64 0, .slice none 0 0], .bool false]) (by simp [results, Try.results82, go_sem, *]) rfl ?_
    rw [HF.out]
    exact ⟨_, rfl, own_nil _ _ _ _, (by repeat (first | (with_reducible refine Ext.setCell ?_ (by first | (simp; done) | (simp; omega)) _) | with_reducible refine Ext.alloc ?_ _ | with_reducible refine Ext.drew ?_ | with_reducible refine Ext.drewN ?_ _ | with_reducible assumption | with_reducible exact Ext.refl _ | with_reducible refine Ext.trans ?_ (by with_reducible assumption)))⟩
  subst g3
  rw [g1] at HV1 HO
  rw [g2] at HV2 HO
  simp only [beq_self_eq_true, Bool.true_and] at HO
  obtain ⟨d1, d2, e1, _⟩ := mGood_facts g1
  obtain ⟨_, d3, e2, _⟩ := mGood_facts g2
  obtain ⟨R, rfl⟩ := nat_of_dim d1
  obtain ⟨K, rfl⟩ := nat_of_dim d2
  obtain ⟨C, rfl⟩ := nat_of_dim d3
  obtain rfl : n = R * K := by exact_mod_cast e1
  obtain rfl : m = K * C := by exact_mod_cast e2
  have bR := dim_bd d1
  have bK := dim_bd d2
  have bC := dim_bd d3
  rw [HO.out]
  simp only [Int.toNat_natCast]
  unfold mmTo mmLM
  have HMO := fun w2 hcl => Lib.hid (matrixOf_mul R C d1 d3 w.heap.size (w.heap.size + 1) (fun p => (mcV xs ys K C (p / C) (p % C)).1) (fun p => (mcV xs ys K C (p / C) (p % C)).2) (fun p => mlO xs ys K C (p / C) (p % C) K) w2 hcl)
  clear HO g1 g2 d1 d2 d3 e1 e2
  have HCC' : ∀ (i j : Nat) (hi : i < R) (hj : j < C) (w' : World), RV w' 5 (.slice a1 (R * K) cap1) (R * K) xs → RV w' 5 (.slice a2 (K * C) cap2) (K * C) ys →
      w'.heap[w.heap.size]? = some (.cells #[.int .i64 R, .int .i64 K, .slice a1 (R * K) cap1] 71 (0, 0)) → w'.heap[w.heap.size + 1]? = some (.cells #[.int .i64 K, .int .i64 C, .slice a2 (K * C) cap2] 71 (0, 0)) →
      Hid (Calls Try.prog 101 #[.int .i64 i, .int .i64 j, .pointer (some ⟨w.heap.size, 0, none⟩), .pointer (some ⟨w.heap.size + 1, 0, none⟩)] w' fun en w'' =>
      en = .returned (.tuple #[.agg #[.int .i64 (mcV xs ys K C ((i * C + j) / C) ((i * C + j) % C)).1.a, .int .i64 (mcV xs ys K C ((i * C + j) / C) ((i * C + j) % C)).1.b, .int .i64 (mcV xs ys K C ((i * C + j) / C) ((i * C + j) % C)).1.c, .int .i64 (mcV xs ys K C ((i * C + j) / C) ((i * C + j) % C)).1.d, .int .i64 (mcV xs ys K C ((i * C + j) / C) ((i * C + j) % C)).2], .bool (mlO xs ys K C ((i * C + j) / C) ((i * C + j) % C) K)]) ∧ Ext w' w'') := by
    intro i j hi hj w' k1 k2 k3 k4
    obtain ⟨q1, q2⟩ := pair_div (i := i) hj
    rw [q1, q2]
    exact mulCell_any R K C (by omega) (by omega) (by omega) i j hi hj w.heap.size (w.heap.size + 1) w' k1 k2 k3 k4
  generalize allTo (fun p => mlO xs ys K C (p / C) (p % C) K) (R * C) = o at HMO ⊢
  generalize moL (fun p => (mcV xs ys K C (p / C) (p % C)).1) (fun p => (mcV xs ys K C (p / C) (p % C)).2) (R * C) = L at HMO ⊢
  generalize ifZ o (R : Int) = rr at HMO ⊢
  generalize ifZ o (C : Int) = cc at HMO ⊢
  generalize ifN o (R * C) = nn at HMO ⊢
  generalize ifL o L = LL at HMO ⊢
  go_enter Try.func82, Try.ntmps82
  go_wp2_with fail
  refine ((HV1 _ (by repeat (first | exact Ext.refl _ | assumption | refine Ext.alloc ?_ _ | refine Ext.drew ?_ | refine Ext.drewN ?_ _ | refine Ext.setCell ?_ (by first | omega | (dsimp only; omega) | (simp; done) | (simp; omega)) _ | refine Ext.trans ?_ (by assumption)))).out).mono ?_
  rintro e w1 ⟨rfl, hx1⟩
  obtain ⟨hc1, hf1⟩ := hx1.cells
  have hz1 := hx1.size
  try simp at hz1
  have hs1_0 := sz3 (a := w.heap.size) (b := w1.heap.size) (by omega)
  go_wp2_with fail
  refine ((HV2 _ (by repeat (first | exact Ext.refl _ | assumption | refine Ext.alloc ?_ _ | refine Ext.drew ?_ | refine Ext.drewN ?_ _ | refine Ext.setCell ?_ (by first | omega | (dsimp only; omega) | (simp; done) | (simp; omega)) _ | refine Ext.trans ?_ (by assumption)))).out).mono ?_
  rintro e w2 ⟨rfl, hx2⟩
  obtain ⟨hc2, hf2⟩ := hx2.cells
  have hz2 := hx2.size
  try simp at hz2
  have hs2_0 := sz3 (a := w.heap.size) (b := w2.heap.size) (by omega)
  have hb1 : w2.heap[w.heap.size]? = some (.cells #[.int .i64 R, .int .i64 K, .slice a1 (R * K) cap1] 71 (0, 0)) := (hx2.heap (by omega)).trans ((hx1.heap (by simp <;> omega)).trans (heap_alloc_lt (heap_alloc_lt (heap_alloc_new _ _))))
  have hb2 : w2.heap[w.heap.size + 1]? = some (.cells #[.int .i64 K, .int .i64 C, .slice a2 (K * C) cap2] 71 (0, 0)) := (hx2.heap (by omega)).trans ((hx1.heap (by simp <;> omega)).trans (heap_alloc_lt (heap_alloc_at _ _ _ (by simp))))
  have hE2 : Ext w w2 := (by repeat (first | (with_reducible refine Ext.setCell ?_ (by first | (simp; done) | (simp; omega)) _) | with_reducible refine Ext.alloc ?_ _ | with_reducible refine Ext.drew ?_ | with_reducible refine Ext.drewN ?_ _ | with_reducible assumption | with_reducible exact Ext.refl _ | with_reducible refine Ext.trans ?_ (by with_reducible assumption)))
  have HCL := HMO w2 (fun i j w' hi hj hx => HCC' i j hi hj w' (R1 w' (hE2.trans hx)).out (R2' w' (hE2.trans hx)).out ((hx.heap (by omega)).trans hb1) ((hx.heap (by omega)).trans hb2))
  clear HMO HCC' hb1 hb2 R1 R2' HV1 HV2
  go_wp2_with fail
  refine HCL.out.mono ?_
  rintro e w3 ⟨v, rfl, o3, hx3⟩
  obtain ⟨hc3, hf3⟩ := hx3.cells
  have hz3 := hx3.size
  try simp at hz3
  have hs3_0 := sz3 (a := w.heap.size) (b := w3.heap.size) (by omega)
  have O3 := Lib.hid (own_base (base' := w2.heap.size) o3 (by omega))
  obtain ⟨a', cap', rfl, q1, q2, q3⟩ := own_shape o3
  clear q3 o3 HCL
  go_wp2
  refine bodyPost_ret (v := .tuple #[.agg #[.int .i64 rr, .int .i64 cc, .slice a' nn cap'], .bool o]) (by simp [results, Try.results82, go_sem, *]) rfl ?_
  exact ⟨_, rfl, own_base (own_set (own_set (own_set O3.out (by simp; omega) _) (by simp; omega) _) (by simp; omega) _) (by omega), (by repeat (first | (with_reducible refine Ext.setCell ?_ (by first | (simp; done) | (simp; omega)) _) | with_reducible refine Ext.alloc ?_ _ | with_reducible refine Ext.drew ?_ | with_reducible refine Ext.drewN ?_ _ | with_reducible assumption | with_reducible exact Ext.refl _ | with_reducible refine Ext.trans ?_ (by with_reducible assumption)))⟩

end Go.Proofs.Ytbddgeoaaklgpaa
