/- AddMatrix: the program's side. -/
import Derived.Test.YtnlhonlfkmpleaaMoAdd
import Derived.Test.YtnlhonlfkmpleaaDyK
import Derived.Test.YtnlhonlfkmpleaaMat
import Derived.Test.YtnlhonlfkmpleaaWro
namespace Go.Proofs.Ytnlhonlfkmpleaa
open Go.RowKit Go.Lib
set_option linter.unusedVariables false
set_option linter.unusedSimpArgs false

set_option maxHeartbeats 1000000 in
theorem addCell_any (r r' c : Int) {v1 v2 : Value} {n : Nat} {xs ys : List Int} (hn : n ≤ 2000000) (i1 i2 : Int) (j : Nat) (hp : i1 * c + i2 = j) (hlt : j < n) (hb : -1000000 ≤ i1 * c ∧ i1 * c ≤ 1000000) (hb2 : -1000000 ≤ i2 ∧ i2 ≤ 1000000)
    (b1 b2 : Nat) (w : World) (h1 : RV w 5 v1 n xs) (h2 : RV w 5 v2 n ys) (hc1 : w.heap[b1]? = some (.cells #[.int .i64 r, .int .i64 c, v1] 51 (0, 0))) (hc2 : w.heap[b2]? = some (.cells #[.int .i64 r', .int .i64 c, v2] 51 (0, 0))) :
    Calls Try.prog 84 #[.int .i64 i1, .int .i64 i2, .pointer (some ⟨b1, 0, none⟩), .pointer (some ⟨b2, 0, none⟩)] w fun en w' =>
      en = .returned (.tuple #[.agg #[.int .i64 (adX (dyAt xs j) (exAt xs j) (dyAt ys j) (exAt ys j)).a, .int .i64 (adX (dyAt xs j) (exAt xs j) (dyAt ys j) (exAt ys j)).b, .int .i64 (adX (dyAt xs j) (exAt xs j) (dyAt ys j) (exAt ys j)).c, .int .i64 (adX (dyAt xs j) (exAt xs j) (dyAt ys j) (exAt ys j)).d, .int .i64 (adE (dyAt xs j) (exAt xs j) (dyAt ys j) (exAt ys j))],
        .bool (adOk (dyAt xs j) (exAt xs j) (dyAt ys j) (exAt ys j))]) ∧ Ext w w' := by
  have H1 := fun w' (hx : Ext w w') => Lib.hid (at_any r c hn i1 i2 j hp hlt hb hb2 w' (h1.ext hx))
  have H2 := fun w' (hx : Ext w w') => Lib.hid (at_any r' c hn i1 i2 j hp hlt hb hb2 w' (h2.ext hx))
  have HA := fun w' => Lib.hid (addDyadic_any (dyAt xs j) (exAt xs j) (dyAt ys j) (exAt ys j) w')
  obtain ⟨_, a1, cap1, rfl, _⟩ := h1
  obtain ⟨_, a2, cap2, rfl, _⟩ := h2
  have hl1 : b1 < w.heap.size := (Array.getElem?_eq_some_iff.1 hc1).1
  have hl2 : b2 < w.heap.size := (Array.getElem?_eq_some_iff.1 hc2).1
  have z1 : ∀ k, w.cell? ⟨b1, k, none⟩ = (#[.int .i64 r, .int .i64 c, .slice a1 n cap1] : Array Value)[k]? := fun k => cell_of_row _ _ _ _ _ _ hc1
  have z2 : ∀ k, w.cell? ⟨b2, k, none⟩ = (#[.int .i64 r', .int .i64 c, .slice a2 n cap2] : Array Value)[k]? := fun k => cell_of_row _ _ _ _ _ _ hc2
  generalize dyAt xs j = X at *
  generalize dyAt ys j = Y at *
  generalize exAt xs j = e at *
  generalize exAt ys j = f at *
  generalize adX X e Y f = Q at *
  generalize adE X e Y f = q at *
  generalize adOk X e Y f = o at *
  clear hp hb hb2 hc1 hc2
  go_enter Try.func84, Try.ntmps84
  go_wp2
  refine wp_region_madePC (m := 19) (w) (by kernel_rfl) (by kernel_rfl) (by rfl) (by exact (Ext.refl w).alloc _) (fun hxc => ?_)
  repeat (refine mw_quiet ?_; apply Exists.intro; refine ⟨fun σ => ?_, ?_⟩; (first | (go_simp; rfl) | (go_simp; intro x; first | (go_at_call 85; with_reducible exact (H1 _ x.ext).out) | (go_at_call 85; with_reducible exact (H2 _ x.ext).out) | (go_at_call 20; with_reducible exact (HA _).out) | (go_at_call 85; exact (H1 _ x.ext).out) | (go_at_call 85; exact (H2 _ x.ext).out) | (go_at_call 20; exact (HA _).out))); simp only [Act.put, List.setIfInBounds_toArray, List.set_cons_succ, List.set_cons_zero, List.nil_append, List.cons_append])
  refine mw_put (w.heap.size) 34 #[.int .i64 0, .int .i64 0, .int .i64 0, .int .i64 0, .int .i64 0] #[.int .i64 Q.a, .int .i64 Q.b, .int .i64 Q.c, .int .i64 Q.d, .int .i64 q] rfl (by first | (simp; done) | (simp; omega)) (heap_alloc_new _ _) (fun σ x hc => ?_) ?_
  · have hcell : ∀ k, x.w.cell? ⟨w.heap.size, k, none⟩ = (#[.int .i64 0, .int .i64 0, .int .i64 0, .int .i64 0, .int .i64 0] : Array Value)[k]? := fun k => cell_of_row _ _ _ _ _ _ hc
    have hfr : ∀ k, x.w.frozen? ⟨w.heap.size, k, none⟩ = false := fun k => frozen_of_row _ _ _ _ _ hc
    apply Exists.intro
    refine ⟨?_, ?_⟩
    · go_simp
      rfl
    · exact (((((Fill.start hc).set 0 _).set 1 _).set 2 _).set 3 _).set 4 _
  simp only [Act.put, List.nil_append, List.cons_append]
  repeat (refine mw_quiet ?_; apply Exists.intro; refine ⟨fun σ => ?_, ?_⟩; (first | (go_simp; rfl) | (go_simp; intro x; first | (go_at_call 85; with_reducible exact (H1 _ x.ext).out) | (go_at_call 85; with_reducible exact (H2 _ x.ext).out) | (go_at_call 20; with_reducible exact (HA _).out) | (go_at_call 85; exact (H1 _ x.ext).out) | (go_at_call 85; exact (H2 _ x.ext).out) | (go_at_call 20; exact (HA _).out))); simp only [Act.put, List.setIfInBounds_toArray, List.set_cons_succ, List.set_cons_zero, List.nil_append, List.cons_append])
  refine ⟨by kernel_rfl, fun σ w1 hF1 => ?_⟩
  have hx1 := hF1.ext
  have hP1 := hF1.put 11 (undef) (w.heap.size) 34 #[.int .i64 0, .int .i64 0, .int .i64 0, .int .i64 0, .int .i64 0] #[.int .i64 Q.a, .int .i64 Q.b, .int .i64 Q.c, .int .i64 Q.d, .int .i64 q] (by decide) rfl
  clear hF1 hxc
  have hPc1 : ∀ j, w1.cell? ⟨w.heap.size, j, none⟩ = (#[.int .i64 Q.a, .int .i64 Q.b, .int .i64 Q.c, .int .i64 Q.d, .int .i64 q] : Array Value)[j]? := fun j => cell_of_row _ _ _ _ _ _ hP1
  have hPf1 : ∀ j, w1.frozen? ⟨w.heap.size, j, none⟩ = false := fun j => frozen_of_row _ _ _ _ _ hP1
  clear hP1
  obtain ⟨hc1, hf1⟩ := hx1.cells
  have hz1 := hx1.size
  try simp at hz1
  go_wp2
  refine bodyPost_ret (v := .tuple #[.agg #[.int .i64 Q.a, .int .i64 Q.b, .int .i64 Q.c, .int .i64 Q.d, .int .i64 q], .bool o]) (by simp [results, Try.results84, go_sem, *]) rfl ⟨rfl, ?_⟩
  exact (by repeat (first | (with_reducible refine Ext.setCell ?_ (by first | (simp; done) | (simp; omega)) _) | with_reducible refine Ext.alloc ?_ _ | with_reducible refine Ext.drew ?_ | with_reducible refine Ext.drewN ?_ _ | with_reducible assumption | with_reducible exact Ext.refl _ | with_reducible refine Ext.trans ?_ (by with_reducible assumption)))

/-- whether two matrices can be added, whether their sum is there -/
def amFit (r c : Int) (n : Nat) (xs : List Int) (r' c' : Int) (m : Nat) (ys : List Int) : Bool := mGood r c n xs && (mGood r' c' m ys && ((r == r') && (c == c')))
def amTo (xs ys : List Int) (n : Nat) : Bool := allTo (fun p => adOk (dyAt xs p) (exAt xs p) (dyAt ys p) (exAt ys p)) n
def amOkM (r c : Int) (n : Nat) (xs : List Int) (r' c' : Int) (m : Nat) (ys : List Int) : Bool := amFit r c n xs r' c' m ys && amTo xs ys n
def amLM (xs ys : List Int) (n : Nat) : List Int := moL (fun p => adX (dyAt xs p) (exAt xs p) (dyAt ys p) (exAt ys p)) (fun p => adE (dyAt xs p) (exAt xs p) (dyAt ys p) (exAt ys p)) n
theorem nat_of_dim {r : Int} (h : dimB r = true) : ∃ R : Nat, r = R := ⟨r.toNat, by have := dim_bd h; omega⟩

set_option maxHeartbeats 2000000 in
theorem addMatrix_any (r c r' c' : Int) {v1 v2 : Value} {n m : Nat} {xs ys : List Int} (hn : n ≤ 2000000) (hm : m ≤ 2000000) (w : World) (h1 : RV w 5 v1 n xs) (h2 : RV w 5 v2 m ys) :
    Calls Try.prog 39 #[.agg #[.int .i64 r, .int .i64 c, v1], .agg #[.int .i64 r', .int .i64 c', v2]] w fun en w' => ∃ v, en = .returned (.tuple #[.agg #[.int .i64 (ifZ (amOkM r c n xs r' c' m ys) r), .int .i64 (ifZ (amOkM r c n xs r' c' m ys) c), v], .bool (amOkM r c n xs r' c' m ys)]) ∧
      w'.ownsRow w.heap.size 34 5 v (ifN (amOkM r c n xs r' c' m ys) n) (IL (ifL (amOkM r c n xs r' c' m ys) (amLM xs ys n))) ∧ Ext w w' := by
  have HV1 := fun w' (hx : Ext w w') => Lib.hid (isValidMatrix_any r c hn w' (h1.ext hx))
  have HV2 := fun w' (hx : Ext w w') => Lib.hid (isValidMatrix_any r' c' hm w' (h2.ext hx))
  have HO : Hid (amOkM r c n xs r' c' m ys = ((mGood r c n xs && (mGood r' c' m ys && ((r == r') && (c == c')))) && amTo xs ys n)) := rfl
  have R1 := fun w' (hx : Ext w w') => Lib.hid (h1.ext hx)
  have R2' := fun w' (hx : Ext w w') => Lib.hid (h2.ext hx)
  obtain ⟨_, a1, cap1, rfl, _⟩ := h1
  obtain ⟨_, a2, cap2, rfl, _⟩ := h2
  cases g1 : mGood r c n xs
  · rw [g1] at HV1 HO
    have HF : Hid (amOkM r c n xs r' c' m ys = false) := HO.out.trans (by simp)
    go_enter Try.func39, Try.ntmps39
    go_wp2_with fail
    refine ((HV1 _ (by repeat (first | exact Ext.refl _ | assumption | refine Ext.alloc ?_ _ | refine Ext.drew ?_ | refine Ext.drewN ?_ _ | refine Ext.setCell ?_ (by first | omega | (dsimp only; omega) | (simp; done) | (simp; omega)) _ | refine Ext.trans ?_ (by assumption)))).out).mono ?_
    rintro e w1 ⟨rfl, hx1⟩
    obtain ⟨hc1, hf1⟩ := hx1.cells
    have hz1 := hx1.size
    try simp at hz1
    have hs1_0 := sz3 (a := w.heap.size) (b := w1.heap.size) (by omega)
    go_wp2
    refine bodyPost_ret (v := .tuple #[.agg #[.int .i64 0, .int .i64 0, .slice none 0 0], .bool false]) (by simp [results, Try.results39, go_sem, *]) rfl ?_
    rw [HF.out]
    exact ⟨_, rfl, own_nil _ _ _ _, (by repeat (first | (with_reducible refine Ext.setCell ?_ (by first | (simp; done) | (simp; omega)) _) | with_reducible refine Ext.alloc ?_ _ | with_reducible refine Ext.drew ?_ | with_reducible refine Ext.drewN ?_ _ | with_reducible assumption | with_reducible exact Ext.refl _ | with_reducible refine Ext.trans ?_ (by with_reducible assumption)))⟩
  cases g2 : mGood r' c' m ys
  · rw [g1] at HV1 HO
    rw [g2] at HV2 HO
    have HF : Hid (amOkM r c n xs r' c' m ys = false) := HO.out.trans (by simp)
    go_enter Try.func39, Try.ntmps39
    go_wp2_with fail
    refine ((HV1 _ (by repeat (first | exact Ext.refl _ | assumption | refine Ext.alloc ?_ _ | refine Ext.drew ?_ | refine Ext.drewN ?_ _ | refine Ext.setCell ?_ (by first | omega | (dsimp only; omega) | (simp; done) | (simp; omega)) _ | refine Ext.trans ?_ (by assumption)))).out).mono ?_
    rintro e w1 ⟨rfl, hx1⟩
    obtain ⟨hc1, hf1⟩ := hx1.cells
    have hz1 := hx1.size
    try simp at hz1
    have hs1_0 := sz3 (a := w.heap.size) (b := w1.heap.size) (by omega)
    go_wp2_with fail
    refine ((HV2 _ (by repeat (first | exact Ext.refl _ | assumption | refine Ext.alloc ?_ _ | refine Ext.drew ?_ | refine Ext.drewN ?_ _ | refine Ext.setCell ?_ (by first | omega | (dsimp only; omega) | (simp; done) | (simp; omega)) _ | refine Ext.trans ?_ (by assumption)))).out).mono ?_
    rintro e w2 ⟨rfl, hx2⟩
    obtain ⟨hc2, hf2⟩ := hx2.cells
    have hz2 := hx2.size
    try simp at hz2
    have hs2_0 := sz3 (a := w.heap.size) (b := w2.heap.size) (by omega)
    go_wp2
    refine bodyPost_ret (v := .tuple #[.agg #[.int .i64 0, .int .i64 0, .slice none 0 0], .bool false]) (by simp [results, Try.results39, go_sem, *]) rfl ?_
    rw [HF.out]
    exact ⟨_, rfl, own_nil _ _ _ _, (by repeat (first | (with_reducible refine Ext.setCell ?_ (by first | (simp; done) | (simp; omega)) _) | with_reducible refine Ext.alloc ?_ _ | with_reducible refine Ext.drew ?_ | with_reducible refine Ext.drewN ?_ _ | with_reducible assumption | with_reducible exact Ext.refl _ | with_reducible refine Ext.trans ?_ (by with_reducible assumption)))⟩
  by_cases g3 : r = r'
  case neg =>
    rw [g1] at HV1 HO
    rw [g2] at HV2 HO
    have HF : Hid (amOkM r c n xs r' c' m ys = false) := HO.out.trans (by simp [g3])
    go_enter Try.func39, Try.ntmps39
    go_wp2_with fail
    refine ((HV1 _ (by repeat (first | exact Ext.refl _ | assumption | refine Ext.alloc ?_ _ | refine Ext.drew ?_ | refine Ext.drewN ?_ _ | refine Ext.setCell ?_ (by first | omega | (dsimp only; omega) | (simp; done) | (simp; omega)) _ | refine Ext.trans ?_ (by assumption)))).out).mono ?_
    rintro e w1 ⟨rfl, hx1⟩
    obtain ⟨hc1, hf1⟩ := hx1.cells
    have hz1 := hx1.size
    try simp at hz1
    have hs1_0 := sz3 (a := w.heap.size) (b := w1.heap.size) (by omega)
    go_wp2_with fail
    refine ((HV2 _ (by repeat (first | exact Ext.refl _ | assumption | refine Ext.alloc ?_ _ | refine Ext.drew ?_ | refine Ext.drewN ?_ _ | refine Ext.setCell ?_ (by first | omega | (dsimp only; omega) | (simp; done) | (simp; omega)) _ | refine Ext.trans ?_ (by assumption)))).out).mono ?_
    rintro e w2 ⟨rfl, hx2⟩
    obtain ⟨hc2, hf2⟩ := hx2.cells
    have hz2 := hx2.size
    try simp at hz2
    have hs2_0 := sz3 (a := w.heap.size) (b := w2.heap.size) (by omega)
    go_wp2
    refine bodyPost_ret (v := .tuple #[.agg #[.int .i64 0, .int .i64 0, .slice none 0 0], .bool false]) (by simp [results, Try.results39, go_sem, *]) rfl ?_
    rw [HF.out]
    exact ⟨_, rfl, own_nil _ _ _ _, (by repeat (first | (with_reducible refine Ext.setCell ?_ (by first | (simp; done) | (simp; omega)) _) | with_reducible refine Ext.alloc ?_ _ | with_reducible refine Ext.drew ?_ | with_reducible refine Ext.drewN ?_ _ | with_reducible assumption | with_reducible exact Ext.refl _ | with_reducible refine Ext.trans ?_ (by with_reducible assumption)))⟩
  by_cases g4 : c = c'
  case neg =>
    rw [g1] at HV1 HO
    rw [g2] at HV2 HO
    have HF : Hid (amOkM r c n xs r' c' m ys = false) := HO.out.trans (by simp [g4])
    subst g3
    go_enter Try.func39, Try.ntmps39
    go_wp2_with fail
    refine ((HV1 _ (by repeat (first | exact Ext.refl _ | assumption | refine Ext.alloc ?_ _ | refine Ext.drew ?_ | refine Ext.drewN ?_ _ | refine Ext.setCell ?_ (by first | omega | (dsimp only; omega) | (simp; done) | (simp; omega)) _ | refine Ext.trans ?_ (by assumption)))).out).mono ?_
    rintro e w1 ⟨rfl, hx1⟩
    obtain ⟨hc1, hf1⟩ := hx1.cells
    have hz1 := hx1.size
    try simp at hz1
    have hs1_0 := sz3 (a := w.heap.size) (b := w1.heap.size) (by omega)
    go_wp2_with fail
    refine ((HV2 _ (by repeat (first | exact Ext.refl _ | assumption | refine Ext.alloc ?_ _ | refine Ext.drew ?_ | refine Ext.drewN ?_ _ | refine Ext.setCell ?_ (by first | omega | (dsimp only; omega) | (simp; done) | (simp; omega)) _ | refine Ext.trans ?_ (by assumption)))).out).mono ?_
    rintro e w2 ⟨rfl, hx2⟩
    obtain ⟨hc2, hf2⟩ := hx2.cells
    have hz2 := hx2.size
    try simp at hz2
    have hs2_0 := sz3 (a := w.heap.size) (b := w2.heap.size) (by omega)
    go_wp2
    refine bodyPost_ret (v := .tuple #[.agg #[.int .i64 0, .int .i64 0, .slice none 0 0], .bool false]) (by simp [results, Try.results39, go_sem, *]) rfl ?_
    rw [HF.out]
    exact ⟨_, rfl, own_nil _ _ _ _, (by repeat (first | (with_reducible refine Ext.setCell ?_ (by first | (simp; done) | (simp; omega)) _) | with_reducible refine Ext.alloc ?_ _ | with_reducible refine Ext.drew ?_ | with_reducible refine Ext.drewN ?_ _ | with_reducible assumption | with_reducible exact Ext.refl _ | with_reducible refine Ext.trans ?_ (by with_reducible assumption)))⟩
  subst g3
  subst g4
  rw [g1] at HV1 HO
  rw [g2] at HV2 HO
  simp only [beq_self_eq_true, Bool.true_and] at HO
  obtain ⟨d1, d2, e1, _⟩ := mGood_facts g1
  obtain ⟨_, _, e2, _⟩ := mGood_facts g2
  obtain ⟨R, rfl⟩ := nat_of_dim d1
  obtain ⟨C, rfl⟩ := nat_of_dim d2
  obtain rfl : n = R * C := by exact_mod_cast e1
  obtain rfl : m = R * C := by exact_mod_cast e2
  have bR := dim_bd d1
  have bC := dim_bd d2
  rw [HO.out]
  unfold amTo amLM
  have HMO := fun w2 hcl => Lib.hid (matrixOf_add R C d1 d2 w.heap.size (w.heap.size + 1) (fun p => adX (dyAt xs p) (exAt xs p) (dyAt ys p) (exAt ys p)) (fun p => adE (dyAt xs p) (exAt xs p) (dyAt ys p) (exAt ys p)) (fun p => adOk (dyAt xs p) (exAt xs p) (dyAt ys p) (exAt ys p)) w2 hcl)
  have HCC := fun (i j : Nat) (hi : i < R) (hj : j < C) (w' : World) => Lib.hid (addCell_any R R C (v1 := .slice a1 (R * C) cap1) (v2 := .slice a2 (R * C) cap2) (xs := xs) (ys := ys) hn i j (i * C + j) (by push_cast; rfl) (by
      have : (i + 1) * C ≤ R * C := Nat.mul_le_mul_right C hi
      rw [Nat.succ_mul] at this
      omega) (by
      have := mul_bd (a := (i : Int)) (b := (C : Int)) (A := 32) (B := 32) (by omega) (by omega) (by omega) (by omega)
      omega) (by omega) w.heap.size (w.heap.size + 1) w')
  clear HO g1 g2 d1 d2 e1 e2
  generalize allTo (fun p => adOk (dyAt xs p) (exAt xs p) (dyAt ys p) (exAt ys p)) (R * C) = o at HMO ⊢
  generalize moL (fun p => adX (dyAt xs p) (exAt xs p) (dyAt ys p) (exAt ys p)) (fun p => adE (dyAt xs p) (exAt xs p) (dyAt ys p) (exAt ys p)) (R * C) = L at HMO ⊢
  generalize ifZ o (R : Int) = rr at HMO ⊢
  generalize ifZ o (C : Int) = cc at HMO ⊢
  generalize ifN o (R * C) = nn at HMO ⊢
  generalize ifL o L = LL at HMO ⊢
  go_enter Try.func39, Try.ntmps39
  go_wp2_with fail
  refine ((HV1 _ (by repeat (first | exact Ext.refl _ | assumption | refine Ext.alloc ?_ _ | refine Ext.drew ?_ | refine Ext.drewN ?_ _ | refine Ext.setCell ?_ (by first | omega | (dsimp only; omega) | (simp; done) | (simp; omega)) _ | refine Ext.trans ?_ (by assumption)))).out).mono ?_
  rintro e w1 ⟨rfl, hx1⟩
  obtain ⟨hc1, hf1⟩ := hx1.cells
  have hz1 := hx1.size
  try simp at hz1
  have hs1_0 := sz3 (a := w.heap.size) (b := w1.heap.size) (by omega)
  go_wp2_with fail
  refine ((HV2 _ (by repeat (first | exact Ext.refl _ | assumption | refine Ext.alloc ?_ _ | refine Ext.drew ?_ | refine Ext.drewN ?_ _ | refine Ext.setCell ?_ (by first | omega | (dsimp only; omega) | (simp; done) | (simp; omega)) _ | refine Ext.trans ?_ (by assumption)))).out).mono ?_
  rintro e w2 ⟨rfl, hx2⟩
  obtain ⟨hc2, hf2⟩ := hx2.cells
  have hz2 := hx2.size
  try simp at hz2
  have hs2_0 := sz3 (a := w.heap.size) (b := w2.heap.size) (by omega)
  have hb1 : w2.heap[w.heap.size]? = some (.cells #[.int .i64 R, .int .i64 C, .slice a1 (R * C) cap1] 51 (0, 0)) := (hx2.heap (by omega)).trans ((hx1.heap (by simp <;> omega)).trans (heap_alloc_lt (heap_alloc_lt (heap_alloc_new _ _))))
  have hb2 : w2.heap[w.heap.size + 1]? = some (.cells #[.int .i64 R, .int .i64 C, .slice a2 (R * C) cap2] 51 (0, 0)) := (hx2.heap (by omega)).trans ((hx1.heap (by simp <;> omega)).trans (heap_alloc_lt (heap_alloc_at _ _ _ (by simp))))
  have hE2 : Ext w w2 := (by repeat (first | (with_reducible refine Ext.setCell ?_ (by first | (simp; done) | (simp; omega)) _) | with_reducible refine Ext.alloc ?_ _ | with_reducible refine Ext.drew ?_ | with_reducible refine Ext.drewN ?_ _ | with_reducible assumption | with_reducible exact Ext.refl _ | with_reducible refine Ext.trans ?_ (by with_reducible assumption)))
  have HCL := HMO w2 (fun i j w' hi hj hx => Lib.hid ((HCC i j hi hj w').out (R1 w' (hE2.trans hx)).out (R2' w' (hE2.trans hx)).out ((hx.heap (by omega)).trans hb1) ((hx.heap (by omega)).trans hb2)))
  clear HMO HCC hb1 hb2 R1 R2' HV1 HV2
  go_wp2_with fail
  refine HCL.out.mono ?_
  rintro e w3 ⟨v, rfl, o3, hx3⟩
  obtain ⟨hc3, hf3⟩ := hx3.cells
  have hz3 := hx3.size
  try simp at hz3
  have hs3_0 := sz3 (a := w.heap.size) (b := w3.heap.size) (by omega)
  have O3 := Lib.hid (own_base (base' := w2.heap.size) o3 (by omega))
  obtain ⟨a', cap', rfl, q1, q2, q3⟩ := own_shape o3
  clear q3 o3 HCL
  go_wp2
  refine bodyPost_ret (v := .tuple #[.agg #[.int .i64 rr, .int .i64 cc, .slice a' nn cap'], .bool o]) (by simp [results, Try.results39, go_sem, *]) rfl ?_
  exact ⟨_, rfl, own_base (own_set (own_set (own_set O3.out (by simp; omega) _) (by simp; omega) _) (by simp; omega) _) (by omega), (by repeat (first | (with_reducible refine Ext.setCell ?_ (by first | (simp; done) | (simp; omega)) _) | with_reducible refine Ext.alloc ?_ _ | with_reducible refine Ext.drew ?_ | with_reducible refine Ext.drewN ?_ _ | with_reducible assumption | with_reducible exact Ext.refl _ | with_reducible refine Ext.trans ?_ (by with_reducible assumption)))⟩

end Go.Proofs.Ytnlhonlfkmpleaa
