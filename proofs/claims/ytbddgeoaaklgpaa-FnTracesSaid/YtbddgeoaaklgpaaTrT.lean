/- The reference's sort by numbers (l24Sort). -/
import Derived.Test.YtbddgeoaaklgpaaTrS
namespace Go.Proofs.Ytbddgeoaaklgpaa
open Go.RowKit Go.Lib
set_option linter.unusedVariables false
set_option linter.unusedSimpArgs false

def kyL (P : List (Nat × G3)) : List Int := P.map fun x => (tkey x : Int)
def gtL (P : List (Nat × G3)) : List Int := tfl (P.map Prod.snd)
theorem kyL_len (P : List (Nat × G3)) : (kyL P).length = P.length := List.length_map _
theorem gtL_len (P : List (Nat × G3)) : (gtL P).length = P.length * 3 := by unfold gtL; rw [tfl_len, List.length_map]
theorem gtL_app (P Q : List (Nat × G3)) : gtL (P ++ Q) = gtL P ++ gtL Q := by unfold gtL; rw [List.map_append, tfl_app]
theorem gtL_cons (x : Nat × G3) (P : List (Nat × G3)) : gtL (x :: P) = tfl [x.2] ++ gtL P := rfl
theorem kyL_app (P Q : List (Nat × G3)) : kyL (P ++ Q) = kyL P ++ kyL Q := List.map_append
theorem set_mid : ∀ (A : List Int) (h z : Int) (B : List Int), (A ++ h :: B).set A.length z = A ++ z :: B
  | [], h, z, B => rfl
  | x :: A, h, z, B => by
    show (x :: (A ++ h :: B)).set (A.length + 1) z = x :: (A ++ z :: B)
    rw [List.set_cons_succ, set_mid A h z B]
theorem set_mid1 : ∀ (A : List Int) (u h z : Int) (B : List Int), (A ++ u :: h :: B).set (A.length + 1) z = A ++ u :: z :: B
  | [], u, h, z, B => rfl
  | x :: A, u, h, z, B => by
    show (x :: (A ++ u :: h :: B)).set (A.length + 1 + 1) z = x :: (A ++ u :: z :: B)
    rw [List.set_cons_succ, set_mid1 A u h z B]
theorem set_mid3 : ∀ (A : List Int) (h0 h1 h2 z0 z1 z2 : Int) (B : List Int), (((A ++ h0 :: h1 :: h2 :: B).set A.length z0).set (A.length + 1) z1).set (A.length + 2) z2 = A ++ z0 :: z1 :: z2 :: B
  | [], _, _, _, _, _, _, B => rfl
  | x :: A, h0, h1, h2, z0, z1, z2, B => by
    show (((x :: (A ++ h0 :: h1 :: h2 :: B)).set (A.length + 1) z0).set (A.length + 1 + 1) z1).set (A.length + 2 + 1) z2 = x :: (A ++ z0 :: z1 :: z2 :: B)
    rw [List.set_cons_succ, List.set_cons_succ, List.set_cons_succ, set_mid3 A]
theorem set_mid6 (A : List Int) (u0 u1 u2 h0 h1 h2 z0 z1 z2 : Int) (B : List Int) : (((A ++ u0 :: u1 :: u2 :: h0 :: h1 :: h2 :: B).set (A.length + 3) z0).set (A.length + 3 + 1) z1).set (A.length + 3 + 2) z2 = A ++ u0 :: u1 :: u2 :: z0 :: z1 :: z2 :: B := by
  have := set_mid3 (A ++ [u0, u1, u2]) h0 h1 h2 z0 z1 z2 B
  simpa using this
theorem mid_get3 (A : List Int) (z0 z1 z2 : Int) (B : List Int) : (IL (A ++ z0 :: z1 :: z2 :: B))[A.length]? = some (.int .i64 z0) ∧ (IL (A ++ z0 :: z1 :: z2 :: B))[A.length + 1]? = some (.int .i64 z1) ∧ (IL (A ++ z0 :: z1 :: z2 :: B))[A.length + 2]? = some (.int .i64 z2) := by
  refine ⟨?_, ?_, ?_⟩ <;> simp [IL, List.getElem?_append_right]
theorem mid_get (A : List Int) (z : Int) (B : List Int) : (IL (A ++ z :: B))[A.length]? = some (.int .i64 z) := by
  simp [IL]
theorem il_setT (L : List Int) (i : Nat) (y : Int) : (IL L).set i (.int .i64 y) = IL (L.set i y) := by simp [IL, List.map_set]

theorem loc_ne {v5 v : Value} {n N : Nat} (hl : v5.ownBlock = v.ownBlock ∨ v5.ownBlock = some n) (h : ∀ k, v.ownBlock = some k → k < N) (hn : N < n) : ∀ k, v5.ownBlock = some k → k ≠ N := fun k hk => by
  rcases hl with e | e
  · have := h k (e ▸ hk); omega
  · rw [e] at hk; cases hk; omega
theorem kyL_mid (A : List (Nat × G3)) (y : Nat × G3) (h : Int) (B : List Int) : kyL (A ++ [y]) ++ h :: B = kyL A ++ (tkey y : Int) :: h :: B := by rw [kyL_app]; simp [kyL]
theorem gtL_mid (A : List (Nat × G3)) (y : Nat × G3) (B : List Int) : gtL (A ++ [y]) ++ B = gtL A ++ (y.2.1 : Int) :: (y.2.2.1 : Int) :: (y.2.2.2 : Int) :: B := by rw [gtL_app]; simp [gtL, tfl]
theorem tpl_mem {xs : List Int} {y : Nat × G3} : ∀ {i : Nat}, y ∈ tpl S0 (clG xs i) → ∃ j, j < i ∧ y = (lyA xs j, gN xs j)
  | 0, h => by cases h
  | i + 1, h => by
    rw [tpl_succ] at h
    rcases List.mem_append.1 h with h | h
    · obtain ⟨j, hj, e⟩ := tpl_mem h
      exact ⟨j, by omega, e⟩
    · exact ⟨i, by omega, List.mem_singleton.1 h⟩
theorem tP_bd {q : Nat} {xs : List Int} {m i : Nat} (hc : cOk q xs m = true) (hi : i ≤ m) {y : Nat × G3} (hy : y ∈ tP (clG xs i)) : tkey y ≤ 1000000 := by
  have h1 : y ∈ tpl S0 (clG xs i) := by
    have := tsrt_mem.1 hy
    simpa using this
  obtain ⟨j, hj, rfl⟩ := tpl_mem h1
  have h2 := lyA_bd xs j
  have f := gOk_facts (cOk_gate hc (show j < m by omega)) (cOk_q1 hc).1
  have q1 := cOk_q1 hc
  have e : (gN xs j).2.1 = (at3 xs (j * 3 + 1)).toNat := rfl
  unfold tkey
  simp only
  omega
/-- the rows of keys and of gates, the box of the circuit -/
structure SR (b5 : Nat) (q : Int) (bv kv gv : Value) (nk ng : Nat) (Ls Gs : List Int) (w : World) : Prop where
  ko : w.ownsRow (b5 + 1) 3 1 kv nk (IL Ls)
  go : w.ownsRow (b5 + 1) 47 3 gv ng (IL Gs)
  df : ∀ k, kv.ownBlock = some k → gv.ownBlock ≠ some k
  bx : w.heap[b5]? = some (.cells #[.int .i64 q, bv] 25 (0, 0))
section
variable {b5 : Nat} {q : Int} {bv kv gv : Value} {nk ng : Nat} {Ls Gs : List Int} {w : World}
theorem SR.ext {w' : World} (h : SR b5 q bv kv gv nk ng Ls Gs w) (hx : Ext w w') : SR b5 q bv kv gv nk ng Ls Gs w' :=
  ⟨own_ext h.ko hx, own_ext h.go hx, h.df, (hx.heap (Array.getElem?_eq_some_iff.1 h.bx).1).trans h.bx⟩
theorem SR.setK {g c : Nat} (h : SR b5 q bv (.slice (some ⟨g, 0, none⟩) nk c) gv nk ng Ls Gs w) (j : Nat) (z : Int) : SR b5 q bv (.slice (some ⟨g, 0, none⟩) nk c) gv nk ng (Ls.set j z) Gs (w.setCell ⟨g, j, none⟩ (.int .i64 z)) := by
  have s := World.ownsRow.stored h.ko j (.int .i64 z)
  rw [il_setT] at s
  exact ⟨s.1, World.ownsRow.kept h.go s.2 (.inr (h.df g rfl)), h.df, heap_grown s.2 h.bx (fun e => by have := (World.ownsRow.lt h.ko g rfl).1; cases e; omega)⟩
theorem SR.setG {g c : Nat} (h : SR b5 q bv kv (.slice (some ⟨g, 0, none⟩) ng c) nk ng Ls Gs w) (j : Nat) (z : Int) : SR b5 q bv kv (.slice (some ⟨g, 0, none⟩) ng c) nk ng Ls (Gs.set j z) (w.setCell ⟨g, j, none⟩ (.int .i64 z)) := by
  have s := World.ownsRow.stored h.go j (.int .i64 z)
  rw [il_setT] at s
  exact ⟨World.ownsRow.kept h.ko s.2 (.inr (fun e => h.df g e rfl)), s.1, h.df, heap_grown s.2 h.bx (fun e => by have := (World.ownsRow.lt h.go g rfl).1; cases e; omega)⟩
/-- the row of keys has grown -/
theorem SR.appK {w' : World} {v5 : Value} {n5 : Nat} {L5 : List Int} (h : SR b5 q bv kv gv nk ng Ls Gs w) (ho : w'.ownsRow (b5 + 1) 3 1 v5 n5 (IL L5)) (hg : w.grownBy w' kv.ownBlock) (hl : v5.ownBlock = kv.ownBlock ∨ v5.ownBlock = some w.heap.size) : SR b5 q bv v5 gv n5 ng L5 Gs w' := by
  refine ⟨ho, World.ownsRow.kept h.go hg ?_, fun k hk => ?_, heap_grown hg h.bx (fun e => by have := (World.ownsRow.lt h.ko b5 e.symm).1; omega)⟩
  · rcases hb : gv.ownBlock with _ | k
    · exact .inl rfl
    · refine .inr (fun e => h.df k e.symm hb)
  · rcases hl with e | e
    · exact h.df k (e ▸ hk)
    · intro e2
      rw [e] at hk
      cases hk
      have := (World.ownsRow.lt h.go _ e2).2
      omega
theorem SR.appG {w' : World} {v5 : Value} {n5 : Nat} {L5 : List Int} (h : SR b5 q bv kv gv nk ng Ls Gs w) (ho : w'.ownsRow (b5 + 1) 47 3 v5 n5 (IL L5)) (hg : w.grownBy w' gv.ownBlock) (hl : v5.ownBlock = gv.ownBlock ∨ v5.ownBlock = some w.heap.size) : SR b5 q bv kv v5 nk n5 Ls L5 w' := by
  refine ⟨World.ownsRow.kept h.ko hg ?_, ho, fun k hk => ?_, heap_grown hg h.bx (fun e => by have := (World.ownsRow.lt h.go b5 e.symm).1; omega)⟩
  · rcases hb : kv.ownBlock with _ | k
    · exact .inl rfl
    · refine .inr (fun e => h.df k hb e.symm)
  · rcases hl with e | e
    · rw [e]; exact h.df k hk
    · intro e2
      rw [e] at e2
      cases e2
      have := (World.ownsRow.lt h.ko _ hk).2
      omega
theorem SR.setB (h : SR b5 q bv kv gv nk ng Ls Gs w) (u : Value) : SR b5 q u kv gv nk ng Ls Gs (w.setCell ⟨b5, 1, none⟩ u) :=
  ⟨own_set h.ko (by simp) _, own_set h.go (by simp) _, h.df, heap_set_at h.bx 1 _⟩
end

set_option maxRecDepth 20000 in
set_option maxHeartbeats 8000000 in
theorem l24Sort_any (q : Nat) {v v2 : Value} {m : Nat} {xs ks : List Int} (hc : cOk q xs m = true) (w : World) (h : RV w 3 v m xs) (hk : RV w 1 v2 m ks) (hks : ∀ j, j < m → at3 ks j = tkey (lyA xs j, gN xs j)) :
    Calls Try.prog 67 #[.agg #[.int .i64 q, v], v2] w fun e w' => ∃ v', e = .returned (.agg #[.int .i64 q, v']) ∧ w'.ownsRow w.heap.size 47 3 v' m (IL (gtL (tP (clG xs m)))) ∧ Ext w w' := by
  have hm := (cOk_q1 hc).2.2
  have HPS : Hid (∀ i, tP (clG xs (i + 1)) = tins (lyA xs i, gN xs i) (tP (clG xs i))) := Lib.hid (fun i => by unfold tP; rw [tpl_succ]; exact tsrt_snoc _ _ _)
  have HPL : Hid (∀ i, (tP (clG xs i)).length = i) := Lib.hid (fun i => by unfold tP; rw [tsrt_len, tpl_len, clG_len]; simp)
  have HPA : Hid (∀ i, Asc (tP (clG xs i))) := Lib.hid (fun i => tP_asc _)
  have HG3 : Hid (∀ i, i < m → tfl [gN xs i] = [at3 xs (i * 3), at3 xs (i * 3 + 1), at3 xs (i * 3 + 2)]) := Lib.hid (fun i hi => by
    have f := gOk_facts (cOk_gate hc hi) (cOk_q1 hc).1
    show [((at3 xs (i * 3)).toNat : Int), ((at3 xs (i * 3 + 1)).toNat : Int), ((at3 xs (i * 3 + 2)).toNat : Int)] = _
    rw [Int.toNat_of_nonneg (by omega), Int.toNat_of_nonneg (by omega), Int.toNat_of_nonneg (by omega)])
  have HKS := Lib.hid hks
  have HBD : Hid (∀ i, i ≤ m → ∀ y, y ∈ tP (clG xs i) → tkey y ≤ 1000000) := Lib.hid (fun i hi y hy => tP_bd hc hi hy)
  obtain ⟨hl, a, cap, rfl, c1, c2, H⟩ := h
  have HH := Lib.hid H
  have HL := Lib.hid hl
  obtain ⟨hl2, a2, cap2, rfl, d1, d2, H2⟩ := hk
  have HH2 := Lib.hid H2
  have HL2 := Lib.hid hl2
  clear H hl hc H2 hl2 hks
  obtain ⟨W1, hW1⟩ : ∃ W1, W1 = (w.alloc (.cells #[.int .i64 q, .slice a m cap] 25 (0, 0))).alloc (.cells #[.int .i64 0, .slice none 0 0] 25 (0, 0)) := ⟨_, rfl⟩
  have HB0 : Hid (W1.heap[w.heap.size]? = some (.cells #[.int .i64 q, .slice a m cap] 25 (0, 0))) := by rw [hW1]; exact heap_alloc_lt (heap_alloc_new _ _)
  have HBR : Hid (W1.heap[w.heap.size + 1]? = some (.cells #[.int .i64 0, .slice none 0 0] 25 (0, 0))) := by rw [hW1]; exact heap_alloc_at _ _ _ (by simp)
  have HE0 : Hid (Ext w W1) := by rw [hW1]; exact ((Ext.refl w).alloc _).alloc _
  have hs0 : w.heap.size + 1 < W1.heap.size := by rw [hW1]; simp
  have z0 := fun k => cell_of_row _ _ k _ _ _ HB0.out
  go_enter Try.func67, Try.ntmps67
  go_upto_region 1 with fail
  rw [← hW1]
  clear hW1
  go_upto_region 2 with fail
  obtain ⟨W2, hW2⟩ : ∃ W2, W2 = W1.alloc (.cells #[.int .i64 q, .slice none 0 0] 25) := ⟨_, rfl⟩
  rw [← hW2]
  have HS0 : Hid (SR W1.heap.size q (.slice none 0 0) (.slice none 0 0) (.slice none 0 0) 0 0 [] [] W2) := by
    rw [hW2]
    exact ⟨own_nil _ _ _ _, own_nil _ _ _ _, fun k hk => (by cases hk), heap_alloc_new _ _⟩
  have HX2 : Hid (Ext W1 W2) := by rw [hW2]; exact (Ext.refl W1).alloc _
  clear hW2 z0
  have hbx := (HX2.out.heap (Nat.lt_trans (Nat.lt_succ_self _) hs0)).trans HB0.out
  have z0 := fun k => cell_of_row _ _ k _ _ _ hbx
  go_wp2
  go_loopw [6, 16] (fun s6 i wr => ∃ (j : Nat) (gv : Value), j ≤ m ∧ i = .int .i64 j ∧ Hid (SR W1.heap.size q gv s6 gv j j (kyL (tP (clG xs j))) (gtL (tP (clG xs j))) wr) ∧ Hid (Ext W1 wr)) (fun _ i _ => m - (intOf i).toNat)
  case atStart => exact ⟨0, .slice none 0 0, by omega, rfl, HS0, HX2.out⟩
  case round =>
    clear z0 hbx
    rename World => wA
    obtain ⟨i, gv, hi, rfl, HS, HX⟩ := hrel
    obtain ⟨ak, ck, rfl, _, _, _⟩ := own_shape HS.out.ko
    obtain ⟨ag, cg, rfl, _, _, _⟩ := own_shape HS.out.go
    have hsA : W1.heap.size < wA.heap.size := (Array.getElem?_eq_some_iff.1 HS.out.bx).1
    by_cases hlt : i < m
    · have hlt' : (i : Int) < m := by omega
      have HE : Hid (Ext w wA) := HE0.out.trans HX.out
      obtain ⟨b, off, rfl, hbk, hcell⟩ := HH.out (by omega)
      have HCELL := Lib.hid hcell
      clear hcell
      have hbr : b < wA.heap.size := by have := HE.out.size; omega
      have z0 : wA.cell? ⟨b, off + i * 3, none⟩ = some (.int .i64 (at3 xs (i * 3))) := (HE.out.cells.1 b (off + (i * 3)) hbk).trans (HCELL.out _ _ (at3_get (by have := HL.out; omega)))
      have z1 : wA.cell? ⟨b, off + i * 3 + 1, none⟩ = some (.int .i64 (at3 xs (i * 3 + 1))) := (HE.out.cells.1 b (off + (i * 3 + 1)) hbk).trans (HCELL.out _ _ (at3_get (by have := HL.out; omega)))
      have z2 : wA.cell? ⟨b, off + i * 3 + 2, none⟩ = some (.int .i64 (at3 xs (i * 3 + 2))) := (HE.out.cells.1 b (off + (i * 3 + 2)) hbk).trans (HCELL.out _ _ (at3_get (by have := HL.out; omega)))
      obtain ⟨bk, offk, rfl, hbkk, hcellk⟩ := HH2.out (by omega)
      have HCELLk := Lib.hid hcellk
      clear hcellk
      have hbrk : bk < wA.heap.size := by have := HE.out.size; omega
      have zk0 : wA.cell? ⟨bk, offk + i, none⟩ = some (.int .i64 (at3 ks (i))) := (HE.out.cells.1 bk (offk + (i)) hbkk).trans (HCELLk.out _ _ (at3_get (by have := HL2.out; omega)))
      rw [HKS.out i hlt] at zk0
      have hPL := HPL.out i
      have HPAi := Lib.hid (HPA.out i)
      have HPSi := Lib.hid (HPS.out i)
      have HGi := Lib.hid (HG3.out i hlt)
      have hkb : tkey (lyA xs i, gN xs i) ≤ 1000000 := HBD.out (i + 1) (by omega) _ (by rw [HPS.out i]; exact tins_mem.2 (.inl rfl))
      have HBDi := Lib.hid (HBD.out i hi)
      obtain ⟨x, hx⟩ : ∃ x, (lyA xs i, gN xs i) = x := ⟨_, rfl⟩
      have HGx : Hid (tfl [x.2] = [at3 xs (i * 3), at3 xs (i * 3 + 1), at3 xs (i * 3 + 2)]) := by rw [← hx]; exact HGi
      have HKx : Hid (at3 ks i = (tkey x : Nat)) := by rw [← hx]; exact HKS.out i hlt
      rw [hx] at zk0 HPSi hkb
      clear hx HGi
      generalize at3 xs (i * 3) = k0 at *
      generalize at3 xs (i * 3 + 1) = a0 at *
      generalize at3 xs (i * 3 + 2) = b0 at *
      obtain ⟨P1, hP1⟩ : ∃ P1, tP (clG xs (i + 1)) = P1 := ⟨_, rfl⟩
      rw [hP1] at HPSi
      have HP1 := Lib.hid hP1
      clear hP1
      generalize tP (clG xs i) = P at *
      obtain ⟨w1, hw1⟩ : ∃ w1, w1 = wA.alloc (.cells #[.int .i64 k0, .int .i64 a0, .int .i64 b0] 47) := ⟨_, rfl⟩
      have HB1 : Hid (w1.heap[wA.heap.size]? = some (.cells #[.int .i64 k0, .int .i64 a0, .int .i64 b0] 47 (0, 0))) := by rw [hw1]; exact heap_alloc_new _ _
      have HX1 : Hid (Ext wA w1) := by rw [hw1]; exact (Ext.refl wA).alloc _
      have HS1 := Lib.hid (HS.out.ext HX1.out)
      have zk1 := (HX1.out.cells.1 bk (offk + i) hbrk).trans zk0
      have hs1 : wA.heap.size < w1.heap.size := (Array.getElem?_eq_some_iff.1 HB1.out).1
      have hfk : ∀ k, (Value.slice ak i ck).ownBlock = some k → k < wA.heap.size := fun k hk => (World.ownsRow.lt HS.out.ko k hk).2
      have hfg : ∀ k, (Value.slice ag i cg).ownBlock = some k → k < wA.heap.size := fun k hk => (World.ownsRow.lt HS.out.go k hk).2
      have HFK := Lib.hid hfk
      have HFG := Lib.hid hfg
      clear hfk hfg
      go_upto_region 6 with fail
      rw [← hw1]
      clear hw1 z0 z1 z2 zk0
      go_upto_region 8 with (at_builtin; refine wpList_append_rvt (base := W1.heap.size + 1) rfl elt_iT rfl (.slice ak i ck) i (kyL P) rfl (own_ext HS1.out.ko ((Ext.refl _).alloc _)) (.slice (some ⟨w1.heap.size, 0, none⟩) 1 1) 1 [(tkey x : Int)] rfl (rv_heap (heap_alloc_new _ _) rfl rfl (by omega) (by decide)) (by omega) (by simp; omega) ?_; intro v5 w5 hown5 hgrow5 hiff5 hloc5; obtain ⟨a5, c5, rfl, _, _, _⟩ := own_shape hown5; have HS5 : Hid (SR W1.heap.size q (.slice ag i cg) (.slice a5 (i + 1) c5) (.slice ag i cg) (i + 1) i (kyL P ++ [(tkey x : Int)]) (gtL P) w5) := (SR.appK (HS1.out.ext ((Ext.refl _).alloc _)) hown5 hgrow5 hloc5); have HB5 : Hid (w5.heap[wA.heap.size]? = some (.cells #[.int .i64 k0, .int .i64 a0, .int .i64 b0] 47 (0, 0))) := (heap_grown hgrow5 (heap_alloc_lt HB1.out) (fun e => by have := HFK.out _ e.symm; omega)); have HX5 : Hid (Ext W1 w5) := (ext_grownB ((HX.out.trans HX1.out).alloc _) hgrow5 (own_ext HS1.out.ko ((Ext.refl _).alloc _)) (by omega)); have HN5 : Hid (∀ k, (Value.slice a5 (i + 1) c5).ownBlock = some k → k ≠ wA.heap.size) := (loc_ne hloc5 HFK.out (by simp; omega)); clear hown5 hgrow5 hiff5 hloc5; have z55 : ∀ k, w5.cell? ⟨W1.heap.size, k, none⟩ = (#[.int .i64 q, .slice ag i cg] : Array Value)[k]? := (fun k => cell_of_row _ _ k _ _ _ HS5.out.bx); have f55 : ∀ k, w5.frozen? ⟨W1.heap.size, k, none⟩ = false := (fun k => frozen_of_row _ _ k _ _ HS5.out.bx); have l55 : W1.heap.size < w5.heap.size := (Array.getElem?_eq_some_iff.1 HS5.out.bx).1; have z85 : ∀ k, w5.cell? ⟨wA.heap.size, k, none⟩ = (#[.int .i64 k0, .int .i64 a0, .int .i64 b0] : Array Value)[k]? := (fun k => cell_of_row _ _ k _ _ _ HB5.out); have l85 : wA.heap.size < w5.heap.size := (Array.getElem?_eq_some_iff.1 HB5.out).1)
      go_upto_region 9 with (at_builtin; refine wpList_append_rvt (base := W1.heap.size + 1) rfl elt_CG rfl (.slice ag i cg) i (gtL P) rfl (own_ext HS5.out.go ((Ext.refl _).alloc _)) (.slice (some ⟨w5.heap.size, 0, none⟩) 1 1) 1 [k0, a0, b0] rfl (rv_heap (heap_alloc_new _ _) rfl rfl (by omega) (by decide)) (by omega) (by simp; omega) ?_; intro v6 w6 hown6 hgrow6 hiff6 hloc6; obtain ⟨a6, c6, rfl, _, _, _⟩ := own_shape hown6; have HS6 : Hid (SR W1.heap.size q (.slice ag i cg) (.slice a5 (i + 1) c5) (.slice a6 (i + 1) c6) (i + 1) (i + 1) (kyL P ++ [(tkey x : Int)]) (gtL P ++ [k0, a0, b0]) w6) := (SR.appG (HS5.out.ext ((Ext.refl _).alloc _)) hown6 hgrow6 hloc6); have HB6 : Hid (w6.heap[wA.heap.size]? = some (.cells #[.int .i64 k0, .int .i64 a0, .int .i64 b0] 47 (0, 0))) := (heap_grown hgrow6 (heap_alloc_lt HB5.out) (fun e => by have := HFG.out _ e.symm; omega)); have HX6 : Hid (Ext W1 w6) := (ext_grownB (HX5.out.alloc _) hgrow6 (own_ext HS5.out.go ((Ext.refl _).alloc _)) (by omega)); have HN6 : Hid (∀ k, (Value.slice a6 (i + 1) c6).ownBlock = some k → k ≠ wA.heap.size) := (loc_ne hloc6 HFG.out (by simp; omega)); clear hown6 hgrow6 hiff6 hloc6; have z56 : ∀ k, w6.cell? ⟨W1.heap.size, k, none⟩ = (#[.int .i64 q, .slice ag i cg] : Array Value)[k]? := (fun k => cell_of_row _ _ k _ _ _ HS6.out.bx); have f56 : ∀ k, w6.frozen? ⟨W1.heap.size, k, none⟩ = false := (fun k => frozen_of_row _ _ k _ _ HS6.out.bx); have l56 : W1.heap.size < w6.heap.size := (Array.getElem?_eq_some_iff.1 HS6.out.bx).1)
      have HS7 := Lib.hid (HS6.out.setB (.slice a6 (i + 1) c6))
      have HB7 : Hid ((w6.setCell ⟨W1.heap.size, 1, none⟩ (.slice a6 (i + 1) c6)).heap[wA.heap.size]? = some (.cells #[.int .i64 k0, .int .i64 a0, .int .i64 b0] 47 (0, 0))) := Lib.hid (heap_set_ne (by simp; omega) HB6.out)
      have HX7 : Hid (Ext W1 (w6.setCell ⟨W1.heap.size, 1, none⟩ (.slice a6 (i + 1) c6))) := Lib.hid (HX6.out.setCell (by simp) _)
      clear HS6 HB6 HX6 z56 f56 l56 z55 f55 l55 z85 l85 HS5 HB5 HX5 HFK HFG zk1
      generalize w6.setCell ⟨W1.heap.size, 1, none⟩ (.slice a6 (i + 1) c6) = w7 at *
      obtain ⟨_, _, ee, n1, n2, hg⟩ := own_shape HS7.out.ko
      cases ee
      obtain ⟨gk, rfl, hgk1, hgk2, -, -⟩ := hg (by omega)
      obtain ⟨_, _, ee, n3, n4, hg⟩ := own_shape HS7.out.go
      cases ee
      obtain ⟨gg, rfl, hgg1, hgg2, -, -⟩ := hg (by omega)
      have hnk := HN5.out gk rfl
      have hng := HN6.out gg rfl
      clear HN5 HN6
      have hdf : gk ≠ gg := fun e => by subst e; exact HS7.out.df gk rfl rfl
      go_loopw [9] (fun s9 wr => ∃ (K : Nat) (A B : List (Nat × G3)) (h h0 h1 h2 : Int), Hid (P = A ++ B) ∧ s9 = .int .i64 K ∧ Hid (A.length = K) ∧ Hid (∀ y, y ∈ B → tkey x < tkey y) ∧ Hid (SR W1.heap.size q (.slice (some ⟨gg, 0, none⟩) (i + 1) c6) (.slice (some ⟨gk, 0, none⟩) (i + 1) c5) (.slice (some ⟨gg, 0, none⟩) (i + 1) c6) (i + 1) (i + 1) (kyL A ++ h :: kyL B) (gtL A ++ h0 :: h1 :: h2 :: gtL B) wr) ∧ Hid (Ext W1 wr) ∧ Hid (wr.heap[wA.heap.size]? = some (.cells #[.int .i64 k0, .int .i64 a0, .int .i64 b0] 47 (0, 0)))) (fun s9 _ => (intOf s9).toNat)
      case atStart =>
        refine ⟨i, P, [], tkey x, k0, a0, b0, by unfold Hid; simp, rfl, hPL, by unfold Hid; simp, ?_, HX7, HB7⟩
        exact HS7
      case round =>
        obtain ⟨K, A, B, h, h0, h1, h2, HP, rfl, HAl, HBx, HSr, HXr, HBr⟩ := hrel
        have hKi : K ≤ i := by rw [← hPL, HP.out, List.length_append, HAl.out]; omega
        have HEw : Hid (Ext w wr) := HE0.out.trans HXr.out
        have hbrr : bk < wr.heap.size := by have := HEw.out.size; omega
        have zr0 : wr.cell? ⟨bk, offk + i, none⟩ = some (.int .i64 (at3 ks (i))) := (HEw.out.cells.1 bk (offk + (i)) hbkk).trans (HCELLk.out _ _ (at3_get (by have := HL2.out; omega)))
        rw [HKx.out] at zr0
        have z5 := fun k => cell_of_row _ _ k _ _ _ HSr.out.bx
        have f5 := fun k => frozen_of_row _ _ k _ _ HSr.out.bx
        have l5 := (Array.getElem?_eq_some_iff.1 HSr.out.bx).1
        have z8 := fun k => cell_of_row _ _ k _ _ _ HBr.out
        have l8 := (Array.getElem?_eq_some_iff.1 HBr.out).1
        have fk := World.ownsRow.frozenAt HSr.out.ko
        have fg := World.ownsRow.frozenAt HSr.out.go
        have lk := (World.ownsRow.lt HSr.out.ko gk rfl).2
        have lg := (World.ownsRow.lt HSr.out.go gg rfl).2
        have hkc : K < i + 1 := by omega
        have hlK0 : (kyL A).length = K := by rw [kyL_len]; exact HAl.out
        have hlG0 : (gtL A).length = K * 3 := by rw [gtL_len, HAl.out]
        have wk : wr.cell? ⟨gk, K, none⟩ = some (.int .i64 h) := (World.ownsRow.cellAt HSr.out.ko K (by omega)).trans (by have := mid_get (kyL A) h (kyL B); rw [hlK0] at this; exact this)
        have hw3 := mid_get3 (gtL A) h0 h1 h2 (gtL B)
        rw [hlG0] at hw3
        have wg0 := (World.ownsRow.cellAt HSr.out.go (K * 3) (by omega)).trans hw3.1
        have wg1 := (World.ownsRow.cellAt HSr.out.go (K * 3 + 1) (by omega)).trans hw3.2.1
        have wg2 := (World.ownsRow.cellAt HSr.out.go (K * 3 + 2) (by omega)).trans hw3.2.2
        clear hw3 hlK0 hlG0
        by_cases hK : K = 0
        · have HAx : Hid (∀ y, y ∈ A → tkey y ≤ tkey x) := Lib.hid (fun y hy => by
            have := HAl.out
            rw [hK] at this
            rw [List.eq_nil_of_length_eq_zero this] at hy
            cases hy)
          have hn0 : ¬ (0 : Int) < (K : Int) := by omega
          have hn1 : ¬ 0 < K := by omega
          have hn2 : (decide ((0 : Int) < (K : Int))) = false := decide_eq_false hn0
          clear hK
          go_wp2
          refine wp_region_madeC (m := 84) (by kernel_rfl) (by kernel_rfl) rfl (fun hxc => ?_)
          repeat (refine mw_quiet ?_; apply Exists.intro; refine ⟨fun σ => ?_, ?_⟩; (first | (go_simp; rfl) | fail); simp only [Act.put, List.setIfInBounds_toArray, List.set_cons_succ, List.set_cons_zero, List.nil_append, List.cons_append])
          refine ⟨by kernel_rfl, fun σ w9 hF9 => ?_⟩
          have hx9 := hF9.ext
          clear hF9 hxc
          obtain ⟨hc9, hf9⟩ := hx9.cells
          have hz9 := hx9.size
          try simp at hz9
          have hfin := tins_at HAx.out HBx.out
          rw [← HP.out, ← HPSi.out] at hfin
          have HS9 := Lib.hid ((((HSr.out.ext hx9).setK K (tkey x : Int)).setG (K * 3) k0).setG (K * 3 + 1) a0 |>.setG (K * 3 + 2) b0)
          have hlK : (kyL A).length = K := by rw [kyL_len]; exact HAl.out
          have hlG : (gtL A).length = K * 3 := by rw [gtL_len, HAl.out]
          have e1 : (kyL A ++ h :: kyL B).set K (tkey x : Int) = kyL P1 := by
            rw [hfin, ← hlK, set_mid, kyL_app]
            rfl
          have e2 : (((gtL A ++ h0 :: h1 :: h2 :: gtL B).set (K * 3) k0).set (K * 3 + 1) a0).set (K * 3 + 2) b0 = gtL P1 := by
            rw [hfin, ← hlG, set_mid3, gtL_app, gtL_cons, HGx.out]
            rfl
          rw [e1, e2] at HS9
          clear e1 e2 hlK hlG hfin
          go_wp2
          go_roundw
          case rel => exact ⟨i + 1, _, by omega, by go_num, by unfold Hid; rw [HP1.out]; exact HS9.out, by unfold Hid; have hx' := HXr.out.trans hx9; exact (by repeat (first | (with_reducible refine Ext.setCell ?_ (by first | (simp; done) | (simp; omega)) _) | with_reducible refine Ext.alloc ?_ _ | with_reducible refine Ext.drew ?_ | with_reducible refine Ext.drewN ?_ _ | with_reducible assumption | with_reducible exact Ext.refl _ | with_reducible refine Ext.trans ?_ (by with_reducible assumption)))⟩
          case measure => simp [intOf]; omega
        · have hAe : ∃ A' y, A = A' ++ [y] := ⟨A.dropLast, A.getLast (by intro e; rw [e] at HAl; exact hK HAl.out.symm), (List.dropLast_concat_getLast _).symm⟩
          obtain ⟨A', y, rfl⟩ := hAe
          obtain ⟨J, hJ⟩ : ∃ J, J + 1 = K := ⟨K - 1, by omega⟩
          have HJ := Lib.hid hJ
          have HAJ : Hid (A'.length = J) := Lib.hid (by have := HAl.out; rw [List.length_append, ← hJ] at this; simpa using this)
          have hlK : (kyL A').length = J := by rw [kyL_len]; exact HAJ.out
          have hlG : (gtL A').length = J * 3 := by rw [gtL_len, HAJ.out]
          have HSq := HSr.out
          rw [kyL_mid, gtL_mid] at HSq
          have zJ : wr.cell? ⟨gk, J, none⟩ = some (.int .i64 (tkey y : Nat)) := (World.ownsRow.cellAt HSq.ko J (by omega)).trans (by have := mid_get (kyL A') (tkey y : Nat) (h :: kyL B); rw [hlK] at this; exact this)
          have hg3 := mid_get3 (gtL A') (y.2.1 : Int) (y.2.2.1 : Int) (y.2.2.2 : Int) (h0 :: h1 :: h2 :: gtL B)
          rw [hlG] at hg3
          have zg0 := (World.ownsRow.cellAt HSq.go (J * 3) (by omega)).trans hg3.1
          have zg1 := (World.ownsRow.cellAt HSq.go (J * 3 + 1) (by omega)).trans hg3.2.1
          have zg2 := (World.ownsRow.cellAt HSq.go (J * 3 + 2) (by omega)).trans hg3.2.2
          have HSq := Lib.hid HSq
          have hJc : J < i + 1 := by omega
          have hJ1 : (J : Int) < (i : Int) + 1 := by omega
          have hJ2 : J < c5 := by omega
          have hiq : i < cap2 := by omega
          have eJ : (K : Int) - 1 = (J : Int) := by omega
          have hpos : (0 : Int) < (K : Int) := by omega
          have hpos1 : 0 < K := by omega
          have hyb : tkey y ≤ 1000000 := HBDi.out y (by rw [HP.out]; simp)
          clear hg3 hlK hlG hK hJ
          have HPA' : Hid (P = A' ++ y :: B) := Lib.hid (by rw [HP.out]; simp)
          by_cases hlt2 : tkey x < tkey y
          · have hlt3 : (tkey x : Int) < (tkey y : Int) := by omega
            have hwJ : IntKind.i64.wrap (J : Int) = (J : Int) := IntWalk.i64_in _ (by omega)
            go_wp2
            refine wp_region_madeC (m := 84) (by kernel_rfl) (by kernel_rfl) rfl (fun hxc => ?_)
            repeat (refine mw_quiet ?_; apply Exists.intro; refine ⟨fun σ => ?_, ?_⟩; (first | (go_simp; rfl) | fail); simp only [Act.put, List.setIfInBounds_toArray, List.set_cons_succ, List.set_cons_zero, List.nil_append, List.cons_append])
            refine ⟨by kernel_rfl, fun σ w9 hF9 => ?_⟩
            have hx9 := hF9.ext
            clear hF9 hxc
            obtain ⟨hc9, hf9⟩ := hx9.cells
            have hz9 := hx9.size
            try simp at hz9
            have HS9 := Lib.hid (((((HSq.out.ext hx9).setK K (tkey y : Int)).setG (K * 3) (y.2.1 : Int)).setG (K * 3 + 1) (y.2.2.1 : Int)).setG (K * 3 + 2) (y.2.2.2 : Int))
            have hlK : (kyL A').length = J := by rw [kyL_len]; exact HAJ.out
            have hlG : (gtL A').length = J * 3 := by rw [gtL_len, HAJ.out]
            have e1 : (kyL A' ++ (tkey y : Int) :: h :: kyL B).set K (tkey y : Int) = kyL A' ++ (tkey y : Int) :: kyL (y :: B) := by
              rw [← HJ.out, ← hlK, set_mid1]
              rfl
            have e2 : (((gtL A' ++ (y.2.1 : Int) :: (y.2.2.1 : Int) :: (y.2.2.2 : Int) :: h0 :: h1 :: h2 :: gtL B).set (K * 3) (y.2.1 : Int)).set (K * 3 + 1) (y.2.2.1 : Int)).set (K * 3 + 2) (y.2.2.2 : Int) = gtL A' ++ (y.2.1 : Int) :: (y.2.2.1 : Int) :: (y.2.2.2 : Int) :: gtL (y :: B) := by
              rw [show K * 3 = J * 3 + 3 by have := HJ.out; omega, ← hlG, set_mid6]
              rfl
            rw [e1, e2] at HS9
            clear e1 e2 hlK hlG
            have HB9 : Hid (w9.heap[wA.heap.size]? = some (.cells #[.int .i64 k0, .int .i64 a0, .int .i64 b0] 47 (0, 0))) := (hx9.heap l8).trans HBr.out
            have HX9 : Hid (Ext W1 w9) := HXr.out.trans hx9
            have HByx : Hid (∀ z, z ∈ y :: B → tkey x < tkey z) := Lib.hid (fun z hz => by
              rcases List.mem_cons.1 hz with rfl | hz
              · exact hlt2
              · exact HBx.out z hz)
            clear hwJ
            go_wp2
            go_region
            all_goals
              go_wp2
              go_roundw
              case rel =>
                refine ⟨J, A', y :: B, (tkey y : Nat), (y.2.1 : Nat), (y.2.2.1 : Nat), (y.2.2.2 : Nat), HPA', by go_num, HAJ, HByx, HS9.out.ext ((Ext.refl _).drew), ?_, ?_⟩
                · unfold Hid
                  have hx' := HX9.out
                  exact (by repeat (first | (with_reducible refine Ext.setCell ?_ (by first | (simp; done) | (simp; omega)) _) | with_reducible refine Ext.alloc ?_ _ | with_reducible refine Ext.drew ?_ | with_reducible refine Ext.drewN ?_ _ | with_reducible assumption | with_reducible exact Ext.refl _ | with_reducible refine Ext.trans ?_ (by with_reducible assumption)))
                · exact heap_set_ne (by simp; omega) (heap_set_ne (by simp; omega) (heap_set_ne (by simp; omega) (heap_set_ne (by simp; omega) HB9.out)))
              case measure => simp [intOf]; omega
          · have hlt3 : ¬ (tkey x : Int) < (tkey y : Int) := by omega
            have hlt4 : (tkey y : Int) ≤ (tkey x : Int) := by omega
            have HAx : Hid (∀ z, z ∈ A' ++ [y] → tkey z ≤ tkey x) := Lib.hid (fun z hz => by
              rcases List.mem_append.1 hz with hz | hz
              · have hs := HPAi.out
                rw [HPA'.out] at hs
                have := (List.pairwise_append.1 hs).2.2 z hz y List.mem_cons_self
                omega
              · obtain rfl := List.mem_singleton.1 hz
                omega)
            have hwJ : IntKind.i64.wrap (J : Int) = (J : Int) := IntWalk.i64_in _ (by omega)
            go_wp2
            refine wp_region_madeC (m := 84) (by kernel_rfl) (by kernel_rfl) rfl (fun hxc => ?_)
            repeat (refine mw_quiet ?_; apply Exists.intro; refine ⟨fun σ => ?_, ?_⟩; (first | (go_simp; rfl) | fail); simp only [Act.put, List.setIfInBounds_toArray, List.set_cons_succ, List.set_cons_zero, List.nil_append, List.cons_append])
            refine ⟨by kernel_rfl, fun σ w9 hF9 => ?_⟩
            have hx9 := hF9.ext
            clear hF9 hxc
            obtain ⟨hc9, hf9⟩ := hx9.cells
            have hz9 := hx9.size
            try simp at hz9
            clear hwJ
            have hfin := tins_at (A := A' ++ [y]) HAx.out HBx.out
            rw [← HP.out, ← HPSi.out] at hfin
            have HS9 := Lib.hid ((((HSr.out.ext hx9).setK K (tkey x : Int)).setG (K * 3) k0).setG (K * 3 + 1) a0 |>.setG (K * 3 + 2) b0)
            have hlK : (kyL (A' ++ [y])).length = K := by rw [kyL_len]; exact HAl.out
            have hlG : (gtL (A' ++ [y])).length = K * 3 := by rw [gtL_len, HAl.out]
            have e1 : (kyL (A' ++ [y]) ++ h :: kyL B).set K (tkey x : Int) = kyL P1 := by
              rw [hfin, ← hlK, set_mid, kyL_app (A' ++ [y])]
              rfl
            have e2 : (((gtL (A' ++ [y]) ++ h0 :: h1 :: h2 :: gtL B).set (K * 3) k0).set (K * 3 + 1) a0).set (K * 3 + 2) b0 = gtL P1 := by
              rw [hfin, ← hlG, set_mid3, gtL_app (A' ++ [y]), gtL_cons, HGx.out]
              rfl
            rw [e1, e2] at HS9
            clear e1 e2 hlK hlG hfin
            go_wp2
            go_roundw
            case rel => exact ⟨i + 1, _, by omega, by go_num, by unfold Hid; rw [HP1.out]; exact HS9.out, by unfold Hid; have hx' := HXr.out.trans hx9; exact (by repeat (first | (with_reducible refine Ext.setCell ?_ (by first | (simp; done) | (simp; omega)) _) | with_reducible refine Ext.alloc ?_ _ | with_reducible refine Ext.drew ?_ | with_reducible refine Ext.drewN ?_ _ | with_reducible assumption | with_reducible exact Ext.refl _ | with_reducible refine Ext.trans ?_ (by with_reducible assumption)))⟩
            case measure => simp [intOf]; omega
    · obtain rfl : i = m := by omega
      have hbr : wA.heap[w.heap.size + 1]? = some (.cells #[.int .i64 0, .slice none 0 0] 25 (0, 0)) := (HX.out.heap hs0).trans HBR.out
      have zr := fun k => cell_of_row _ _ k _ _ _ hbr
      have fr := fun k => frozen_of_row _ _ k _ _ hbr
      have lr := (Array.getElem?_eq_some_iff.1 hbr).1
      have z5 := fun k => cell_of_row _ _ k _ _ _ HS.out.bx
      have f5 := fun k => frozen_of_row _ _ k _ _ HS.out.bx
      clear hbr
      go_wp2
      refine bodyPost_ret (v := .agg #[.int .i64 q, .slice ag i cg]) (by simp [results, Try.results67, go_sem, *]) rfl ?_
      have hx := HE0.out.trans HX.out
      exact ⟨_, rfl, own_base (own_set (own_set HS.out.go (by simp; omega) _) (by simp; omega) _) (by omega), (by repeat (first | (with_reducible refine Ext.setCell ?_ (by first | (simp; done) | (simp; omega)) _) | with_reducible refine Ext.alloc ?_ _ | with_reducible refine Ext.drew ?_ | with_reducible refine Ext.drewN ?_ _ | with_reducible assumption | with_reducible exact Ext.refl _ | with_reducible refine Ext.trans ?_ (by with_reducible assumption)))⟩

end Go.Proofs.Ytbddgeoaaklgpaa
