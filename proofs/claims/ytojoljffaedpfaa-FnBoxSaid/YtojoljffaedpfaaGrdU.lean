/- The grid: the reference's insertion. -/
import Derived.Test.YtojoljffaedpfaaGrdR
import Derived.Test.YtojoljffaedpfaaLt
import Derived.Test.YtojoljffaedpfaaMade
import Derived.Deep.Cut
namespace Go.Proofs.Ytojoljffaedpfaa
open Go.RowKit Go.Lib
set_option linter.unusedVariables false
set_option linter.unusedSimpArgs false

/-- a slice with a plain address: nil, or readable -/
def RVt (w : World) (k : Nat) (v : Value) (n : Nat) (xs : List Int) : Prop :=
  xs.length = n * k ∧ ((v = .slice none 0 0 ∧ n = 0) ∨ ∃ (b off cap : Nat), v = .slice (some ⟨b, off, none⟩) n cap ∧ n ≤ cap ∧ cap ≤ maxLen ∧ b < w.heap.size ∧ ∀ j u, (IL xs)[j]? = some u → w.cell? ⟨b, off + j, none⟩ = some u)
theorem RVt.own {w : World} {base : Nat} {e : TypeId} {k : Nat} {v : Value} {n : Nat} {xs : List Int} (h : w.ownsRow base e k v n (IL xs)) (hl : xs.length = n * k) : RVt w k v n xs := by
  refine ⟨hl, ?_⟩
  rcases h.2 with ⟨rfl, rfl⟩ | ⟨g, cap, cur, rfl, hb, hg, h1, h2, h3, h4⟩
  · exact .inl ⟨rfl, rfl⟩
  · refine .inr ⟨g, 0, cap, rfl, h1, h2, (Array.getElem?_eq_some_iff.1 hg).1, fun j u hu => ?_⟩
    have := h.cells (g := g) rfl j u hu
    rwa [show (⟨g, 0, none⟩ : Addr).add j = ⟨g, 0 + j, none⟩ by unfold Addr.add; split <;> simp_all] at this
theorem rvt_part {w : World} {k n b off cap : Nat} {xs : List Int} (hl : xs.length = n * k) (hb : b < w.heap.size) (H : ∀ j u, (IL xs)[j]? = some u → w.cell? ⟨b, off + j, none⟩ = some u) (i m c : Nat) (him : i + m ≤ n) (hc : m ≤ c) (hm : c ≤ maxLen) :
    RV w k (.slice (some ⟨b, off + i * k, none⟩) m c) m ((xs.drop (i * k)).take (m * k)) := by
  have hik : i * k + m * k ≤ n * k := by rw [← Nat.add_mul]; exact Nat.mul_le_mul_right k him
  refine ⟨by simp; omega, _, c, rfl, hc, hm, fun hp => ⟨b, off + i * k, rfl, hb, fun j u hu => ?_⟩⟩
  have : (IL xs)[i * k + j]? = some u := by
    simp only [IL, List.map_take, List.map_drop] at hu ⊢
    rw [List.getElem?_take] at hu
    split at hu
    · rw [List.getElem?_drop] at hu; exact hu
    · cases hu
  have := H _ _ this
  rwa [← Nat.add_assoc] at this
theorem own_zeroU {w : World} {base g : Nat} {e : TypeId} {k : Nat} (hb : base ≤ g) (h : w.heap[g]? = some (.cells #[] e (0, 0))) : w.ownsRow base e k (.slice (some ⟨g, 0, none⟩) 0 0) 0 (IL []) :=
  ⟨by simp [IL], .inr ⟨g, 0, #[], rfl, hb, h, Nat.le_refl _, by decide, by simp, by simp [IL]⟩⟩
theorem rvt_head {w : World} {k n b off cap : Nat} {xs : List Int} (hl : xs.length = n * k) (hb : b < w.heap.size) (H : ∀ j u, (IL xs)[j]? = some u → w.cell? ⟨b, off + j, none⟩ = some u) (m : Nat) (him : m ≤ n) (hc : m ≤ cap) (hm : cap ≤ maxLen) :
    RV w k (.slice (some ⟨b, off, none⟩) m cap) m (xs.take (m * k)) := by
  have e := rvt_part (cap := cap) hl hb H 0 m cap (by omega) hc hm
  rw [Nat.zero_mul, Nat.add_zero, List.drop_zero] at e
  exact e
theorem rvt_cut {w : World} {k n b off cap T : Nat} {xs : List Int} (hl : xs.length = n * k) (hb : b < w.heap.size) (H : ∀ j u, (IL xs)[j]? = some u → w.cell? ⟨b, off + j, none⟩ = some u) (hc : n ≤ cap) (hm : cap ≤ maxLen) (hT : T ≤ n) :
    RV w k (.slice (if cap = T then some ⟨b, off, none⟩ else some ⟨b, off + T * k, none⟩) (n - T) (cap - T)) (n - T) ((xs.drop (T * k)).take ((n - T) * k)) := by
  by_cases h : cap = T
  · have hm0 : n - T = 0 := by omega
    rw [if_pos h, hm0]
    exact ⟨by simp, _, _, rfl, by omega, by omega, fun h => absurd h (by omega)⟩
  · rw [if_neg h]
    exact rvt_part (cap := cap) hl hb H T (n - T) (cap - T) (by omega) (by omega) (by omega)

theorem sg_ltU (n : Int) : sg n < 0 ↔ n < 0 := by
  unfold sg
  split
  · omega
  · split <;> omega
/-- the number x at its place in the list -/
def Put2 (L : List (Int × Int)) (x : Int × Int) (M : List (Int × Int)) : Prop := ∃ k, k ≤ L.length ∧ M = L.take k ++ x :: L.drop k ∧ (∀ y ∈ L.drop k, ky x.1 x.2 < ky y.1 y.2) ∧ (k = 0 ∨ ∃ h : k - 1 < L.length, ky L[k - 1].1 L[k - 1].2 ≤ ky x.1 x.2)

set_option maxRecDepth 20000 in
set_option maxHeartbeats 4000000 in
theorem l25Put_any {v : Value} {n : Nat} {L : List (Int × Int)} (hn : L.length = n) (hn2 : n ≤ 2000000) (hb : ∀ y ∈ L, Bnd y) (p q : Int) (hx : Bnd (p, q)) (w : World) (h : RVt w 2 v n (fl2 L)) :
    Calls Try.prog 64 #[v, .agg #[.int .i64 p, .int .i64 q]] w fun e w' => ∃ v', e = .returned v' ∧ ∃ M, M.length = n + 1 ∧ Put2 L (p, q) M ∧ w'.ownsRow w.heap.size 34 2 v' (n + 1) (IL (fl2 M)) ∧ Ext w w' := by
  rcases h.2 with ⟨rfl, rfl⟩ | ⟨b, off, cap, rfl, h1, h2, h3, h4⟩
  · obtain rfl : L = [] := List.eq_nil_of_length_eq_zero hn
    have HR0 : Hid (∀ W : World, RV W 2 (.slice none 0 0) 0 []) := fun W => ⟨rfl, none, 0, rfl, Nat.le_refl _, Nat.zero_le _, fun h => absurd h (by omega)⟩
    clear h hb hn
    go_enter Try.func64, Try.ntmps64
    go_wp2
    go_loopw [5] (fun i wr => i = .int .i64 0 ∧ Ext (w.alloc (.cells #[.int .i64 p, .int .i64 q] 34 (0, 0))) wr) (fun i _ => 0)
    case atStart => exact ⟨rfl, Ext.refl _⟩
    case round =>
      obtain ⟨rfl, hE⟩ := hrel
      go_wp2
      refine wp_region_madeC (m := 49) (by kernel_rfl) (by kernel_rfl) rfl (fun hxc => ?_)
      repeat (refine mw_quiet ?_; apply Exists.intro; refine ⟨fun σ => ?_, ?_⟩; (first | (go_simp; rfl) | fail); simp only [Act.put, List.setIfInBounds_toArray, List.set_cons_succ, List.set_cons_zero, List.nil_append, List.cons_append])
      refine ⟨by kernel_rfl, fun σ w2 hF2 => ?_⟩
      have hx2 := hF2.ext
      clear hF2 hxc
      obtain ⟨hc2, hf2⟩ := hx2.cells
      have hz2 := hx2.size
      try simp at hz2
      have hE := hE.trans hx2
      clear hx2 hc2 hf2 hz2
      have HE := Lib.hid (((Ext.refl w).alloc _).trans hE)
      have hw1 : w.heap.size + 1 ≤ w2.heap.size := by have := hE.size; simp at this; exact this
      have HBX := Lib.hid ((hE.heap (k := w.heap.size) (by simp)).trans (heap_alloc_new _ _))
      clear hE
      go_upto_region 5 with (at_builtin; go_loud (refine wpList_append_rvt (base := w2.heap.size) rfl elt_r2 rfl (.slice (some ⟨w2.heap.size, 0, none⟩) 0 0) 0 [] rfl (own_zeroU (Nat.le_refl _) (heap_alloc_new _ _)) (.slice none 0 0) 0 [] rfl (HR0.out _) (by omega) (by simp) ?_); intro v4 w4 hown4 hgrow4 hiff4 hloc4; have hx4 : Ext w2 w4 := ext_grownB ((Ext.refl w2).alloc _) hgrow4 (own_zeroU (k := 2) (Nat.le_refl _) (heap_alloc_new _ _)) (Nat.le_refl _); rw [Nat.zero_add, List.nil_append] at hown4; have O4 := Lib.hid hown4; obtain ⟨a4, c4, rfl, _, _, _⟩ := own_shape hown4; have HX4 := Lib.hid hx4; have hb4 := (hx4.heap (k := w.heap.size) (by omega)).trans HBX.out; have z4 := fun k => cell_of_row _ _ k _ _ _ hb4; have l4 := (Array.getElem?_eq_some_iff.1 hb4).1; have s4 := hx4.size; clear hown4 hgrow4 hiff4 hloc4 hx4 hb4)
      have O5 := Lib.hid (own_ext O4.out ((Ext.refl w4).alloc (.cells #[.int .i64 p, .int .i64 q] 34 (0, 0))))
      have M5 := Lib.hid (heap_alloc_new w4 (.cells #[.int .i64 p, .int .i64 q] 34 (0, 0)))
      go_upto_region 6 with (at_builtin; go_loud (refine wpList_append_rvt (base := w2.heap.size) rfl elt_r2 rfl (.slice a4 0 c4) 0 [] rfl O5.out _ 1 [p, q] rfl (rv_heap M5.out rfl rfl (by omega) (by decide)) (by omega) (by simp; omega) ?_); intro v5 w5 hown5 hgrow5 hiff5 hloc5)
      have hx5 : Ext w2 w5 := ext_grownB (HX4.out.alloc _) hgrow5 O5.out (Nat.le_refl _)
      rw [Nat.zero_add, List.nil_append] at hown5
      have O6 := Lib.hid hown5
      obtain ⟨a5, c5, rfl, _, _, _⟩ := own_shape hown5
      have HX5 := Lib.hid hx5
      have s5 := hx5.size
      clear hown5 hgrow5 hiff5 hloc5 hx5 z4
      go_wp2_with (at_builtin; go_loud (refine wpList_append_rvt (base := w2.heap.size) rfl elt_r2 rfl (.slice a5 1 c5) 1 _ rfl O6.out (.slice none 0 0) 0 [] rfl (HR0.out _) (by omega) (by omega) ?_); intro v6 w6 hown6 hgrow6 hiff6 hloc6)
      have hx6 : Ext w2 w6 := ext_grownB HX5.out hgrow6 O6.out (Nat.le_refl _)
      have O7 := Lib.hid hown6
      have HX6 := Lib.hid hx6
      clear hown6 hgrow6 hiff6 hloc6 hx6
      go_wp2
      go_ret
      have h7 := O7.out
      rw [List.append_nil] at h7
      refine ⟨_, rfl, [(p, q)], rfl, ⟨0, Nat.le_refl _, rfl, fun y hy => (by cases hy), .inl rfl⟩, own_base h7 (by omega), HE.out.trans HX6.out⟩
  have hbx := hx
  unfold Bnd at hbx
  have HB : Hid (∀ k, (hk : k < n) → -4000000 ≤ at3 (fl2 L) (k * 2) ∧ at3 (fl2 L) (k * 2) ≤ 4000000 ∧ -1000000 ≤ at3 (fl2 L) (k * 2 + 1) ∧ at3 (fl2 L) (k * 2 + 1) ≤ 1000000 ∧ ∃ h : k < L.length, L[k].1 = at3 (fl2 L) (k * 2) ∧ L[k].2 = at3 (fl2 L) (k * 2 + 1)) := fun k hk => by
    have hl : k < L.length := by omega
    have hy := hb _ (List.getElem_mem hl)
    unfold Bnd at hy
    rw [(at3_fl2 L k hl).1, (at3_fl2 L k hl).2]
    exact ⟨hy.1.1, hy.1.2, hy.2.1, hy.2.2, hl, rfl, rfl⟩
  have HL := Lib.hid h.1
  have HC : Hid (∀ W, Ext w W → ∀ k, k < n → W.cell? ⟨b, off + k * 2, none⟩ = some (.int .i64 (at3 (fl2 L) (k * 2))) ∧ W.cell? ⟨b, off + k * 2 + 1, none⟩ = some (.int .i64 (at3 (fl2 L) (k * 2 + 1)))) := fun W hW k hk => by
    have l0 := h.1
    refine ⟨?_, ?_⟩
    · rw [hW.cells.1 _ _ h3, h4 _ _ (at3_get (by omega))]
    · rw [Nat.add_assoc, hW.cells.1 _ _ h3, h4 _ _ (at3_get (by omega))]
  have H4 := Lib.hid h4
  have HD0 : Hid (∀ y ∈ L.drop n, ky p q < ky y.1 y.2) := by intro y hy; rw [List.drop_of_length_le (by omega)] at hy; cases hy
  clear h h4 hb hx
  go_enter Try.func64, Try.ntmps64
  go_wp2
  go_loopw [5] (fun i wr => ∃ k : Nat, k ≤ n ∧ i = .int .i64 k ∧ Hid (∀ y ∈ L.drop k, ky p q < ky y.1 y.2) ∧ Ext (w.alloc (.cells #[.int .i64 p, .int .i64 q] 34 (0, 0))) wr) (fun i _ => (intOf i).toNat)
  case atStart => exact ⟨n, Nat.le_refl _, rfl, HD0, Ext.refl _⟩
  case round =>
    obtain ⟨k, hk, rfl, HD, hE⟩ := hrel
    rcases Nat.eq_zero_or_pos k with hk0 | hk0
    · subst hk0
      have HK : Hid (0 = 0 ∨ ∃ h : 0 - 1 < L.length, ky L[0 - 1].1 L[0 - 1].2 ≤ ky p q) := .inl rfl
      go_wp2
      refine wp_region_madeC (m := 49) (by kernel_rfl) (by kernel_rfl) rfl (fun hxc => ?_)
      repeat (refine mw_quiet ?_; apply Exists.intro; refine ⟨fun σ => ?_, ?_⟩; (first | (go_simp; rfl) | fail); simp only [Act.put, List.setIfInBounds_toArray, List.set_cons_succ, List.set_cons_zero, List.nil_append, List.cons_append])
      refine ⟨by kernel_rfl, fun σ w2 hF2 => ?_⟩
      have hx2 := hF2.ext
      clear hF2 hxc
      obtain ⟨hc2, hf2⟩ := hx2.cells
      have hz2 := hx2.size
      try simp at hz2
      have hE := hE.trans hx2
      clear hx2 hc2 hf2 hz2
      have HE := Lib.hid (((Ext.refl w).alloc _).trans hE)
      have hw1 : w.heap.size + 1 ≤ w2.heap.size := by have := hE.size; simp at this; exact this
      have HBX := Lib.hid ((hE.heap (k := w.heap.size) (by simp)).trans (heap_alloc_new _ _))
      have hbr : b < w2.heap.size := by omega
      have HR1 : Hid (∀ W : World, RV W 2 (.slice (some ⟨b, off, none⟩) 0 cap) 0 []) := fun W => ⟨rfl, _, cap, rfl, Nat.zero_le _, h2, fun h => absurd h (by omega)⟩
      have HR3 : Hid (∀ W, Ext w W → RV W 2 (.slice (some ⟨b, off, none⟩) n cap) n ((fl2 L).take (n * 2))) := fun W hW => rvt_head HL.out (by have := hW.size; omega) (fun i u hu => (hW.cells.1 b (off + i) h3).trans (H4.out i u hu)) n (Nat.le_refl _) h1 h2
      have hkc : (0 : Int) ≤ cap := by omega
      have hkc' : 0 ≤ cap := by omega
      have hkn : (0 : Int) ≤ n := by omega
      have hnc : (n : Int) ≤ cap := by omega
      have hE1 := hE
      clear hE
      go_upto_region 5 with (at_builtin; go_loud (refine wpList_append_rvt (base := w2.heap.size) rfl elt_r2 rfl (.slice (some ⟨w2.heap.size, 0, none⟩) 0 0) 0 [] rfl (own_zeroU (Nat.le_refl _) (heap_alloc_new _ _)) (.slice (some ⟨b, off, none⟩) 0 cap) 0 [] rfl (HR1.out _) (by omega) (by simp) ?_); intro v4 w4 hown4 hgrow4 hiff4 hloc4; have hx4 : Ext w2 w4 := ext_grownB ((Ext.refl w2).alloc _) hgrow4 (own_zeroU (k := 2) (Nat.le_refl _) (heap_alloc_new _ _)) (Nat.le_refl _); rw [Nat.zero_add, List.nil_append] at hown4; have O4 := Lib.hid hown4; obtain ⟨a4, c4, rfl, _, _, _⟩ := own_shape hown4; have HX4 := Lib.hid hx4; have hb4 := (hx4.heap (k := w.heap.size) (by omega)).trans HBX.out; have z4 := fun kk => cell_of_row _ _ kk _ _ _ hb4; have l4 := (Array.getElem?_eq_some_iff.1 hb4).1; have s4 := hx4.size; clear hown4 hgrow4 hiff4 hloc4 hx4 hb4)
      have O5 := Lib.hid (own_ext O4.out ((Ext.refl w4).alloc (.cells #[.int .i64 p, .int .i64 q] 34 (0, 0))))
      have M5 := Lib.hid (heap_alloc_new w4 (.cells #[.int .i64 p, .int .i64 q] 34 (0, 0)))
      go_upto_region 6 with (at_builtin; go_loud (refine wpList_append_rvt (base := w2.heap.size) rfl elt_r2 rfl (.slice a4 0 c4) 0 [] rfl O5.out _ 1 [p, q] rfl (rv_heap M5.out rfl rfl (by omega) (by decide)) (by omega) (by simp; omega) ?_); intro v5 w5 hown5 hgrow5 hiff5 hloc5)
      have hx5 : Ext w2 w5 := ext_grownB (HX4.out.alloc _) hgrow5 O5.out (Nat.le_refl _)
      rw [Nat.zero_add, List.nil_append] at hown5
      have O6 := Lib.hid hown5
      obtain ⟨a5, c5, rfl, _, _, _⟩ := own_shape hown5
      have HX5 := Lib.hid hx5
      have R6 := Lib.hid (HR3.out w5 (HE.out.trans hx5))
      have s5 := hx5.size
      clear hown5 hgrow5 hiff5 hloc5 hx5 z4
      go_wp2_with (at_builtin; go_loud (refine wpList_append_rvt (base := w2.heap.size) rfl elt_r2 rfl (.slice a5 1 c5) 1 _ rfl O6.out _ n _ rfl R6.out (by omega) (by omega) ?_); intro v6 w6 hown6 hgrow6 hiff6 hloc6)
      have hx6 : Ext w2 w6 := ext_grownB HX5.out hgrow6 O6.out (Nat.le_refl _)
      have O7 := Lib.hid hown6
      have HX6 := Lib.hid hx6
      clear hown6 hgrow6 hiff6 hloc6 hx6
      go_wp2
      go_ret
      have hM : IL ([p, q] ++ (fl2 L).take (n * 2)) = IL (fl2 ((p, q) :: L)) := by
        rw [List.take_of_length_le (by rw [HL.out]; omega)]
        rfl
      have h7 := O7.out
      rw [hM, Nat.add_comm 1 n] at h7
      rw [Nat.add_comm 1 n] at *
      refine ⟨_, rfl, (p, q) :: L, ?_, ⟨0, by omega, by simp, HD.out, .inl rfl⟩, own_base h7 (by omega), HE.out.trans HX6.out⟩
      rw [List.length_cons]
      omega
    · obtain ⟨j, hj⟩ : ∃ j, k = j + 1 := ⟨k - 1, by omega⟩
      obtain ⟨z0, z1⟩ := HC.out wr (((Ext.refl w).alloc _).trans hE) j (by omega)
      obtain ⟨x1, x2, x3, x4, hjl, e1, e2⟩ := HB.out j (by omega)
      have HE12 := Lib.hid (And.intro e1 e2)
      have hbx0 := (hE.heap (k := w.heap.size) (by simp)).trans (heap_alloc_new _ _)
      have zx := fun k => cell_of_row _ _ k _ _ _ hbx0
      have lx := (Array.getElem?_eq_some_iff.1 hbx0).1
      have lbr : b < wr.heap.size := by omega
      have hkj : (k : Int) - 1 = j := by omega
      have hkp : (0 : Int) < k := by omega
      have HKJ := Lib.hid hj
      clear hbx0 e1 e2
      generalize at3 (fl2 L) (j * 2) = x0 at *
      generalize at3 (fl2 L) (j * 2 + 1) = y0 at *
      have HS := fun w => Lib.hid (l2Sign_any (p - x0) (q - y0) (Cf_mk (by omega)) (Cf_mk (by omega)) w)
      have HBP : Hid ((-9223372036854775808 ≤ p - x0 ∧ p - x0 ≤ 9223372036854775807) ∧ (-9223372036854775808 ≤ q - y0 ∧ q - y0 ≤ 9223372036854775807)) := by unfold Hid; omega
      have HKY : Hid (S2 (p - x0) (q - y0) = sg (ky p q - ky x0 y0)) := by unfold Hid; rw [S2_ky (Cf_mk (by omega)) (Cf_mk (by omega)), ky_sub]
      by_cases hlt : S2 (p - x0) (q - y0) < 0
      · have HD' : Hid (∀ y ∈ L.drop j, ky p q < ky y.1 y.2) := fun y hy => by
          rw [List.drop_eq_getElem_cons hjl] at hy
          rcases List.mem_cons.1 hy with rfl | hy
          · have := (sg_ltU _).1 (HKY.out ▸ hlt)
            rw [HE12.out.1, HE12.out.2]
            omega
          · exact HD.out y (by rw [HKJ.out]; exact hy)
        generalize S2 (p - x0) (q - y0) = s at *
        have hjn : (j : Int) < n := by omega
        have hjn' : j < n := by omega
        have hwr : IntKind.i64.wrap (j : Int) = j := IntWalk.i64_in _ (by omega)
        have hw2 : wrap64 (j : Int) = j := by rw [← IntWalk.i64_left]; exact hwr
        have hv1 : IntKind.i64.wrap (p - x0) = p - x0 := IntWalk.i64_in _ HBP.out.1
        have hv2 : IntKind.i64.wrap (q - y0) = q - y0 := IntWalk.i64_in _ HBP.out.2
        have hv3 : wrap64 (p - x0) = p - x0 := by rw [← IntWalk.i64_left]; exact hv1
        have hv4 : wrap64 (q - y0) = q - y0 := by rw [← IntWalk.i64_left]; exact hv2
        clear hj
        go_wp2
        refine wp_region_madeC (m := 49) (by kernel_rfl) (by kernel_rfl) rfl (fun hxc => ?_)
        repeat (refine mw_quiet ?_; apply Exists.intro; refine ⟨fun σ => ?_, ?_⟩; (first | (go_simp; rfl) | (go_simp; intro x; first | (go_at_call 43; exact calls_ext ((HS _).out)))); simp only [Act.put, List.setIfInBounds_toArray, List.set_cons_succ, List.set_cons_zero, List.nil_append, List.cons_append])
        refine ⟨by kernel_rfl, fun σ w2 hF2 => ?_⟩
        have hx2 := hF2.ext
        clear hF2 hxc
        obtain ⟨hc2, hf2⟩ := hx2.cells
        have hz2 := hx2.size
        try simp at hz2
        clear hwr hw2 hv1 hv2 hv3 hv4
        go_wp2
        go_roundw
        case rel => exact ⟨j, by omega, by first | rfl | trivial, HD'.out, hE.trans hx2⟩
        case measure => have := HKJ.out; simp [intOf]; omega
      · have HK : Hid (k = 0 ∨ ∃ h : k - 1 < L.length, ky L[k - 1].1 L[k - 1].2 ≤ ky p q) := .inr (by
          have hkk := HKJ.out
          subst hkk
          have e1 := HE12.out.1
          have e2 := HE12.out.2
          have e4 : ¬ (sg (ky p q - ky x0 y0) < 0) := by rw [← HKY.out]; exact hlt
          rw [sg_ltU] at e4
          have e3 : L[j + 1 - 1]'(by omega) = L[j] := rfl
          refine ⟨by omega, ?_⟩
          rw [e3, e1, e2]
          omega)
        have hlt' : ¬ (S2 (p - x0) (q - y0) < 0) := hlt
        generalize S2 (p - x0) (q - y0) = s at *
        clear hlt
        have hjn : (j : Int) < n := by omega
        have hjn' : j < n := by omega
        have hwr : IntKind.i64.wrap (j : Int) = j := IntWalk.i64_in _ (by omega)
        have hw2 : wrap64 (j : Int) = j := by rw [← IntWalk.i64_left]; exact hwr
        have hv1 : IntKind.i64.wrap (p - x0) = p - x0 := IntWalk.i64_in _ HBP.out.1
        have hv2 : IntKind.i64.wrap (q - y0) = q - y0 := IntWalk.i64_in _ HBP.out.2
        have hv3 : wrap64 (p - x0) = p - x0 := by rw [← IntWalk.i64_left]; exact hv1
        have hv4 : wrap64 (q - y0) = q - y0 := by rw [← IntWalk.i64_left]; exact hv2
        clear hj
        go_wp2
        refine wp_region_madeC (m := 49) (by kernel_rfl) (by kernel_rfl) rfl (fun hxc => ?_)
        repeat (refine mw_quiet ?_; apply Exists.intro; refine ⟨fun σ => ?_, ?_⟩; (first | (go_simp; rfl) | (go_simp; intro x; first | (go_at_call 43; exact calls_ext ((HS _).out)))); simp only [Act.put, List.setIfInBounds_toArray, List.set_cons_succ, List.set_cons_zero, List.nil_append, List.cons_append])
        refine ⟨by kernel_rfl, fun σ w2 hF2 => ?_⟩
        have hx2 := hF2.ext
        clear hF2 hxc
        obtain ⟨hc2, hf2⟩ := hx2.cells
        have hz2 := hx2.size
        try simp at hz2
        clear hwr hw2 hv1 hv2 hv3 hv4
        have hE := hE.trans hx2
        clear hx2 hc2 hf2 hz2
        have HE := Lib.hid (((Ext.refl w).alloc _).trans hE)
        have hw1 : w.heap.size + 1 ≤ w2.heap.size := by have := hE.size; simp at this; exact this
        have HBX := Lib.hid ((hE.heap (k := w.heap.size) (by simp)).trans (heap_alloc_new _ _))
        have hbr : b < w2.heap.size := by omega
        have HR1 : Hid (∀ W, Ext w W → RV W 2 (.slice (some ⟨b, off, none⟩) k cap) k ((fl2 L).take (k * 2))) := fun W hW => rvt_head HL.out (by have := hW.size; omega) (fun i u hu => (hW.cells.1 b (off + i) h3).trans (H4.out i u hu)) k hk (by omega) h2
        have HR3 : Hid (∀ W, Ext w W → RV W 2 (.slice (if cap = k then some ⟨b, off, none⟩ else some ⟨b, off + k * 2, none⟩) (n - k) (cap - k)) (n - k) (((fl2 L).drop (k * 2)).take ((n - k) * 2))) := fun W hW =>
          rvt_cut HL.out (by have := hW.size; omega) (fun i u hu => (hW.cells.1 b (off + i) h3).trans (H4.out i u hu)) h1 h2 hk
        have hkc : (k : Int) ≤ cap := by omega
        have hkc' : k ≤ cap := by omega
        have hkn : (k : Int) ≤ n := by omega
        have hnc : (n : Int) ≤ cap := by omega
        have hE1 := hE
        clear hE
        rcases Decidable.em (cap = k) with hcE | hcE
        all_goals
          first
            | (have pE := eq_false hcE)
            | (have pE := eq_true hcE)
          have HCE := Lib.hid hcE
          clear hcE
          go_upto_region 5 with (at_builtin; go_loud (refine wpList_append_rvt (base := w2.heap.size) rfl elt_r2 rfl (.slice (some ⟨w2.heap.size, 0, none⟩) 0 0) 0 [] rfl (own_zeroU (Nat.le_refl _) (heap_alloc_new _ _)) (.slice (some ⟨b, off, none⟩) k cap) k ((fl2 L).take (k * 2)) rfl (HR1.out _ (HE.out.alloc _)) (by omega) (by simp) ?_); intro v4 w4 hown4 hgrow4 hiff4 hloc4; have hx4 : Ext w2 w4 := ext_grownB ((Ext.refl w2).alloc _) hgrow4 (own_zeroU (k := 2) (Nat.le_refl _) (heap_alloc_new _ _)) (Nat.le_refl _); rw [Nat.zero_add, List.nil_append] at hown4; have O4 := Lib.hid hown4; obtain ⟨a4, c4, rfl, _, _, _⟩ := own_shape hown4; have HX4 := Lib.hid hx4; have hb4 := (hx4.heap (k := w.heap.size) (by omega)).trans HBX.out; have z4 := fun k => cell_of_row _ _ k _ _ _ hb4; have l4 := (Array.getElem?_eq_some_iff.1 hb4).1; have s4 := hx4.size; clear hown4 hgrow4 hiff4 hloc4 hx4 hb4)
          have O5 := Lib.hid (own_ext O4.out ((Ext.refl w4).alloc (.cells #[.int .i64 p, .int .i64 q] 34 (0, 0))))
          have M5 := Lib.hid (heap_alloc_new w4 (.cells #[.int .i64 p, .int .i64 q] 34 (0, 0)))
          go_upto_region 6 with (at_builtin; go_loud (refine wpList_append_rvt (base := w2.heap.size) rfl elt_r2 rfl (.slice a4 k c4) k ((fl2 L).take (k * 2)) rfl O5.out _ 1 [p, q] rfl (rv_heap M5.out rfl rfl (by omega) (by decide)) (by omega) (by simp; omega) ?_); intro v5 w5 hown5 hgrow5 hiff5 hloc5)
          have hx5 : Ext w2 w5 := ext_grownB (HX4.out.alloc _) hgrow5 O5.out (Nat.le_refl _)
          have O6 := Lib.hid hown5
          obtain ⟨a5, c5, rfl, _, _, _⟩ := own_shape hown5
          have HX5 := Lib.hid hx5
          have R6 := Lib.hid (HR3.out w5 (HE.out.trans hx5))
          simp only [pE, if_true, if_false] at R6
          have s5 := hx5.size
          clear hown5 hgrow5 hiff5 hloc5 hx5 z4
          go_wp2_with (at_builtin; go_loud (refine wpList_append_rvt (base := w2.heap.size) rfl elt_r2 rfl (.slice a5 (k + 1) c5) (k + 1) _ rfl O6.out _ (n - k) _ rfl R6.out (by omega) (by omega) ?_); intro v6 w6 hown6 hgrow6 hiff6 hloc6)
          have hx6 : Ext w2 w6 := ext_grownB HX5.out hgrow6 O6.out (Nat.le_refl _)
          have O7 := Lib.hid hown6
          have HX6 := Lib.hid hx6
          clear hown6 hgrow6 hiff6 hloc6 hx6
          go_wp2
          go_ret
          have hM : IL (((fl2 L).take (k * 2) ++ [p, q]) ++ ((fl2 L).drop (k * 2)).take ((n - k) * 2)) = IL (fl2 (L.take k ++ (p, q) :: L.drop k)) := by
            rw [List.take_of_length_le (l := (fl2 L).drop (k * 2)) (by rw [List.length_drop, HL.out]; omega), fl2_append]
            simp only [fl2, fl2_take, fl2_drop, List.append_assoc, List.cons_append, List.nil_append]
          have h7 := O7.out
          rw [hM, show k + 1 + (n - k) = n + 1 by omega] at h7
          rw [show k + 1 + (n - k) = n + 1 by omega] at *
          refine ⟨_, rfl, L.take k ++ (p, q) :: L.drop k, ?_, ⟨k, by omega, rfl, HD.out, HK.out⟩, own_base h7 (by omega), HE.out.trans HX6.out⟩
          rw [List.length_append, List.length_cons, List.length_take, List.length_drop]
          omega

end Go.Proofs.Ytojoljffaedpfaa
