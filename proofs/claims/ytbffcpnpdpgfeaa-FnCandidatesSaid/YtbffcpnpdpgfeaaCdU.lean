/- CandidatesFor: the reference's insertion walked. -/
import Derived.Test.YtbffcpnpdpgfeaaCdS
import Derived.Deep.Cut
namespace Go.Proofs.Ytbffcpnpdpgfeaa
open Go.RowKit Go.Lib
set_option linter.unusedVariables false
set_option linter.unusedSimpArgs false

theorem rvt_part {w : World} {k n b off cap : Nat} {xs : List Int} (hl : xs.length = n * k) (hb : b < w.heap.size) (H : ∀ j u, (IL xs)[j]? = some u → w.cell? ⟨b, off + j, none⟩ = some u) (i m c : Nat) (him : i + m ≤ n) (hc : m ≤ c) (hm : c ≤ maxLen) :
    RV w k (.slice (some ⟨b, off + i * k, none⟩) m c) m ((xs.drop (i * k)).take (m * k)) := by
  have hik : i * k + m * k ≤ n * k := by rw [← Nat.add_mul]; exact Nat.mul_le_mul_right k him
  refine ⟨by simp; omega, _, c, rfl, hc, hm, fun hp => ⟨b, off + i * k, rfl, hb, fun j u hu => ?_⟩⟩
  have : (IL xs)[i * k + j]? = some u := by
    simp only [IL, List.map_take, List.map_drop] at hu ⊢
    rw [List.getElem?_take] at hu
    split at hu
    · rw [List.getElem?_drop] at hu; exact hu
    · cases hu
  have := H _ _ this
  rwa [← Nat.add_assoc] at this
theorem own_zeroU {w : World} {base g : Nat} {e : TypeId} {k : Nat} (hb : base ≤ g) (h : w.heap[g]? = some (.cells #[] e (0, 0))) : w.ownsRow base e k (.slice (some ⟨g, 0, none⟩) 0 0) 0 (IL []) :=
  ⟨by simp [IL], .inr ⟨g, 0, #[], rfl, hb, h, Nat.le_refl _, by decide, by simp, by simp [IL]⟩⟩
theorem rvt_head {w : World} {k n b off cap : Nat} {xs : List Int} (hl : xs.length = n * k) (hb : b < w.heap.size) (H : ∀ j u, (IL xs)[j]? = some u → w.cell? ⟨b, off + j, none⟩ = some u) (m : Nat) (him : m ≤ n) (hc : m ≤ cap) (hm : cap ≤ maxLen) :
    RV w k (.slice (some ⟨b, off, none⟩) m cap) m (xs.take (m * k)) := by
  have e := rvt_part (cap := cap) hl hb H 0 m cap (by omega) hc hm
  rw [Nat.zero_mul, Nat.add_zero, List.drop_zero] at e
  exact e
theorem rvt_cut {w : World} {k n b off cap T : Nat} {xs : List Int} (hl : xs.length = n * k) (hb : b < w.heap.size) (H : ∀ j u, (IL xs)[j]? = some u → w.cell? ⟨b, off + j, none⟩ = some u) (hc : n ≤ cap) (hm : cap ≤ maxLen) (hT : T ≤ n) :
    RV w k (.slice (if cap = T then some ⟨b, off, none⟩ else some ⟨b, off + T * k, none⟩) (n - T) (cap - T)) (n - T) ((xs.drop (T * k)).take ((n - T) * k)) := by
  by_cases h : cap = T
  · have hm0 : n - T = 0 := by omega
    rw [if_pos h, hm0]
    exact ⟨by simp, _, _, rfl, by omega, by omega, fun h => absurd h (by omega)⟩
  · rw [if_neg h]
    exact rvt_part (cap := cap) hl hb H T (n - T) (cap - T) (by omega) (by omega) (by omega)

set_option maxRecDepth 20000 in
set_option maxHeartbeats 8000000 in
theorem l27Put_any (c : Cx) {v : Value} {n b0 : Nat} {L : List Q4} (hn : L.length = n) (hn2 : n ≤ 100000) (hb : ∀ y ∈ L, c.ok y) (u : Q4) (hu : c.ok u) (hlx : ∀ y ∈ L, lx y u) (hpw : L.Pairwise (So.Lt c.key lx)) (w : World) (h : (v = .slice none 0 0 ∧ n = 0) ∨ (0 < n ∧ w.ownsRow b0 33 4 v n (IL (fl4 L)))) :
    Calls Try.prog 49 #[.agg #[.int .i64 c.x, .int .i64 c.y, .int .i64 c.n], .int .i64 c.k, v, .agg #[.int .i64 u.a, .int .i64 u.b, .int .i64 u.c, .int .i64 u.d]] w fun e w' => ∃ v', e = .returned v' ∧ ∃ M, M.length = n + 1 ∧ M.Pairwise (So.Lt c.key lx) ∧ (∀ z, z ∈ M ↔ z ∈ L ∨ z = u) ∧ w'.ownsRow w.heap.size 33 4 v' (n + 1) (IL (fl4 M)) ∧ Ext w w' := by
  have HE1 := fun w' => Lib.hid (l27Error_any c.x c.y c.n u.a u.b u.c u.d c.k hu w')
  rw [show erP c.x c.y c.n u.a u.b u.c u.d c.k = c.ep u from rfl, show erQ c.x c.y u.a u.b u.c u.d c.k = c.eq u from rfl] at HE1
  have HP := Lib.hid (fun (k : Nat) (hk : k ≤ L.length) h1 h2 => put_list (u := u) hk hpw hlx h1 h2)
  rcases h with ⟨rfl, rfl⟩ | ⟨hpos, ho⟩
  · obtain rfl : L = [] := List.eq_nil_of_length_eq_zero hn
    have HR0 : Hid (∀ W : World, RV W 4 (.slice none 0 0) 0 []) := fun W => ⟨rfl, none, 0, rfl, Nat.le_refl _, Nat.zero_le _, fun h => absurd h (by omega)⟩
    have HPN := Lib.hid (HP.out 0 (Nat.le_refl _) (fun y hy => by simp at hy) (fun h => absurd h (by omega)))
    clear hb hn hlx hpw HP hu
    generalize c.ep u = e1 at *
    generalize c.eq u = e2 at *
    generalize erM c.n c.k = m at *
    obtain ⟨a, b, c', d⟩ := u
    dsimp only at *
    go_enter Try.func49, Try.ntmps49
    go_wp2_with fail
    refine ((HE1 _).out).mono ?_
    rintro e w1 ⟨rfl, hx1⟩
    have HX1 : Hid (Ext w w1) := (by repeat (first | exact Ext.refl _ | assumption | refine Ext.alloc ?_ _ | refine Ext.drew ?_ | refine Ext.drewN ?_ _ | refine Ext.setCell ?_ (by first | omega | (dsimp only; omega) | (simp; done) | (simp; omega)) _ | refine Ext.trans ?_ (by assumption)))
    have HU1 : Hid (w1.heap[w.heap.size + 1]? = some (.cells #[.int .i64 a, .int .i64 b, .int .i64 c', .int .i64 d] 33 (0, 0))) := (hx1.heap (by simp)).trans (heap_alloc_at _ _ _ (by simp))
    clear hx1
    go_wp2
    go_loopw [11, 12, 13] (fun i _ _ wr => i = .int .i64 0 ∧ wr = w1.alloc (.cells #[.int .i64 e1, .int .i64 e2] 53 (0, 0))) (fun i _ _ _ => 0)
    case atStart => exact ⟨rfl, rfl⟩
    case round =>
      obtain ⟨rfl, hE⟩ := hrel
      have HEw : Hid (Ext w wr) := by unfold Hid; rw [hE]; exact HX1.out.alloc _
      have HBX : Hid (wr.heap[w.heap.size + 1]? = some (.cells #[.int .i64 a, .int .i64 b, .int .i64 c', .int .i64 d] 33 (0, 0))) := by unfold Hid; rw [hE]; exact heap_alloc_lt HU1.out
      have hw1 : w.heap.size ≤ wr.heap.size := HEw.out.size
      have hwu := (Array.getElem?_eq_some_iff.1 HBX.out).1
      clear hE
      go_upto_region 8 with (at_builtin; go_loud (refine wpList_append_rvt (base := wr.heap.size) rfl elt_R4 rfl (.slice (some ⟨wr.heap.size, 0, none⟩) 0 0) 0 [] rfl (own_zeroU (Nat.le_refl _) (heap_alloc_new _ _)) (.slice none 0 0) 0 [] rfl (HR0.out _) (by omega) (by simp) ?_); intro v4 w4 hown4 hgrow4 hiff4 hloc4; have hx4 : Ext wr w4 := ext_grownB ((Ext.refl wr).alloc _) hgrow4 (own_zeroU (k := 4) (Nat.le_refl _) (heap_alloc_new _ _)) (Nat.le_refl _); rw [Nat.zero_add, List.nil_append] at hown4; have O4 := Lib.hid hown4; obtain ⟨a4, c4, rfl, _, _, _⟩ := own_shape hown4; have HX4 := Lib.hid hx4; have hb4 := (hx4.heap (k := w.heap.size + 1) hwu).trans HBX.out; have z4 := fun k => cell_of_row _ _ k _ _ _ hb4; have l4 := (Array.getElem?_eq_some_iff.1 hb4).1; have s4 := hx4.size; clear hown4 hgrow4 hiff4 hloc4 hx4 hb4)
      have O5 := Lib.hid (own_ext O4.out ((Ext.refl w4).alloc (.cells #[.int .i64 a, .int .i64 b, .int .i64 c', .int .i64 d] 33 (0, 0))))
      have M5 := Lib.hid (heap_alloc_new w4 (.cells #[.int .i64 a, .int .i64 b, .int .i64 c', .int .i64 d] 33 (0, 0)))
      go_upto_region 9 with (at_builtin; go_loud (refine wpList_append_rvt (base := wr.heap.size) rfl elt_R4 rfl (.slice a4 0 c4) 0 [] rfl O5.out _ 1 [a, b, c', d] rfl (rv_heap M5.out rfl rfl (by omega) (by decide)) (by omega) (by simp; omega) ?_); intro v5 w5 hown5 hgrow5 hiff5 hloc5)
      have hx5 : Ext wr w5 := ext_grownB (HX4.out.alloc _) hgrow5 O5.out (Nat.le_refl _)
      rw [Nat.zero_add, List.nil_append] at hown5
      have O6 := Lib.hid hown5
      obtain ⟨a5, c5, rfl, _, _, _⟩ := own_shape hown5
      have HX5 := Lib.hid hx5
      have s5 := hx5.size
      clear hown5 hgrow5 hiff5 hloc5 hx5 z4
      go_wp2_with (at_builtin; go_loud (refine wpList_append_rvt (base := wr.heap.size) rfl elt_R4 rfl (.slice a5 1 c5) 1 _ rfl O6.out (.slice none 0 0) 0 [] rfl (HR0.out _) (by omega) (by omega) ?_); intro v6 w6 hown6 hgrow6 hiff6 hloc6)
      have hx6 : Ext wr w6 := ext_grownB HX5.out hgrow6 O6.out (Nat.le_refl _)
      have O7 := Lib.hid hown6
      have HX6 := Lib.hid hx6
      clear hown6 hgrow6 hiff6 hloc6 hx6
      go_wp2
      go_ret
      have h7 := O7.out
      rw [List.append_nil] at h7
      exact ⟨_, rfl, [⟨a, b, c', d⟩], rfl, HPN.out.1, (by simp), own_base h7 hw1, HEw.out.trans HX6.out⟩

  obtain ⟨va, cap, hva, h1, h2, hh⟩ := own_shape ho
  obtain ⟨g, rfl, -, h3, h4, -⟩ := hh hpos
  subst hva
  have HL : Hid ((fl4 L).length = n * 4) := by unfold Hid; rw [fl4_len, hn]
  have HN := Lib.hid hn
  have H4 : Hid (∀ j u, (IL (fl4 L))[j]? = some u → w.cell? ⟨g, 0 + j, none⟩ = some u) := fun j u hu => by rw [Nat.zero_add]; exact h4 j u hu
  have HC : Hid (∀ W, Ext w W → ∀ (j : Nat) (hj : j < n), ∃ y : Q4, c.ok y ∧ (∃ hl : j < L.length, y = L[j]) ∧ W.cell? ⟨g, j * 4, none⟩ = some (.int .i64 y.a) ∧ W.cell? ⟨g, j * 4 + 1, none⟩ = some (.int .i64 y.b) ∧ W.cell? ⟨g, j * 4 + 2, none⟩ = some (.int .i64 y.c) ∧ W.cell? ⟨g, j * 4 + 3, none⟩ = some (.int .i64 y.d)) := fun W hW j hj => by
    have hl : j < L.length := by omega
    obtain ⟨e1, e2, e3, e4⟩ := fl4_get hl
    refine ⟨L[j], hb _ (List.getElem_mem hl), ⟨hl, rfl⟩, ?_, ?_, ?_, ?_⟩
    · rw [hW.cells.1 _ _ h3]; exact h4 _ _ e1
    · rw [hW.cells.1 _ _ h3]; exact h4 _ _ e2
    · rw [hW.cells.1 _ _ h3]; exact h4 _ _ e3
    · rw [hW.cells.1 _ _ h3]; exact h4 _ _ e4
  have HLE := fun (y : Q4) (hy : c.ok y) w' => Lib.hid (l27Error_any c.x c.y c.n y.a y.b y.c y.d c.k hy w')
  have HSG := fun (y : Q4) (hy : c.ok y) w' => Lib.hid (l2Sign_any (c.ep u - c.ep y) (c.eq u - c.eq y) (Cx.diff hu hy).1 (Cx.diff hu hy).2 w')
  have HNG := fun (y : Q4) (hy : c.ok y) => Lib.hid (Cx.neg hu hy)
  have HBD := fun (y : Q4) (hy : c.ok y) => Lib.hid (And.intro hu.er hy.er)
  have HD0 : Hid (∀ y ∈ L.drop n, c.key u < c.key y) := by intro y hy; rw [List.drop_of_length_le (by omega)] at hy; cases hy
  clear h4 hb ho hlx hpw hn hu
  generalize hk1 : c.ep u = e1 at *
  generalize hk2 : c.eq u = e2 at *
  generalize erM c.n c.k = m at *
  obtain ⟨a, b, c', d⟩ := u
  have HKE := Lib.hid (And.intro hk1 hk2)
  clear hk1 hk2
  dsimp only at *
  go_enter Try.func49, Try.ntmps49
  go_wp2_with fail
  refine ((HE1 _).out).mono ?_
  rintro e w1 ⟨rfl, hx1⟩
  have HX1 : Hid (Ext w w1) := (by repeat (first | exact Ext.refl _ | assumption | refine Ext.alloc ?_ _ | refine Ext.drew ?_ | refine Ext.drewN ?_ _ | refine Ext.setCell ?_ (by first | omega | (dsimp only; omega) | (simp; done) | (simp; omega)) _ | refine Ext.trans ?_ (by assumption)))
  have HU1 : Hid (w1.heap[w.heap.size + 1]? = some (.cells #[.int .i64 a, .int .i64 b, .int .i64 c', .int .i64 d] 33 (0, 0))) := (hx1.heap (by simp)).trans (heap_alloc_at _ _ _ (by simp))
  have HT1 : Hid (w1.heap[w.heap.size]? = some (.cells #[.int .i64 c.x, .int .i64 c.y, .int .i64 c.n] 27 (0, 0))) := (hx1.heap (by simp; omega)).trans (heap_alloc_lt (heap_alloc_new _ _))
  have hs1 := HX1.out.size
  clear hx1
  go_wp2
  go_loopw [11, 12, 13] (fun i _ _ wr => ∃ k : Nat, k ≤ n ∧ i = .int .i64 k ∧ Hid (∀ y ∈ L.drop k, c.key ⟨a, b, c', d⟩ < c.key y) ∧ Hid (Ext (w1.alloc (.cells #[.int .i64 e1, .int .i64 e2] 53 (0, 0))) wr)) (fun i _ _ _ => (intOf i).toNat)
  case atStart => exact ⟨n, Nat.le_refl _, rfl, HD0, Ext.refl _⟩
  case round =>
    obtain ⟨k, hk, rfl, HD, HE⟩ := hrel
    have HB : Hid (wr.heap[w.heap.size + 1]? = some (.cells #[.int .i64 a, .int .i64 b, .int .i64 c', .int .i64 d] 33 (0, 0))) := (HE.out.heap (by simp; have := (Array.getElem?_eq_some_iff.1 HU1.out).1; omega)).trans (heap_alloc_lt HU1.out)
    have HT : Hid (wr.heap[w.heap.size]? = some (.cells #[.int .i64 c.x, .int .i64 c.y, .int .i64 c.n] 27 (0, 0))) := (HE.out.heap (by simp; have := (Array.getElem?_eq_some_iff.1 HT1.out).1; omega)).trans (heap_alloc_lt HT1.out)
    have HEb : Hid (wr.heap[w1.heap.size]? = some (.cells #[.int .i64 e1, .int .i64 e2] 53 (0, 0))) := (HE.out.heap (by simp)).trans (heap_alloc_new _ _)
    have HWW : Hid (Ext w wr) := (HX1.out.alloc _).trans HE.out
    have hww := HWW.out.size
    by_cases hk0 : k = 0
    · have hk0' : ¬ (0 : Int) < (k : Int) := by omega
      have HK00 : Hid (¬ 0 < k) := by unfold Hid; omega
      clear hk0
      have HK : Hid (∀ (h : 0 < k), ¬ c.key ⟨a, b, c', d⟩ < c.key (L[k - 1]'(by have := HN.out; omega))) := fun h => absurd h HK00.out
      have HEw := HWW
      have HBX : Hid (wr.heap[w.heap.size + 1]? = some (.cells #[.int .i64 a, .int .i64 b, .int .i64 c', .int .i64 d] 33 (0, 0))) := HB
      have hw1 : w.heap.size ≤ wr.heap.size := HEw.out.size
      have hwu := (Array.getElem?_eq_some_iff.1 HBX.out).1
      have hbr : g < wr.heap.size := by omega
      have HR1 : Hid (∀ W, Ext w W → RV W 4 (.slice (some ⟨g, 0, none⟩) k cap) k ((fl4 L).take (k * 4))) := fun W hW => rvt_head HL.out (by have := hW.size; omega) (fun i u hu => (hW.cells.1 g (0 + i) h3).trans (H4.out i u hu)) k hk (by omega) h2
      have HR3 : Hid (∀ W, Ext w W → RV W 4 (.slice (if cap = k then some ⟨g, 0, none⟩ else some ⟨g, 0 + k * 4, none⟩) (n - k) (cap - k)) (n - k) (((fl4 L).drop (k * 4)).take ((n - k) * 4))) := fun W hW =>
        rvt_cut HL.out (by have := hW.size; omega) (fun i u hu => (hW.cells.1 g (0 + i) h3).trans (H4.out i u hu)) h1 h2 hk
      simp only [Nat.zero_add] at HR3
      have hkc : (k : Int) ≤ cap := by omega
      have hkc' : k ≤ cap := by omega
      have hkn : (k : Int) ≤ n := by omega
      have hnc : (n : Int) ≤ cap := by omega
      rcases Decidable.em (cap = k) with hcE | hcE
      all_goals
        first
          | (have pE := eq_false hcE)
          | (have pE := eq_true hcE)
        have HCE := Lib.hid hcE
        clear hcE
        go_upto_region 8 with (at_builtin; go_loud (refine wpList_append_rvt (base := wr.heap.size) rfl elt_R4 rfl (.slice (some ⟨wr.heap.size, 0, none⟩) 0 0) 0 [] rfl (own_zeroU (Nat.le_refl _) (heap_alloc_new _ _)) (.slice (some ⟨g, 0, none⟩) k cap) k ((fl4 L).take (k * 4)) rfl (HR1.out _ (HEw.out.alloc _)) (by omega) (by simp) ?_); intro v4 w4 hown4 hgrow4 hiff4 hloc4; have hx4 : Ext wr w4 := ext_grownB ((Ext.refl wr).alloc _) hgrow4 (own_zeroU (k := 4) (Nat.le_refl _) (heap_alloc_new _ _)) (Nat.le_refl _); rw [Nat.zero_add, List.nil_append] at hown4; have O4 := Lib.hid hown4; obtain ⟨a4, c4, rfl, _, _, _⟩ := own_shape hown4; have HX4 := Lib.hid hx4; have hb4 := (hx4.heap (k := w.heap.size + 1) hwu).trans HBX.out; have z4 := fun k => cell_of_row _ _ k _ _ _ hb4; have l4 := (Array.getElem?_eq_some_iff.1 hb4).1; have s4 := hx4.size; clear hown4 hgrow4 hiff4 hloc4 hx4 hb4)
        have O5 := Lib.hid (own_ext O4.out ((Ext.refl w4).alloc (.cells #[.int .i64 a, .int .i64 b, .int .i64 c', .int .i64 d] 33 (0, 0))))
        have M5 := Lib.hid (heap_alloc_new w4 (.cells #[.int .i64 a, .int .i64 b, .int .i64 c', .int .i64 d] 33 (0, 0)))
        go_upto_region 9 with (at_builtin; go_loud (refine wpList_append_rvt (base := wr.heap.size) rfl elt_R4 rfl (.slice a4 k c4) k ((fl4 L).take (k * 4)) rfl O5.out _ 1 [a, b, c', d] rfl (rv_heap M5.out rfl rfl (by omega) (by decide)) (by omega) (by simp; omega) ?_); intro v5 w5 hown5 hgrow5 hiff5 hloc5)
        have hx5 : Ext wr w5 := ext_grownB (HX4.out.alloc _) hgrow5 O5.out (Nat.le_refl _)
        have O6 := Lib.hid hown5
        obtain ⟨a5, c5, rfl, _, _, _⟩ := own_shape hown5
        have HX5 := Lib.hid hx5
        have R6 := Lib.hid (HR3.out w5 (HEw.out.trans hx5))
        simp only [pE, if_true, if_false] at R6
        have s5 := hx5.size
        clear hown5 hgrow5 hiff5 hloc5 hx5 z4
        go_wp2_with (at_builtin; go_loud (refine wpList_append_rvt (base := wr.heap.size) rfl elt_R4 rfl (.slice a5 (k + 1) c5) (k + 1) _ rfl O6.out _ (n - k) _ rfl R6.out (by omega) (by omega) ?_); intro v6 w6 hown6 hgrow6 hiff6 hloc6)
        have hx6 : Ext wr w6 := ext_grownB HX5.out hgrow6 O6.out (Nat.le_refl _)
        have O7 := Lib.hid hown6
        have HX6 := Lib.hid hx6
        clear hown6 hgrow6 hiff6 hloc6 hx6
        go_wp2
        go_ret
        have hM : IL (((fl4 L).take (k * 4) ++ [a, b, c', d]) ++ ((fl4 L).drop (k * 4)).take ((n - k) * 4)) = IL (fl4 (L.take k ++ ⟨a, b, c', d⟩ :: L.drop k)) := by
          rw [List.take_of_length_le (l := (fl4 L).drop (k * 4)) (by rw [List.length_drop, HL.out]; omega), fl4_app, fl4_take, fl4_drop]
          simp only [fl4, List.flatMap_cons, List.append_assoc, List.cons_append, List.nil_append]
        have h7 := O7.out
        rw [hM, show k + 1 + (n - k) = n + 1 by omega] at h7
        rw [show k + 1 + (n - k) = n + 1 by omega] at *
        have hp := HP.out k (by rw [HN.out]; exact hk) HD.out HK.out
        exact ⟨_, rfl, _, by rw [hp.2.2, HN.out], hp.1, hp.2.1, own_base h7 hw1, HEw.out.trans HX6.out⟩

    · have hk0' : (0 : Int) < (k : Int) := by omega
      obtain ⟨j, hj⟩ : ∃ j, k - 1 = j := ⟨_, rfl⟩
      have ej : ((k : Int) - 1) = (j : Int) := by omega
      have hjn : j < n := by omega
      obtain ⟨y, hy, ⟨hyl, hye⟩, z0, z1, z2, z3⟩ := HC.out wr HWW.out j hjn
      have HF := fun w' => HLE y hy w'
      have HS := fun w' => HSG y hy w'
      have hng := HNG y hy
      have hbd := (HBD y hy).out
      rw [show S2 (e1 - c.ep y) (e2 - c.eq y) = S2 (e1 - c.ep y) (e2 - c.eq y) from rfl] at HS
      have hcm : Hid (c.cmp ⟨a, b, c', d⟩ y = S2 (e1 - c.ep y) (e2 - c.eq y)) := by unfold Hid Cx.cmp; rw [HKE.out.1, HKE.out.2]
      have hng2 : Hid (S2 (e1 - c.ep y) (e2 - c.eq y) < 0 ↔ c.key ⟨a, b, c', d⟩ < c.key y) := by unfold Hid; rw [← hcm.out]; exact hng.out
      have hE1 : (-100000 ≤ e1 ∧ e1 ≤ 100000) ∧ (-100000 ≤ e2 ∧ e2 ≤ 100000) := by
        have := hbd.1
        rw [← HKE.out.1, ← HKE.out.2]
        exact this
      have hF1 : (-100000 ≤ c.ep y ∧ c.ep y ≤ 100000) ∧ (-100000 ≤ c.eq y ∧ c.eq y ≤ 100000) := hbd.2
      have zU := fun o => cell_of_row _ _ o _ _ _ HB.out
      have zT := fun o => cell_of_row _ _ o _ _ _ HT.out
      have zE := fun o => cell_of_row _ _ o _ _ _ HEb.out
      have lU := (Array.getElem?_eq_some_iff.1 HB.out).1
      have lT := (Array.getElem?_eq_some_iff.1 HT.out).1
      have lE := (Array.getElem?_eq_some_iff.1 HEb.out).1
      have lg : g < wr.heap.size := by omega
      have HY := Lib.hid hye
      have hkk : 0 < k ∧ k ≤ n := by omega
      rw [show erP c.x c.y c.n y.a y.b y.c y.d c.k = c.ep y from rfl, show erQ c.x c.y y.a y.b y.c y.d c.k = c.eq y from rfl] at HF
      generalize S2 (e1 - c.ep y) (e2 - c.eq y) = sv at *
      generalize hp1 : c.ep y = f1 at *
      generalize hp2 : c.eq y = f2 at *
      have HPP := Lib.hid (And.intro hp1 hp2)
      clear hp1 hp2 hye hbd hng hcm HLE HSG HNG HBD hy
      have HJ := Lib.hid hj
      clear hj
      have hjn' : (j : Int) < n := by omega
      have hwr : IntKind.i64.wrap (j : Int) = j := IntWalk.i64_in _ (by omega)
      have hw2 : wrap64 (j : Int) = j := by rw [← IntWalk.i64_left]; exact hwr
      go_wp2
      refine wp_region_madeC (m := 65) (by kernel_rfl) (by kernel_rfl) rfl (fun hxc => ?_)
      repeat (refine mw_quiet ?_; apply Exists.intro; refine ⟨fun σ => ?_, ?_⟩; (first | (go_simp; rfl) | (go_simp; intro x; first | (go_at_call 62; exact (HF _).out))); simp only [Act.put, List.setIfInBounds_toArray, List.set_cons_succ, List.set_cons_zero, List.nil_append, List.cons_append])
      refine mw_maker (fun n => .pointer (some ⟨n, 0, none⟩)) 53 #[.int .i64 0, .int .i64 0] 12 #[.int .i64 f1, .int .i64 f2] rfl (fun σ x => ?_) ?_
      · go_simp
      simp only [Act.put, List.setIfInBounds_toArray, List.set_cons_succ, List.set_cons_zero, List.nil_append, List.cons_append, List.length_cons, List.length_nil, Nat.reduceAdd]
      repeat (refine mw_quiet ?_; apply Exists.intro; refine ⟨fun σ => ?_, ?_⟩; (first | (go_simp; rfl) | (go_simp; intro x; first | (go_at_call 62; exact (HF _).out))); simp only [Act.put, List.setIfInBounds_toArray, List.set_cons_succ, List.set_cons_zero, List.nil_append, List.cons_append])
      refine mw_store 11 rfl rfl (fun σ x hb hc => ?_) ?_
      · have hcell : ∀ k, x.w.cell? ⟨σ 11, k, none⟩ = (#[.int .i64 0, .int .i64 0] : Array Value)[k]? := fun k => cell_of_row _ _ _ _ _ _ hc
        have hfr : ∀ k, x.w.frozen? ⟨σ 11, k, none⟩ = false := fun k => frozen_of_row _ _ _ _ _ hc
        apply Exists.intro
        refine ⟨?_, ?_⟩
        · go_simp
          rfl
        · exact ((Fill.start hc).set 0 _).set 1 _
      simp only [Act.put, List.nil_append, List.cons_append]
      repeat (refine mw_quiet ?_; apply Exists.intro; refine ⟨fun σ => ?_, ?_⟩; (first | (go_simp; rfl) | (go_simp; intro x; first | (go_at_call 62; exact (HF _).out))); simp only [Act.put, List.setIfInBounds_toArray, List.set_cons_succ, List.set_cons_zero, List.nil_append, List.cons_append])
      refine ⟨by kernel_rfl, fun σ w2 hF2 => ?_⟩
      have hx2 := hF2.ext
      obtain ⟨hm2_11, hl2_11, hq2_11, hr2_11⟩ := mfin_blk hF2 11 12 rfl (by decide) #[.int .i64 f1, .int .i64 f2] rfl
      dsimp only
      generalize σ 11 = B2_11 at *
      clear hF2 hxc
      obtain ⟨hc2, hf2⟩ := hx2.cells
      have hz2 := hx2.size
      try simp at hz2
      clear hwr hw2
      have HW2 := Lib.hid (HWW.out.trans hx2)
      have HE2 := Lib.hid (HE.out.trans hx2)
      have HB2 := Lib.hid ((hx2.heap lU).trans HB.out)
      have HEb2 := Lib.hid ((hx2.heap lE).trans HEb.out)
      have zE := fun o => cell_of_row _ _ o _ _ _ HEb2.out
      have lE := (Array.getElem?_eq_some_iff.1 HEb2.out).1
      clear zU zT zE lU lT z0 z1 z2 z3 hc2 hf2 HF
      have zE := fun o => cell_of_row _ _ o _ _ _ HEb2.out
      by_cases hsv : sv < 0
      · have HD' : Hid (∀ z ∈ L.drop j, c.key ⟨a, b, c', d⟩ < c.key z) := fun z hz => by
          rw [List.drop_eq_getElem_cons hyl] at hz
          rcases List.mem_cons.1 hz with rfl | hz
          · rw [← HY.out]
            exact hng2.out.1 hsv
          · exact HD.out z (by rw [show k = j + 1 by have := HJ.out; omega]; exact hz)
        have hsv' : ¬ 0 ≤ sv := by omega
        clear hng2 hsv
        go_wp2_with (go_at_call 63; ((with_reducible refine ((HS _).out).mono ?_); rintro e w' ⟨rfl, rfl⟩))
        go_roundw
        case rel => exact ⟨j, by omega, rfl, HD', HE2⟩
        case measure => have := HJ.out; simp [intOf]; omega
      · have HK : Hid (∀ (h : 0 < k), ¬ c.key ⟨a, b, c', d⟩ < c.key (L[k - 1]'(by have := HN.out; omega))) := fun h hlt => by
          have e : L[k - 1]'(by have := HN.out; omega) = y := by
            rw [HY.out]
            congr 1
          rw [e] at hlt
          exact hsv (hng2.out.2 hlt)
        have hsv' : 0 ≤ sv := by omega
        clear hng2 hsv
        have HEw := HW2
        have HBX : Hid (w2.heap[w.heap.size + 1]? = some (.cells #[.int .i64 a, .int .i64 b, .int .i64 c', .int .i64 d] 33 (0, 0))) := HB2
        have hw1 : w.heap.size ≤ w2.heap.size := HEw.out.size
        have hwu := (Array.getElem?_eq_some_iff.1 HBX.out).1
        have hbr : g < w2.heap.size := by omega
        have HR1 : Hid (∀ W, Ext w W → RV W 4 (.slice (some ⟨g, 0, none⟩) k cap) k ((fl4 L).take (k * 4))) := fun W hW => rvt_head HL.out (by have := hW.size; omega) (fun i u hu => (hW.cells.1 g (0 + i) h3).trans (H4.out i u hu)) k hk (by omega) h2
        have HR3 : Hid (∀ W, Ext w W → RV W 4 (.slice (if cap = k then some ⟨g, 0, none⟩ else some ⟨g, 0 + k * 4, none⟩) (n - k) (cap - k)) (n - k) (((fl4 L).drop (k * 4)).take ((n - k) * 4))) := fun W hW =>
          rvt_cut HL.out (by have := hW.size; omega) (fun i u hu => (hW.cells.1 g (0 + i) h3).trans (H4.out i u hu)) h1 h2 hk
        simp only [Nat.zero_add] at HR3
        have hkc : (k : Int) ≤ cap := by omega
        have hkc' : k ≤ cap := by omega
        have hkn : (k : Int) ≤ n := by omega
        have hnc : (n : Int) ≤ cap := by omega
        rcases Decidable.em (cap = k) with hcE | hcE
        all_goals
          first
            | (have pE := eq_false hcE)
            | (have pE := eq_true hcE)
          have HCE := Lib.hid hcE
          clear hcE
          go_upto_region 8 with (first | (go_at_call 63; ((with_reducible refine ((HS _).out).mono ?_); rintro e w' ⟨rfl, rfl⟩)) | (at_builtin; go_loud (refine wpList_append_rvt (base := w2.heap.size) rfl elt_R4 rfl (.slice (some ⟨w2.heap.size, 0, none⟩) 0 0) 0 [] rfl (own_zeroU (Nat.le_refl _) (heap_alloc_new _ _)) (.slice (some ⟨g, 0, none⟩) k cap) k ((fl4 L).take (k * 4)) rfl (HR1.out _ (HEw.out.alloc _)) (by omega) (by simp) ?_); intro v4 w4 hown4 hgrow4 hiff4 hloc4; have hx4 : Ext w2 w4 := ext_grownB ((Ext.refl w2).alloc _) hgrow4 (own_zeroU (k := 4) (Nat.le_refl _) (heap_alloc_new _ _)) (Nat.le_refl _); rw [Nat.zero_add, List.nil_append] at hown4; have O4 := Lib.hid hown4; obtain ⟨a4, c4, rfl, _, _, _⟩ := own_shape hown4; have HX4 := Lib.hid hx4; have hb4 := (hx4.heap (k := w.heap.size + 1) hwu).trans HBX.out; have z4 := fun k => cell_of_row _ _ k _ _ _ hb4; have l4 := (Array.getElem?_eq_some_iff.1 hb4).1; have s4 := hx4.size; clear hown4 hgrow4 hiff4 hloc4 hx4 hb4))
          have O5 := Lib.hid (own_ext O4.out ((Ext.refl w4).alloc (.cells #[.int .i64 a, .int .i64 b, .int .i64 c', .int .i64 d] 33 (0, 0))))
          have M5 := Lib.hid (heap_alloc_new w4 (.cells #[.int .i64 a, .int .i64 b, .int .i64 c', .int .i64 d] 33 (0, 0)))
          go_upto_region 9 with (at_builtin; go_loud (refine wpList_append_rvt (base := w2.heap.size) rfl elt_R4 rfl (.slice a4 k c4) k ((fl4 L).take (k * 4)) rfl O5.out _ 1 [a, b, c', d] rfl (rv_heap M5.out rfl rfl (by omega) (by decide)) (by omega) (by simp; omega) ?_); intro v5 w5 hown5 hgrow5 hiff5 hloc5)
          have hx5 : Ext w2 w5 := ext_grownB (HX4.out.alloc _) hgrow5 O5.out (Nat.le_refl _)
          have O6 := Lib.hid hown5
          obtain ⟨a5, c5, rfl, _, _, _⟩ := own_shape hown5
          have HX5 := Lib.hid hx5
          have R6 := Lib.hid (HR3.out w5 (HEw.out.trans hx5))
          simp only [pE, if_true, if_false] at R6
          have s5 := hx5.size
          clear hown5 hgrow5 hiff5 hloc5 hx5 z4
          go_wp2_with (at_builtin; go_loud (refine wpList_append_rvt (base := w2.heap.size) rfl elt_R4 rfl (.slice a5 (k + 1) c5) (k + 1) _ rfl O6.out _ (n - k) _ rfl R6.out (by omega) (by omega) ?_); intro v6 w6 hown6 hgrow6 hiff6 hloc6)
          have hx6 : Ext w2 w6 := ext_grownB HX5.out hgrow6 O6.out (Nat.le_refl _)
          have O7 := Lib.hid hown6
          have HX6 := Lib.hid hx6
          clear hown6 hgrow6 hiff6 hloc6 hx6
          go_wp2
          go_ret
          have hM : IL (((fl4 L).take (k * 4) ++ [a, b, c', d]) ++ ((fl4 L).drop (k * 4)).take ((n - k) * 4)) = IL (fl4 (L.take k ++ ⟨a, b, c', d⟩ :: L.drop k)) := by
            rw [List.take_of_length_le (l := (fl4 L).drop (k * 4)) (by rw [List.length_drop, HL.out]; omega), fl4_app, fl4_take, fl4_drop]
            simp only [fl4, List.flatMap_cons, List.append_assoc, List.cons_append, List.nil_append]
          have h7 := O7.out
          rw [hM, show k + 1 + (n - k) = n + 1 by omega] at h7
          rw [show k + 1 + (n - k) = n + 1 by omega] at *
          have hp := HP.out k (by rw [HN.out]; exact hk) HD.out HK.out
          exact ⟨_, rfl, _, by rw [hp.2.2, HN.out], hp.1, hp.2.1, own_base h7 hw1, HEw.out.trans HX6.out⟩


end Go.Proofs.Ytbffcpnpdpgfeaa
