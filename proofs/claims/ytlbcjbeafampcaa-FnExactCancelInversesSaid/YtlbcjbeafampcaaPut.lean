/- A number put at its place in a rising list: the reference's l1Put. -/
import Derived.Test.YtlbcjbeafampcaaCatI
import Derived.Test.YtlbcjbeafampcaaGateL
import Derived.Test.YtlbcjbeafampcaaLt
import Derived.Test.YtlbcjbeafampcaaMade
import Derived.Deep.Cut
namespace Go.Proofs.Ytlbcjbeafampcaa
open Go.RowKit Go.Lib
set_option linter.unusedVariables false
set_option linter.unusedSimpArgs false

/-- a slice with a plain address: nil, or readable -/
def RVt (w : World) (k : Nat) (v : Value) (n : Nat) (xs : List Int) : Prop :=
  xs.length = n * k ∧ ((v = .slice none 0 0 ∧ n = 0) ∨ ∃ (b off cap : Nat), v = .slice (some ⟨b, off, none⟩) n cap ∧ n ≤ cap ∧ cap ≤ maxLen ∧ b < w.heap.size ∧ ∀ j u, (IL xs)[j]? = some u → w.cell? ⟨b, off + j, none⟩ = some u)
theorem RVt.own {w : World} {base : Nat} {e : TypeId} {k : Nat} {v : Value} {n : Nat} {xs : List Int} (h : w.ownsRow base e k v n (IL xs)) (hl : xs.length = n * k) : RVt w k v n xs := by
  refine ⟨hl, ?_⟩
  rcases h.2 with ⟨rfl, rfl⟩ | ⟨g, cap, cur, rfl, hb, hg, h1, h2, h3, h4⟩
  · exact .inl ⟨rfl, rfl⟩
  · refine .inr ⟨g, 0, cap, rfl, h1, h2, (Array.getElem?_eq_some_iff.1 hg).1, fun j u hu => ?_⟩
    have := h.cells (g := g) rfl j u hu
    rwa [show (⟨g, 0, none⟩ : Addr).add j = ⟨g, 0 + j, none⟩ by unfold Addr.add; split <;> simp_all] at this
theorem rvt_part {w : World} {k n b off cap : Nat} {xs : List Int} (hl : xs.length = n * k) (hb : b < w.heap.size) (H : ∀ j u, (IL xs)[j]? = some u → w.cell? ⟨b, off + j, none⟩ = some u) (i m c : Nat) (him : i + m ≤ n) (hc : m ≤ c) (hm : c ≤ maxLen) :
    RV w k (.slice (some ⟨b, off + i * k, none⟩) m c) m ((xs.drop (i * k)).take (m * k)) := by
  have hik : i * k + m * k ≤ n * k := by rw [← Nat.add_mul]; exact Nat.mul_le_mul_right k him
  refine ⟨by simp; omega, _, c, rfl, hc, hm, fun hp => ⟨b, off + i * k, rfl, hb, fun j u hu => ?_⟩⟩
  have : (IL xs)[i * k + j]? = some u := by
    simp only [IL, List.map_take, List.map_drop] at hu ⊢
    rw [List.getElem?_take] at hu
    split at hu
    · rw [List.getElem?_drop] at hu; exact hu
    · cases hu
  have := H _ _ this
  rwa [← Nat.add_assoc] at this
theorem own_zeroU {w : World} {base g : Nat} {e : TypeId} {k : Nat} (hb : base ≤ g) (h : w.heap[g]? = some (.cells #[] e (0, 0))) : w.ownsRow base e k (.slice (some ⟨g, 0, none⟩) 0 0) 0 (IL []) :=
  ⟨by simp [IL], .inr ⟨g, 0, #[], rfl, hb, h, Nat.le_refl _, by decide, by simp, by simp [IL]⟩⟩
theorem rvt_head {w : World} {k n b off cap : Nat} {xs : List Int} (hl : xs.length = n * k) (hb : b < w.heap.size) (H : ∀ j u, (IL xs)[j]? = some u → w.cell? ⟨b, off + j, none⟩ = some u) (m : Nat) (him : m ≤ n) (hc : m ≤ cap) (hm : cap ≤ maxLen) :
    RV w k (.slice (some ⟨b, off, none⟩) m cap) m (xs.take (m * k)) := by
  have e := rvt_part (cap := cap) hl hb H 0 m cap (by omega) hc hm
  rw [Nat.zero_mul, Nat.add_zero, List.drop_zero] at e
  exact e
theorem rvt_cut {w : World} {k n b off cap T : Nat} {xs : List Int} (hl : xs.length = n * k) (hb : b < w.heap.size) (H : ∀ j u, (IL xs)[j]? = some u → w.cell? ⟨b, off + j, none⟩ = some u) (hc : n ≤ cap) (hm : cap ≤ maxLen) (hT : T ≤ n) :
    RV w k (.slice (if cap = T then some ⟨b, off, none⟩ else some ⟨b, off + T * k, none⟩) (n - T) (cap - T)) (n - T) ((xs.drop (T * k)).take ((n - T) * k)) := by
  by_cases h : cap = T
  · have hm0 : n - T = 0 := by omega
    rw [if_pos h, hm0]
    exact ⟨by simp, _, _, rfl, by omega, by omega, fun h => absurd h (by omega)⟩
  · rw [if_neg h]
    exact rvt_part (cap := cap) hl hb H T (n - T) (cap - T) (by omega) (by omega) (by omega)

def putI : List Int → Int → List Int
  | [], x => [x]
  | y :: l, x => if y < x then y :: putI l x else if y = x then y :: l else x :: y :: l
theorem putI_same : ∀ (L : List Int) (x : Int) (k : Nat), k < L.length → (∀ j, j < k → at3 L j < x) → at3 L k = x → putI L x = L
  | [], _, _, h, _, _ => absurd h (Nat.not_lt_zero _)
  | y :: l, x, 0, _, _, h => by
    have e : y = x := h
    unfold putI
    rw [if_neg (by omega), if_pos e]
  | y :: l, x, k + 1, h1, h2, h3 => by
    have e : y < x := h2 0 (by omega)
    unfold putI
    rw [if_pos e, putI_same l x k (by simp at h1; omega) (fun j hj => h2 (j + 1) (by omega)) h3]
theorem putI_new : ∀ (L : List Int) (x : Int) (k : Nat), k ≤ L.length → (∀ j, j < k → at3 L j < x) → (k < L.length → x < at3 L k) → putI L x = L.take k ++ x :: L.drop k
  | [], x, 0, _, _, _ => rfl
  | [], x, k + 1, h, _, _ => absurd h (by simp)
  | y :: l, x, 0, _, _, h => by
    have e : x < y := h (by simp)
    unfold putI
    rw [if_neg (by omega), if_neg (by omega)]
    rfl
  | y :: l, x, k + 1, h1, h2, h3 => by
    have e : y < x := h2 0 (by omega)
    unfold putI
    rw [if_pos e, putI_new l x k (by simp at h1; omega) (fun j hj => h2 (j + 1) (by omega)) (fun h => h3 (by simp; omega))]
    rfl

set_option maxRecDepth 20000 in
set_option maxHeartbeats 4000000 in
theorem l1Put_any {base : Nat} {v : Value} {n : Nat} {L : List Int} (hn : L.length = n) (hn2 : n ≤ 2000000) (x : Int) (w : World) (hbs : base ≤ w.heap.size) (ho : w.ownsRow base 3 1 v n (IL L)) :
    Calls Try.prog 94 #[v, .int .i64 x] w fun e w' => ∃ v', e = .returned v' ∧ w'.ownsRow base 3 1 v' (putI L x).length (IL (putI L x)) ∧ Ext w w' := by
  have h := RVt.own ho (by omega)
  have HO := Lib.hid ho
  clear ho
  rcases h.2 with ⟨rfl, rfl⟩ | ⟨b, off, cap, rfl, h1, h2, h3, h4⟩
  · obtain rfl : L = [] := List.eq_nil_of_length_eq_zero hn
    have HR0 : Hid (∀ W : World, RV W 1 (.slice none 0 0) 0 []) := fun W => ⟨rfl, none, 0, rfl, Nat.le_refl _, Nat.zero_le _, fun h => absurd h (by omega)⟩
    clear h hn HO
    go_enter Try.func94, Try.ntmps94
    go_wp2
    go_loopw [5] (fun i wr => i = .int .i64 0 ∧ Ext w wr) (fun i _ => 0)
    case atStart => exact ⟨rfl, Ext.refl _⟩
    case round =>
      obtain ⟨rfl, hE⟩ := hrel
      have HE := Lib.hid hE
      have hw1 := hE.size
      clear hE
      go_upto_region 7 with (at_builtin; go_loud (refine wpList_append_rvt (base := wr.heap.size) rfl elt_CI rfl (.slice (some ⟨wr.heap.size, 0, none⟩) 0 0) 0 [] rfl (own_zeroU (Nat.le_refl _) (heap_alloc_new _ _)) (.slice none 0 0) 0 [] rfl (HR0.out _) (by omega) (by simp) ?_); intro v4 w4 hown4 hgrow4 hiff4 hloc4; have hx4 : Ext wr w4 := ext_grownB ((Ext.refl wr).alloc _) hgrow4 (own_zeroU (k := 1) (Nat.le_refl _) (heap_alloc_new _ _)) (Nat.le_refl _); rw [Nat.zero_add, List.nil_append] at hown4; have O4 := Lib.hid hown4; obtain ⟨a4, c4, rfl, _, _, _⟩ := own_shape hown4; have HX4 := Lib.hid hx4; have s4 := hx4.size; clear hown4 hgrow4 hiff4 hloc4 hx4)
      have O5 := Lib.hid (own_ext O4.out ((Ext.refl w4).alloc (.cells #[.int .i64 x] 3 (0, 0))))
      have M5 := Lib.hid (heap_alloc_new w4 (.cells #[.int .i64 x] 3 (0, 0)))
      go_upto_region 8 with (at_builtin; go_loud (refine wpList_append_rvt (base := wr.heap.size) rfl elt_CI rfl (.slice a4 0 c4) 0 [] rfl O5.out _ 1 [x] rfl (rv_heap M5.out rfl rfl (by omega) (by decide)) (by omega) (by simp; omega) ?_); intro v5 w5 hown5 hgrow5 hiff5 hloc5)
      have hx5 : Ext wr w5 := ext_grownB (HX4.out.alloc _) hgrow5 O5.out (Nat.le_refl _)
      rw [Nat.zero_add, List.nil_append] at hown5
      have O6 := Lib.hid hown5
      obtain ⟨a5, c5, rfl, _, _, _⟩ := own_shape hown5
      have HX5 := Lib.hid hx5
      have s5 := hx5.size
      clear hown5 hgrow5 hiff5 hloc5 hx5
      go_wp2_with (at_builtin; go_loud (refine wpList_append_rvt (base := wr.heap.size) rfl elt_CI rfl (.slice a5 1 c5) 1 _ rfl O6.out (.slice none 0 0) 0 [] rfl (HR0.out _) (by omega) (by omega) ?_); intro v6 w6 hown6 hgrow6 hiff6 hloc6)
      have hx6 : Ext wr w6 := ext_grownB HX5.out hgrow6 O6.out (Nat.le_refl _)
      have O7 := Lib.hid hown6
      have HX6 := Lib.hid hx6
      clear hown6 hgrow6 hiff6 hloc6 hx6
      go_wp2
      go_ret
      have h7 := O7.out
      rw [List.append_nil] at h7
      exact ⟨_, rfl, own_base h7 (by omega), HE.out.trans HX6.out⟩
  have HL := Lib.hid h.1
  have HN := Lib.hid hn
  have HC : Hid (∀ W, Ext w W → ∀ k, k < n → W.cell? ⟨b, off + k, none⟩ = some (.int .i64 (at3 L k))) := fun W hW k hk => by
    have l0 := h.1
    rw [hW.cells.1 _ _ h3, h4 _ _ (at3_get (by omega))]
  have H4 := Lib.hid h4
  clear h h4
  go_enter Try.func94, Try.ntmps94
  go_wp2
  go_loopw [5] (fun i wr => ∃ k : Nat, k ≤ n ∧ i = .int .i64 k ∧ Hid (∀ j, j < k → at3 L j < x) ∧ Ext w wr) (fun i _ => n - (intOf i).toNat)
  case atStart => exact ⟨0, by omega, rfl, fun j hj => absurd hj (Nat.not_lt_zero _), Ext.refl _⟩
  case round =>
    obtain ⟨k, hk, rfl, HD, hE⟩ := hrel
    have hbr : b < wr.heap.size := by have := hE.size; omega
    have HE := Lib.hid hE
    have hcont : (k < n ∧ at3 L k < x) ∨ (k < n ∧ at3 L k = x) ∨ ((k : Int) < n ∧ ¬ at3 L k < x ∧ ¬ at3 L k = x) ∨ ¬ (k : Int) < n := by omega
    rcases hcont with ⟨hlt, hc⟩ | ⟨hlt, hc⟩ | hcont
    · have hlt' : (k : Int) < n := by omega
      have z := HC.out wr hE k hlt
      have HD' : Hid (∀ j, j < k + 1 → at3 L j < x) := fun j hj => by
        by_cases e : j = k
        · subst e; exact hc
        · exact HD.out j (by omega)
      generalize at3 L k = y at *
      go_wp2
      go_roundw
      case rel => exact ⟨k + 1, by omega, by go_num, HD'.out, HE.out⟩
      case measure => simp [intOf]; omega
    · have hlt' : (k : Int) < n := by omega
      have z := HC.out wr hE k hlt
      have HP : Hid (putI L x = L) := putI_same L x k (by have := HN.out; omega) HD.out hc
      have hc1 : ¬ at3 L k < x := by omega
      have hc2 : (at3 L k == x) = true := by simpa using hc
      generalize at3 L k = y at *
      clear hc hE
      go_wp2
      go_ret
      rw [HP.out, HN.out]
      exact ⟨_, rfl, own_ext HO.out HE.out, HE.out⟩
    · have HP : Hid (putI L x = L.take k ++ x :: L.drop k) := putI_new L x k (by have := HN.out; omega) HD.out (fun hk2 => by have := HN.out; omega)
      have HR1 : Hid (∀ W, Ext w W → RV W 1 (.slice (some ⟨b, off, none⟩) k cap) k (L.take (k * 1))) := fun W hW => rvt_head HL.out (by have := hW.size; omega) (fun i u hu => (hW.cells.1 b (off + i) h3).trans (H4.out i u hu)) k hk (by omega) h2
      have HR3 : Hid (∀ W, Ext w W → RV W 1 (.slice (if cap = k then some ⟨b, off, none⟩ else some ⟨b, off + k, none⟩) (n - k) (cap - k)) (n - k) ((L.drop (k * 1)).take ((n - k) * 1))) := fun W hW => by
        have := rvt_cut HL.out (by have := hW.size; omega) (fun i u hu => (hW.cells.1 b (off + i) h3).trans (H4.out i u hu)) h1 h2 hk
        rw [show off + k * 1 = off + k by omega] at this
        exact this
      have HZ : Hid (k < n → wr.cell? ⟨b, off + k, none⟩ = some (.int .i64 (at3 L k))) := fun h => HC.out wr hE k h
      have hkc : (k : Int) ≤ cap := by omega
      have hkc' : k ≤ cap := by omega
      have hkn : (k : Int) ≤ n := by omega
      have hnc : (n : Int) ≤ cap := by omega
      generalize at3 L k = y at *
      clear hE
      have hw1 := HE.out.size
      rcases Decidable.em (cap = k) with hcE | hcE
      all_goals
        first
          | (have pE := eq_false hcE)
          | (have pE := eq_true hcE)
        have HCE := Lib.hid hcE
        clear hcE
        rcases hcont with ⟨c1, c2, c3⟩ | c1
        case' inl => have z := HZ.out (by omega); have c4 : (y == x) = false := by simpa using c3
        all_goals
          go_upto_region 7 with (at_builtin; go_loud (refine wpList_append_rvt (base := wr.heap.size) rfl elt_CI rfl (.slice (some ⟨wr.heap.size, 0, none⟩) 0 0) 0 [] rfl (own_zeroU (Nat.le_refl _) (heap_alloc_new _ _)) (.slice (some ⟨b, off, none⟩) k cap) k (L.take (k * 1)) rfl (HR1.out _ (HE.out.alloc _)) (by omega) (by simp) ?_); intro v4 w4 hown4 hgrow4 hiff4 hloc4; have hx4 : Ext wr w4 := ext_grownB ((Ext.refl wr).alloc _) hgrow4 (own_zeroU (k := 1) (Nat.le_refl _) (heap_alloc_new _ _)) (Nat.le_refl _); rw [Nat.zero_add, List.nil_append] at hown4; have O4 := Lib.hid hown4; obtain ⟨a4, c4, rfl, _, _, _⟩ := own_shape hown4; have HX4 := Lib.hid hx4; have s4 := hx4.size; clear hown4 hgrow4 hiff4 hloc4 hx4)
          have O5 := Lib.hid (own_ext O4.out ((Ext.refl w4).alloc (.cells #[.int .i64 x] 3 (0, 0))))
          have M5 := Lib.hid (heap_alloc_new w4 (.cells #[.int .i64 x] 3 (0, 0)))
          go_upto_region 8 with (at_builtin; go_loud (refine wpList_append_rvt (base := wr.heap.size) rfl elt_CI rfl (.slice a4 k c4) k (L.take (k * 1)) rfl O5.out _ 1 [x] rfl (rv_heap M5.out rfl rfl (by omega) (by decide)) (by omega) (by simp; omega) ?_); intro v5 w5 hown5 hgrow5 hiff5 hloc5)
          have hx5 : Ext wr w5 := ext_grownB (HX4.out.alloc _) hgrow5 O5.out (Nat.le_refl _)
          have O6 := Lib.hid hown5
          obtain ⟨a5, c5, rfl, _, _, _⟩ := own_shape hown5
          have HX5 := Lib.hid hx5
          have R6 := Lib.hid (HR3.out w5 (HE.out.trans hx5))
          simp only [pE, if_true, if_false] at R6
          have s5 := hx5.size
          clear hown5 hgrow5 hiff5 hloc5 hx5
          go_wp2_with (at_builtin; go_loud (refine wpList_append_rvt (base := wr.heap.size) rfl elt_CI rfl (.slice a5 (k + 1) c5) (k + 1) _ rfl O6.out _ (n - k) _ rfl R6.out (by omega) (by omega) ?_); intro v6 w6 hown6 hgrow6 hiff6 hloc6)
          have hx6 : Ext wr w6 := ext_grownB HX5.out hgrow6 O6.out (Nat.le_refl _)
          have O7 := Lib.hid hown6
          have HX6 := Lib.hid hx6
          clear hown6 hgrow6 hiff6 hloc6 hx6
          go_wp2
          go_ret
          have hM : IL ((L.take (k * 1) ++ [x]) ++ (L.drop (k * 1)).take ((n - k) * 1)) = IL (putI L x) := by
            have := HN.out
            rw [HP.out, Nat.mul_one, Nat.mul_one, List.take_of_length_le (l := L.drop k) (by rw [List.length_drop]; omega), List.append_assoc]
            rfl
          have hlen : k + 1 + (n - k) = (putI L x).length := by
            have := HN.out
            rw [HP.out, List.length_append, List.length_cons, List.length_take, List.length_drop]
            omega
          have h7 := O7.out
          rw [hM, hlen] at h7
          rw [hlen] at *
          exact ⟨_, rfl, own_base h7 (by omega), HE.out.trans HX6.out⟩

end Go.Proofs.Ytlbcjbeafampcaa
