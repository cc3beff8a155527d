/- ApplyReplacement: the program's side. -/
import Derived.Test.YtlbcjbeafampcaaAppL
import Derived.Deep.RegionHeld3
import Derived.Deep.Cut
namespace Go.Proofs.Ytlbcjbeafampcaa
open Go.RowKit Go.Lib
set_option linter.unusedVariables false
set_option linter.unusedSimpArgs false

set_option maxRecDepth 20000 in
set_option maxHeartbeats 2000000 in
theorem circuitIf_any (q : Int) {v : Value} {n : Nat} {xs : List Int} (hn : n ≤ 2000000) (w : World) (h : RV w 3 v n xs) :
    Calls Try.prog 80 #[.int .i64 q, v] w fun e w' => ∃ v', e = .returned (.tuple #[.agg #[.int .i64 (if cOk q xs n then q else 0), v'], .bool (cOk q xs n)]) ∧
      w'.ownsRow w.heap.size 73 3 v' (if cOk q xs n then n else 0) (IL (if cOk q xs n then xs else [])) ∧ Ext w w' := by
  have HV := fun (w' : World) v (h : RV w' 3 v n xs) => Lib.hid (isValidCircuit_any q hn w' h)
  have HR := Lib.hid (h.ext (((Ext.refl w).alloc (.cells #[.int .i64 0, .slice none 0 0] 31 (0, 0))).alloc (.cells #[] 73 (0, 0))))
  generalize cOk q xs n = o at *
  obtain ⟨hl, a, cap, rfl, c1, c2, H⟩ := h
  clear H
  have HO : Hid (((w.alloc (.cells #[.int .i64 0, .slice none 0 0] 31)).alloc (.cells #[] 73)).ownsRow (w.heap.size + 1) 73 3 (.slice (some ⟨w.heap.size + 1, 0, none⟩) 0 0) 0 (IL [])) := by
    have := World.ownsRow_lit (base := w.heap.size + 1) (e := 73) (size := 3) (w.alloc (.cells #[.int .i64 0, .slice none 0 0] 31)) #[] 0 (by simp) (by decide) rfl
    unfold Hid
    show World.ownsRow _ _ _ _ _ _ []
    simpa using this
  have hRb : Hid (((w.alloc (.cells #[.int .i64 0, .slice none 0 0] 31)).alloc (.cells #[] 73)).heap[w.heap.size]? = some (.cells #[.int .i64 0, .slice none 0 0] 31 (0, 0))) := heap_alloc_lt (heap_alloc_new _ _)
  go_enter Try.func80, Try.ntmps80
  go_wp2_with (at_builtin; go_loud (refine wpList_append_rv rfl elt_CG rfl _ 0 [] rfl HO.out _ n xs rfl HR.out (by omega) (by simp) ?_); intro v4 w4 hown4 hgrow4 hiff4; obtain ⟨a4, c4, rfl, _, _, _⟩ := own_shape hown4)
  have hR4 := Lib.hid (heap_grownB hgrow4 HO.out (by omega) hRb.out)
  have HE4 := Lib.hid (ext_grownB (w0 := w) (((Ext.refl w).alloc _).alloc _) hgrow4 HO.out (by omega))
  have O4 := Lib.hid (show w4.ownsRow (w.heap.size + 1) 73 3 (.slice a4 (0 + n) c4) n (IL xs) by simpa using hown4)
  simp only [Nat.zero_add] at O4
  have lR4 := (Array.getElem?_eq_some_iff.1 hR4.out).1
  have zR4 : ∀ k, w4.cell? ⟨w.heap.size, k, none⟩ = (#[.int .i64 0, .slice none 0 0] : Array Value)[k]? := fun k => cell_of_row _ _ _ _ _ _ hR4.out
  have fR4 : ∀ k, w4.frozen? ⟨w.heap.size, k, none⟩ = false := fun k => frozen_of_row _ _ _ _ _ hR4.out
  clear hown4
  go_wp2_with fail
  refine (HV _ _ (RV.own (own_ext O4.out ((Ext.refl _).alloc _)) hl)).out.mono ?_
  rintro e w5 ⟨rfl, hx5⟩
  obtain ⟨hc5, hf5⟩ := hx5.cells
  have hz5 := hx5.size
  try simp at hz5
  have hs5_0 := sz1 (a := w4.heap.size) (b := w5.heap.size) (by omega)
  have hR5 := Lib.hid ((hx5.heap (by simp; omega)).trans (heap_alloc_lt hR4.out))
  have lR5 := (Array.getElem?_eq_some_iff.1 hR5.out).1
  have zR5 : ∀ k, w5.cell? ⟨w.heap.size, k, none⟩ = (#[.int .i64 0, .slice none 0 0] : Array Value)[k]? := fun k => cell_of_row _ _ _ _ _ _ hR5.out
  have fR5 : ∀ k, w5.frozen? ⟨w.heap.size, k, none⟩ = false := fun k => frozen_of_row _ _ _ _ _ hR5.out
  have hB5 := (hx5.heap (k := w4.heap.size) (by simp)).trans (heap_alloc_new _ _)
  have zB5 : ∀ k, w5.cell? ⟨w4.heap.size, k, none⟩ = (#[.int .i64 q, .slice a4 n c4] : Array Value)[k]? := fun k => cell_of_row _ _ _ _ _ _ hB5
  clear hc5 hf5 hB5 zR4 fR4
  have HE5 : Ext w w5 := (HE4.out.alloc _).trans hx5
  have O5 := Lib.hid (own_ext (own_ext O4.out ((Ext.refl _).alloc (.cells #[.int .i64 q, .slice a4 n c4] 31 (0, 0)))) hx5)
  have hs4 := HE4.out.size
  cases o
  · go_wp2
    refine bodyPost_ret (v := .tuple #[.agg #[.int .i64 0, .slice none 0 0], .bool false]) (by simp [results, Try.results80, go_sem, *]) rfl ?_
    exact ⟨_, rfl, own_nil _ _ _ _, (by repeat (first | (with_reducible refine Ext.setCell ?_ (by first | (simp; done) | (simp; omega)) _) | with_reducible refine Ext.alloc ?_ _ | with_reducible refine Ext.drew ?_ | with_reducible refine Ext.drewN ?_ _ | with_reducible assumption | with_reducible exact Ext.refl _ | with_reducible refine Ext.trans ?_ (by with_reducible assumption)))⟩
  · go_wp2
    refine bodyPost_ret (v := .tuple #[.agg #[.int .i64 q, .slice a4 n c4], .bool true]) (by simp [results, Try.results80, go_sem, *]) rfl ?_
    exact ⟨_, rfl, (by refine own_base (base := w.heap.size + 1) ?_ (by first | omega | (simp; omega)); repeat (first | (with_reducible exact O5.out) | (with_reducible refine own_set ?_ (by first | omega | (simp; done) | (simp; omega)) _) | (with_reducible refine own_ext ?_ ((Ext.refl _).alloc _)) | (with_reducible refine own_ext ?_ (Ext.refl _).drew) | (with_reducible refine own_ext ?_ ((Ext.refl _).drewN _)) | (exact O5.out))), (by repeat (first | (with_reducible refine Ext.setCell ?_ (by first | (simp; done) | (simp; omega)) _) | with_reducible refine Ext.alloc ?_ _ | with_reducible refine Ext.drew ?_ | with_reducible refine Ext.drewN ?_ _ | with_reducible assumption | with_reducible exact Ext.refl _ | with_reducible refine Ext.trans ?_ (by with_reducible assumption)))⟩

theorem heap_drewx {w : World} {k : Nat} {x : Option Obj} (h : w.heap[k]? = x) : w.drew.heap[k]? = x := h
theorem cat3 (X : Nat → List Int) : catX X 3 = X 0 ++ X 1 ++ X 2 := rfl
theorem sum3 (N : Nat → Nat) : sumN N 3 = N 0 + N 1 + N 2 := by simp [sumN]
/-- three pieces -/
def tri {α : Type} (a b c : α) : Nat → α := fun j => if j = 0 then a else if j = 1 then b else c

theorem concat3_any {a1 a2 a3 : Option Addr} {n1 n2 n3 c1 c2 c3 : Nat} {xs ys zs : List Int} (h1 : n1 ≤ 2000000) (h2 : n2 ≤ 2000000) (h3 : n3 ≤ 2000000) (B : Nat) {ty : TypeId} (w : World) (hB : w.heap[B]? = some (.cells #[.slice a1 n1 c1, .slice a2 n2 c2, .slice a3 n3 c3] ty (0, 0)))
    (k1 : RV w 3 (.slice a1 n1 c1) n1 xs) (k2 : RV w 3 (.slice a2 n2 c2) n2 ys) (k3 : RV w 3 (.slice a3 n3 c3) n3 zs) :
    Calls Try.prog 91 #[.slice (some ⟨B, 0, none⟩) 3 3] w fun e w' => ∃ v, e = .returned v ∧ w'.ownsRow w.heap.size 73 3 v (n1 + n2 + n3) (IL (xs ++ ys ++ zs)) ∧ Ext w w' := by
  have := concatCG_any 3 (by omega) (tri a1 a2 a3) (tri n1 n2 n3) (tri c1 c2 c3) (tri xs ys zs) (fun j hj => by unfold tri; split <;> (try split) <;> omega) B w (Array.getElem?_eq_some_iff.1 hB).1
    (fun j hj => by
      rw [cell_of_row _ _ _ _ _ _ hB]
      match j, hj with
      | 0, _ => rfl
      | 1, _ => rfl
      | 2, _ => rfl)
    (fun j hj => by
      match j, hj with
      | 0, _ => exact k1
      | 1, _ => exact k2
      | 2, _ => exact k3)
  rw [cat3, sum3] at this
  exact this

/-- a part, as the walk spells it -/
theorem rv_cut {w : World} {n b off cap T e m : Nat} {xs : List Int} (hl : xs.length = n * 3) (hb : b < w.heap.size) (H : ∀ j u, (IL xs)[j]? = some u → w.cell? ⟨b, off + j, none⟩ = some u) (hc : n ≤ cap) (hm : cap ≤ maxLen) (he : e = T + m) (hn : e ≤ n) :
    RV w 3 (.slice (if cap = T then some ⟨b, off, none⟩ else some ⟨b, off + T * 3, none⟩) (e - T) (cap - T)) m ((xs.drop (T * 3)).take (m * 3)) := by
  subst he
  rw [show T + m - T = m by omega]
  by_cases h : cap = T
  · have hm0 : m = 0 := by omega
    subst hm0
    rw [if_pos h]
    exact ⟨by simp, _, _, rfl, by omega, by omega, fun h => absurd h (by omega)⟩
  · rw [if_neg h]
    exact rv_part (cap := cap) hl hb H T m (cap - T) hn (by omega) (by omega)

set_option maxRecDepth 20000 in
set_option maxHeartbeats 8000000 in
theorem applyReplacement_any (q t : Int) {v1 v2 v3 : Value} {n m l : Nat} {xs ys zs : List Int} (hn : n ≤ 2000000) (hm : m ≤ 2000000) (hl : l ≤ 2000000) (w : World) (h1 : RVs w 3 v1 n xs) (h2 : RV w 3 v2 m ys) (h3 : RV w 3 v3 l zs) :
    Calls Try.prog 81 #[.agg #[.int .i64 q, v1], .agg #[.int .i64 t, v2, v3]] w fun e w' => ∃ v, e = .returned (.tuple #[.agg #[.int .i64 (apQ q xs n t ys m zs l), v], .bool (apOk q xs n t ys m zs l)]) ∧
      w'.ownsRow w.heap.size 73 3 v (apN q xs n t ys m zs l) (IL (apL q xs n t ys m zs l)) ∧ Ext w w' := by
  have HV := fun w' (hx : Ext w w') => Lib.hid (isValidCircuit_any q hn w' (h1.ext hx).rv)
  have HR := fun w' (hx : Ext w w') => Lib.hid (isValidReplacement_any q t hm hl w' (h2.ext hx) (h3.ext hx))
  have HO : Hid (apOk q xs n t ys m zs l = (cOk q xs n && (rOk q t ys m zs l && (decide (t + m ≤ n) && (decide ((n : Int) - m + l ≤ 400) && apE xs t.toNat m ys))))) := rfl
  have HNO : Hid (apOk q xs n t ys m zs l = false → apL q xs n t ys m zs l = [] ∧ apN q xs n t ys m zs l = 0 ∧ apQ q xs n t ys m zs l = 0) := ap_no
  have HYES : Hid (apOk q xs n t ys m zs l = true → apL q xs n t ys m zs l = apX xs t.toNat m zs ∧ apN q xs n t ys m zs l = n - m + l ∧ apQ q xs n t ys m zs l = q) := ap_yes
  have H1 := Lib.hid h1
  have H2 := Lib.hid h2
  have H3 := Lib.hid h3
  have hE0 : ∀ o1 o2 o3, Ext w (((w.alloc o1).alloc o2).alloc o3) := fun o1 o2 o3 => (((Ext.refl w).alloc o1).alloc o2).alloc o3
  have hE0 := Lib.hid hE0
  obtain ⟨_, a1, c1, rfl, p1, p2, _⟩ := h1.rv
  obtain ⟨_, a2, c2, rfl, p3, p4, _⟩ := h2
  obtain ⟨_, a3, c3, rfl, p5, p6, _⟩ := h3
  clear h1
  cases g1 : cOk q xs n
  · rw [g1] at HV HO
    have HN : Hid (apOk q xs n t ys m zs l = false) := HO.out.trans (by simp)
    obtain ⟨e1, e2, e3⟩ := HNO.out HN.out
    have E1 := Lib.hid e1
    have E2 := Lib.hid e2
    have E3 := Lib.hid e3
    clear HR HO HNO HYES e1 e2 e3
    go_enter Try.func81, Try.ntmps81
    go_wp2
    refine wp_region_madeC (m := 61) (by kernel_rfl) (by kernel_rfl) rfl (fun hxc => ?_)
    repeat (refine mw_quiet ?_; apply Exists.intro; refine ⟨fun σ => ?_, ?_⟩; (first | (go_simp; rfl) | (go_simp; intro x; first | (go_at_call 56; exact (HV _ ((hE0.out _ _ _).trans x.ext)).out))); simp only [Act.put, List.setIfInBounds_toArray, List.set_cons_succ, List.set_cons_zero, List.nil_append, List.cons_append])
    refine ⟨by kernel_rfl, fun σ w1 hF1 => ?_⟩
    have hx1 := hF1.ext
    clear hF1 hxc
    obtain ⟨hc1, hf1⟩ := hx1.cells
    have hz1 := hx1.size
    try simp at hz1
    have hs1_0 := sz3 (a := w.heap.size) (b := w1.heap.size) (by omega)
    go_wp2
    refine bodyPost_ret (v := .tuple #[.agg #[.int .i64 0, .slice none 0 0], .bool false]) (by simp [results, Try.results81, go_sem, *]) rfl ?_
    rw [HN.out, E1.out, E2.out, E3.out]
    exact ⟨_, rfl, own_nil _ _ _ _, (by repeat (first | (with_reducible refine Ext.setCell ?_ (by first | (simp; done) | (simp; omega)) _) | with_reducible refine Ext.alloc ?_ _ | with_reducible refine Ext.drew ?_ | with_reducible refine Ext.drewN ?_ _ | with_reducible assumption | with_reducible exact Ext.refl _ | with_reducible refine Ext.trans ?_ (by with_reducible assumption)))⟩
  cases g2 : rOk q t ys m zs l
  · rw [g1] at HV HO
    rw [g2] at HR HO
    have HN : Hid (apOk q xs n t ys m zs l = false) := HO.out.trans (by simp)
    obtain ⟨e1, e2, e3⟩ := HNO.out HN.out
    have E1 := Lib.hid e1
    have E2 := Lib.hid e2
    have E3 := Lib.hid e3
    clear HO HNO HYES e1 e2 e3
    go_enter Try.func81, Try.ntmps81
    go_wp2
    refine wp_region_madeC (m := 61) (by kernel_rfl) (by kernel_rfl) rfl (fun hxc => ?_)
    repeat (refine mw_quiet ?_; apply Exists.intro; refine ⟨fun σ => ?_, ?_⟩; (first | (go_simp; rfl) | (go_simp; intro x; first | (go_at_call 56; with_reducible exact (HV _ ((hE0.out _ _ _).trans x.ext)).out) | (go_at_call 90; with_reducible exact (HR _ ((hE0.out _ _ _).trans x.ext)).out) | (go_at_call 56; exact (HV _ ((hE0.out _ _ _).trans x.ext)).out) | (go_at_call 90; exact (HR _ ((hE0.out _ _ _).trans x.ext)).out))); simp only [Act.put, List.setIfInBounds_toArray, List.set_cons_succ, List.set_cons_zero, List.nil_append, List.cons_append])
    refine ⟨by kernel_rfl, fun σ w1 hF1 => ?_⟩
    have hx1 := hF1.ext
    clear hF1 hxc
    obtain ⟨hc1, hf1⟩ := hx1.cells
    have hz1 := hx1.size
    try simp at hz1
    have hs1_0 := sz3 (a := w.heap.size) (b := w1.heap.size) (by omega)
    go_wp2
    refine bodyPost_ret (v := .tuple #[.agg #[.int .i64 0, .slice none 0 0], .bool false]) (by simp [results, Try.results81, go_sem, *]) rfl ?_
    rw [HN.out, E1.out, E2.out, E3.out]
    exact ⟨_, rfl, own_nil _ _ _ _, (by repeat (first | (with_reducible refine Ext.setCell ?_ (by first | (simp; done) | (simp; omega)) _) | with_reducible refine Ext.alloc ?_ _ | with_reducible refine Ext.drew ?_ | with_reducible refine Ext.drewN ?_ _ | with_reducible assumption | with_reducible exact Ext.refl _ | with_reducible refine Ext.trans ?_ (by with_reducible assumption)))⟩
  obtain ⟨r1, r2, r3, r4, r5, r6, r7⟩ := rOk_facts g2
  have hG := ap_good (q := q) (n := n) (xs := xs) (t := t.toNat) (m := m) (zs := zs) (l := l) H1.out.1 H3.out.1
  obtain ⟨T, rfl⟩ : ∃ T : Nat, t = T := ⟨t.toNat, by omega⟩
  rw [Int.toNat_natCast] at HO HYES hG
  have HW1 : Hid (IntKind.i64.wrap ((T : Int) + m) = (T : Int) + m) := IntWalk.i64_in _ (by omega)
  by_cases g3 : T + m ≤ n
  case neg =>
    have g3' : (n : Int) < T + m := by omega
    have g3'' : ¬ ((T : Int) + m ≤ n) := by omega
    rw [g1] at HV HO
    rw [g2] at HR HO
    have HN : Hid (apOk q xs n T ys m zs l = false) := HO.out.trans (by simp [g3''])
    obtain ⟨e1, e2, e3⟩ := HNO.out HN.out
    have E1 := Lib.hid e1
    have E2 := Lib.hid e2
    have E3 := Lib.hid e3
    clear HO HNO HYES e1 e2 e3 hG
    have hw1 := HW1.out
    have hw2 : wrap64 ((T : Int) + m) = (T : Int) + m := by rw [← IntWalk.i64_left]; exact hw1
    go_enter Try.func81, Try.ntmps81
    go_wp2
    refine wp_region_madeC (m := 61) (by kernel_rfl) (by kernel_rfl) rfl (fun hxc => ?_)
    repeat (refine mw_quiet ?_; apply Exists.intro; refine ⟨fun σ => ?_, ?_⟩; (first | (go_simp; rfl) | (go_simp; intro x; first | (go_at_call 56; with_reducible exact (HV _ ((hE0.out _ _ _).trans x.ext)).out) | (go_at_call 90; with_reducible exact (HR _ ((hE0.out _ _ _).trans x.ext)).out) | (go_at_call 56; exact (HV _ ((hE0.out _ _ _).trans x.ext)).out) | (go_at_call 90; exact (HR _ ((hE0.out _ _ _).trans x.ext)).out))); simp only [Act.put, List.setIfInBounds_toArray, List.set_cons_succ, List.set_cons_zero, List.nil_append, List.cons_append])
    refine ⟨by kernel_rfl, fun σ w1 hF1 => ?_⟩
    have hx1 := hF1.ext
    clear hF1 hxc
    obtain ⟨hc1, hf1⟩ := hx1.cells
    have hz1 := hx1.size
    try simp at hz1
    have hs1_0 := sz3 (a := w.heap.size) (b := w1.heap.size) (by omega)
    go_wp2
    refine bodyPost_ret (v := .tuple #[.agg #[.int .i64 0, .slice none 0 0], .bool false]) (by simp [results, Try.results81, go_sem, *]) rfl ?_
    rw [HN.out, E1.out, E2.out, E3.out]
    exact ⟨_, rfl, own_nil _ _ _ _, (by repeat (first | (with_reducible refine Ext.setCell ?_ (by first | (simp; done) | (simp; omega)) _) | with_reducible refine Ext.alloc ?_ _ | with_reducible refine Ext.drew ?_ | with_reducible refine Ext.drewN ?_ _ | with_reducible assumption | with_reducible exact Ext.refl _ | with_reducible refine Ext.trans ?_ (by with_reducible assumption)))⟩
  have g3' : ¬ ((n : Int) < T + m) := by omega
  have g3'' : ((T : Int) + m ≤ n) := by omega
  have hG := hG g3 g1 r7
  rw [g1] at HV HO
  rw [g2] at HR HO
  rcases H1.out.2 with ⟨h4, h5⟩ | ⟨b, off, cap, h4, h5, h6, h7, h8⟩
  · subst h5
    obtain rfl : T = 0 := by omega
    obtain rfl : m = 0 := by omega
    simp only [Value.slice.injEq] at h4
    obtain ⟨rfl, -, rfl⟩ := h4
    have hxs : xs = [] := List.eq_nil_of_length_eq_zero (by have := H1.out.1; omega)
    subst hxs
    have hap : apX [] 0 0 zs = zs := by unfold apX; simp
    have HEQ : Hid (∀ w', Ext w w' → Calls Try.prog 61 #[.slice none 0 0, .slice a2 0 c2] w' fun e w'' => e = .returned (.bool true) ∧ Ext w' w'') := fun w' hx => by
      have := equalG_any (n := 0) (xs := []) (by omega) (by omega) w' (RVs.rv ⟨rfl, .inl ⟨rfl, rfl⟩⟩) (H2.out.ext hx)
      simpa [eqG, allTo] using this
    have HCAT : Hid (∀ W B, Ext w W → W.heap[B]? = some (.cells #[.slice none 0 0, .slice a3 l c3, .slice none 0 0] 29 (0, 0)) →
        Calls Try.prog 91 #[.slice (some ⟨B, 0, none⟩) 3 3] W fun e w' => ∃ v, e = .returned v ∧ RV w' 3 v l zs ∧ Ext W w') := fun W B hx hB => by
      have k1 : RV W 3 (.slice none 0 0) 0 [] := RVs.rv ⟨rfl, .inl ⟨rfl, rfl⟩⟩
      refine (concat3_any (by omega) (by omega) (by omega) B W hB k1 (H3.out.ext hx) k1).mono ?_
      rintro e w' ⟨v, rfl, o1, hx1⟩
      refine ⟨v, rfl, ?_, hx1⟩
      have o2 := RV.own o1 (by have := H3.out.1; simp; omega)
      simpa using o2
    have HCI := fun (w' : World) v (h : RV w' 3 v l zs) => Lib.hid (circuitIf_any q (by omega) w' h)
    rw [hap] at hG HYES
    simp only [Nat.zero_sub, Nat.zero_add] at hG HYES
    rw [hG] at HCI
    have HGO : Hid (apOk q [] 0 ((0 : Nat) : Int) ys 0 zs l = decide (((0 : Nat) : Int) - ((0 : Nat) : Int) + l ≤ 400)) := HO.out.trans (by simp [apE, eqG, allTo])
    generalize decide (((0 : Nat) : Int) - ((0 : Nat) : Int) + l ≤ 400) = o at *
    clear HO HW1 g3 g3' g3'' hap hG r3 r4
    cases o
    · have HN3 := Lib.hid (HNO.out HGO.out)
      simp only [if_false, Bool.false_eq_true] at HCI
      go_enter Try.func81, Try.ntmps81
      go_wp2
      refine wp_region_madeC (m := 61) (by kernel_rfl) (by kernel_rfl) rfl (fun hxc => ?_)
      repeat (refine mw_quiet ?_; apply Exists.intro; refine ⟨fun σ => ?_, ?_⟩; (first | (go_simp; rfl) | (go_simp; intro x; first | (go_at_call 56; with_reducible exact (HV _ ((hE0.out _ _ _).trans x.ext)).out) | (go_at_call 90; with_reducible exact (HR _ ((hE0.out _ _ _).trans x.ext)).out) | (go_at_call 61; with_reducible exact (HEQ.out _ ((hE0.out _ _ _).trans x.ext))) | (go_at_call 56; exact (HV _ ((hE0.out _ _ _).trans x.ext)).out) | (go_at_call 90; exact (HR _ ((hE0.out _ _ _).trans x.ext)).out) | (go_at_call 61; exact (HEQ.out _ ((hE0.out _ _ _).trans x.ext))))); simp only [Act.put, List.setIfInBounds_toArray, List.set_cons_succ, List.set_cons_zero, List.nil_append, List.cons_append])
      refine ⟨by kernel_rfl, fun σ w1 hF1 => ?_⟩
      have hx1 := hF1.ext
      clear hF1 hxc
      obtain ⟨hc1, hf1⟩ := hx1.cells
      have hz1 := hx1.size
      try simp at hz1
      have hs1_0 := sz3 (a := w.heap.size) (b := w1.heap.size) (by omega)
      have hA1 : Hid (w1.heap[w.heap.size]? = some (.cells #[.int .i64 q, .slice none 0 0] 31 (0, 0))) := (hx1.heap (by simp; omega)).trans (heap_alloc_lt (heap_alloc_lt (heap_alloc_new _ _)))
      have hB1 : Hid (w1.heap[w.heap.size + 1]? = some (.cells #[.int .i64 0, .slice a2 0 c2, .slice a3 l c3] 45 (0, 0))) := (hx1.heap (by simp)).trans (heap_alloc_lt (heap_alloc_at _ _ _ (by simp)))
      have hR1 : Hid (w1.heap[w.heap.size + 1 + 1]? = some (.cells #[.int .i64 0, .slice none 0 0] 31 (0, 0))) := (hx1.heap (by simp)).trans (heap_alloc_at _ _ _ (by simp))
      have hE1 : Ext w w1 := (by repeat (first | (with_reducible refine Ext.setCell ?_ (by first | (simp; done) | (simp; omega)) _) | with_reducible refine Ext.alloc ?_ _ | with_reducible refine Ext.drew ?_ | with_reducible refine Ext.drewN ?_ _ | with_reducible assumption | with_reducible exact Ext.refl _ | with_reducible refine Ext.trans ?_ (by with_reducible assumption)))
      clear hx1 hc1 hf1 HV HR HEQ
      have lA := (Array.getElem?_eq_some_iff.1 hA1.out).1
      have lB := (Array.getElem?_eq_some_iff.1 hB1.out).1
      have lR := (Array.getElem?_eq_some_iff.1 hR1.out).1
      have zR1 : ∀ k, w1.cell? ⟨w.heap.size + 1 + 1, k, none⟩ = (#[.int .i64 0, .slice none 0 0] : Array Value)[k]? := fun k => cell_of_row _ _ _ _ _ _ hR1.out
      have fR1 : ∀ k, w1.frozen? ⟨w.heap.size + 1 + 1, k, none⟩ = false := fun k => frozen_of_row _ _ _ _ _ hR1.out
      have zA1 := fun k => cell_of_row _ _ k _ _ _ hA1.out
      have zB1 := fun k => cell_of_row _ _ k _ _ _ hB1.out
      have HK : Hid (∀ W, GX [w.heap.size + 1 + 1] w1 W → W.cell? ⟨w.heap.size, 0, none⟩ = some (.int .i64 q) ∧ W.cell? ⟨w.heap.size, 1, none⟩ = some (.slice none 0 0) ∧ W.cell? ⟨w.heap.size + 1, 0, none⟩ = some (.int .i64 0) ∧ W.cell? ⟨w.heap.size + 1, 2, none⟩ = some (.slice a3 l c3)) := fun W hx =>
        ⟨(hx.cell _ 0 lA (by simp; omega)).trans (zA1 0), (hx.cell _ 1 lA (by simp; omega)).trans (zA1 1), (hx.cell _ 0 lB (by simp)).trans (zB1 0), (hx.cell _ 2 lB (by simp)).trans (zB1 2)⟩
      go_upto_region 4 with fail
      go_region_held3 (fun W => W.cell? ⟨w.heap.size, 0, none⟩ = some (.int .i64 q) ∧ W.cell? ⟨w.heap.size, 1, none⟩ = some (.slice none 0 0) ∧ W.cell? ⟨w.heap.size + 1, 0, none⟩ = some (.int .i64 0) ∧ W.cell? ⟨w.heap.size + 1, 2, none⟩ = some (.slice a3 l c3)) (exact HK.out _ (by repeat (first | (with_reducible refine GX.setCell ?_ (by first | (simp; done) | (simp; omega)) _) | with_reducible refine GX.alloc ?_ _ | with_reducible refine GX.drew ?_ | with_reducible refine GX.drewN ?_ _ | with_reducible assumption | with_reducible exact GX.refl _ _ | with_reducible refine GX.ext ?_ (by with_reducible assumption) | with_reducible refine GX.trans ?_ (by with_reducible assumption)))) (first
        | (go_at_call 91; refine (HCAT.out _ _ (by repeat (first | (with_reducible refine Ext.setCell ?_ (by first | (simp; done) | (simp; omega)) _) | with_reducible refine Ext.alloc ?_ _ | with_reducible refine Ext.drew ?_ | with_reducible refine Ext.drewN ?_ _ | with_reducible assumption | with_reducible exact Ext.refl _ | with_reducible refine Ext.trans ?_ (by with_reducible assumption))) (heap_drewx (heap_alloc_new _ _))).mono ?_; rintro e w2 ⟨v2, rfl, o2, hx2⟩; have O2 := Lib.hid o2; obtain ⟨_, aa2, cc2, rfl, _, _, _⟩ := o2; have hx12 : Ext w1 w2 := (by repeat (first | (with_reducible refine Ext.setCell ?_ (by first | (simp; done) | (simp; omega)) _) | with_reducible refine Ext.alloc ?_ _ | with_reducible refine Ext.drew ?_ | with_reducible refine Ext.drewN ?_ _ | with_reducible assumption | with_reducible exact Ext.refl _ | with_reducible refine Ext.trans ?_ (by with_reducible assumption))); clear hx2; obtain ⟨hc2, hf2⟩ := hx12.cells; have hz2 := hx12.size)
        | (go_at_call 80; refine (HCI _ _ O2.out).out.mono ?_; rintro e w3 ⟨v3, rfl, o3, hx3⟩; have O3 := Lib.hid o3; obtain ⟨aa3, cc3, rfl, _, _, _⟩ := own_shape o3; clear o3; obtain ⟨hc3, hf3⟩ := hx3.cells; have hz3 := hx3.size; (try have hb3 : w.heap.size + 1 + 1 < w2.heap.size := by omega); (try have hb4 : w.heap.size + 1 + 1 < w3.heap.size := by omega)))
      all_goals
        go_wp2
        all_goals
          refine bodyPost_ret (v := .tuple #[.agg #[.int .i64 0, .slice aa3 0 cc3], .bool false]) (by simp [results, Try.results81, go_sem, *]) rfl ?_
          obtain ⟨e1, e2, e3⟩ := HN3.out
          rw [HGO.out, e1, e2, e3]
          have hs1 := hE1.size
          exact ⟨_, rfl, (by refine own_base (base := w2.heap.size) ?_ (by first | omega | (simp; omega)); repeat (first | (with_reducible exact O3.out) | (with_reducible refine own_set ?_ (by first | omega | (simp; done) | (simp; omega)) _) | (with_reducible refine own_ext ?_ ((Ext.refl _).alloc _)) | (with_reducible refine own_ext ?_ (Ext.refl _).drew) | (with_reducible refine own_ext ?_ ((Ext.refl _).drewN _)) | (exact O3.out))), (by repeat (first | (with_reducible refine Ext.setCell ?_ (by first | (simp; done) | (simp; omega)) _) | with_reducible refine Ext.alloc ?_ _ | with_reducible refine Ext.drew ?_ | with_reducible refine Ext.drewN ?_ _ | with_reducible assumption | with_reducible exact Ext.refl _ | with_reducible refine Ext.trans ?_ (by with_reducible assumption)))⟩
    · have HN3 := Lib.hid (HYES.out HGO.out)
      simp only [if_true] at HCI
      go_enter Try.func81, Try.ntmps81
      go_wp2
      refine wp_region_madeC (m := 61) (by kernel_rfl) (by kernel_rfl) rfl (fun hxc => ?_)
      repeat (refine mw_quiet ?_; apply Exists.intro; refine ⟨fun σ => ?_, ?_⟩; (first | (go_simp; rfl) | (go_simp; intro x; first | (go_at_call 56; with_reducible exact (HV _ ((hE0.out _ _ _).trans x.ext)).out) | (go_at_call 90; with_reducible exact (HR _ ((hE0.out _ _ _).trans x.ext)).out) | (go_at_call 61; with_reducible exact (HEQ.out _ ((hE0.out _ _ _).trans x.ext))) | (go_at_call 56; exact (HV _ ((hE0.out _ _ _).trans x.ext)).out) | (go_at_call 90; exact (HR _ ((hE0.out _ _ _).trans x.ext)).out) | (go_at_call 61; exact (HEQ.out _ ((hE0.out _ _ _).trans x.ext))))); simp only [Act.put, List.setIfInBounds_toArray, List.set_cons_succ, List.set_cons_zero, List.nil_append, List.cons_append])
      refine ⟨by kernel_rfl, fun σ w1 hF1 => ?_⟩
      have hx1 := hF1.ext
      clear hF1 hxc
      obtain ⟨hc1, hf1⟩ := hx1.cells
      have hz1 := hx1.size
      try simp at hz1
      have hs1_0 := sz3 (a := w.heap.size) (b := w1.heap.size) (by omega)
      have hA1 : Hid (w1.heap[w.heap.size]? = some (.cells #[.int .i64 q, .slice none 0 0] 31 (0, 0))) := (hx1.heap (by simp; omega)).trans (heap_alloc_lt (heap_alloc_lt (heap_alloc_new _ _)))
      have hB1 : Hid (w1.heap[w.heap.size + 1]? = some (.cells #[.int .i64 0, .slice a2 0 c2, .slice a3 l c3] 45 (0, 0))) := (hx1.heap (by simp)).trans (heap_alloc_lt (heap_alloc_at _ _ _ (by simp)))
      have hR1 : Hid (w1.heap[w.heap.size + 1 + 1]? = some (.cells #[.int .i64 0, .slice none 0 0] 31 (0, 0))) := (hx1.heap (by simp)).trans (heap_alloc_at _ _ _ (by simp))
      have hE1 : Ext w w1 := (by repeat (first | (with_reducible refine Ext.setCell ?_ (by first | (simp; done) | (simp; omega)) _) | with_reducible refine Ext.alloc ?_ _ | with_reducible refine Ext.drew ?_ | with_reducible refine Ext.drewN ?_ _ | with_reducible assumption | with_reducible exact Ext.refl _ | with_reducible refine Ext.trans ?_ (by with_reducible assumption)))
      clear hx1 hc1 hf1 HV HR HEQ
      have lA := (Array.getElem?_eq_some_iff.1 hA1.out).1
      have lB := (Array.getElem?_eq_some_iff.1 hB1.out).1
      have lR := (Array.getElem?_eq_some_iff.1 hR1.out).1
      have zR1 : ∀ k, w1.cell? ⟨w.heap.size + 1 + 1, k, none⟩ = (#[.int .i64 0, .slice none 0 0] : Array Value)[k]? := fun k => cell_of_row _ _ _ _ _ _ hR1.out
      have fR1 : ∀ k, w1.frozen? ⟨w.heap.size + 1 + 1, k, none⟩ = false := fun k => frozen_of_row _ _ _ _ _ hR1.out
      have zA1 := fun k => cell_of_row _ _ k _ _ _ hA1.out
      have zB1 := fun k => cell_of_row _ _ k _ _ _ hB1.out
      have HK : Hid (∀ W, GX [w.heap.size + 1 + 1] w1 W → W.cell? ⟨w.heap.size, 0, none⟩ = some (.int .i64 q) ∧ W.cell? ⟨w.heap.size, 1, none⟩ = some (.slice none 0 0) ∧ W.cell? ⟨w.heap.size + 1, 0, none⟩ = some (.int .i64 0) ∧ W.cell? ⟨w.heap.size + 1, 2, none⟩ = some (.slice a3 l c3)) := fun W hx =>
        ⟨(hx.cell _ 0 lA (by simp; omega)).trans (zA1 0), (hx.cell _ 1 lA (by simp; omega)).trans (zA1 1), (hx.cell _ 0 lB (by simp)).trans (zB1 0), (hx.cell _ 2 lB (by simp)).trans (zB1 2)⟩
      go_upto_region 4 with fail
      go_region_held3 (fun W => W.cell? ⟨w.heap.size, 0, none⟩ = some (.int .i64 q) ∧ W.cell? ⟨w.heap.size, 1, none⟩ = some (.slice none 0 0) ∧ W.cell? ⟨w.heap.size + 1, 0, none⟩ = some (.int .i64 0) ∧ W.cell? ⟨w.heap.size + 1, 2, none⟩ = some (.slice a3 l c3)) (exact HK.out _ (by repeat (first | (with_reducible refine GX.setCell ?_ (by first | (simp; done) | (simp; omega)) _) | with_reducible refine GX.alloc ?_ _ | with_reducible refine GX.drew ?_ | with_reducible refine GX.drewN ?_ _ | with_reducible assumption | with_reducible exact GX.refl _ _ | with_reducible refine GX.ext ?_ (by with_reducible assumption) | with_reducible refine GX.trans ?_ (by with_reducible assumption)))) (first
        | (go_at_call 91; refine (HCAT.out _ _ (by repeat (first | (with_reducible refine Ext.setCell ?_ (by first | (simp; done) | (simp; omega)) _) | with_reducible refine Ext.alloc ?_ _ | with_reducible refine Ext.drew ?_ | with_reducible refine Ext.drewN ?_ _ | with_reducible assumption | with_reducible exact Ext.refl _ | with_reducible refine Ext.trans ?_ (by with_reducible assumption))) (heap_drewx (heap_alloc_new _ _))).mono ?_; rintro e w2 ⟨v2, rfl, o2, hx2⟩; have O2 := Lib.hid o2; obtain ⟨_, aa2, cc2, rfl, _, _, _⟩ := o2; have hx12 : Ext w1 w2 := (by repeat (first | (with_reducible refine Ext.setCell ?_ (by first | (simp; done) | (simp; omega)) _) | with_reducible refine Ext.alloc ?_ _ | with_reducible refine Ext.drew ?_ | with_reducible refine Ext.drewN ?_ _ | with_reducible assumption | with_reducible exact Ext.refl _ | with_reducible refine Ext.trans ?_ (by with_reducible assumption))); clear hx2; obtain ⟨hc2, hf2⟩ := hx12.cells; have hz2 := hx12.size)
        | (go_at_call 80; refine (HCI _ _ O2.out).out.mono ?_; rintro e w3 ⟨v3, rfl, o3, hx3⟩; have O3 := Lib.hid o3; obtain ⟨aa3, cc3, rfl, _, _, _⟩ := own_shape o3; clear o3; obtain ⟨hc3, hf3⟩ := hx3.cells; have hz3 := hx3.size; (try have hb3 : w.heap.size + 1 + 1 < w2.heap.size := by omega); (try have hb4 : w.heap.size + 1 + 1 < w3.heap.size := by omega)))
      all_goals
        go_wp2
        all_goals
          refine bodyPost_ret (v := .tuple #[.agg #[.int .i64 q, .slice aa3 l cc3], .bool true]) (by simp [results, Try.results81, go_sem, *]) rfl ?_
          obtain ⟨e1, e2, e3⟩ := HN3.out
          rw [HGO.out, e1, e2, e3]
          have hs1 := hE1.size
          exact ⟨_, rfl, (by refine own_base (base := w2.heap.size) ?_ (by first | omega | (simp; omega)); repeat (first | (with_reducible exact O3.out) | (with_reducible refine own_set ?_ (by first | omega | (simp; done) | (simp; omega)) _) | (with_reducible refine own_ext ?_ ((Ext.refl _).alloc _)) | (with_reducible refine own_ext ?_ (Ext.refl _).drew) | (with_reducible refine own_ext ?_ ((Ext.refl _).drewN _)) | (exact O3.out))), (by repeat (first | (with_reducible refine Ext.setCell ?_ (by first | (simp; done) | (simp; omega)) _) | with_reducible refine Ext.alloc ?_ _ | with_reducible refine Ext.drew ?_ | with_reducible refine Ext.drewN ?_ _ | with_reducible assumption | with_reducible exact Ext.refl _ | with_reducible refine Ext.trans ?_ (by with_reducible assumption)))⟩
  obtain ⟨rfl, rfl⟩ : a1 = some ⟨b, off, none⟩ ∧ c1 = cap := by simpa using h4
  obtain ⟨E, hE⟩ : ∃ E : Nat, E = T + m := ⟨_, rfl⟩
  have HEQ : Hid (∀ w', Ext w w' → Calls Try.prog 61 #[.slice (if c1 = T then some ⟨b, off, none⟩ else some ⟨b, off + T * 3, none⟩) (E - T) (c1 - T), .slice a2 m c2] w' fun e w'' => e = .returned (.bool (apE xs T m ys)) ∧ Ext w' w'') := fun w' hx => by
    have := equalG_any (n := m) (by omega) hm w' (rv_cut (T := T) (m := m) (e := E) H1.out.1 (by have := hx.size; omega) (fun j u hu => (hx.cells.1 b (off + j) h7).trans (h8 j u hu)) h5 h6 (by omega) (by omega)) (H2.out.ext hx)
    simpa [apE] using this
  clear h4
  have k1 : (T : Int) ≤ E := by omega
  have k2 : (E : Int) ≤ c1 := by omega
  have k3 : (0 : Int) ≤ T := by omega
  have k4 : (T : Int) ≤ c1 := by omega
  cases g5 : apE xs T m ys
  · rw [g5] at HEQ HO
    rcases Decidable.em (c1 = T) with hcT | hcT
    all_goals
      first
        | (have pT := eq_false hcT; simp only [pT, if_false] at HEQ)
        | (have pT := eq_true hcT; simp only [pT, if_true] at HEQ)
      have hwE : (T : Int) + m = E := by omega
      have hw1 : IntKind.i64.wrap (E : Int) = E := IntWalk.i64_in _ (by omega)
      have g3e : ¬ ((n : Int) < E) := by omega
      have g3n : ¬ n < E := by omega
      have kn1 : T ≤ E := by omega
      have kn2 : E ≤ c1 := by omega
      have kn3 : E ≤ n := by omega
      have kn4 : T ≤ c1 := by omega
      have hw2 : wrap64 (E : Int) = E := by rw [← IntWalk.i64_left]; exact hw1
      have HEE := Lib.hid hE
      clear hE hcT
      go_enter Try.func81, Try.ntmps81
      go_wp2
      refine wp_region_madeC (m := 61) (by kernel_rfl) (by kernel_rfl) rfl (fun hxc => ?_)
      repeat (refine mw_quiet ?_; apply Exists.intro; refine ⟨fun σ => ?_, ?_⟩; (first | (go_simp; rfl) | (go_simp; intro x; first | (go_at_call 56; with_reducible exact (HV _ ((hE0.out _ _ _).trans x.ext)).out) | (go_at_call 90; with_reducible exact (HR _ ((hE0.out _ _ _).trans x.ext)).out) | (go_at_call 61; with_reducible exact (HEQ.out _ ((hE0.out _ _ _).trans x.ext))) | (go_at_call 56; exact (HV _ ((hE0.out _ _ _).trans x.ext)).out) | (go_at_call 90; exact (HR _ ((hE0.out _ _ _).trans x.ext)).out) | (go_at_call 61; exact (HEQ.out _ ((hE0.out _ _ _).trans x.ext))))); simp only [Act.put, List.setIfInBounds_toArray, List.set_cons_succ, List.set_cons_zero, List.nil_append, List.cons_append])
      refine ⟨by kernel_rfl, fun σ w1 hF1 => ?_⟩
      have hx1 := hF1.ext
      clear hF1 hxc
      obtain ⟨hc1, hf1⟩ := hx1.cells
      have hz1 := hx1.size
      try simp at hz1
      have hs1_0 := sz3 (a := w.heap.size) (b := w1.heap.size) (by omega)
      have HN : Hid (apOk q xs n T ys m zs l = false) := HO.out.trans (by simp)
      have HN3 := Lib.hid (HNO.out HN.out)
      go_wp2
      all_goals
        refine bodyPost_ret (v := .tuple #[.agg #[.int .i64 0, .slice none 0 0], .bool false]) (by simp [results, Try.results81, go_sem, *]) rfl ?_
        obtain ⟨e1, e2, e3⟩ := HN3.out
        rw [HN.out, e1, e2, e3]
        exact ⟨_, rfl, own_nil _ _ _ _, (by repeat (first | (with_reducible refine Ext.setCell ?_ (by first | (simp; done) | (simp; omega)) _) | with_reducible refine Ext.alloc ?_ _ | with_reducible refine Ext.drew ?_ | with_reducible refine Ext.drewN ?_ _ | with_reducible assumption | with_reducible exact Ext.refl _ | with_reducible refine Ext.trans ?_ (by with_reducible assumption)))⟩
  rw [g5] at HEQ HO
  have hn4 : n ≤ 400 := by
    unfold cOk at g1
    simp only [Bool.and_eq_true, decide_eq_true_eq] at g1
    exact g1.2.1
  have HCAT : Hid (∀ W B, Ext w W → W.heap[B]? = some (.cells #[.slice (some ⟨b, off, none⟩) T c1, .slice a3 l c3, .slice (if c1 = E then some ⟨b, off, none⟩ else some ⟨b, off + E * 3, none⟩) (n - E) (c1 - E)] 29 (0, 0)) →
      Calls Try.prog 91 #[.slice (some ⟨B, 0, none⟩) 3 3] W fun e w' => ∃ v, e = .returned v ∧ RV w' 3 v (n - m + l) (apX xs T m zs) ∧ Ext W w') := fun W B hx hB => by
    have e0 : E = T + m := hE
    have hbW : b < W.heap.size := by have := hx.size; omega
    have hcl : ∀ j u, (IL xs)[j]? = some u → W.cell? ⟨b, off + j, none⟩ = some u := fun j u hu => (hx.cells.1 b (off + j) h7).trans (h8 j u hu)
    rw [e0] at hB
    have k1 := rv_part (cap := c1) H1.out.1 hbW hcl 0 T c1 (by omega) (by omega) h6
    simp only [Nat.zero_mul, Nat.add_zero, List.drop_zero] at k1
    have k3 := rv_cut (T := T + m) (m := n - (T + m)) (e := n) H1.out.1 hbW hcl h5 h6 (by omega) (by omega)
    refine (concat3_any (by omega) (by omega) (by omega) B W hB k1 (H3.out.ext hx) k3).mono ?_
    rintro e w' ⟨v, rfl, o1, hx1⟩
    refine ⟨v, rfl, ?_, hx1⟩
    have hlast : (xs.drop ((T + m) * 3)).take ((n - (T + m)) * 3) = xs.drop ((T + m) * 3) := List.take_of_length_le (by rw [List.length_drop, H1.out.1]; omega)
    rw [hlast] at o1
    have o2 := RV.own o1 (by have := apX_len (zs := zs) (t := T) (m := m) H1.out.1 H3.out.1 g3; unfold apX at this; rw [this]; omega)
    rw [show T + l + (n - (T + m)) = n - m + l by omega] at o2
    exact o2
  have HCI := fun (w' : World) v (h : RV w' 3 v (n - m + l) (apX xs T m zs)) => Lib.hid (circuitIf_any q (by omega) w' h)
  rw [hG] at HCI
  have HGO : Hid (apOk q xs n T ys m zs l = decide ((n : Int) - m + l ≤ 400)) := HO.out.trans (by simp [g3''])
  generalize decide ((n : Int) - m + l ≤ 400) = o at *
  clear HO
  rcases Decidable.em (c1 = T) with hcT | hcT
  all_goals
    rcases Decidable.em (c1 = E) with hcE | hcE
  all_goals
    first
      | (have pT := eq_false hcT; simp only [pT, if_false] at HEQ)
      | (have pT := eq_true hcT; simp only [pT, if_true] at HEQ)
    first
      | (have pE := eq_false hcE; simp only [pE, if_false] at HCAT)
      | (have pE := eq_true hcE; simp only [pE, if_true] at HCAT)
    try (exfalso; omega)
  all_goals
    cases o
    · have HN3 := Lib.hid (HNO.out HGO.out)
      simp only [if_false, Bool.false_eq_true] at HCI
      have hwE : (T : Int) + m = E := by omega
      have hw1 : IntKind.i64.wrap (E : Int) = E := IntWalk.i64_in _ (by omega)
      have g3e : ¬ ((n : Int) < E) := by omega
      have g3n : ¬ n < E := by omega
      have kn1 : T ≤ E := by omega
      have kn2 : E ≤ c1 := by omega
      have kn3 : E ≤ n := by omega
      have kn4 : T ≤ c1 := by omega
      have hw2 : wrap64 (E : Int) = E := by rw [← IntWalk.i64_left]; exact hw1
      have HEE := Lib.hid hE
      clear hE hcT hcE
      go_enter Try.func81, Try.ntmps81
      go_wp2
      refine wp_region_madeC (m := 61) (by kernel_rfl) (by kernel_rfl) rfl (fun hxc => ?_)
      repeat (refine mw_quiet ?_; apply Exists.intro; refine ⟨fun σ => ?_, ?_⟩; (first | (go_simp; rfl) | (go_simp; intro x; first | (go_at_call 56; with_reducible exact (HV _ ((hE0.out _ _ _).trans x.ext)).out) | (go_at_call 90; with_reducible exact (HR _ ((hE0.out _ _ _).trans x.ext)).out) | (go_at_call 61; with_reducible exact (HEQ.out _ ((hE0.out _ _ _).trans x.ext))) | (go_at_call 56; exact (HV _ ((hE0.out _ _ _).trans x.ext)).out) | (go_at_call 90; exact (HR _ ((hE0.out _ _ _).trans x.ext)).out) | (go_at_call 61; exact (HEQ.out _ ((hE0.out _ _ _).trans x.ext))))); simp only [Act.put, List.setIfInBounds_toArray, List.set_cons_succ, List.set_cons_zero, List.nil_append, List.cons_append])
      refine ⟨by kernel_rfl, fun σ w1 hF1 => ?_⟩
      have hx1 := hF1.ext
      clear hF1 hxc
      obtain ⟨hc1, hf1⟩ := hx1.cells
      have hz1 := hx1.size
      try simp at hz1
      have hs1_0 := sz3 (a := w.heap.size) (b := w1.heap.size) (by omega)
      clear hw2 hw1 hwE
      have k5 : (0 : Int) ≤ (E : Int) := by omega
      have k6 : (E : Int) ≤ n := by omega
      have k7 : (n : Int) ≤ c1 := by omega
      have hA1 : Hid (w1.heap[w.heap.size]? = some (.cells #[.int .i64 q, .slice (some ⟨b, off, none⟩) n c1] 31 (0, 0))) := (hx1.heap (by simp; omega)).trans (heap_alloc_lt (heap_alloc_lt (heap_alloc_new _ _)))
      have hB1 : Hid (w1.heap[w.heap.size + 1]? = some (.cells #[.int .i64 T, .slice a2 m c2, .slice a3 l c3] 45 (0, 0))) := (hx1.heap (by simp)).trans (heap_alloc_lt (heap_alloc_at _ _ _ (by simp)))
      have hR1 : Hid (w1.heap[w.heap.size + 1 + 1]? = some (.cells #[.int .i64 0, .slice none 0 0] 31 (0, 0))) := (hx1.heap (by simp)).trans (heap_alloc_at _ _ _ (by simp))
      have hE1 : Ext w w1 := (by repeat (first | (with_reducible refine Ext.setCell ?_ (by first | (simp; done) | (simp; omega)) _) | with_reducible refine Ext.alloc ?_ _ | with_reducible refine Ext.drew ?_ | with_reducible refine Ext.drewN ?_ _ | with_reducible assumption | with_reducible exact Ext.refl _ | with_reducible refine Ext.trans ?_ (by with_reducible assumption)))
      clear hx1 hc1 hf1 HV HR HEQ
      have lA := (Array.getElem?_eq_some_iff.1 hA1.out).1
      have lB := (Array.getElem?_eq_some_iff.1 hB1.out).1
      have lR := (Array.getElem?_eq_some_iff.1 hR1.out).1
      have zR1 : ∀ k, w1.cell? ⟨w.heap.size + 1 + 1, k, none⟩ = (#[.int .i64 0, .slice none 0 0] : Array Value)[k]? := fun k => cell_of_row _ _ _ _ _ _ hR1.out
      have fR1 : ∀ k, w1.frozen? ⟨w.heap.size + 1 + 1, k, none⟩ = false := fun k => frozen_of_row _ _ _ _ _ hR1.out
      have zA1 := fun k => cell_of_row _ _ k _ _ _ hA1.out
      have zB1 := fun k => cell_of_row _ _ k _ _ _ hB1.out
      have HK : Hid (∀ W, GX [w.heap.size + 1 + 1] w1 W → W.cell? ⟨w.heap.size, 0, none⟩ = some (.int .i64 q) ∧ W.cell? ⟨w.heap.size, 1, none⟩ = some (.slice (some ⟨b, off, none⟩) n c1) ∧ W.cell? ⟨w.heap.size + 1, 0, none⟩ = some (.int .i64 T) ∧ W.cell? ⟨w.heap.size + 1, 2, none⟩ = some (.slice a3 l c3)) := fun W hx =>
        ⟨(hx.cell _ 0 lA (by simp; omega)).trans (zA1 0), (hx.cell _ 1 lA (by simp; omega)).trans (zA1 1), (hx.cell _ 0 lB (by simp)).trans (zB1 0), (hx.cell _ 2 lB (by simp)).trans (zB1 2)⟩
      go_upto_region 4 with fail
      go_region_held3 (fun W => W.cell? ⟨w.heap.size, 0, none⟩ = some (.int .i64 q) ∧ W.cell? ⟨w.heap.size, 1, none⟩ = some (.slice (some ⟨b, off, none⟩) n c1) ∧ W.cell? ⟨w.heap.size + 1, 0, none⟩ = some (.int .i64 T) ∧ W.cell? ⟨w.heap.size + 1, 2, none⟩ = some (.slice a3 l c3)) (exact HK.out _ (by repeat (first | (with_reducible refine GX.setCell ?_ (by first | (simp; done) | (simp; omega)) _) | with_reducible refine GX.alloc ?_ _ | with_reducible refine GX.drew ?_ | with_reducible refine GX.drewN ?_ _ | with_reducible assumption | with_reducible exact GX.refl _ _ | with_reducible refine GX.ext ?_ (by with_reducible assumption) | with_reducible refine GX.trans ?_ (by with_reducible assumption)))) (first
        | (go_at_call 91; refine (HCAT.out _ _ (by repeat (first | (with_reducible refine Ext.setCell ?_ (by first | (simp; done) | (simp; omega)) _) | with_reducible refine Ext.alloc ?_ _ | with_reducible refine Ext.drew ?_ | with_reducible refine Ext.drewN ?_ _ | with_reducible assumption | with_reducible exact Ext.refl _ | with_reducible refine Ext.trans ?_ (by with_reducible assumption))) (heap_drewx (heap_alloc_new _ _))).mono ?_; rintro e w2 ⟨v2, rfl, o2, hx2⟩; have O2 := Lib.hid o2; obtain ⟨_, aa2, cc2, rfl, _, _, _⟩ := o2; have hx12 : Ext w1 w2 := (by repeat (first | (with_reducible refine Ext.setCell ?_ (by first | (simp; done) | (simp; omega)) _) | with_reducible refine Ext.alloc ?_ _ | with_reducible refine Ext.drew ?_ | with_reducible refine Ext.drewN ?_ _ | with_reducible assumption | with_reducible exact Ext.refl _ | with_reducible refine Ext.trans ?_ (by with_reducible assumption))); clear hx2; obtain ⟨hc2, hf2⟩ := hx12.cells; have hz2 := hx12.size)
        | (go_at_call 80; refine (HCI _ _ O2.out).out.mono ?_; rintro e w3 ⟨v3, rfl, o3, hx3⟩; have O3 := Lib.hid o3; obtain ⟨aa3, cc3, rfl, _, _, _⟩ := own_shape o3; clear o3; obtain ⟨hc3, hf3⟩ := hx3.cells; have hz3 := hx3.size; (try have hb3 : w.heap.size + 1 + 1 < w2.heap.size := by omega); (try have hb4 : w.heap.size + 1 + 1 < w3.heap.size := by omega)))
      all_goals
        go_wp2
        all_goals
          refine bodyPost_ret (v := .tuple #[.agg #[.int .i64 0, .slice aa3 0 cc3], .bool false]) (by simp [results, Try.results81, go_sem, *]) rfl ?_
          obtain ⟨e1, e2, e3⟩ := HN3.out
          rw [HGO.out, e1, e2, e3]
          have hs1 := hE1.size
          exact ⟨_, rfl, (by refine own_base (base := w2.heap.size) ?_ (by first | omega | (simp; omega)); repeat (first | (with_reducible exact O3.out) | (with_reducible refine own_set ?_ (by first | omega | (simp; done) | (simp; omega)) _) | (with_reducible refine own_ext ?_ ((Ext.refl _).alloc _)) | (with_reducible refine own_ext ?_ (Ext.refl _).drew) | (with_reducible refine own_ext ?_ ((Ext.refl _).drewN _)) | (exact O3.out))), (by repeat (first | (with_reducible refine Ext.setCell ?_ (by first | (simp; done) | (simp; omega)) _) | with_reducible refine Ext.alloc ?_ _ | with_reducible refine Ext.drew ?_ | with_reducible refine Ext.drewN ?_ _ | with_reducible assumption | with_reducible exact Ext.refl _ | with_reducible refine Ext.trans ?_ (by with_reducible assumption)))⟩
    · have HN3 := Lib.hid (HYES.out HGO.out)
      simp only [if_true] at HCI
      have hwE : (T : Int) + m = E := by omega
      have hw1 : IntKind.i64.wrap (E : Int) = E := IntWalk.i64_in _ (by omega)
      have g3e : ¬ ((n : Int) < E) := by omega
      have g3n : ¬ n < E := by omega
      have kn1 : T ≤ E := by omega
      have kn2 : E ≤ c1 := by omega
      have kn3 : E ≤ n := by omega
      have kn4 : T ≤ c1 := by omega
      have hw2 : wrap64 (E : Int) = E := by rw [← IntWalk.i64_left]; exact hw1
      have HEE := Lib.hid hE
      clear hE hcT hcE
      go_enter Try.func81, Try.ntmps81
      go_wp2
      refine wp_region_madeC (m := 61) (by kernel_rfl) (by kernel_rfl) rfl (fun hxc => ?_)
      repeat (refine mw_quiet ?_; apply Exists.intro; refine ⟨fun σ => ?_, ?_⟩; (first | (go_simp; rfl) | (go_simp; intro x; first | (go_at_call 56; with_reducible exact (HV _ ((hE0.out _ _ _).trans x.ext)).out) | (go_at_call 90; with_reducible exact (HR _ ((hE0.out _ _ _).trans x.ext)).out) | (go_at_call 61; with_reducible exact (HEQ.out _ ((hE0.out _ _ _).trans x.ext))) | (go_at_call 56; exact (HV _ ((hE0.out _ _ _).trans x.ext)).out) | (go_at_call 90; exact (HR _ ((hE0.out _ _ _).trans x.ext)).out) | (go_at_call 61; exact (HEQ.out _ ((hE0.out _ _ _).trans x.ext))))); simp only [Act.put, List.setIfInBounds_toArray, List.set_cons_succ, List.set_cons_zero, List.nil_append, List.cons_append])
      refine ⟨by kernel_rfl, fun σ w1 hF1 => ?_⟩
      have hx1 := hF1.ext
      clear hF1 hxc
      obtain ⟨hc1, hf1⟩ := hx1.cells
      have hz1 := hx1.size
      try simp at hz1
      have hs1_0 := sz3 (a := w.heap.size) (b := w1.heap.size) (by omega)
      clear hw2 hw1 hwE
      have k5 : (0 : Int) ≤ (E : Int) := by omega
      have k6 : (E : Int) ≤ n := by omega
      have k7 : (n : Int) ≤ c1 := by omega
      have hA1 : Hid (w1.heap[w.heap.size]? = some (.cells #[.int .i64 q, .slice (some ⟨b, off, none⟩) n c1] 31 (0, 0))) := (hx1.heap (by simp; omega)).trans (heap_alloc_lt (heap_alloc_lt (heap_alloc_new _ _)))
      have hB1 : Hid (w1.heap[w.heap.size + 1]? = some (.cells #[.int .i64 T, .slice a2 m c2, .slice a3 l c3] 45 (0, 0))) := (hx1.heap (by simp)).trans (heap_alloc_lt (heap_alloc_at _ _ _ (by simp)))
      have hR1 : Hid (w1.heap[w.heap.size + 1 + 1]? = some (.cells #[.int .i64 0, .slice none 0 0] 31 (0, 0))) := (hx1.heap (by simp)).trans (heap_alloc_at _ _ _ (by simp))
      have hE1 : Ext w w1 := (by repeat (first | (with_reducible refine Ext.setCell ?_ (by first | (simp; done) | (simp; omega)) _) | with_reducible refine Ext.alloc ?_ _ | with_reducible refine Ext.drew ?_ | with_reducible refine Ext.drewN ?_ _ | with_reducible assumption | with_reducible exact Ext.refl _ | with_reducible refine Ext.trans ?_ (by with_reducible assumption)))
      clear hx1 hc1 hf1 HV HR HEQ
      have lA := (Array.getElem?_eq_some_iff.1 hA1.out).1
      have lB := (Array.getElem?_eq_some_iff.1 hB1.out).1
      have lR := (Array.getElem?_eq_some_iff.1 hR1.out).1
      have zR1 : ∀ k, w1.cell? ⟨w.heap.size + 1 + 1, k, none⟩ = (#[.int .i64 0, .slice none 0 0] : Array Value)[k]? := fun k => cell_of_row _ _ _ _ _ _ hR1.out
      have fR1 : ∀ k, w1.frozen? ⟨w.heap.size + 1 + 1, k, none⟩ = false := fun k => frozen_of_row _ _ _ _ _ hR1.out
      have zA1 := fun k => cell_of_row _ _ k _ _ _ hA1.out
      have zB1 := fun k => cell_of_row _ _ k _ _ _ hB1.out
      have HK : Hid (∀ W, GX [w.heap.size + 1 + 1] w1 W → W.cell? ⟨w.heap.size, 0, none⟩ = some (.int .i64 q) ∧ W.cell? ⟨w.heap.size, 1, none⟩ = some (.slice (some ⟨b, off, none⟩) n c1) ∧ W.cell? ⟨w.heap.size + 1, 0, none⟩ = some (.int .i64 T) ∧ W.cell? ⟨w.heap.size + 1, 2, none⟩ = some (.slice a3 l c3)) := fun W hx =>
        ⟨(hx.cell _ 0 lA (by simp; omega)).trans (zA1 0), (hx.cell _ 1 lA (by simp; omega)).trans (zA1 1), (hx.cell _ 0 lB (by simp)).trans (zB1 0), (hx.cell _ 2 lB (by simp)).trans (zB1 2)⟩
      go_upto_region 4 with fail
      go_region_held3 (fun W => W.cell? ⟨w.heap.size, 0, none⟩ = some (.int .i64 q) ∧ W.cell? ⟨w.heap.size, 1, none⟩ = some (.slice (some ⟨b, off, none⟩) n c1) ∧ W.cell? ⟨w.heap.size + 1, 0, none⟩ = some (.int .i64 T) ∧ W.cell? ⟨w.heap.size + 1, 2, none⟩ = some (.slice a3 l c3)) (exact HK.out _ (by repeat (first | (with_reducible refine GX.setCell ?_ (by first | (simp; done) | (simp; omega)) _) | with_reducible refine GX.alloc ?_ _ | with_reducible refine GX.drew ?_ | with_reducible refine GX.drewN ?_ _ | with_reducible assumption | with_reducible exact GX.refl _ _ | with_reducible refine GX.ext ?_ (by with_reducible assumption) | with_reducible refine GX.trans ?_ (by with_reducible assumption)))) (first
        | (go_at_call 91; refine (HCAT.out _ _ (by repeat (first | (with_reducible refine Ext.setCell ?_ (by first | (simp; done) | (simp; omega)) _) | with_reducible refine Ext.alloc ?_ _ | with_reducible refine Ext.drew ?_ | with_reducible refine Ext.drewN ?_ _ | with_reducible assumption | with_reducible exact Ext.refl _ | with_reducible refine Ext.trans ?_ (by with_reducible assumption))) (heap_drewx (heap_alloc_new _ _))).mono ?_; rintro e w2 ⟨v2, rfl, o2, hx2⟩; have O2 := Lib.hid o2; obtain ⟨_, aa2, cc2, rfl, _, _, _⟩ := o2; have hx12 : Ext w1 w2 := (by repeat (first | (with_reducible refine Ext.setCell ?_ (by first | (simp; done) | (simp; omega)) _) | with_reducible refine Ext.alloc ?_ _ | with_reducible refine Ext.drew ?_ | with_reducible refine Ext.drewN ?_ _ | with_reducible assumption | with_reducible exact Ext.refl _ | with_reducible refine Ext.trans ?_ (by with_reducible assumption))); clear hx2; obtain ⟨hc2, hf2⟩ := hx12.cells; have hz2 := hx12.size)
        | (go_at_call 80; refine (HCI _ _ O2.out).out.mono ?_; rintro e w3 ⟨v3, rfl, o3, hx3⟩; have O3 := Lib.hid o3; obtain ⟨aa3, cc3, rfl, _, _, _⟩ := own_shape o3; clear o3; obtain ⟨hc3, hf3⟩ := hx3.cells; have hz3 := hx3.size; (try have hb3 : w.heap.size + 1 + 1 < w2.heap.size := by omega); (try have hb4 : w.heap.size + 1 + 1 < w3.heap.size := by omega)))
      all_goals
        go_wp2
        all_goals
          refine bodyPost_ret (v := .tuple #[.agg #[.int .i64 q, .slice aa3 (n - m + l) cc3], .bool true]) (by simp [results, Try.results81, go_sem, *]) rfl ?_
          obtain ⟨e1, e2, e3⟩ := HN3.out
          rw [HGO.out, e1, e2, e3]
          have hs1 := hE1.size
          exact ⟨_, rfl, (by refine own_base (base := w2.heap.size) ?_ (by first | omega | (simp; omega)); repeat (first | (with_reducible exact O3.out) | (with_reducible refine own_set ?_ (by first | omega | (simp; done) | (simp; omega)) _) | (with_reducible refine own_ext ?_ ((Ext.refl _).alloc _)) | (with_reducible refine own_ext ?_ (Ext.refl _).drew) | (with_reducible refine own_ext ?_ ((Ext.refl _).drewN _)) | (exact O3.out))), (by repeat (first | (with_reducible refine Ext.setCell ?_ (by first | (simp; done) | (simp; omega)) _) | with_reducible refine Ext.alloc ?_ _ | with_reducible refine Ext.drew ?_ | with_reducible refine Ext.drewN ?_ _ | with_reducible assumption | with_reducible exact Ext.refl _ | with_reducible refine Ext.trans ?_ (by with_reducible assumption)))⟩

end Go.Proofs.Ytlbcjbeafampcaa
