/- The grid: the program's points, the walk. -/
import Derived.Test.YtojoljffaedpfaaGrdS
import Derived.Test.YtojoljffaedpfaaLt
import Derived.Test.YtojoljffaedpfaaMade
namespace Go.Proofs.Ytojoljffaedpfaa
open Go.RowKit Go.Lib
set_option linter.unusedVariables false
set_option linter.unusedSimpArgs false

/-- L holds just those of S that D has reached -/
def Inv (S D : Int × Int → Prop) (L : List (Int × Int)) (K : Int) : Prop := (∀ x, x ∈ L ↔ S x ∧ D x) ∧ L.Nodup ∧ (L.length : Int) ≤ K
def DO (q : Int) (x : Int × Int) : Prop := x.2 < q
def DI (q p : Int) (x : Int × Int) : Prop := x.2 < q ∨ (x.2 = q ∧ x.1 < p)
theorem Inv.mono {S D D' : Int × Int → Prop} {L : List (Int × Int)} {K K' : Int} (h : Inv S D L K) (hD : ∀ x, S x → (D x ↔ D' x)) (hK : K ≤ K') : Inv S D' L K' :=
  ⟨fun x => (h.1 x).trans ⟨fun k => ⟨k.1, (hD x k.1).1 k.2⟩, fun k => ⟨k.1, (hD x k.1).2 k.2⟩⟩, h.2.1, Int.le_trans h.2.2 hK⟩
theorem inv_start {S : Int × Int → Prop} {f : Int} (h : ∀ x, S x → f ≤ x.2) : Inv S (DO f) [] 0 :=
  ⟨fun x => by simp only [List.not_mem_nil, false_iff, DO]; rintro ⟨h1, h2⟩; have := h x h1; omega, List.nodup_nil, by simp⟩
theorem inv_in {S : Int × Int → Prop} {q a K : Int} {L : List (Int × Int)} (h : Inv S (DO q) L K) (ha : ∀ x, x.2 = q → S x → a ≤ x.1) : Inv S (DI q a) L K :=
  h.mono (fun x hx => by unfold DO DI; constructor <;> intro k; exact .inl k; rcases k with k | ⟨k1, k2⟩; exact k; have := ha x k1 hx; omega) (Int.le_refl _)
theorem inv_out {S : Int × Int → Prop} {q b p K K' : Int} {L : List (Int × Int)} (h : Inv S (DI q p) L K) (hb : ∀ x, x.2 = q → S x → x.1 ≤ b) (hp : b < p) (hK : K ≤ K') : Inv S (DO (q + 1)) L K' :=
  h.mono (fun x hx => by
    unfold DO DI
    constructor
    · rintro (k | ⟨k1, k2⟩) <;> omega
    · intro k
      rcases Int.lt_or_le x.2 q with k1 | k1
      · exact .inl k1
      · have e : x.2 = q := by omega
        have := hb x e hx
        exact .inr ⟨e, by omega⟩) hK
theorem inv_no {S : Int × Int → Prop} {q p K : Int} {L : List (Int × Int)} (h : Inv S (DI q p) L K) (hn : ¬ S (p, q)) : Inv S (DI q (p + 1)) L (K + 1) :=
  h.mono (fun x hx => by
    unfold DI
    constructor
    · rintro (k | ⟨k1, k2⟩)
      · exact .inl k
      · exact .inr ⟨k1, by omega⟩
    · rintro (k | ⟨k1, k2⟩)
      · exact .inl k
      · rcases Int.lt_or_le x.1 p with k3 | k3
        · exact .inr ⟨k1, k3⟩
        · have e : x = (p, q) := Prod.ext (by simp; omega) k1
          exact absurd (e ▸ hx) hn) (by omega)
theorem inv_yes {S : Int × Int → Prop} {q p K : Int} {L : List (Int × Int)} (h : Inv S (DI q p) L K) (hy : S (p, q)) : Inv S (DI q (p + 1)) (L ++ [(p, q)]) (K + 1) := by
  have hn : (p, q) ∉ L := fun hm => by
    have := ((h.1 _).1 hm).2
    unfold DI at this
    simp only at this
    omega
  refine ⟨fun x => ?_, ?_, ?_⟩
  · rw [List.mem_append, h.1 x, List.mem_singleton]
    unfold DI
    constructor
    · rintro (⟨k1, k2 | ⟨k2, k3⟩⟩ | rfl)
      · exact ⟨k1, .inl k2⟩
      · exact ⟨k1, .inr ⟨k2, by omega⟩⟩
      · exact ⟨hy, .inr ⟨rfl, by simp; omega⟩⟩
    · rintro ⟨k1, k2 | ⟨k2, k3⟩⟩
      · exact .inl ⟨k1, .inl k2⟩
      · rcases Int.lt_or_le x.1 p with k4 | k4
        · exact .inl ⟨k1, .inr ⟨k2, k4⟩⟩
        · exact .inr (Prod.ext (by simp; omega) k2)
  · rw [List.nodup_append]
    refine ⟨h.2.1, by simp, fun a ha b hb => ?_⟩
    rw [List.mem_singleton] at hb
    subst hb
    rintro rfl
    exact hn ha
  · rw [List.length_append]
    have := h.2.2
    simp only [List.length_cons, List.length_nil]
    omega

/-- a row of the call's own, not nil -/
def OwnN (w : World) (base : Nat) (v : Value) (L : List (Int × Int)) : Prop := v ≠ .slice none 0 0 ∧ w.ownsRow base 34 2 v L.length (IL (fl2 L))
/-- L holds just the points, each once -/
def Pts (st lo hi den lo' hi' den' : Int) (L : List (Int × Int)) : Prop := L.Nodup ∧ (∀ x, x ∈ L ↔ Sol st lo hi den lo' hi' den' x) ∧ L.length ≤ 30000
theorem own_zero {w : World} {base g : Nat} {e : TypeId} {k : Nat} (hb : base ≤ g) (h : w.heap[g]? = some (.cells #[] e (0, 0))) : w.ownsRow base e k (.slice (some ⟨g, 0, none⟩) 0 0) 0 (IL []) :=
  ⟨by simp [IL], .inr ⟨g, 0, #[], rfl, hb, h, Nat.le_refl _, by decide, by simp, by simp [IL]⟩⟩
set_option maxRecDepth 20000 in
set_option maxHeartbeats 4000000 in
theorem points_any {st lo hi den lo' hi' den' : Int} (h : Rgs st lo hi den lo' hi' den') (w : World) :
    Calls Try.prog 37 #[.agg #[.int .i64 lo, .int .i64 hi, .int .i64 den], .agg #[.int .i64 lo', .int .i64 hi', .int .i64 den'], .int .i64 st] w fun e w' => ∃ v L, e = .returned v ∧
      OwnN w' w.heap.size v L ∧ Pts st lo hi den lo' hi' den' L ∧ Ext w w' := by
  obtain ⟨al, ah, bl, bh, t, n1, dr, z1, n2, z2, f, l, hS⟩ := sup_of h
  have HS := Lib.hid hS
  have HR := Lib.hid h
  obtain ⟨e1, e2, e3, e4, e5, e6, e7, e8, e9, e10, sp, f1, l1, fl, hq, hp⟩ := hS
  have HQ := Lib.hid hq
  have HP := Lib.hid hp
  have HSP := fun w => Lib.hid (sp w)
  have q1 := fun w => run_float_arith (P := Try.prog) w .quo 91 .f64 _ _ _ e1
  have q2 := fun w => run_float_arith (P := Try.prog) w .quo 91 .f64 _ _ _ e2
  have q3 := fun w => run_float_arith (P := Try.prog) w .quo 91 .f64 _ _ _ e3
  have q4 := fun w => run_float_arith (P := Try.prog) w .quo 91 .f64 _ _ _ e4
  have q5 := fun w => run_float_arith (P := Try.prog) w .quo 91 .f64 _ _ _ e5
  have q6 := fun w => run_float_arith (P := Try.prog) w .sub 91 .f64 _ _ _ e6
  have q7 := fun w => run_float_arith (P := Try.prog) w .mul 91 .f64 _ _ _ e7
  have q8 := fun w => run_float_arith (P := Try.prog) w .quo 91 .f64 _ _ _ e8
  have q9 := fun w => run_float_arith (P := Try.prog) w .sub 91 .f64 _ _ _ e9
  have q10 := fun w => run_float_arith (P := Try.prog) w .quo 91 .f64 _ _ _ e10
  unfold cst at q5
  unfold two at q7
  clear e1 e2 e3 e4 e5 e6 e7 e8 e9 e10 sp hq hp h
  go_enter Try.func37, Try.ntmps37
  go_wp2
  refine wp_region_madeC (m := 119) (by kernel_rfl) (by kernel_rfl) rfl (fun hxc => ?_)
  repeat (refine mw_quiet ?_; apply Exists.intro; refine ⟨fun σ => ?_, ?_⟩; (first | (go_simp; rfl) | fail); simp only [Act.put, List.setIfInBounds_toArray, List.set_cons_succ, List.set_cons_zero, List.nil_append, List.cons_append])
  refine ⟨by kernel_rfl, fun σ w1 hF1 => ?_⟩
  have hx1 := hF1.ext
  clear hF1 hxc
  obtain ⟨hc1, hf1⟩ := hx1.cells
  have hz1 := hx1.size
  try simp at hz1
  have hs1_0 := sz2 (a := w.heap.size) (b := w1.heap.size) (by omega)
  go_wp2
  refine wp_region_madeC (m := 119) (by kernel_rfl) (by kernel_rfl) rfl (fun hxc => ?_)
  repeat (refine mw_quiet ?_; apply Exists.intro; refine ⟨fun σ => ?_, ?_⟩; (first | (go_simp; rfl) | fail); simp only [Act.put, List.setIfInBounds_toArray, List.set_cons_succ, List.set_cons_zero, List.nil_append, List.cons_append])
  refine ⟨by kernel_rfl, fun σ w2 hF2 => ?_⟩
  have hx2 := hF2.ext
  clear hF2 hxc
  obtain ⟨hc2, hf2⟩ := hx2.cells
  have hz2 := hx2.size
  try simp at hz2
  have hs2_0 := sz2 (a := w.heap.size) (b := w2.heap.size) (by omega)
  obtain ⟨W0, hW0⟩ : ∃ W0, W0 = (w.alloc (.cells #[.int .i64 lo, .int .i64 hi, .int .i64 den] 27 (0, 0))).alloc (.cells #[.int .i64 lo', .int .i64 hi', .int .i64 den'] 27 (0, 0)) := ⟨_, rfl⟩
  have hE0 : Ext w W0 := by rw [hW0]; exact ((Ext.refl w).alloc _).alloc _
  have hs0 : W0.heap.size = w.heap.size + 1 + 1 := by rw [hW0]; simp
  have hA2 : Hid (W0.heap[w.heap.size]? = some (.cells #[.int .i64 lo, .int .i64 hi, .int .i64 den] 27 (0, 0))) := by unfold Hid; rw [hW0]; exact heap_alloc_lt (heap_alloc_new _ _)
  have hB2 : Hid (W0.heap[w.heap.size + 1]? = some (.cells #[.int .i64 lo', .int .i64 hi', .int .i64 den'] 27 (0, 0))) := by unfold Hid; rw [hW0]; exact heap_alloc_at _ _ _ (by simp)
  have hO2 : Hid (w2.ownsRow (w.heap.size + 1 + 1) 34 2 (.slice (some ⟨w.heap.size + 1 + 1, 0, none⟩) 0 0) 0 (IL (fl2 []))) := own_zero (Nat.le_refl _) ((hx2.heap (by omega)).trans ((hx1.heap (by simp)).trans (heap_alloc_at _ _ _ (by simp))))
  have hE2 : Ext W0 w2 := by rw [hW0]; exact (((Ext.refl _).alloc _).trans hx1).trans hx2
  clear hW0 hx1 hx2 q1 q2 q3 q4 hc1 hf1 hc2 hf2 hs1_0 hs2_0 hz1 hz2
  go_wp2_with fail
  refine (HSP _).out.mono ?_
  rintro e w' ⟨rfl, rfl⟩
  clear q5 q6 q7 q8 q9 q10 HSP
  go_wp2
  go_loopw [7, 15, 16, 17, 18, 19] (fun s7 i _ _ _ _ wr => ∃ (q : Int) (v : Value) (L : List (Int × Int)), f ≤ q ∧ (q = f ∨ q ≤ l + 1) ∧ i = .int .i64 q ∧ s7 = v ∧ Hid (v ≠ .slice none 0 0) ∧ Hid (wr.ownsRow (w.heap.size + 1 + 1) 34 2 v L.length (IL (fl2 L))) ∧ Hid (Inv (Sol st lo hi den lo' hi' den') (DO q) L ((q - f) * 110)) ∧ Ext W0 wr) (fun _ i _ _ _ _ _ => (l + 1 - intOf i).toNat)
  case atStart => exact ⟨f, _, [], by omega, by omega, rfl, rfl, (by intro hh; cases hh), hO2, by unfold Hid; rw [Int.sub_self, Int.zero_mul]; exact inv_start (fun x hx => (HQ.out x hx).1), hE2⟩
  case round =>
    clear hO2
    obtain ⟨q, v, L, hfq, hql, rfl, rfl, HNV, HW, HI, hE⟩ := hrel
    obtain ⟨av, cv, rfl, hc1', hc2', _⟩ := own_shape HW.out
    have hA := Lib.hid ((hE.heap (by omega)).trans hA2.out)
    have hB := Lib.hid ((hE.heap (by omega)).trans hB2.out)
    have HE := Lib.hid (hE0.trans hE)
    have HEr := Lib.hid hE
    by_cases hlt : q ≤ l
    case neg =>
      have HF : Hid (Inv (Sol st lo hi den lo' hi' den') (DO q) L ((q - f) * 110)) := HI
      go_wp2
      go_ret
      refine ⟨_, rfl, L, ⟨HNV.out, own_base HW.out (by omega)⟩, ⟨HI.out.2.1, fun x => (HI.out.1 x).trans ⟨fun k => k.1, fun k => ⟨k, ?_⟩⟩, ?_⟩, HE.out⟩
      · have := (HQ.out x k).2
        unfold DO
        omega
      · have := HI.out.2.2
        have : q - f ≤ 101 ∨ q = f := by omega
        omega
    obtain ⟨pr, nl, nh, a, b, e11, e12, e13, sp, k1, k2, k3, k4, k5⟩ := HP.out q (by omega) (by omega)
    have r11 := fun w => run_float_arith (P := Try.prog) w .mul 91 .f64 _ _ _ e11
    have r12 := fun w => run_float_arith (P := Try.prog) w .sub 91 .f64 _ _ _ e12
    have r13 := fun w => run_float_arith (P := Try.prog) w .sub 91 .f64 _ _ _ e13
    have HSP := fun w => Lib.hid (sp w)
    have HK5 := Lib.hid k5
    clear e11 e12 e13 sp k5
    go_wp2_with fail
    refine (HSP _).out.mono ?_
    rintro e w' ⟨rfl, rfl⟩
    clear r11 r12 r13 HSP
    go_wp2
    go_loopw [7, 18, 19] (fun s7 i _ ws => ∃ (p : Int) (v : Value) (L : List (Int × Int)), a ≤ p ∧ (p = a ∨ p ≤ b + 1) ∧ i = .int .i64 p ∧ s7 = v ∧ Hid (v ≠ .slice none 0 0) ∧ Hid (ws.ownsRow (w.heap.size + 1 + 1) 34 2 v L.length (IL (fl2 L))) ∧ Hid (Inv (Sol st lo hi den lo' hi' den') (DI q p) L ((q - f) * 110 + (p - a))) ∧ Ext W0 ws) (fun _ i _ _ => (b + 1 - intOf i).toNat)
    case atStart => exact ⟨a, _, L, by omega, by omega, rfl, rfl, HNV, HW, by unfold Hid; rw [Int.sub_self, Int.add_zero]; exact inv_in HI.out (fun x hx hs => (HK5.out x hx hs).1), HEr.out⟩
    case round =>
      obtain ⟨p, v, L, hap, hpb, rfl, rfl, HNV, HW, HJ, hE3⟩ := hrel
      obtain ⟨av, cv, rfl, hc1', hc2', _⟩ := own_shape HW.out
      have hA3 := Lib.hid ((hE3.heap (by omega)).trans hA2.out)
      have hB3 := Lib.hid ((hE3.heap (by omega)).trans hB2.out)
      have lA3 := (Array.getElem?_eq_some_iff.1 hA3.out).1
      have lB3 := (Array.getElem?_eq_some_iff.1 hB3.out).1
      have HEr3 := Lib.hid hE3
      have hLn : L.length ≤ 30000 := by have := HJ.out.2.2; omega
      by_cases hpt : p ≤ b
      case neg =>
        go_wp2
        go_roundw
        case rel => exact ⟨q + 1, _, L, by omega, by omega, by go_num, rfl, HNV, HW, by unfold Hid; exact inv_out HJ.out (fun x hx hs => (HK5.out x hx hs).2) (by omega) (by omega), HEr3.out⟩
        case measure => simp [intOf]; omega
      have s1 := HR.out.s1
      have s2 := HR.out.s2
      have m1 : st * a ≤ st * p := mul_mono (by omega) hap
      have m2 : st * p ≤ st * b := mul_mono (by omega) hpt
      have hsp1 : -2004000 ≤ st * p := by omega
      have hsp2 : st * p ≤ 2004000 := by omega
      have hFa : Fine (st * p) q st lo hi den := rng_fine s1 s2 HR.out.a (by omega) (by omega)
      have hFb : Fine (st * p) (-q) st lo' hi' den' := rng_fine s1 s2 HR.out.b (by omega) (by omega)
      have HLA := fun w => Lib.hid (lies_any _ _ _ _ _ _ hFa w)
      have HLB := fun w => Lib.hid (lies_any _ _ _ _ _ _ hFb w)
      have HSol : Hid (Sol st lo hi den lo' hi' den' (p, q) ↔ Lies (st * p) q st lo hi den = true ∧ Lies (st * p) (-q) st lo' hi' den' = true) := ⟨fun k => k.2.2, fun k => ⟨⟨by show -4000000 ≤ st * p; omega, by show st * p ≤ 4000000; omega⟩, ⟨by show -1000000 ≤ q; omega, by show q ≤ 1000000; omega⟩, k⟩⟩
      have zA := fun k => cell_of_row _ _ k _ _ _ hA3.out
      have zB := fun k => cell_of_row _ _ k _ _ _ hB3.out
      clear hFa hFb m1 m2
      generalize Lies (st * p) q st lo hi den = u1 at *
      generalize Lies (st * p) (-q) st lo' hi' den' = u2 at *
      cases u1
      · have hno : Hid (¬ Sol st lo hi den lo' hi' den' (p, q)) := fun k => by have := (HSol.out.1 k).1; cases this
        go_wp2
        refine wp_region_madeC (m := 119) (by kernel_rfl) (by kernel_rfl) rfl (fun hxc => ?_)
        repeat (refine mw_quiet ?_; apply Exists.intro; refine ⟨fun σ => ?_, ?_⟩; (first | (go_simp; rfl) | (go_simp; intro x; first | (go_at_call 59; exact (HLA _).out))); simp only [Act.put, List.setIfInBounds_toArray, List.set_cons_succ, List.set_cons_zero, List.nil_append, List.cons_append])
        refine ⟨by kernel_rfl, fun σ w3 hF3 => ?_⟩
        have hx3 := hF3.ext
        clear hF3 hxc
        obtain ⟨hc3, hf3⟩ := hx3.cells
        have hz3 := hx3.size
        try simp at hz3
        have hs3_0 := sz1 (a := wr.heap.size) (b := w3.heap.size) (by omega)
        have hX3 := (hE3.alloc (.cells #[.int .i64 (st * p), .int .i64 q] 34 (0, 0))).trans hx3
        have hO3 := Lib.hid (own_ext (own_ext HW.out ((Ext.refl _).alloc (.cells #[.int .i64 (st * p), .int .i64 q] 34 (0, 0)))) hx3)
        go_wp2
        go_roundw
        case rel => exact ⟨p + 1, _, L, by omega, by omega, by go_num, rfl, HNV, hO3.out, by unfold Hid; rw [show (q - f) * 110 + (p + 1 - a) = (q - f) * 110 + (p - a) + 1 by omega]; exact inv_no HJ.out hno.out, hX3⟩
        case measure => simp [intOf]; omega
      · have HC := fun w => Lib.hid (conjugate_any (st * p) q (by omega) w)
        go_wp2
        refine wp_region_madeC (m := 119) (by kernel_rfl) (by kernel_rfl) rfl (fun hxc => ?_)
        repeat (refine mw_quiet ?_; apply Exists.intro; refine ⟨fun σ => ?_, ?_⟩; (first | (go_simp; rfl) | (go_simp; intro x; first | (go_at_call 59; with_reducible exact (HLA _).out) | (go_at_call 68; with_reducible exact (HC _).out) | (go_at_call 59; with_reducible exact (HLB _).out) | (go_at_call 59; exact (HLA _).out) | (go_at_call 68; exact (HC _).out) | (go_at_call 59; exact (HLB _).out))); simp only [Act.put, List.setIfInBounds_toArray, List.set_cons_succ, List.set_cons_zero, List.nil_append, List.cons_append])
        refine ⟨by kernel_rfl, fun σ w3 hF3 => ?_⟩
        have hx3 := hF3.ext
        clear hF3 hxc
        obtain ⟨hc3, hf3⟩ := hx3.cells
        have hz3 := hx3.size
        try simp at hz3
        have hs3_0 := sz1 (a := wr.heap.size) (b := w3.heap.size) (by omega)
        have hX3 := (hE3.alloc (.cells #[.int .i64 (st * p), .int .i64 q] 34 (0, 0))).trans hx3
        have hO3 := Lib.hid (own_ext (own_ext HW.out ((Ext.refl _).alloc (.cells #[.int .i64 (st * p), .int .i64 q] 34 (0, 0)))) hx3)
        cases u2
        · have hno : Hid (¬ Sol st lo hi den lo' hi' den' (p, q)) := fun k => by have := (HSol.out.1 k).2; cases this
          go_wp2
          go_roundw
          case rel => exact ⟨p + 1, _, L, by omega, by omega, by go_num, rfl, HNV, hO3.out, by unfold Hid; rw [show (q - f) * 110 + (p + 1 - a) = (q - f) * 110 + (p - a) + 1 by omega]; exact inv_no HJ.out hno.out, hX3⟩
          case measure => simp [intOf]; omega
        · have hyes : Hid (Sol st lo hi den lo' hi' den' (p, q)) := HSol.out.2 (by simp)
          have hO4 := Lib.hid (own_ext hO3.out ((Ext.refl _).alloc (.cells #[.int .i64 p, .int .i64 q] 34 (0, 0))))
          have hM4 := Lib.hid (heap_alloc_new w3 (.cells #[.int .i64 p, .int .i64 q] 34 (0, 0)))
          have hs4 := hX3.size
          have hs5 := HEr.out.size
          go_wp2_with (at_builtin; go_loud (refine wpList_append_rv (base := w.heap.size + 1 + 1) rfl elt_r2 rfl _ L.length (fl2 L) rfl hO4.out _ 1 [p, q] rfl (rv_heap hM4.out rfl rfl (by omega) (by decide)) (by omega) (by simp; omega) ?_); intro v4 w4 hown4 hgrow4 hiff4)
          go_roundw
          case rel =>
            refine ⟨p + 1, v4, L ++ [(p, q)], by omega, by omega, by go_num, rfl, ?_, ?_, ?_, ?_⟩
            · intro hv; have := (hiff4.1 hv).2; omega
            · unfold Hid
              rw [List.length_append, fl2_append]
              exact hown4
            · unfold Hid
              rw [show (q - f) * 110 + (p + 1 - a) = (q - f) * 110 + (p - a) + 1 by omega]
              exact inv_yes HJ.out hyes.out
            · exact ext_grownB (hX3.alloc _) hgrow4 hO4.out (by omega)
          case measure => simp [intOf]; omega

end Go.Proofs.Ytojoljffaedpfaa
