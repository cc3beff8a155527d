/- Replacements of runs: the reference's side. -/
import Derived.Test.YtlbcjbeafampcaaRrL
import Derived.Test.YtlbcjbeafampcaaRunS
import Derived.Test.YtlbcjbeafampcaaExA
import Derived.Test.YtlbcjbeafampcaaWra
import Derived.Deep.Cut
namespace Go.Proofs.Ytlbcjbeafampcaa
open Go.RowKit Go.Lib
set_option linter.unusedVariables false
set_option linter.unusedSimpArgs false

theorem elt_gS : Elt Try.prog 29 73 3 24 := elt_of (z := .agg #[.int .i64 0, .int .i64 0, .int .i64 0]) Try.underlying29 (by kernel_rfl) rfl (by decide) (by decide)
theorem row_farS {w W : World} {k : Nat} {o : Obj} (h : w.heap[k]? = some o) (hx : Ext w W) : W.heap[k]? = some o := (hx.heap (Array.getElem?_eq_some_iff.1 h).1).trans h
theorem own_gxn {S : List Nat} {w w' : World} {base : Nat} {e : TypeId} {size : Nat} {v : Value} {n : Nat} {xs : List Value} (h : w.ownsRow base e size v n xs) (hg : GX S w w') (hS : ∀ k, v.ownBlock = some k → k ∉ S) : w'.ownsRow base e size v n xs := by
  refine ⟨h.1, ?_⟩
  rcases h.2 with hn | ⟨g, cap, cur, hv, hb, hh, r⟩
  · exact .inl hn
  · have hl := (Array.getElem?_eq_some_iff.1 hh).1
    exact .inr ⟨g, cap, cur, hv, hb, (hg.heap hl (hS g (by rw [hv]; rfl))).trans hh, r⟩
theorem own_farS {w w' : World} {base : Nat} {e : TypeId} {size : Nat} {v : Value} {n : Nat} {xs : List Value} {row : Option Nat} (h : w.ownsRow base e size v n xs) (hg : w.grownBy w' row) (hne : ∀ j, row = some j → ∀ k, v.ownBlock = some k → j ≠ k) : w'.ownsRow base e size v n xs := by
  refine h.kept hg ?_
  cases hv : v.ownBlock with
  | none => exact .inl rfl
  | some k => exact .inr fun he => hne k he.symm k hv rfl
theorem cOut_gin (qs : List Int) (m : Nat) (k a b : Int) : decide (0 < cOut qs m (qL k a b) (qL k a b).length) = !(k == 12 || insQ qs m k a b) := by
  unfold insQ cOut
  by_cases h1 : k = 12
  · rw [qL_w h1, if_pos h1]; subst h1; rfl
  · have h1' : (k == 12) = false := by simpa using h1
    rw [if_neg h1, h1']
    cases h2 : Wn k 9 11
    · rw [qL_one h1 h2]
      simp only [List.length_cons, List.length_nil, cntTo, at3]
      cases h3 : hasTo qs a m <;> simp [h3]
    · rw [qL_two h2]
      simp only [List.length_cons, List.length_nil, cntTo, at3]
      cases h3 : hasTo qs a m <;> cases h4 : hasTo qs b m <;> simp [h3, h4]

set_option maxRecDepth 20000 in
set_option maxHeartbeats 8000000 in
theorem l29Replace_any (q at' : Int) {v1 vr v2 v3 : Value} {n m l : Nat} {xs ys zs : List Int} (hn : n ≤ 2000000) (hm : m ≤ 2000000) (hl : l ≤ 2000000) (hra : raOk q xs n at' ys m = true) (w : World) (h1 : RV w 3 v1 n xs) (hr : RV w 1 vr (raL q xs n at' ys m).length (raL q xs n at' ys m)) (h2 : RV w 1 v2 m ys) (h3 : RV w 3 v3 l zs) :
    Calls Try.prog 45 #[.agg #[.int .i64 q, v1], vr, v2, v3] w fun e w' => ∃ u0 u1, e = .returned (.tuple #[.agg #[.int .i64 (rrT q xs n at' ys m zs l), u0, u1], .bool (rrOk q xs n at' ys m zs l)]) ∧
      w'.ownsRow w.heap.size 73 3 u0 (rrOn q xs n at' ys m zs l) (IL (rrO q xs n at' ys m zs l)) ∧ w'.ownsRow w.heap.size 73 3 u1 (rrWn q xs n at' ys m zs l) (IL (rrW q xs n at' ys m zs l)) ∧ (∀ k, u0.ownBlock = some k → u1.ownBlock = some k → False) ∧ Ext w w' := by
  have HIS := fun k a b w' (hx : Ext w w') => Lib.hid (l29In_any k a b hm w' (h2.ext hx))
  have HVV := Lib.hid (rr_vals q xs n at' ys m zs l)
  have HO : Hid (rrOk q xs n at' ys m zs l = (raOk q xs n at' ys m && (gIns q ys m zs l && (decide (rrK q xs n at' ys m ≤ 40) && decide (l + rrM q xs n at' ys m ≤ 40))))) := rfl
  have H3 := Lib.hid h3
  have HRUN0 := Lib.hid hr
  obtain ⟨hlx, a1, cap1, rfl, p1, p2, hhx⟩ := h1
  obtain ⟨_, a2, cap2, rfl, p3, p4, hhy⟩ := h2
  obtain ⟨hlz, a3, cap3, rfl, p5, p6, hhz⟩ := h3
  obtain ⟨hlr, ar, cr, rfl, r1, r2, hhr⟩ := hr
  have HX := Lib.hid hhx
  have HLX := Lib.hid hlx
  have HZ := Lib.hid hhz
  have HLZ := Lib.hid hlz
  clear hhx hhy hhz hlx hlz hlr
  have hf := ra_facts hra
  have HNX : Hid (rrX q xs n at' ys m = nwL xs (raL q xs n at' ys m) (raL q xs n at' ys m).length at'.toNat (rrK q xs n at' ys m)) := rfl
  have HNM : Hid (rrM q xs n at' ys m = nwN (raL q xs n at' ys m) (raL q xs n at' ys m).length at'.toNat (rrK q xs n at' ys m)) := rfl
  have hK : rrK q xs n at' ys m = (lastR (raL q xs n at' ys m)).toNat + 1 - at'.toNat := rfl
  rw [hra, Bool.true_and] at HO
  clear hra
  generalize at'.toNat = a at *
  generalize (lastR (raL q xs n at' ys m)).toNat = b at *
  generalize raL q xs n at' ys m = L at *
  generalize rrK q xs n at' ys m = K at *
  generalize rrX q xs n at' ys m = X at *
  generalize rrM q xs n at' ys m = M at *
  obtain ⟨ha, f1, f2, ⟨f3, f4⟩, f5, f6, f7, f8, f9, f10⟩ := hf
  subst ha
  have HVG := fun k a b w' => Lib.hid (l4Gate_any q k a b ⟨f3, f4⟩ w')
  generalize hc : L.length = c at *
  have HLL := Lib.hid hc
  have HFS := Lib.hid (And.intro f7 f8)
  clear hc f7 f8
  obtain ⟨c0, rfl⟩ : ∃ c0, c = c0 + 1 := ⟨c - 1, by omega⟩
  obtain ⟨gr, ofr, rfl, r5, r6⟩ := hhr f5
  have hzr : w.cell? ⟨gr, ofr + c0, none⟩ = some (.int .i64 b) := by
    have h8 := HFS.out.2
    rw [Nat.add_sub_cancel] at h8
    rw [← h8]
    exact r6 c0 _ (at3_get (by have := HLL.out; omega))
  have hzr0 : w.cell? ⟨gr, ofr, none⟩ = some (.int .i64 a) := by
    rw [← HFS.out.1]
    exact r6 0 _ (at3_get (by have := HLL.out; omega))
  have HZR := Lib.hid (And.intro hzr hzr0)
  clear r6 hzr hzr0
  obtain ⟨w1, hw1⟩ : ∃ w1, w1 = (w.alloc (.cells #[.int .i64 q, .slice a1 n cap1] 31 (0, 0))).alloc (.cells #[.int .i64 0, .slice none 0 0, .slice none 0 0] 45 (0, 0)) := ⟨_, rfl⟩
  have hA1 : Hid (w1.heap[w.heap.size]? = some (.cells #[.int .i64 q, .slice a1 n cap1] 31 (0, 0))) := by rw [hw1]; exact heap_alloc_lt (heap_alloc_new _ _)
  have hR1 : Hid (w1.heap[w.heap.size + 1]? = some (.cells #[.int .i64 0, .slice none 0 0, .slice none 0 0] 45 (0, 0))) := by rw [hw1]; exact heap_alloc_at _ _ _ (by simp)
  have HE1 : Hid (Ext w w1) := by rw [hw1]; exact ((Ext.refl w).alloc _).alloc _
  have hs1 : w.heap.size + 2 ≤ w1.heap.size := by rw [hw1]; simp
  go_enter Try.func45, Try.ntmps45
  go_upto_region 1 with fail
  rw [← hw1]
  clear hw1
  go_wp2
  go_loopw [11, 12, 13, 19] (fun _ _ _ i wr => ∃ j : Nat, j ≤ l ∧ i = .int .i64 j ∧ Hid (gIns q ys m zs j = true) ∧ Ext w1 wr) (fun _ _ _ i _ => l - (intOf i).toNat)
  case atStart => exact ⟨0, by omega, rfl, rfl, Ext.refl _⟩
  case round =>
    obtain ⟨j, hj, rfl, HG, hE⟩ := hrel
    have HE := Lib.hid (HE1.out.trans hE)
    have HEr := Lib.hid hE
    have hsr := hE.size
    have hA := row_farS hA1.out hE
    have hR := row_farS hR1.out hE
    have HAA := Lib.hid hA
    have HRR := Lib.hid hR
    clear hE
    have zA := fun k => cell_of_row _ _ k _ _ _ hA
    have lA := (Array.getElem?_eq_some_iff.1 hA).1
    have zR := fun k => cell_of_row _ _ k _ _ _ hR
    have fR := fun k => frozen_of_row _ _ k _ _ hR
    have lR := (Array.getElem?_eq_some_iff.1 hR).1
    clear hA hR
    by_cases hlt : j < l
    case neg =>
      obtain rfl : l = j := by omega
      obtain ⟨bx, offx, rfl, hbx, hcx⟩ := HX.out (by omega)
      obtain ⟨wA, rfl⟩ : ∃ wA : World, wA = wr := ⟨_, rfl⟩
      have HCX := Lib.hid hcx
      have zr := (HE.out.cells.1 gr (ofr + c0) r5).trans HZR.out.1
      have zr0 := (HE.out.cells.1 gr ofr r5).trans HZR.out.2
      have lr : gr < wA.heap.size := by have := HE.out.size; omega
      have hkj : ((c0 + 1 : Nat) : Int) - 1 = c0 := by omega
      have hkj2 : (c0 : Int) + 1 - 1 = c0 := by omega
      have hRW := (RV.ext (w' := wA) ⟨HLX.out, _, cap1, rfl, p1, p2, fun _ => ⟨bx, offx, rfl, hbx, hcx⟩⟩ HE.out).part a (b + 1 - a) (cap1 - a) (by omega) (by omega) (by omega)
      have hlo : ((xs.drop (a * 3)).take ((b + 1 - a) * 3)).length = (b + 1 - a) * 3 := hRW.1
      have HRW : Hid (∀ W, Ext wA W → RV W 3 (.slice (some ⟨bx, offx + a * 3, none⟩) K (cap1 - a)) K ((xs.drop (a * 3)).take (K * 3))) := by rw [hK]; exact fun W hW => hRW.ext hW
      have HRZ : Hid (∀ W, Ext wA W → RV W 3 (.slice a3 l cap3) l zs) := fun W hW => H3.out.ext (HE.out.trans hW)
      have HKK := Lib.hid hK
      rw [← hK] at hlo
      have HLO := Lib.hid hlo
      have pE : (cap1 = a) = False := eq_false (by omega)
      have q1 : (a : Int) ≤ b + 1 := by omega
      have q2 : (b : Int) + 1 ≤ cap1 := by omega
      have q3 : (a : Int) ≤ cap1 := by omega
      have q4 : ((b : Int) + 1).toNat = b + 1 := by omega
      have q5 : b + 1 - a = K := by omega
      have hK4 : K ≤ 400 := by omega
      clear hRW hcx hlo hK
      have lA2 := lA
      go_upto_region 11 with fail
      go_wp2
      refine Ex.wp_region_ex (m := 96) [.fn [] (fun _ => .slice (some ⟨gr, ofr, none⟩) (c0 + 1) cr), .fn [] (fun _ => .pointer (some ⟨gr, ofr, none⟩)), .fn [] (fun _ => .int .i64 a), .ex (Ex.PhN (wA) (fun n => .slice (some ⟨n, 0, none⟩) 0 0) 73 #[]) 1 [], .fn [] (fun _ => .pointer (some ⟨w.heap.size, 1, none⟩)), .fn [] (fun _ => .slice (some ⟨bx, offx, none⟩) n cap1), .fn [] (fun _ => .slice (some ⟨gr, ofr, none⟩) (c0 + 1) cr), .fn [] (fun _ => .pointer (some ⟨gr, ofr, none⟩)), .fn [] (fun _ => .int .i64 a), .fn [] (fun _ => .int .i64 b), .fn [] (fun _ => .int .i64 (b + 1)), .fn [] (fun _ => .slice (some ⟨bx, offx + a * 3, none⟩) K (cap1 - a)), .ex (Ex.PhS (wA) 73 3 (K) ((xs.drop (a * 3)).take (K * 3))) 1 [3], .ex (Ex.PhN (wA) (fun n => .slice (some ⟨n, 0, none⟩) 0 0) 73 #[]) 2 [], .fn [] (fun _ => .slice a3 l cap3), .ex (Ex.PhS (wA) 73 3 (l) (zs)) 2 [13], .fn [12, 15] (fun u => .agg #[.int .i64 a, u.getD 0 undef, u.getD 1 undef]), .ex (Ex.PhN (wA) (fun n => .pointer (some ⟨n, 0, none⟩)) 45 #[.int .i64 0, .slice none 0 0, .slice none 0 0]) 3 []] (by kernel_rfl) (by kernel_rfl) rfl (by kernel_rfl) (by kernel_rfl) (Ex.mono_fn (Ex.mono_fn (Ex.mono_fn (Ex.mono_ex (Ex.phN_mono _ _ _ _) (Ex.mono_fn (Ex.mono_fn (Ex.mono_fn (Ex.mono_fn (Ex.mono_fn (Ex.mono_fn (Ex.mono_fn (Ex.mono_fn (Ex.mono_ex (Ex.phS_mono _ _ _ _ _) (Ex.mono_ex (Ex.phN_mono _ _ _ _) (Ex.mono_fn (Ex.mono_ex (Ex.phS_mono _ _ _ _ _) (Ex.mono_fn (Ex.mono_ex (Ex.phN_mono _ _ _ _) Ex.mono_nil)))))))))))))))))) (fun sig3 => ?_)
      have hxc := fun (x : Xt (wA)) (b o : Nat) (h : b < (wA).heap.size) => x.ext.cells.1 b o h
      refine Ex.we_det ?_ ?_
      · first | (go_simp; done) | (go_simp; rfl) | (go_simp; (try intro x); (try go_bits); first | done | rfl | (simp; done) | (simp; omega))
      simp only [Act.put, List.setIfInBounds_toArray, List.set_cons_succ, List.set_cons_zero, List.nil_append, List.cons_append, Nat.zero_add, Nat.reduceAdd]
      refine Ex.we_det ?_ ?_
      · first | (go_simp; done) | (go_simp; rfl) | (go_simp; (try intro x); (try go_bits); first | done | rfl | (simp; done) | (simp; omega))
      simp only [Act.put, List.setIfInBounds_toArray, List.set_cons_succ, List.set_cons_zero, List.nil_append, List.cons_append, Nat.zero_add, Nat.reduceAdd]
      refine Ex.we_det ?_ ?_
      · first | (go_simp; done) | (go_simp; rfl) | (go_simp; (try intro x); (try go_bits); first | done | rfl | (simp; done) | (simp; omega))
      simp only [Act.put, List.setIfInBounds_toArray, List.set_cons_succ, List.set_cons_zero, List.nil_append, List.cons_append, Nat.zero_add, Nat.reduceAdd]
      refine Ex.we_new rfl (fun _ => rfl) (fun x => ?_) ?_
      · first | (go_simp; done) | (go_simp; rfl)
      simp only [Act.put, List.setIfInBounds_toArray, List.set_cons_succ, List.set_cons_zero, List.nil_append, List.cons_append, Nat.zero_add, Nat.reduceAdd]
      refine Ex.we_det ?_ ?_
      · first | (go_simp; done) | (go_simp; rfl) | (go_simp; (try intro x); (try go_bits); first | done | rfl | (simp; done) | (simp; omega))
      simp only [Act.put, List.setIfInBounds_toArray, List.set_cons_succ, List.set_cons_zero, List.nil_append, List.cons_append, Nat.zero_add, Nat.reduceAdd]
      refine Ex.we_det ?_ ?_
      · first | (go_simp; done) | (go_simp; rfl) | (go_simp; (try intro x); (try go_bits); first | done | rfl | (simp; done) | (simp; omega))
      simp only [Act.put, List.setIfInBounds_toArray, List.set_cons_succ, List.set_cons_zero, List.nil_append, List.cons_append, Nat.zero_add, Nat.reduceAdd]
      refine Ex.we_det ?_ ?_
      · first | (go_simp; done) | (go_simp; rfl) | (go_simp; (try intro x); (try go_bits); first | done | rfl | (simp; done) | (simp; omega))
      simp only [Act.put, List.setIfInBounds_toArray, List.set_cons_succ, List.set_cons_zero, List.nil_append, List.cons_append, Nat.zero_add, Nat.reduceAdd]
      refine Ex.we_det ?_ ?_
      · first | (go_simp; done) | (go_simp; rfl) | (go_simp; (try intro x); (try go_bits); first | done | rfl | (simp; done) | (simp; omega))
      simp only [Act.put, List.setIfInBounds_toArray, List.set_cons_succ, List.set_cons_zero, List.nil_append, List.cons_append, Nat.zero_add, Nat.reduceAdd]
      refine Ex.we_det ?_ ?_
      · first | (go_simp; done) | (go_simp; rfl) | (go_simp; (try intro x); (try go_bits); first | done | rfl | (simp; done) | (simp; omega))
      simp only [Act.put, List.setIfInBounds_toArray, List.set_cons_succ, List.set_cons_zero, List.nil_append, List.cons_append, Nat.zero_add, Nat.reduceAdd]
      refine Ex.we_det ?_ ?_
      · first | (go_simp; done) | (go_simp; rfl) | (go_simp; (try intro x); (try go_bits); first | done | rfl | (simp; done) | (simp; omega))
      simp only [Act.put, List.setIfInBounds_toArray, List.set_cons_succ, List.set_cons_zero, List.nil_append, List.cons_append, Nat.zero_add, Nat.reduceAdd]
      refine Ex.we_det ?_ ?_
      · first | (go_simp; done) | (go_simp; rfl) | (go_simp; (try intro x); (try go_bits); first | done | rfl | (simp; done) | (simp; omega))
      simp only [Act.put, List.setIfInBounds_toArray, List.set_cons_succ, List.set_cons_zero, List.nil_append, List.cons_append, Nat.zero_add, Nat.reduceAdd]
      refine Ex.we_det ?_ ?_
      · first | (go_simp; done) | (go_simp; rfl) | (go_simp; (try intro x); (try go_bits); first | done | rfl | (simp; done) | (simp; omega))
      simp only [Act.put, List.setIfInBounds_toArray, List.set_cons_succ, List.set_cons_zero, List.nil_append, List.cons_append, Nat.zero_add, Nat.reduceAdd]
      refine Ex.we_append (j := 3) elt_gS rfl rfl rfl (.slice (some ⟨bx, offx + a * 3, none⟩) K (cap1 - a)) (K) ((xs.drop (a * 3)).take (K * 3)) rfl (HRW.out) (by omega) rfl ?_
      simp only [Act.put, List.setIfInBounds_toArray, List.set_cons_succ, List.set_cons_zero, List.nil_append, List.cons_append, Nat.zero_add, Nat.reduceAdd]
      refine Ex.we_new rfl (fun _ => rfl) (fun x => ?_) ?_
      · first | (go_simp; done) | (go_simp; rfl)
      simp only [Act.put, List.setIfInBounds_toArray, List.set_cons_succ, List.set_cons_zero, List.nil_append, List.cons_append, Nat.zero_add, Nat.reduceAdd]
      refine Ex.we_det ?_ ?_
      · first | (go_simp; done) | (go_simp; rfl) | (go_simp; (try intro x); (try go_bits); first | done | rfl | (simp; done) | (simp; omega))
      simp only [Act.put, List.setIfInBounds_toArray, List.set_cons_succ, List.set_cons_zero, List.nil_append, List.cons_append, Nat.zero_add, Nat.reduceAdd]
      refine Ex.we_append (j := 13) elt_gS rfl rfl rfl (.slice a3 l cap3) (l) (zs) rfl (HRZ.out) (by omega) rfl ?_
      simp only [Act.put, List.setIfInBounds_toArray, List.set_cons_succ, List.set_cons_zero, List.nil_append, List.cons_append, Nat.zero_add, Nat.reduceAdd]
      refine Ex.we_fn rfl (fun W hxW hFW => ?_) ?_
      · (have h12 : Ex.PhS wA 73 3 K ((xs.drop (a * 3)).take (K * 3)) (sig3 12) W := hFW.phi 12 (by simp); have h15 : Ex.PhS wA 73 3 l zs (sig3 15) W := hFW.phi 15 (by simp); obtain ⟨s1, s2, s3, _⟩ := own_shape h12; obtain ⟨s4, s5, s6, _⟩ := own_shape h15; simp only [List.map_cons, List.map_nil, s3, s6]; go_simp)
      simp only [Act.put, List.setIfInBounds_toArray, List.set_cons_succ, List.set_cons_zero, List.nil_append, List.cons_append, Nat.zero_add, Nat.reduceAdd]
      refine Ex.we_new rfl (fun _ => rfl) (fun x => ?_) ?_
      · first | (go_simp; done) | (go_simp; rfl)
      simp only [Act.put, List.setIfInBounds_toArray, List.set_cons_succ, List.set_cons_zero, List.nil_append, List.cons_append, Nat.zero_add, Nat.reduceAdd]
      refine Ex.we_stop (fun w3 hx3 hF3 => ?_)
      clear hxc
      have h12 : Ex.PhS wA 73 3 K ((xs.drop (a * 3)).take (K * 3)) (sig3 12) w3 := hF3.phi 12 (by simp)
      have h15 : Ex.PhS wA 73 3 l zs (sig3 15) w3 := hF3.phi 15 (by simp)
      obtain ⟨B, hB1, hB2, hB3⟩ : Ex.PhN wA (fun n => .pointer (some ⟨n, 0, none⟩)) 45 #[.int .i64 0, .slice none 0 0, .slice none 0 0] (sig3 17) w3 := hF3.phi 17 (by simp)
      have d1 : ∀ b, Ex.blk (sig3 12) = some b → Ex.blk (sig3 15) = some b → False := hF3.dif 12 (by simp) 15 (by simp) (show (1 : Nat) ≠ 2 by decide) (show (1 : Nat) ≠ 0 by decide) (show (2 : Nat) ≠ 0 by decide)
      have d2 : ∀ b, Ex.blk (sig3 12) = some b → Ex.blk (sig3 17) = some b → False := hF3.dif 12 (by simp) 17 (by simp) (show (1 : Nat) ≠ 3 by decide) (show (1 : Nat) ≠ 0 by decide) (show (3 : Nat) ≠ 0 by decide)
      have d3 : ∀ b, Ex.blk (sig3 15) = some b → Ex.blk (sig3 17) = some b → False := hF3.dif 15 (by simp) 17 (by simp) (show (2 : Nat) ≠ 3 by decide) (show (2 : Nat) ≠ 0 by decide) (show (3 : Nat) ≠ 0 by decide)
      unfold Ex.PhS at h12 h15
      obtain ⟨aO, cO, e12, _, _, _⟩ := own_shape h12
      obtain ⟨aN0, cN0, e15, _, _, _⟩ := own_shape h15
      simp only [List.map_cons, List.map_nil, List.getD_cons_zero, List.getD_cons_succ, e12, e15, hB1]
      rw [e12] at h12 d1 d2
      rw [e15] at h15 d1 d3
      rw [hB1] at d2 d3
      have k1 : ∀ k, (Value.slice aO K cO).ownBlock = some k → ∀ l', (Value.slice aN0 l cN0).ownBlock = some l' → k ≠ l' := fun k hk l' hl' e => d1 k (own_blk h12 k hk) (own_blk h15 k (by rw [e]; exact hl'))
      have k2 : ∀ k, (Value.slice aO K cO).ownBlock = some k → k ≠ B := fun k hk e => d2 k (own_blk h12 k hk) (by rw [e]; rfl)
      have k3 : ∀ k, (Value.slice aN0 l cN0).ownBlock = some k → k ≠ B := fun k hk e => d3 k (own_blk h15 k hk) (by rw [e]; rfl)
      have HD1 := Lib.hid k1
      have HD2 := Lib.hid k2
      have HD3 := Lib.hid k3
      have HOO := Lib.hid h12
      have HON := Lib.hid h15
      have HX3 := Lib.hid hx3
      have HB3 := Lib.hid hB3
      have zB := fun k => cell_of_row _ _ k _ _ _ hB3
      have fB := fun k => frozen_of_row _ _ k _ _ hB3
      have lB := (Array.getElem?_eq_some_iff.1 hB3).1
      clear k1 k2 k3 h12 h15 hx3 hB3 hF3 d1 d2 d3 e12 e15 hB1
      obtain ⟨w4, hw4⟩ : ∃ w4, w4 = ((w3.setCell ⟨B, 0, none⟩ (.int .i64 a)).setCell ⟨B, 1, none⟩ (.slice aO K cO)).setCell ⟨B, 2, none⟩ (.slice aN0 l cN0) := ⟨_, rfl⟩
      have hg4 : GX [B] w3 w4 := by rw [hw4]; exact (((GX.refl [B] w3).setCell (.inl (by simp)) _).setCell (.inl (by simp)) _).setCell (.inl (by simp)) _
      have HB4 : Hid (w4.heap[B]? = some (.cells #[.int .i64 a, .slice aO K cO, .slice aN0 l cN0] 45 (0, 0))) := by
        rw [hw4]
        exact heap_set_at (heap_set_at (heap_set_at HB3.out 0 _) 1 _) 2 _
      have HO4 := Lib.hid (own_gxn HOO.out hg4 (fun k hk => by have := HD2.out k hk; simpa using this))
      have HN4 := Lib.hid (own_gxn HON.out hg4 (fun k hk => by have := HD3.out k hk; simpa using this))
      have HX4 : Hid (Ext wA w4) := by rw [hw4]; exact ((HX3.out.setCell (by simpa using hB2) _).setCell (by simpa using hB2) _).setCell (by simpa using hB2) _
      clear HOO HON HB3 hg4 q1 q2 q3 q4 q5 pE zr0
      go_upto_region 12 with fail
      rw [← hw4]
      clear hw4 zB fB lB HX3 HVG HIS HZ HLZ lA2 zA lA zR fR lR zr lr
      have zr0 := ((HE.out.trans HX4.out).cells.1 gr ofr r5).trans HZR.out.2
      have lr : gr < w4.heap.size := by have := (HE.out.trans HX4.out).size; omega
      have hA2 : Hid (w4.heap[w.heap.size]? = some (.cells #[.int .i64 q, .slice (some ⟨bx, offx, none⟩) n cap1] 31 (0, 0))) := row_farS HAA.out HX4.out
      have hR2 : Hid (w4.heap[w.heap.size + 1]? = some (.cells #[.int .i64 0, .slice none 0 0, .slice none 0 0] 45 (0, 0))) := row_farS HRR.out HX4.out
      have HRUN : Hid (∀ W, Ext wA W → RV W 1 (.slice (some ⟨gr, ofr, none⟩) (c0 + 1) cr) (c0 + 1) L) := fun W hW => HRUN0.out.ext (HE.out.trans hW)
      go_wp2
      clear zr0 lr
      go_loopw [16] (fun i wr => ∃ (j : Nat) (v : Value), j ≤ K ∧ i = .int .i64 ((a : Int) + (j : Int)) ∧ Hid (wr.heap[B]? = some (.cells #[.int .i64 a, .slice aO K cO, v] 45 (0, 0))) ∧ Hid (wr.ownsRow wA.heap.size 73 3 v (l + nwN L (c0 + 1) a j) (IL (zs ++ nwL xs L (c0 + 1) a j))) ∧ Hid (∀ k, v.ownBlock = some k → k ≠ B) ∧ Hid (wr.ownsRow wA.heap.size 73 3 (.slice aO K cO) K (IL ((xs.drop (a * 3)).take (K * 3)))) ∧ Hid (∀ k, (Value.slice aO K cO).ownBlock = some k → ∀ l', v.ownBlock = some l' → k ≠ l') ∧ Ext wA wr) (fun i _ => (a + K - intOf i).toNat)
      case atStart => exact ⟨0, _, by omega, by simp, HB4.out, (by unfold Hid; simp only [nwL, nwN, List.append_nil, Nat.add_zero]; exact HN4.out), HD3.out, HO4.out, HD1.out, HX4.out⟩
      case round =>
        obtain ⟨j, v, hjK, rfl, HB, HW, HNB, HO5, HDD, hE⟩ := hrel
        obtain ⟨I, hI0⟩ : ∃ I : Nat, I = a + j := ⟨_, rfl⟩
        have hI : (a : Int) + (j : Int) = (I : Int) := by omega
        have HI0 := Lib.hid hI0
        clear hI0
        have hsr2 := hE.size
        have HEr2 := Lib.hid hE
        have HEw := Lib.hid (HE.out.trans hE)
        have hA := row_farS HAA.out hE
        have hR := row_farS HRR.out hE
        have hBB := HB.out
        clear hE
        have zA := fun k => cell_of_row _ _ k _ _ _ hA
        have lA := (Array.getElem?_eq_some_iff.1 hA).1
        have zR := fun k => cell_of_row _ _ k _ _ _ hR
        have fR := fun k => frozen_of_row _ _ k _ _ hR
        have lR := (Array.getElem?_eq_some_iff.1 hR).1
        have zB := fun k => cell_of_row _ _ k _ _ _ hBB
        have fB := fun k => frozen_of_row _ _ k _ _ hBB
        have lB := (Array.getElem?_eq_some_iff.1 hBB).1
        clear hA hR hBB
        by_cases hltK : j < K
        case neg =>
          obtain rfl : K = j := by omega
          have hnb : ¬ ((I : Int) ≤ b) := by have := HKK.out; have := HI0.out; omega
          have hMM : M = nwN L (c0 + 1) a K := HNM.out
          rw [← hMM] at HW
          obtain ⟨aN, cN, rfl, cN1, cN2, _⟩ := own_shape HW.out
          by_cases hk1 : K ≤ 40
          case neg =>
            have hk1' : (40 : Int) < K := by omega
            have HN : Hid (rrOk q xs n (a : Int) ys m zs l = false) := HO.out.trans (by rw [decide_eq_false hk1]; simp)
            obtain ⟨e1, e2, e3, e4, e5⟩ := HVV.out.no HN.out
            have HE12 := Lib.hid (And.intro e1 (And.intro e2 (And.intro e3 (And.intro e4 e5))))
            have HEE := Lib.hid (show Ext w wr from HEw.out)
            clear e1 e2 e3 e4 e5
            go_wp2
            refine bodyPost_ret (v := .tuple #[.agg #[.int .i64 0, .slice none 0 0, .slice none 0 0], .bool false]) (by simp [results, Try.results45, go_sem, *]) rfl ?_
            obtain ⟨e1, e2, e3, e4, e5⟩ := HE12.out
            rw [HN.out, e1, e2, e3, e4, e5]
            have hee := HEE.out
            exact ⟨_, _, rfl, own_nil _ _ _ _, own_nil _ _ _ _, (fun k hk => by simp [Value.ownBlock] at hk), (by repeat (first | (with_reducible refine Ext.setCell ?_ (by first | (simp; done) | (simp; omega)) _) | with_reducible refine Ext.alloc ?_ _ | with_reducible refine Ext.drew ?_ | with_reducible refine Ext.drewN ?_ _ | with_reducible assumption | with_reducible exact Ext.refl _ | with_reducible refine Ext.trans ?_ (by with_reducible assumption)))⟩
          have hk1' : ¬ ((40 : Int) < K) := by omega
          by_cases hk2 : l + M ≤ 40
          case neg =>
            have hk2' : (40 : Int) < ((l + M : Nat) : Int) := by omega
            have HN : Hid (rrOk q xs n (a : Int) ys m zs l = false) := HO.out.trans (by rw [decide_eq_false hk2]; simp)
            obtain ⟨e1, e2, e3, e4, e5⟩ := HVV.out.no HN.out
            have HE12 := Lib.hid (And.intro e1 (And.intro e2 (And.intro e3 (And.intro e4 e5))))
            have HEE := Lib.hid (show Ext w wr from HEw.out)
            clear e1 e2 e3 e4 e5
            go_wp2
            refine bodyPost_ret (v := .tuple #[.agg #[.int .i64 0, .slice none 0 0, .slice none 0 0], .bool false]) (by simp [results, Try.results45, go_sem, *]) rfl ?_
            obtain ⟨e1, e2, e3, e4, e5⟩ := HE12.out
            rw [HN.out, e1, e2, e3, e4, e5]
            have hee := HEE.out
            exact ⟨_, _, rfl, own_nil _ _ _ _, own_nil _ _ _ _, (fun k hk => by simp [Value.ownBlock] at hk), (by repeat (first | (with_reducible refine Ext.setCell ?_ (by first | (simp; done) | (simp; omega)) _) | with_reducible refine Ext.alloc ?_ _ | with_reducible refine Ext.drew ?_ | with_reducible refine Ext.drewN ?_ _ | with_reducible assumption | with_reducible exact Ext.refl _ | with_reducible refine Ext.trans ?_ (by with_reducible assumption)))⟩
          have hk2' : ¬ ((40 : Int) < ((l + M : Nat) : Int)) := by omega
          have HY : Hid (rrOk q xs n (a : Int) ys m zs l = true) := HO.out.trans (by rw [HG.out, decide_eq_true hk1, decide_eq_true hk2]; rfl)
          obtain ⟨e1, e2, e3, e4, e5⟩ := HVV.out.yes HY.out
          have HE12 := Lib.hid (And.intro e1 (And.intro e2 (And.intro e3 (And.intro e4 e5))))
          clear e1 e2 e3 e4 e5
          go_wp2
          refine bodyPost_ret (v := .tuple #[.agg #[.int .i64 a, .slice aO K cO, .slice aN (l + M) cN], .bool true]) (by simp [results, Try.results45, go_sem, *]) rfl ?_
          obtain ⟨e1, e2, e3, e4, e5⟩ := HE12.out
          rw [HY.out, e1, e2, e3, e4, e5, HNX.out]
          have hee := HEw.out
          have o0 := HO5.out
          have o1 := HW.out
          refine ⟨_, _, rfl, ?_, ?_, ?_, (by repeat (first | (with_reducible refine Ext.setCell ?_ (by first | (simp; done) | (simp; omega)) _) | with_reducible refine Ext.alloc ?_ _ | with_reducible refine Ext.drew ?_ | with_reducible refine Ext.drewN ?_ _ | with_reducible assumption | with_reducible exact Ext.refl _ | with_reducible refine Ext.trans ?_ (by with_reducible assumption)))⟩
          · refine own_base (base := wA.heap.size) ?_ (by omega)
            exact own_set (own_set (own_set o0 (by simp; omega) _) (by simp; omega) _) (by simp; omega) _
          · refine own_base (base := wA.heap.size) ?_ (by omega)
            exact own_set (own_set (own_set o1 (by simp; omega) _) (by simp; omega) _) (by simp; omega) _
          · exact fun k h1 h2 => HDD.out k h1 k h2 rfl
        have hlb : (I : Int) ≤ b := by have := HKK.out; have := HI0.out; omega
        have HRW := HRUN.out wr HEr2.out
        have HCN := Lib.hid (l1Has_any (I : Int) (by omega) wr HRW)
        clear HRW
        cases hh : hasTo L (I : Int) (c0 + 1)
        case true =>
          rw [hh] at HCN
          have HNW := Lib.hid (nwL_yes (xs := xs) (hI ▸ hh))
          clear hh
          go_wp2_with fail
          refine HCN.out.mono ?_
          rintro e w4 ⟨rfl, rfl⟩
          go_wp2
          go_roundw
          case rel => exact ⟨j + 1, v, by omega, congrArg (Value.int .i64) (by omega), HB, (by unfold Hid; rw [HNW.out.1, HNW.out.2]; exact HW.out), HNB, HO5, HDD, HEr2.out⟩
          case measure => simp [intOf]; omega
        rw [hh] at HCN
        have HNW := Lib.hid (nwL_no (xs := xs) (hI ▸ hh))
        have hajn : I < n := by have := HI0.out; have := HKK.out; omega
        have hajn' : (I : Int) < n := by omega
        rw [← HI0.out] at HNW
        have zg0 : wr.cell? ⟨bx, offx + I * 3, none⟩ = some (.int .i64 (at3 xs (I * 3))) := (HEw.out.cells.1 _ _ hbx).trans (HCX.out _ _ (at3_get (by have := HLX.out; omega)))
        have zg1 : wr.cell? ⟨bx, offx + I * 3 + 1, none⟩ = some (.int .i64 (at3 xs (I * 3 + 1))) := by rw [Nat.add_assoc]; exact (HEw.out.cells.1 _ _ hbx).trans (HCX.out _ _ (at3_get (by have := HLX.out; omega)))
        have zg2 : wr.cell? ⟨bx, offx + I * 3 + 2, none⟩ = some (.int .i64 (at3 xs (I * 3 + 2))) := by rw [Nat.add_assoc]; exact (HEw.out.cells.1 _ _ hbx).trans (HCX.out _ _ (at3_get (by have := HLX.out; omega)))
        have lbx : bx < wr.heap.size := by have := HEw.out.size; omega
        have hAs := HE.out.size
        have hbB : bx ≠ B := by omega
        have hwB : w.heap.size ≠ B := by omega
        clear hh
        generalize at3 xs (I * 3) = x0 at *
        generalize at3 xs (I * 3 + 1) = x1 at *
        generalize at3 xs (I * 3 + 2) = x2 at *
        go_wp2_with fail
        refine HCN.out.mono ?_
        rintro e w4 ⟨rfl, rfl⟩
        go_wp2
        refine Wr.wp_region_wra (m := 96) (fun n => .slice (some ⟨n, 0, none⟩) 1 1) 73 #[.int .i64 x0, .int .i64 x1, .int .i64 x2] [⟨B, 45, #[.int .i64 a, .slice aO K cO, v]⟩] (by kernel_rfl) (by kernel_rfl) rfl (by simp; try omega) ?_ ?_
        · intro s hs
          rcases s with _ | s
          · exact (show (World.heap _)[B]? = some (Obj.cells #[.int .i64 a, .slice aO K cO, v] 45 (0, 0)) from HB.out)
          · simp at hs
            try omega
        refine Wr.wa_old (w.heap.size) (by first | omega | (simp; done) | (simp; omega)) (by first | (simp; done) | (simp; omega)) (fun hold0 => ?_)
        refine Wr.wa_old (bx) (by first | omega | (simp; done) | (simp; omega)) (by first | (simp; done) | (simp; omega)) (fun hold1 => ?_)
        (refine Wr.wa_plain ?_; apply Exists.intro; refine ⟨?_, ?_⟩; (first | (go_simp; (try intro x); (try go_bits); rfl)); simp only [Act.put, List.setIfInBounds_toArray, List.set_cons_succ, List.set_cons_zero, List.nil_append, List.cons_append])
        refine Wr.wa_read 0 (B) 45 #[.int .i64 a, .slice aO K cO, v] (by simp) rfl rfl rfl (fun hr => ?_)
        apply Exists.intro
        refine ⟨?_, ?_⟩
        · go_simp
          (try intro x)
          (try go_bits)
          rfl
        clear hr
        simp only [Act.put, List.setIfInBounds_toArray, List.set_cons_succ, List.set_cons_zero, List.nil_append, List.cons_append]
        (refine Wr.wa_plain ?_; apply Exists.intro; refine ⟨?_, ?_⟩; (first | (go_simp; (try intro x); (try go_bits); rfl)); simp only [Act.put, List.setIfInBounds_toArray, List.set_cons_succ, List.set_cons_zero, List.nil_append, List.cons_append])
        (refine Wr.wa_plain ?_; apply Exists.intro; refine ⟨?_, ?_⟩; (first | (go_simp; (try intro x); (try go_bits); rfl)); simp only [Act.put, List.setIfInBounds_toArray, List.set_cons_succ, List.set_cons_zero, List.nil_append, List.cons_append])
        (refine Wr.wa_plain ?_; apply Exists.intro; refine ⟨?_, ?_⟩; (first | (go_simp; (try intro x); (try go_bits); rfl)); simp only [Act.put, List.setIfInBounds_toArray, List.set_cons_succ, List.set_cons_zero, List.nil_append, List.cons_append])
        (refine Wr.wa_plain ?_; apply Exists.intro; refine ⟨?_, ?_⟩; (first | (go_simp; (try intro x); (try go_bits); rfl)); simp only [Act.put, List.setIfInBounds_toArray, List.set_cons_succ, List.set_cons_zero, List.nil_append, List.cons_append])
        (refine Wr.wa_plain ?_; apply Exists.intro; refine ⟨?_, ?_⟩; (first | (go_simp; (try intro x); (try go_bits); rfl)); simp only [Act.put, List.setIfInBounds_toArray, List.set_cons_succ, List.set_cons_zero, List.nil_append, List.cons_append])
        refine Wr.wa_stop (fun _ => by kernel_rfl) (by kernel_rfl) (by rfl) (fun W hW => ?_) (fun w5 B5 hg5 hs5 hB5 hm5 => ?_)
        · first | (go_simp; done) | (go_simp; rfl)
        simp only [Act.put, List.setIfInBounds_toArray, List.set_cons_succ, List.set_cons_zero, List.nil_append, List.cons_append]
        have hb5_0 : w5.heap[B]? = some (.cells #[.int .i64 a, .slice aO K cO, v] 45 (0, 0)) := hs5 0 (by simp)
        clear hs5
        simp only [List.map_cons, List.map_nil] at hg5
        have hO5 := Lib.hid (own_gxn HW.out hg5 (fun k hk => by have := HNB.out k hk; simpa using this))
        have hO6 := Lib.hid (own_gxn HO5.out hg5 (fun k hk => by have := HD2.out k hk; simpa using this))
        have HB5 := Lib.hid hb5_0
        have HM5 := Lib.hid hm5
        have hE5 := Lib.hid (((GX.ofExt (S := [B]) HEr2.out).trans hg5).toExt (by simp; omega))
        have hs5 := hE5.out.size
        have lB5 : B < w5.heap.size := (Array.getElem?_eq_some_iff.1 hb5_0).1
        have hnw := nw_le L (c0 + 1) a j
        have hn4 : l + nwN L (c0 + 1) a j ≤ 3000000 := by omega
        clear hg5 hb5_0 hm5 zA lA zR fR lR zB fB lB zg0 zg1 zg2 hnw
        go_wp2_with (at_builtin; go_loud (refine wpList_append_rvt (base := wA.heap.size) rfl elt_gS rfl _ (l + nwN L (c0 + 1) a j) (zs ++ nwL xs L (c0 + 1) a j) rfl hO5.out _ 1 [x0, x1, x2] rfl (rv_heap HM5.out rfl rfl (by omega) (by decide)) (by omega) (by omega) ?_); intro v6 w6 hown6 hgrow6 hiff6 hloc6; obtain ⟨a6, c6, rfl, _, _, _⟩ := own_shape hown6; have hB6 := heap_grown hgrow6 HB5.out (fun e => HNB.out B e.symm rfl); have zB6 := fun k => cell_of_row _ _ k _ _ _ hB6; have fB6 := fun k => frozen_of_row _ _ k _ _ hB6; have lB6 := (Array.getElem?_eq_some_iff.1 hB6).1; have HB6 := Lib.hid hB6; clear hB6)
        go_roundw
        case rel =>
          have hNB6 : ∀ k, (Value.slice a6 (l + nwN L (c0 + 1) a j + 1) c6).ownBlock = some k → k ≠ B := fun k hk => by
            rcases hloc6 with h | h
            · exact HNB.out k (h ▸ hk)
            · rw [h] at hk
              simp at hk
              omega
          have hDD6 : ∀ k, (Value.slice aO K cO).ownBlock = some k → ∀ l', (Value.slice a6 (l + nwN L (c0 + 1) a j + 1) c6).ownBlock = some l' → k ≠ l' := fun k hk l' hl' => by
            rcases hloc6 with h | h
            · exact HDD.out k hk l' (h ▸ hl')
            · rw [h] at hl'
              have := (hO6.out.lt k hk).2
              simp at hl'
              omega
          refine ⟨j + 1, _, by omega, congrArg (Value.int .i64) (by omega), ?_, ?_, hNB6, ?_, hDD6, ?_⟩
          · unfold Hid
            exact heap_set_at HB6.out 2 _
          · unfold Hid
            rw [HNW.out.1, HNW.out.2, ← List.append_assoc, ← Nat.add_assoc]
            exact own_gxn hown6 ((GX.refl [B] w6).setCell (.inl (by simp)) _) (fun k hk => by have := hNB6 k hk; simpa using this)
          · unfold Hid
            refine own_gxn (w := w6) ?_ ((GX.refl [B] w6).setCell (.inl (by simp)) _) (fun k hk => by have := HD2.out k hk; simpa using this)
            exact own_farS hO6.out hgrow6 (fun l' hl' k hk e => HDD.out k hk l' hl' e.symm)
          · exact (ext_grownB hE5.out hgrow6 hO5.out (Nat.le_refl _)).setCell (by simp; omega) _
        case measure => simp [intOf]; omega
    have hlt' : (j : Int) < l := by omega
    have HS : Hid (gIns q ys m zs (j + 1) = (gIns q ys m zs j && gIn q ys m (at3 zs (j * 3)) (at3 zs (j * 3 + 1)) (at3 zs (j * 3 + 2)))) := rfl
    have HF : Hid (gIn q ys m (at3 zs (j * 3)) (at3 zs (j * 3 + 1)) (at3 zs (j * 3 + 2)) = false → gIns q ys m zs l = false) := fun h => allTo_false (f := fun j => gIn q ys m (at3 zs (j * 3)) (at3 zs (j * 3 + 1)) (at3 zs (j * 3 + 2))) h hlt
    obtain ⟨b, off, rfl, hbk, hcell⟩ := HZ.out (by omega)
    have hbr : b < wr.heap.size := by have := HE.out.size; omega
    have z0 : wr.cell? ⟨b, off + j * 3, none⟩ = some (.int .i64 (at3 zs (j * 3))) := (HE.out.cells.1 b (off + (j * 3)) hbk).trans (hcell _ _ (at3_get (by have := HLZ.out; omega)))
    have z1 : wr.cell? ⟨b, off + j * 3 + 1, none⟩ = some (.int .i64 (at3 zs (j * 3 + 1))) := (HE.out.cells.1 b (off + (j * 3 + 1)) hbk).trans (hcell _ _ (at3_get (by have := HLZ.out; omega)))
    have z2 : wr.cell? ⟨b, off + j * 3 + 2, none⟩ = some (.int .i64 (at3 zs (j * 3 + 2))) := (HE.out.cells.1 b (off + (j * 3 + 2)) hbk).trans (hcell _ _ (at3_get (by have := HLZ.out; omega)))
    clear hcell
    generalize at3 zs (j * 3) = k0 at *
    generalize at3 zs (j * 3 + 1) = k1 at *
    generalize at3 zs (j * 3 + 2) = k2 at *
    have HGI : Hid (gIn q ys m k0 k1 k2 = (gOk q k0 k1 k2 && (k0 == 12 || insQ ys m k0 k1 k2))) := rfl
    have HCO := Lib.hid (cOut_gin ys m k0 k1 k2)
    have HV := HVG k0 k1 k2
    have HI := HIS k0 k1 k2
    generalize gIn q ys m k0 k1 k2 = gi at *
    generalize (k0 == 12 || insQ ys m k0 k1 k2) = gj at *
    generalize cIn ys m (qL k0 k1 k2) (qL k0 k1 k2).length = ci at *
    generalize cOut ys m (qL k0 k1 k2) (qL k0 k1 k2).length = co at *
    cases hg : gOk q k0 k1 k2
    case false =>
      rw [hg] at HV HGI
      obtain rfl : gi = false := HGI.out
      clear hg HGI HI HCO
      go_wp2_with fail
      refine (HV _).out.mono ?_
      rintro e w2 ⟨rfl, hx2⟩
      clear zA lA zR fR lR
      have hR := (hx2.heap (k := w.heap.size + 1) (by simp; omega)).trans (heap_alloc_lt HRR.out)
      have zR := fun k => cell_of_row _ _ k _ _ _ hR
      have fR := fun k => frozen_of_row _ _ k _ _ hR
      have lR := (Array.getElem?_eq_some_iff.1 hR).1
      clear hR
      have HN : Hid (rrOk q xs n (a : Int) ys m zs l = false) := HO.out.trans (by rw [HF.out (by first | rfl | trivial)]; rfl)
      obtain ⟨e1, e2, e3, e4, e5⟩ := HVV.out.no HN.out
      have HE12 := Lib.hid (And.intro e1 (And.intro e2 (And.intro e3 (And.intro e4 e5))))
      have HEE := Lib.hid (show Ext w w2 from (HE.out.alloc _).trans hx2)
      clear e1 e2 e3 e4 e5
      go_wp2
      refine bodyPost_ret (v := .tuple #[.agg #[.int .i64 0, .slice none 0 0, .slice none 0 0], .bool false]) (by simp [results, Try.results45, go_sem, *]) rfl ?_
      obtain ⟨e1, e2, e3, e4, e5⟩ := HE12.out
      rw [HN.out, e1, e2, e3, e4, e5]
      have hee := HEE.out
      exact ⟨_, _, rfl, own_nil _ _ _ _, own_nil _ _ _ _, (fun k hk => by simp [Value.ownBlock] at hk), (by repeat (first | (with_reducible refine Ext.setCell ?_ (by first | (simp; done) | (simp; omega)) _) | with_reducible refine Ext.alloc ?_ _ | with_reducible refine Ext.drew ?_ | with_reducible refine Ext.drewN ?_ _ | with_reducible assumption | with_reducible exact Ext.refl _ | with_reducible refine Ext.trans ?_ (by with_reducible assumption)))⟩
    rw [hg] at HV HGI
    clear hg
    go_wp2_with fail
    refine (HV _).out.mono ?_
    rintro e w2 ⟨rfl, hx2⟩
    clear zA lA zR fR lR
    have hG := (hx2.heap (k := wr.heap.size) (by simp)).trans (heap_alloc_new _ _)
    have hR := (hx2.heap (k := w.heap.size + 1) (by simp; omega)).trans (heap_alloc_lt HRR.out)
    have hE2 := Lib.hid ((HE.out.alloc _).trans hx2)
    have hEr2 := Lib.hid ((HEr.out.alloc _).trans hx2)
    have HG2 := Lib.hid hG
    have HR2 := Lib.hid hR
    clear hx2
    have zG := fun k => cell_of_row _ _ k _ _ _ hG
    have lG := (Array.getElem?_eq_some_iff.1 hG).1
    clear hG hR
    go_wp2_with fail
    refine (HI _ hE2.out).out.mono ?_
    rintro e w3 ⟨rfl, hx3⟩
    clear zG lG
    cases gj
    case true =>
      obtain rfl : gi = true := HGI.out
      have hco : ¬ (0 < co) := by have := HCO.out; simpa using this
      clear HGI HCO
      go_wp2
      go_roundw
      case rel => exact ⟨j + 1, by omega, by go_num, by unfold Hid; rw [HS.out, HG.out]; rfl, hEr2.out.trans hx3⟩
      case measure => simp [intOf]; omega
    case false =>
      obtain rfl : gi = false := HGI.out
      have hco : 0 < co := by have := HCO.out; simpa using this
      clear HGI HCO
      have hR := row_farS HR2.out hx3
      have zR := fun k => cell_of_row _ _ k _ _ _ hR
      have fR := fun k => frozen_of_row _ _ k _ _ hR
      have lR := (Array.getElem?_eq_some_iff.1 hR).1
      clear hR
      have HN : Hid (rrOk q xs n (a : Int) ys m zs l = false) := HO.out.trans (by rw [HF.out (by first | rfl | trivial)]; rfl)
      obtain ⟨e1, e2, e3, e4, e5⟩ := HVV.out.no HN.out
      have HE12 := Lib.hid (And.intro e1 (And.intro e2 (And.intro e3 (And.intro e4 e5))))
      have HEE := Lib.hid (show Ext w w3 from hE2.out.trans hx3)
      clear e1 e2 e3 e4 e5
      go_wp2
      refine bodyPost_ret (v := .tuple #[.agg #[.int .i64 0, .slice none 0 0, .slice none 0 0], .bool false]) (by simp [results, Try.results45, go_sem, *]) rfl ?_
      obtain ⟨e1, e2, e3, e4, e5⟩ := HE12.out
      rw [HN.out, e1, e2, e3, e4, e5]
      have hee := HEE.out
      exact ⟨_, _, rfl, own_nil _ _ _ _, own_nil _ _ _ _, (fun k hk => by simp [Value.ownBlock] at hk), (by repeat (first | (with_reducible refine Ext.setCell ?_ (by first | (simp; done) | (simp; omega)) _) | with_reducible refine Ext.alloc ?_ _ | with_reducible refine Ext.drew ?_ | with_reducible refine Ext.drewN ?_ _ | with_reducible assumption | with_reducible exact Ext.refl _ | with_reducible refine Ext.trans ?_ (by with_reducible assumption)))⟩

set_option maxRecDepth 20000 in
set_option maxHeartbeats 4000000 in
theorem s_runReplacement_any (q at' : Int) {v1 v2 v3 : Value} {n m l : Nat} {xs ys zs : List Int} (hn : n ≤ 2000000) (hm : m ≤ 2000000) (hl : l ≤ 2000000) (w : World) (h1 : RV w 3 v1 n xs) (h2 : RV w 1 v2 m ys) (h3 : RV w 3 v3 l zs) :
    Calls Try.prog 15 #[.agg #[.int .i64 q, v1], .int .i64 at', v2, v3] w fun e w' => ∃ u0 u1, e = .returned (.tuple #[.agg #[.int .i64 (rrT q xs n at' ys m zs l), u0, u1], .bool (rrOk q xs n at' ys m zs l)]) ∧
      w'.ownsRow w.heap.size 73 3 u0 (rrOn q xs n at' ys m zs l) (IL (rrO q xs n at' ys m zs l)) ∧ w'.ownsRow w.heap.size 73 3 u1 (rrWn q xs n at' ys m zs l) (IL (rrW q xs n at' ys m zs l)) ∧ (∀ k, u0.ownBlock = some k → u1.ownBlock = some k → False) ∧ Ext w w' := by
  have HV := fun w' (hx : Ext w w') => Lib.hid (l4Good_any q hn w' (h1.ext hx))
  have HR := fun hc w' (hx : Ext w w') => Lib.hid (l29Run_any q at' hn hm hc w' (h1.ext hx) (h2.ext hx))
  have HP := fun vr hra w' (hx : Ext w w') hr => Lib.hid (l29Replace_any (vr := vr) (l := l) (zs := zs) q at' hn hm hl hra w' (h1.ext hx) hr (h2.ext hx) (h3.ext hx))
  have HVV := Lib.hid (rr_vals q xs n at' ys m zs l)
  have HO : Hid (raOk q xs n at' ys m = false → rrOk q xs n at' ys m zs l = false) := fun h => by unfold rrOk; rw [h]; rfl
  have HC : Hid (cOk q xs n = false → raOk q xs n at' ys m = false) := fun h => by unfold raOk; rw [h]; rfl
  obtain ⟨_, a1, cap1, rfl, _⟩ := h1
  obtain ⟨_, a2, cap2, rfl, _⟩ := h2
  obtain ⟨_, a3, cap3, rfl, _⟩ := h3
  cases g1 : cOk q xs n
  case false =>
    rw [g1] at HV
    clear HR HP
    go_enter Try.func15, Try.ntmps15
    go_wp2_with fail
    refine (HV _ (by repeat (first | exact Ext.refl _ | assumption | refine Ext.alloc ?_ _ | refine Ext.drew ?_ | refine Ext.drewN ?_ _ | refine Ext.setCell ?_ (by first | omega | (dsimp only; omega) | (simp; done) | (simp; omega)) _ | refine Ext.trans ?_ (by assumption)))).out.mono ?_
    rintro e w1 ⟨rfl, hx1⟩
    have hR : w1.heap[w.heap.size + 1]? = some (.cells #[.int .i64 0, .slice none 0 0, .slice none 0 0] 45 (0, 0)) := (hx1.heap (by simp)).trans (heap_alloc_at _ _ _ (by simp))
    have zR := fun k => cell_of_row _ _ k _ _ _ hR
    have fR := fun k => frozen_of_row _ _ k _ _ hR
    have lR := (Array.getElem?_eq_some_iff.1 hR).1
    have HN : Hid (rrOk q xs n at' ys m zs l = false) := HO.out (HC.out g1)
    obtain ⟨e1, e2, e3, e4, e5⟩ := HVV.out.no HN.out
    have HE12 := Lib.hid (And.intro e1 (And.intro e2 (And.intro e3 (And.intro e4 e5))))
    have HEE := Lib.hid (show Ext w w1 from (by repeat (first | (with_reducible refine Ext.setCell ?_ (by first | (simp; done) | (simp; omega)) _) | with_reducible refine Ext.alloc ?_ _ | with_reducible refine Ext.drew ?_ | with_reducible refine Ext.drewN ?_ _ | with_reducible assumption | with_reducible exact Ext.refl _ | with_reducible refine Ext.trans ?_ (by with_reducible assumption))))
    clear e1 e2 e3 e4 e5
    go_wp2
    refine bodyPost_ret (v := .tuple #[.agg #[.int .i64 0, .slice none 0 0, .slice none 0 0], .bool false]) (by simp [results, Try.results15, go_sem, *]) rfl ?_
    obtain ⟨e1, e2, e3, e4, e5⟩ := HE12.out
    rw [HN.out, e1, e2, e3, e4, e5]
    have hee := HEE.out
    exact ⟨_, _, rfl, own_nil _ _ _ _, own_nil _ _ _ _, (fun k hk => by simp [Value.ownBlock] at hk), (by repeat (first | (with_reducible refine Ext.setCell ?_ (by first | (simp; done) | (simp; omega)) _) | with_reducible refine Ext.alloc ?_ _ | with_reducible refine Ext.drew ?_ | with_reducible refine Ext.drewN ?_ _ | with_reducible assumption | with_reducible exact Ext.refl _ | with_reducible refine Ext.trans ?_ (by with_reducible assumption)))⟩
  have HR := HR g1
  rw [g1] at HV
  go_enter Try.func15, Try.ntmps15
  go_wp2_with fail
  refine (HV _ (by repeat (first | exact Ext.refl _ | assumption | refine Ext.alloc ?_ _ | refine Ext.drew ?_ | refine Ext.drewN ?_ _ | refine Ext.setCell ?_ (by first | omega | (dsimp only; omega) | (simp; done) | (simp; omega)) _ | refine Ext.trans ?_ (by assumption)))).out.mono ?_
  rintro e w1 ⟨rfl, hx1⟩
  have hE1 : Ext w w1 := (by repeat (first | (with_reducible refine Ext.setCell ?_ (by first | (simp; done) | (simp; omega)) _) | with_reducible refine Ext.alloc ?_ _ | with_reducible refine Ext.drew ?_ | with_reducible refine Ext.drewN ?_ _ | with_reducible assumption | with_reducible exact Ext.refl _ | with_reducible refine Ext.trans ?_ (by with_reducible assumption)))
  have hs1 : w.heap.size + 2 ≤ w1.heap.size := by have := hx1.size; simp at this; exact this
  have HA1 : Hid (w1.heap[w.heap.size]? = some (.cells #[.int .i64 q, .slice a1 n cap1] 31 (0, 0))) := (hx1.heap (by simp; omega)).trans (heap_alloc_lt (heap_alloc_new _ _))
  have HR1 : Hid (w1.heap[w.heap.size + 1]? = some (.cells #[.int .i64 0, .slice none 0 0, .slice none 0 0] 45 (0, 0))) := (hx1.heap (by simp)).trans (heap_alloc_at _ _ _ (by simp))
  have HE1 := Lib.hid hE1
  have hA := HA1.out
  clear hx1 hE1
  have zA := fun k => cell_of_row _ _ k _ _ _ hA
  have lA := (Array.getElem?_eq_some_iff.1 hA).1
  clear hA
  cases g2 : raOk q xs n at' ys m
  case false =>
    rw [g2] at HR
    clear HP
    go_wp2_with fail
    refine (HR _ HE1.out).out.mono ?_
    rintro e w2 ⟨v, rfl, o2, hx2⟩
    obtain ⟨ar, cr, rfl, _, _, _⟩ := own_shape o2
    clear o2 zA lA
    have hR := row_farS HR1.out hx2
    have zR := fun k => cell_of_row _ _ k _ _ _ hR
    have fR := fun k => frozen_of_row _ _ k _ _ hR
    have lR := (Array.getElem?_eq_some_iff.1 hR).1
    have HN : Hid (rrOk q xs n at' ys m zs l = false) := HO.out g2
    obtain ⟨e1, e2, e3, e4, e5⟩ := HVV.out.no HN.out
    have HE12 := Lib.hid (And.intro e1 (And.intro e2 (And.intro e3 (And.intro e4 e5))))
    have HEE := Lib.hid (show Ext w w2 from HE1.out.trans hx2)
    clear e1 e2 e3 e4 e5
    go_wp2
    refine bodyPost_ret (v := .tuple #[.agg #[.int .i64 0, .slice none 0 0, .slice none 0 0], .bool false]) (by simp [results, Try.results15, go_sem, *]) rfl ?_
    obtain ⟨e1, e2, e3, e4, e5⟩ := HE12.out
    rw [HN.out, e1, e2, e3, e4, e5]
    have hee := HEE.out
    exact ⟨_, _, rfl, own_nil _ _ _ _, own_nil _ _ _ _, (fun k hk => by simp [Value.ownBlock] at hk), (by repeat (first | (with_reducible refine Ext.setCell ?_ (by first | (simp; done) | (simp; omega)) _) | with_reducible refine Ext.alloc ?_ _ | with_reducible refine Ext.drew ?_ | with_reducible refine Ext.drewN ?_ _ | with_reducible assumption | with_reducible exact Ext.refl _ | with_reducible refine Ext.trans ?_ (by with_reducible assumption)))⟩
  rw [g2] at HR
  have HP := fun vr w' (hx : Ext w w') hr => HP vr g2 w' hx hr
  clear HO HC g2 HVV
  go_wp2_with fail
  refine (HR _ HE1.out).out.mono ?_
  rintro e w2 ⟨v, rfl, o2, hx2⟩
  have HPW := HP v w2 (HE1.out.trans hx2) (RV.own o2 (by omega))
  obtain ⟨ar, cr, rfl, _, _, _⟩ := own_shape o2
  have HE2 := Lib.hid (HE1.out.trans hx2)
  have hA := row_farS HA1.out hx2
  have HR2 := Lib.hid (row_farS HR1.out hx2)
  have hs2 := hx2.size
  clear zA lA o2 hx2 HP
  have zA := fun k => cell_of_row _ _ k _ _ _ hA
  have lA := (Array.getElem?_eq_some_iff.1 hA).1
  clear hA
  go_wp2_with fail
  refine HPW.out.mono ?_
  rintro e w3 ⟨u0, u1, rfl, p0, p1, dj, hx3⟩
  obtain ⟨s0, d0, rfl, _, _, _⟩ := own_shape p0
  obtain ⟨s1, d1, rfl, _, _, _⟩ := own_shape p1
  have HP0 := Lib.hid p0
  have HP1 := Lib.hid p1
  have HDJ := Lib.hid dj
  have HE3 := Lib.hid (HE2.out.trans hx3)
  have hR := row_farS HR2.out hx3
  clear zA lA p0 p1 dj hx3
  have zR := fun k => cell_of_row _ _ k _ _ _ hR
  have fR := fun k => frozen_of_row _ _ k _ _ hR
  have lR := (Array.getElem?_eq_some_iff.1 hR).1
  clear hR
  go_wp2
  refine bodyPost_ret (v := .tuple #[.agg #[.int .i64 (rrT q xs n at' ys m zs l), .slice s0 (rrOn q xs n at' ys m zs l) d0, .slice s1 (rrWn q xs n at' ys m zs l) d1], .bool (rrOk q xs n at' ys m zs l)]) (by simp [results, Try.results15, go_sem, *]) rfl ?_
  have hee := HE3.out
  refine ⟨_, _, rfl, ?_, ?_, HDJ.out, (by repeat (first | (with_reducible refine Ext.setCell ?_ (by first | (simp; done) | (simp; omega)) _) | with_reducible refine Ext.alloc ?_ _ | with_reducible refine Ext.drew ?_ | with_reducible refine Ext.drewN ?_ _ | with_reducible assumption | with_reducible exact Ext.refl _ | with_reducible refine Ext.trans ?_ (by with_reducible assumption)))⟩
  · refine own_base (base := w2.heap.size) ?_ (by omega)
    exact own_set (own_set (own_set HP0.out (by simp; omega) _) (by simp; omega) _) (by simp; omega) _
  · refine own_base (base := w2.heap.size) ?_ (by omega)
    exact own_set (own_set (own_set HP1.out (by simp; omega) _) (by simp; omega) _) (by simp; omega) _

end Go.Proofs.Ytlbcjbeafampcaa
