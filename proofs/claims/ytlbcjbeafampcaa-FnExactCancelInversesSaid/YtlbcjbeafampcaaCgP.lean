/- Certificates: the program's and the reference's copies. -/
import Derived.Test.YtlbcjbeafampcaaCgS
import Derived.Test.YtlbcjbeafampcaaExA
import Derived.Test.YtlbcjbeafampcaaCatG
import Derived.Deep.RegionHeld3
import Derived.Deep.Cut
namespace Go.Proofs.Ytlbcjbeafampcaa
open Go.RowKit Go.Lib
set_option linter.unusedVariables false
set_option linter.unusedSimpArgs false

/-- a new block with one step in it -/
def PhR (W0 : World) (t : Int) (m1 : Nat) (xs : List Int) (m2 : Nat) (ys : List Int) : Value → World → Prop := fun v W => ∃ (b : Nat) (va vb : Value), v = .slice (some ⟨b, 0, none⟩) 1 1 ∧ W0.heap.size ≤ b ∧ W.heap[b]? = some (.cells #[.int .i64 t, va, vb] 45 (0, 0)) ∧
  W.ownsRow W0.heap.size 73 3 va m1 (IL xs) ∧ W.ownsRow W0.heap.size 73 3 vb m2 (IL ys) ∧ ∀ k, va.ownBlock = some k → vb.ownBlock = some k → False
theorem phR_mono (W0 : World) (t : Int) (m1 : Nat) (xs : List Int) (m2 : Nat) (ys : List Int) : ∀ v W W', PhR W0 t m1 xs m2 ys v W → Ext W W' → PhR W0 t m1 xs m2 ys v W' := fun v W W' ⟨b, va, vb, h1, h2, h3, h4, h5, h6⟩ hx =>
  ⟨b, va, vb, h1, h2, (hx.heap (Array.getElem?_eq_some_iff.1 h3).1).trans h3, own_ext h4 hx, own_ext h5 hx, h6⟩
theorem row_farC {w W : World} {k : Nat} {o : Obj} (h : w.heap[k]? = some o) (hx : Ext w W) : W.heap[k]? = some o := (hx.heap (Array.getElem?_eq_some_iff.1 h).1).trans h

set_option maxRecDepth 20000 in
set_option maxHeartbeats 4000000 in
theorem copyReplacements_any {v : Value} {n : Nat} {R : Nat → Rp} (hs : n + gsR R n ≤ 1048576) (w : World) (h : RSV w v (RL n R)) :
    Calls Try.prog 38 #[v] w fun e w' => ∃ v', e = .returned v' ∧ RSP w' w.heap.size (fun k => w.heap.size ≤ k ∧ k < w'.heap.size) v' n R ∧ Ext w w' := by
  obtain ⟨a, cap, rfl, c1, c2, H⟩ := h
  have HH := Lib.hid H
  clear H
  rw [RL_len] at c1
  have hnb : n ≤ 1048576 := by omega
  have HS0 := Lib.hid hs
  clear hs
  simp only [RL_len]
  go_enter Try.func38, Try.ntmps38
  have HR0 : Hid (RSP (w.alloc (.cells #[] 45 (0, 0))) w.heap.size (fun k => w.heap.size ≤ k ∧ k < (w.alloc (.cells #[] 45 (0, 0))).heap.size) (.slice (some ⟨w.heap.size, 0, none⟩) 0 0) 0 R) := ⟨[], own_room (by simp) (by simp), rfl, ⟨fun k hk => by simp [Value.ownBlock] at hk; simp; omega, fun p x k hp => by simp at hp⟩, ⟨fun p x k hp => by simp at hp, fun p q x y k _ hp => by simp at hp⟩, fun i hi => absurd hi (by omega)⟩
  have HE0 := Lib.hid ((Ext.refl w).alloc (.cells #[] 45 (0, 0)))
  go_wp2
  go_loopw [3, 9] (fun out i wr => ∃ (j : Nat) (u : Value), j ≤ n ∧ out = u ∧ i = .int .i64 j ∧ Hid (RSP wr w.heap.size (fun k => w.heap.size ≤ k ∧ k < wr.heap.size) u j R) ∧ Ext w wr) (fun _ i _ => n - (intOf i).toNat)
  case atStart => exact ⟨0, _, by omega, rfl, rfl, HR0.out, HE0.out⟩
  case round =>
    obtain ⟨j, u, hj, rfl, rfl, HR, hE⟩ := hrel
    have hsz := hE.size
    have HE := Lib.hid hE
    clear hE
    by_cases hlt : j < n
    case neg =>
      obtain rfl : j = n := by omega
      have hje' : ¬ (j : Int) < j := by omega
      obtain ⟨zs, ho, hl, hin, hd, he⟩ := HR.out
      obtain ⟨a2, c3, rfl, _, _, _⟩ := own_shape ho
      clear ho hl hin hd he
      go_wp2
      go_ret
      exact ⟨_, rfl, HR.out, HE.out⟩
    have hlt' : (j : Int) < n := by omega
    obtain ⟨zs, ho, hl, hin, hd, he⟩ := HR.out
    have HO := Lib.hid ho
    have HL := Lib.hid hl
    have HIN := Lib.hid hin
    have HD := Lib.hid hd
    have HEL := Lib.hid he
    obtain ⟨a2, c3, rfl, _, _, _⟩ := own_shape ho
    clear ho hl hin hd he
    obtain ⟨b, off, rfl, hbk, hcell⟩ := HH.out (by rw [RL_len]; omega)
    obtain ⟨va, vb, z0', z1', z2', r1, r2⟩ := hcell j (by rw [RL_len]; exact hlt)
    rw [RL_at] at z0' r1 r2
    have s12 : (R j).m1 ≤ 1048576 ∧ (R j).m2 ≤ 1048576 := by have := gsR_at R hlt; have := HS0.out; omega
    obtain ⟨s1, s2⟩ := s12
    clear hcell
    have hbr : b < wr.heap.size := by omega
    have z0 := (HE.out.cells.1 b _ hbk).trans z0'
    have z1 := (HE.out.cells.1 b _ hbk).trans z1'
    have z2 := (HE.out.cells.1 b _ hbk).trans z2'
    have HA1 := Lib.hid (r1.ext HE.out)
    have HA2 := Lib.hid (r2.ext HE.out)
    obtain ⟨_, aa, ca, rfl, _, _, _⟩ := r1
    obtain ⟨_, ab, cb, rfl, _, _, _⟩ := r2
    clear z0' z1' z2'
    have HSN := fun {w2 w3 : World} {v' va vb : Value} => Lib.hid (rsp_snoc (R := R) (w2 := w2) (w3 := w3) (v' := v') (va := va) (vb := vb) HO.out HL.out HIN.out HD.out HEL.out hsz)
    generalize (R j).t = t at *
    generalize (R j).m1 = m1 at *
    generalize (R j).m2 = m2 at *
    generalize (R j).xs = xs at *
    generalize (R j).ys = ys at *
    obtain ⟨w1, hw1⟩ : ∃ w1, w1 = wr.alloc (.cells #[.int .i64 t, .slice aa m1 ca, .slice ab m2 cb] 45 (0, 0)) := ⟨_, rfl⟩
    have hb1 : w1.heap[wr.heap.size]? = some (.cells #[.int .i64 t, .slice aa m1 ca, .slice ab m2 cb] 45 (0, 0)) := by rw [hw1]; exact heap_alloc_new _ _
    have hE1 : Ext wr w1 := by rw [hw1]; exact (Ext.refl _).alloc _
    have HE1 := Lib.hid hE1
    have zB := fun k => cell_of_row _ _ k _ _ _ hb1
    have lB := (Array.getElem?_eq_some_iff.1 hb1).1
    have HV1 : Hid (∀ W, Ext w1 W → RV W 3 (.slice aa m1 ca) m1 xs) := fun W hW => HA1.out.ext (hE1.trans hW)
    have HV2 : Hid (∀ W, Ext w1 W → RV W 3 (.slice ab m2 cb) m2 ys) := fun W hW => HA2.out.ext (hE1.trans hW)
    clear hE1 hb1
    go_upto_region 5 with fail
    rw [← hw1]
    clear hw1
    go_wp2
    refine Ex.wp_region_ex (m := 29) [.fn [] (fun _ => .slice a2 j c3), .fn [] (fun _ => .pointer (some ⟨wr.heap.size, 0, none⟩)), .fn [] (fun _ => .int .i64 t), .ex (Ex.PhN (w1) (fun n => .slice (some ⟨n, 0, none⟩) 0 0) 73 #[]) 1 [], .fn [] (fun _ => .pointer (some ⟨wr.heap.size, 1, none⟩)), .fn [] (fun _ => .slice aa m1 ca), .ex (Ex.PhS (w1) 73 3 (m1) (xs)) 1 [3], .ex (Ex.PhN (w1) (fun n => .slice (some ⟨n, 0, none⟩) 0 0) 73 #[]) 2 [], .fn [] (fun _ => .pointer (some ⟨wr.heap.size, 2, none⟩)), .fn [] (fun _ => .slice ab m2 cb), .ex (Ex.PhS (w1) 73 3 (m2) (ys)) 2 [7], .fn [6, 10] (fun u => .agg #[.int .i64 t, u.getD 0 undef, u.getD 1 undef]), .ex (PhR w1 t m1 xs m2 ys) 3 [6, 10]] (by kernel_rfl) (by kernel_rfl) rfl (by kernel_rfl) (by kernel_rfl) (Ex.mono_fn (Ex.mono_fn (Ex.mono_fn (Ex.mono_ex (Ex.phN_mono _ _ _ _) (Ex.mono_fn (Ex.mono_fn (Ex.mono_ex (Ex.phS_mono _ _ _ _ _) (Ex.mono_ex (Ex.phN_mono _ _ _ _) (Ex.mono_fn (Ex.mono_fn (Ex.mono_ex (Ex.phS_mono _ _ _ _ _) (Ex.mono_fn (Ex.mono_ex (phR_mono _ _ _ _ _ _) Ex.mono_nil))))))))))))) (fun sig3 => ?_)
    have hxc := fun (x : Xt (w1)) (b o : Nat) (h : b < (w1).heap.size) => x.ext.cells.1 b o h
    refine Ex.we_det ?_ ?_
    · first | (go_simp; done) | (go_simp; rfl) | (go_simp; (try intro x); (try go_bits); first | done | rfl | (simp; done) | (simp; omega))
    simp only [Act.put, List.setIfInBounds_toArray, List.set_cons_succ, List.set_cons_zero, List.nil_append, List.cons_append, Nat.zero_add, Nat.reduceAdd]
    refine Ex.we_det ?_ ?_
    · first | (go_simp; done) | (go_simp; rfl) | (go_simp; (try intro x); (try go_bits); first | done | rfl | (simp; done) | (simp; omega))
    simp only [Act.put, List.setIfInBounds_toArray, List.set_cons_succ, List.set_cons_zero, List.nil_append, List.cons_append, Nat.zero_add, Nat.reduceAdd]
    refine Ex.we_det ?_ ?_
    · first | (go_simp; done) | (go_simp; rfl) | (go_simp; (try intro x); (try go_bits); first | done | rfl | (simp; done) | (simp; omega))
    simp only [Act.put, List.setIfInBounds_toArray, List.set_cons_succ, List.set_cons_zero, List.nil_append, List.cons_append, Nat.zero_add, Nat.reduceAdd]
    refine Ex.we_new rfl (fun _ => rfl) (fun x => ?_) ?_
    · first | (go_simp; done) | (go_simp; rfl)
    simp only [Act.put, List.setIfInBounds_toArray, List.set_cons_succ, List.set_cons_zero, List.nil_append, List.cons_append, Nat.zero_add, Nat.reduceAdd]
    refine Ex.we_det ?_ ?_
    · first | (go_simp; done) | (go_simp; rfl) | (go_simp; (try intro x); (try go_bits); first | done | rfl | (simp; done) | (simp; omega))
    simp only [Act.put, List.setIfInBounds_toArray, List.set_cons_succ, List.set_cons_zero, List.nil_append, List.cons_append, Nat.zero_add, Nat.reduceAdd]
    refine Ex.we_det ?_ ?_
    · first | (go_simp; done) | (go_simp; rfl) | (go_simp; (try intro x); (try go_bits); first | done | rfl | (simp; done) | (simp; omega))
    simp only [Act.put, List.setIfInBounds_toArray, List.set_cons_succ, List.set_cons_zero, List.nil_append, List.cons_append, Nat.zero_add, Nat.reduceAdd]
    refine Ex.we_append (j := 3) elt_CG rfl rfl rfl (.slice aa m1 ca) (m1) (xs) rfl (HV1.out) (by omega) rfl ?_
    simp only [Act.put, List.setIfInBounds_toArray, List.set_cons_succ, List.set_cons_zero, List.nil_append, List.cons_append, Nat.zero_add, Nat.reduceAdd]
    refine Ex.we_new rfl (fun _ => rfl) (fun x => ?_) ?_
    · first | (go_simp; done) | (go_simp; rfl)
    simp only [Act.put, List.setIfInBounds_toArray, List.set_cons_succ, List.set_cons_zero, List.nil_append, List.cons_append, Nat.zero_add, Nat.reduceAdd]
    refine Ex.we_det ?_ ?_
    · first | (go_simp; done) | (go_simp; rfl) | (go_simp; (try intro x); (try go_bits); first | done | rfl | (simp; done) | (simp; omega))
    simp only [Act.put, List.setIfInBounds_toArray, List.set_cons_succ, List.set_cons_zero, List.nil_append, List.cons_append, Nat.zero_add, Nat.reduceAdd]
    refine Ex.we_det ?_ ?_
    · first | (go_simp; done) | (go_simp; rfl) | (go_simp; (try intro x); (try go_bits); first | done | rfl | (simp; done) | (simp; omega))
    simp only [Act.put, List.setIfInBounds_toArray, List.set_cons_succ, List.set_cons_zero, List.nil_append, List.cons_append, Nat.zero_add, Nat.reduceAdd]
    refine Ex.we_append (j := 7) elt_CG rfl rfl rfl (.slice ab m2 cb) (m2) (ys) rfl (HV2.out) (by omega) rfl ?_
    simp only [Act.put, List.setIfInBounds_toArray, List.set_cons_succ, List.set_cons_zero, List.nil_append, List.cons_append, Nat.zero_add, Nat.reduceAdd]
    refine Ex.we_fn rfl (fun W hxW hFW => ?_) ?_
    · (have h6 : Ex.PhS w1 73 3 m1 xs (sig3 6) W := hFW.phi 6 (by simp); have h10 : Ex.PhS w1 73 3 m2 ys (sig3 10) W := hFW.phi 10 (by simp); obtain ⟨s1, s2, s3, _⟩ := own_shape h6; obtain ⟨s4, s5, s6, _⟩ := own_shape h10; simp only [List.map_cons, List.map_nil, s3, s6]; go_simp)
    simp only [Act.put, List.setIfInBounds_toArray, List.set_cons_succ, List.set_cons_zero, List.nil_append, List.cons_append, Nat.zero_add, Nat.reduceAdd]
    refine Ex.we_ex rfl (fun W hxW hFW => ?_) ?_
    · (have h6 : Ex.PhS w1 73 3 m1 xs (sig3 6) W := hFW.phi 6 (by simp); have h10 : Ex.PhS w1 73 3 m2 ys (sig3 10) W := hFW.phi 10 (by simp); obtain ⟨s1, s2, s3, _⟩ := own_shape h6; obtain ⟨s4, s5, s6, _⟩ := own_shape h10; have d1 : ∀ b, Ex.blk (sig3 6) = some b → Ex.blk (sig3 10) = some b → False := hFW.dif 6 (by simp) 10 (by simp) (show (1 : Nat) ≠ 2 by decide) (show (1 : Nat) ≠ 0 by decide) (show (2 : Nat) ≠ 0 by decide); unfold Ex.PhS at h6 h10; have dj := fun k h1 h2 => d1 k (own_blk h6 k h1) (own_blk h10 k h2); clear d1; rw [s3] at h6 dj; rw [s6] at h10 dj; have H6 := Lib.hid h6; have H10 := Lib.hid h10; have DJ := Lib.hid dj; have HXW := Lib.hid hxW; clear h6 h10 dj hxW; simp only [List.map_cons, List.map_nil, List.getD_cons_zero, List.getD_cons_succ, s3, s6]; clear s3 s6; go_simp; refine ⟨(Ext.refl W).alloc _, ⟨_, _, _, rfl, HXW.out.size, heap_alloc_new W _, own_ext H6.out ((Ext.refl W).alloc _), own_ext H10.out ((Ext.refl W).alloc _), DJ.out⟩, fun _ b hb => ?_⟩; have hb' : W.heap.size = b := (by simpa [Ex.blk] using hb); subst hb'; exact ⟨by simp, .inl (Nat.le_refl _)⟩)
    simp only [Act.put, List.setIfInBounds_toArray, List.set_cons_succ, List.set_cons_zero, List.nil_append, List.cons_append, Nat.zero_add, Nat.reduceAdd]
    refine Ex.we_stop (fun w3 hx3 hF3 => ?_)
    clear hxc
    obtain ⟨B, va, vb, e12, hB1, hB3, h6, h10, d1⟩ : PhR w1 t m1 xs m2 ys (sig3 12) w3 := hF3.phi 12 (by simp)
    simp only [List.map_cons, List.map_nil, List.getD_cons_zero, List.getD_cons_succ, e12]
    have HDJ := Lib.hid d1
    have HX3 := Lib.hid (HE1.out.trans hx3)
    have hle := HE1.out.size
    have O1 := Lib.hid (own_base h6 hle)
    have O2 := Lib.hid (own_base h10 hle)
    have sx3 := hx3.size
    have HRV : Hid (RVV w3 3 (.slice (some ⟨B, 0, none⟩) 1 1) 1 [.int .i64 t, va, vb]) := RVV.ofHeap hB3 rfl rfl (by
      obtain ⟨_, _, rfl, _, _, _⟩ := own_shape h6
      obtain ⟨_, _, rfl, _, _, _⟩ := own_shape h10
      intro u hu; simp at hu; rcases hu with rfl | rfl | rfl <;> rfl)
    have HO4 := Lib.hid (own_ext HO.out HX3.out)
    have hbs : w.heap.size ≤ w3.heap.size := by omega
    clear h6 h10 d1 hx3 hF3 e12 hB3 zB lB z0 z1 z2
    go_wp2_with (at_builtin; go_loud (refine wpList_append_val (base := w.heap.size) rfl elt_RP rfl (.slice a2 j c3) j zs rfl HO4.out (.slice (some ⟨B, 0, none⟩) 1 1) 1 _ rfl HRV.out (by omega) hbs ?_); intro v5 w5 hown5 hgrow5 hiff5 hloc5; have HW5 := Lib.hid hown5; have HG5 := Lib.hid hgrow5; have HL5 := Lib.hid hloc5; obtain ⟨a5, c5, rfl, _, _, _⟩ := own_shape hown5; clear hown5 hgrow5 hloc5 hiff5)
    go_roundw
    case rel =>
      refine ⟨j + 1, _, by omega, rfl, by go_num, HSN.out HX3.out O1.out O2.out HDJ.out HW5.out HG5.out HL5.out, ?_⟩
      exact ext_grownB (HE.out.trans HX3.out) HG5.out HO4.out (Nat.le_refl _)
    case measure => simp [intOf]; omega

set_option maxRecDepth 20000 in
set_option maxHeartbeats 4000000 in
theorem l30Steps_any {v : Value} {n : Nat} {R : Nat → Rp} (hs : n + gsR R n ≤ 1048576) (w : World) (h : RSV w v (RL n R)) :
    Calls Try.prog 34 #[v] w fun e w' => ∃ v', e = .returned v' ∧ RSP w' w.heap.size (fun k => w.heap.size ≤ k ∧ k < w'.heap.size) v' n R ∧ Ext w w' := by
  obtain ⟨a, cap, rfl, c1, c2, H⟩ := h
  have HH := Lib.hid H
  clear H
  rw [RL_len] at c1
  have hnb : n ≤ 1048576 := by omega
  have HS0 := Lib.hid hs
  clear hs
  simp only [RL_len]
  go_enter Try.func34, Try.ntmps34
  have HR0 : Hid (RSP w w.heap.size (fun k => w.heap.size ≤ k ∧ k < w.heap.size) (.slice none 0 0) 0 R) := ⟨[], own_nil _ _ _ _, rfl, ⟨fun k hk => by simp [Value.ownBlock] at hk, fun p x k hp => by simp at hp⟩, ⟨fun p x k hp => by simp at hp, fun p q x y k _ hp => by simp at hp⟩, fun i hi => absurd hi (by omega)⟩
  have HE0 := Lib.hid (Ext.refl w)
  go_wp2
  go_loopw [3, 8] (fun out i wr => ∃ (j : Nat) (u : Value), j ≤ n ∧ out = u ∧ i = .int .i64 j ∧ Hid (RSP wr w.heap.size (fun k => w.heap.size ≤ k ∧ k < wr.heap.size) u j R) ∧ Ext w wr) (fun _ i _ => n - (intOf i).toNat)
  case atStart => exact ⟨0, _, by omega, rfl, rfl, HR0.out, HE0.out⟩
  case round =>
    obtain ⟨j, u, hj, rfl, rfl, HR, hE⟩ := hrel
    have hsz := hE.size
    have HE := Lib.hid hE
    clear hE
    by_cases hlt : j < n
    case neg =>
      obtain rfl : j = n := by omega
      have hje' : ¬ (j : Int) < j := by omega
      obtain ⟨zs, ho, hl, hin, hd, he⟩ := HR.out
      obtain ⟨a2, c3, rfl, _, _, _⟩ := own_shape ho
      clear ho hl hin hd he
      go_wp2
      go_ret
      exact ⟨_, rfl, HR.out, HE.out⟩
    have hlt' : (j : Int) < n := by omega
    obtain ⟨zs, ho, hl, hin, hd, he⟩ := HR.out
    have HO := Lib.hid ho
    have HL := Lib.hid hl
    have HIN := Lib.hid hin
    have HD := Lib.hid hd
    have HEL := Lib.hid he
    obtain ⟨a2, c3, rfl, _, _, _⟩ := own_shape ho
    clear ho hl hin hd he
    obtain ⟨b, off, rfl, hbk, hcell⟩ := HH.out (by rw [RL_len]; omega)
    obtain ⟨va, vb, z0', z1', z2', r1, r2⟩ := hcell j (by rw [RL_len]; exact hlt)
    rw [RL_at] at z0' r1 r2
    have s12 : (R j).m1 ≤ 1048576 ∧ (R j).m2 ≤ 1048576 := by have := gsR_at R hlt; have := HS0.out; omega
    obtain ⟨s1, s2⟩ := s12
    clear hcell
    have hbr : b < wr.heap.size := by omega
    have z0 := (HE.out.cells.1 b _ hbk).trans z0'
    have z1 := (HE.out.cells.1 b _ hbk).trans z1'
    have z2 := (HE.out.cells.1 b _ hbk).trans z2'
    have HA1 := Lib.hid (r1.ext HE.out)
    have HA2 := Lib.hid (r2.ext HE.out)
    obtain ⟨_, aa, ca, rfl, _, _, _⟩ := r1
    obtain ⟨_, ab, cb, rfl, _, _, _⟩ := r2
    clear z0' z1' z2'
    have HSN := fun {w2 w3 : World} {v' va vb : Value} => Lib.hid (rsp_snoc (R := R) (w2 := w2) (w3 := w3) (v' := v') (va := va) (vb := vb) HO.out HL.out HIN.out HD.out HEL.out hsz)
    generalize (R j).t = t at *
    generalize (R j).m1 = m1 at *
    generalize (R j).m2 = m2 at *
    generalize (R j).xs = xs at *
    generalize (R j).ys = ys at *
    obtain ⟨w1, hw1⟩ : ∃ w1, w1 = wr.alloc (.cells #[.int .i64 t, .slice aa m1 ca, .slice ab m2 cb] 45 (0, 0)) := ⟨_, rfl⟩
    have hb1 : w1.heap[wr.heap.size]? = some (.cells #[.int .i64 t, .slice aa m1 ca, .slice ab m2 cb] 45 (0, 0)) := by rw [hw1]; exact heap_alloc_new _ _
    have hE1 : Ext wr w1 := by rw [hw1]; exact (Ext.refl _).alloc _
    have HE1 := Lib.hid hE1
    have zB := fun k => cell_of_row _ _ k _ _ _ hb1
    have lB := (Array.getElem?_eq_some_iff.1 hb1).1
    have HV1 : Hid (∀ W, Ext w1 W → RV W 3 (.slice aa m1 ca) m1 xs) := fun W hW => HA1.out.ext (hE1.trans hW)
    have HV2 : Hid (∀ W, Ext w1 W → RV W 3 (.slice ab m2 cb) m2 ys) := fun W hW => HA2.out.ext (hE1.trans hW)
    clear hE1 hb1
    go_upto_region 5 with fail
    rw [← hw1]
    clear hw1
    go_wp2
    refine Ex.wp_region_ex (m := 28) [.fn [] (fun _ => .slice a2 j c3), .fn [] (fun _ => .pointer (some ⟨wr.heap.size, 0, none⟩)), .fn [] (fun _ => .int .i64 t), .ex (Ex.PhN (w1) (fun n => .slice (some ⟨n, 0, none⟩) 0 0) 73 #[]) 1 [], .fn [] (fun _ => .pointer (some ⟨wr.heap.size, 1, none⟩)), .fn [] (fun _ => .slice aa m1 ca), .ex (Ex.PhS (w1) 73 3 (m1) (xs)) 1 [3], .ex (Ex.PhN (w1) (fun n => .slice (some ⟨n, 0, none⟩) 0 0) 73 #[]) 2 [], .fn [] (fun _ => .pointer (some ⟨wr.heap.size, 2, none⟩)), .fn [] (fun _ => .slice ab m2 cb), .ex (Ex.PhS (w1) 73 3 (m2) (ys)) 2 [7], .fn [6, 10] (fun u => .agg #[.int .i64 t, u.getD 0 undef, u.getD 1 undef]), .ex (PhR w1 t m1 xs m2 ys) 3 [6, 10]] (by kernel_rfl) (by kernel_rfl) rfl (by kernel_rfl) (by kernel_rfl) (Ex.mono_fn (Ex.mono_fn (Ex.mono_fn (Ex.mono_ex (Ex.phN_mono _ _ _ _) (Ex.mono_fn (Ex.mono_fn (Ex.mono_ex (Ex.phS_mono _ _ _ _ _) (Ex.mono_ex (Ex.phN_mono _ _ _ _) (Ex.mono_fn (Ex.mono_fn (Ex.mono_ex (Ex.phS_mono _ _ _ _ _) (Ex.mono_fn (Ex.mono_ex (phR_mono _ _ _ _ _ _) Ex.mono_nil))))))))))))) (fun sig3 => ?_)
    have hxc := fun (x : Xt (w1)) (b o : Nat) (h : b < (w1).heap.size) => x.ext.cells.1 b o h
    refine Ex.we_det ?_ ?_
    · first | (go_simp; done) | (go_simp; rfl) | (go_simp; (try intro x); (try go_bits); first | done | rfl | (simp; done) | (simp; omega))
    simp only [Act.put, List.setIfInBounds_toArray, List.set_cons_succ, List.set_cons_zero, List.nil_append, List.cons_append, Nat.zero_add, Nat.reduceAdd]
    refine Ex.we_det ?_ ?_
    · first | (go_simp; done) | (go_simp; rfl) | (go_simp; (try intro x); (try go_bits); first | done | rfl | (simp; done) | (simp; omega))
    simp only [Act.put, List.setIfInBounds_toArray, List.set_cons_succ, List.set_cons_zero, List.nil_append, List.cons_append, Nat.zero_add, Nat.reduceAdd]
    refine Ex.we_det ?_ ?_
    · first | (go_simp; done) | (go_simp; rfl) | (go_simp; (try intro x); (try go_bits); first | done | rfl | (simp; done) | (simp; omega))
    simp only [Act.put, List.setIfInBounds_toArray, List.set_cons_succ, List.set_cons_zero, List.nil_append, List.cons_append, Nat.zero_add, Nat.reduceAdd]
    refine Ex.we_new rfl (fun _ => rfl) (fun x => ?_) ?_
    · first | (go_simp; done) | (go_simp; rfl)
    simp only [Act.put, List.setIfInBounds_toArray, List.set_cons_succ, List.set_cons_zero, List.nil_append, List.cons_append, Nat.zero_add, Nat.reduceAdd]
    refine Ex.we_det ?_ ?_
    · first | (go_simp; done) | (go_simp; rfl) | (go_simp; (try intro x); (try go_bits); first | done | rfl | (simp; done) | (simp; omega))
    simp only [Act.put, List.setIfInBounds_toArray, List.set_cons_succ, List.set_cons_zero, List.nil_append, List.cons_append, Nat.zero_add, Nat.reduceAdd]
    refine Ex.we_det ?_ ?_
    · first | (go_simp; done) | (go_simp; rfl) | (go_simp; (try intro x); (try go_bits); first | done | rfl | (simp; done) | (simp; omega))
    simp only [Act.put, List.setIfInBounds_toArray, List.set_cons_succ, List.set_cons_zero, List.nil_append, List.cons_append, Nat.zero_add, Nat.reduceAdd]
    refine Ex.we_append (j := 3) elt_CG rfl rfl rfl (.slice aa m1 ca) (m1) (xs) rfl (HV1.out) (by omega) rfl ?_
    simp only [Act.put, List.setIfInBounds_toArray, List.set_cons_succ, List.set_cons_zero, List.nil_append, List.cons_append, Nat.zero_add, Nat.reduceAdd]
    refine Ex.we_new rfl (fun _ => rfl) (fun x => ?_) ?_
    · first | (go_simp; done) | (go_simp; rfl)
    simp only [Act.put, List.setIfInBounds_toArray, List.set_cons_succ, List.set_cons_zero, List.nil_append, List.cons_append, Nat.zero_add, Nat.reduceAdd]
    refine Ex.we_det ?_ ?_
    · first | (go_simp; done) | (go_simp; rfl) | (go_simp; (try intro x); (try go_bits); first | done | rfl | (simp; done) | (simp; omega))
    simp only [Act.put, List.setIfInBounds_toArray, List.set_cons_succ, List.set_cons_zero, List.nil_append, List.cons_append, Nat.zero_add, Nat.reduceAdd]
    refine Ex.we_det ?_ ?_
    · first | (go_simp; done) | (go_simp; rfl) | (go_simp; (try intro x); (try go_bits); first | done | rfl | (simp; done) | (simp; omega))
    simp only [Act.put, List.setIfInBounds_toArray, List.set_cons_succ, List.set_cons_zero, List.nil_append, List.cons_append, Nat.zero_add, Nat.reduceAdd]
    refine Ex.we_append (j := 7) elt_CG rfl rfl rfl (.slice ab m2 cb) (m2) (ys) rfl (HV2.out) (by omega) rfl ?_
    simp only [Act.put, List.setIfInBounds_toArray, List.set_cons_succ, List.set_cons_zero, List.nil_append, List.cons_append, Nat.zero_add, Nat.reduceAdd]
    refine Ex.we_fn rfl (fun W hxW hFW => ?_) ?_
    · (have h6 : Ex.PhS w1 73 3 m1 xs (sig3 6) W := hFW.phi 6 (by simp); have h10 : Ex.PhS w1 73 3 m2 ys (sig3 10) W := hFW.phi 10 (by simp); obtain ⟨s1, s2, s3, _⟩ := own_shape h6; obtain ⟨s4, s5, s6, _⟩ := own_shape h10; simp only [List.map_cons, List.map_nil, s3, s6]; go_simp)
    simp only [Act.put, List.setIfInBounds_toArray, List.set_cons_succ, List.set_cons_zero, List.nil_append, List.cons_append, Nat.zero_add, Nat.reduceAdd]
    refine Ex.we_ex rfl (fun W hxW hFW => ?_) ?_
    · (have h6 : Ex.PhS w1 73 3 m1 xs (sig3 6) W := hFW.phi 6 (by simp); have h10 : Ex.PhS w1 73 3 m2 ys (sig3 10) W := hFW.phi 10 (by simp); obtain ⟨s1, s2, s3, _⟩ := own_shape h6; obtain ⟨s4, s5, s6, _⟩ := own_shape h10; have d1 : ∀ b, Ex.blk (sig3 6) = some b → Ex.blk (sig3 10) = some b → False := hFW.dif 6 (by simp) 10 (by simp) (show (1 : Nat) ≠ 2 by decide) (show (1 : Nat) ≠ 0 by decide) (show (2 : Nat) ≠ 0 by decide); unfold Ex.PhS at h6 h10; have dj := fun k h1 h2 => d1 k (own_blk h6 k h1) (own_blk h10 k h2); clear d1; rw [s3] at h6 dj; rw [s6] at h10 dj; have H6 := Lib.hid h6; have H10 := Lib.hid h10; have DJ := Lib.hid dj; have HXW := Lib.hid hxW; clear h6 h10 dj hxW; simp only [List.map_cons, List.map_nil, List.getD_cons_zero, List.getD_cons_succ, s3, s6]; clear s3 s6; go_simp; refine ⟨(Ext.refl W).alloc _, ⟨_, _, _, rfl, HXW.out.size, heap_alloc_new W _, own_ext H6.out ((Ext.refl W).alloc _), own_ext H10.out ((Ext.refl W).alloc _), DJ.out⟩, fun _ b hb => ?_⟩; have hb' : W.heap.size = b := (by simpa [Ex.blk] using hb); subst hb'; exact ⟨by simp, .inl (Nat.le_refl _)⟩)
    simp only [Act.put, List.setIfInBounds_toArray, List.set_cons_succ, List.set_cons_zero, List.nil_append, List.cons_append, Nat.zero_add, Nat.reduceAdd]
    refine Ex.we_stop (fun w3 hx3 hF3 => ?_)
    clear hxc
    obtain ⟨B, va, vb, e12, hB1, hB3, h6, h10, d1⟩ : PhR w1 t m1 xs m2 ys (sig3 12) w3 := hF3.phi 12 (by simp)
    simp only [List.map_cons, List.map_nil, List.getD_cons_zero, List.getD_cons_succ, e12]
    have HDJ := Lib.hid d1
    have HX3 := Lib.hid (HE1.out.trans hx3)
    have hle := HE1.out.size
    have O1 := Lib.hid (own_base h6 hle)
    have O2 := Lib.hid (own_base h10 hle)
    have sx3 := hx3.size
    have HRV : Hid (RVV w3 3 (.slice (some ⟨B, 0, none⟩) 1 1) 1 [.int .i64 t, va, vb]) := RVV.ofHeap hB3 rfl rfl (by
      obtain ⟨_, _, rfl, _, _, _⟩ := own_shape h6
      obtain ⟨_, _, rfl, _, _, _⟩ := own_shape h10
      intro u hu; simp at hu; rcases hu with rfl | rfl | rfl <;> rfl)
    have HO4 := Lib.hid (own_ext HO.out HX3.out)
    have hbs : w.heap.size ≤ w3.heap.size := by omega
    clear h6 h10 d1 hx3 hF3 e12 hB3 zB lB z0 z1 z2
    go_wp2_with (at_builtin; go_loud (refine wpList_append_val (base := w.heap.size) rfl elt_RP rfl (.slice a2 j c3) j zs rfl HO4.out (.slice (some ⟨B, 0, none⟩) 1 1) 1 _ rfl HRV.out (by omega) hbs ?_); intro v5 w5 hown5 hgrow5 hiff5 hloc5; have HW5 := Lib.hid hown5; have HG5 := Lib.hid hgrow5; have HL5 := Lib.hid hloc5; obtain ⟨a5, c5, rfl, _, _, _⟩ := own_shape hown5; clear hown5 hgrow5 hloc5 hiff5)
    go_roundw
    case rel =>
      refine ⟨j + 1, _, by omega, rfl, by go_num, HSN.out HX3.out O1.out O2.out HDJ.out HW5.out HG5.out HL5.out, ?_⟩
      exact ext_grownB (HE.out.trans HX3.out) HG5.out HO4.out (Nat.le_refl _)
    case measure => simp [intOf]; omega

set_option maxRecDepth 20000 in
set_option maxHeartbeats 2000000 in
theorem copyCircuit_any (q : Int) {v : Value} {m : Nat} {xs : List Int} (hm : m ≤ 2000000) (w : World) (h : RV w 3 v m xs) :
    Calls Try.prog 37 #[.agg #[.int .i64 q, v]] w fun e w' => ∃ v', e = .returned (.agg #[.int .i64 q, v']) ∧ w'.ownsRow w.heap.size 73 3 v' m (IL xs) ∧ Ext w w' := by
  have HA := Lib.hid h
  obtain ⟨_, a, cap, rfl, _, _, _⟩ := h
  obtain ⟨w1, hw1⟩ : ∃ w1, w1 = (w.alloc (.cells #[.int .i64 q, .slice a m cap] 31 (0, 0))).alloc (.cells #[.int .i64 0, .slice none 0 0] 31 (0, 0)) := ⟨_, rfl⟩
  have hA1 : w1.heap[w.heap.size]? = some (.cells #[.int .i64 q, .slice a m cap] 31 (0, 0)) := by rw [hw1]; exact heap_alloc_lt (heap_alloc_new _ _)
  have HR1 : Hid (w1.heap[w.heap.size + 1]? = some (.cells #[.int .i64 0, .slice none 0 0] 31 (0, 0))) := by rw [hw1]; exact heap_alloc_at _ _ _ (by simp)
  have hE1 : Ext w w1 := by rw [hw1]; exact ((Ext.refl w).alloc _).alloc _
  have hs1 : w.heap.size + 2 ≤ w1.heap.size := by rw [hw1]; simp
  have HE1 := Lib.hid hE1
  have zB := fun k => cell_of_row _ _ k _ _ _ hA1
  have lB := (Array.getElem?_eq_some_iff.1 hA1).1
  have HV1 : Hid (∀ W, Ext w1 W → RV W 3 (.slice a m cap) m xs) := fun W hW => HA.out.ext (hE1.trans hW)
  clear hE1 hA1
  go_enter Try.func37, Try.ntmps37
  go_upto_region 1 with fail
  rw [← hw1]
  clear hw1
  go_wp2
  refine Ex.wp_region_ex (m := 10) [.fn [] (fun _ => .pointer (some ⟨w.heap.size, 0, none⟩)), .fn [] (fun _ => .int .i64 q), .ex (Ex.PhN (w1) (fun n => .slice (some ⟨n, 0, none⟩) 0 0) 73 #[]) 1 [], .fn [] (fun _ => .pointer (some ⟨w.heap.size, 1, none⟩)), .fn [] (fun _ => .slice a m cap), .ex (Ex.PhS (w1) 73 3 (m) (xs)) 1 [2]] (by kernel_rfl) (by kernel_rfl) rfl (by kernel_rfl) (by kernel_rfl) (Ex.mono_fn (Ex.mono_fn (Ex.mono_ex (Ex.phN_mono _ _ _ _) (Ex.mono_fn (Ex.mono_fn (Ex.mono_ex (Ex.phS_mono _ _ _ _ _) Ex.mono_nil)))))) (fun sig3 => ?_)
  have hxc := fun (x : Xt (w1)) (b o : Nat) (h : b < (w1).heap.size) => x.ext.cells.1 b o h
  refine Ex.we_det ?_ ?_
  · first | (go_simp; done) | (go_simp; rfl) | (go_simp; (try intro x); (try go_bits); first | done | rfl | (simp; done) | (simp; omega))
  simp only [Act.put, List.setIfInBounds_toArray, List.set_cons_succ, List.set_cons_zero, List.nil_append, List.cons_append, Nat.zero_add, Nat.reduceAdd]
  refine Ex.we_det ?_ ?_
  · first | (go_simp; done) | (go_simp; rfl) | (go_simp; (try intro x); (try go_bits); first | done | rfl | (simp; done) | (simp; omega))
  simp only [Act.put, List.setIfInBounds_toArray, List.set_cons_succ, List.set_cons_zero, List.nil_append, List.cons_append, Nat.zero_add, Nat.reduceAdd]
  refine Ex.we_new rfl (fun _ => rfl) (fun x => ?_) ?_
  · first | (go_simp; done) | (go_simp; rfl)
  simp only [Act.put, List.setIfInBounds_toArray, List.set_cons_succ, List.set_cons_zero, List.nil_append, List.cons_append, Nat.zero_add, Nat.reduceAdd]
  refine Ex.we_det ?_ ?_
  · first | (go_simp; done) | (go_simp; rfl) | (go_simp; (try intro x); (try go_bits); first | done | rfl | (simp; done) | (simp; omega))
  simp only [Act.put, List.setIfInBounds_toArray, List.set_cons_succ, List.set_cons_zero, List.nil_append, List.cons_append, Nat.zero_add, Nat.reduceAdd]
  refine Ex.we_det ?_ ?_
  · first | (go_simp; done) | (go_simp; rfl) | (go_simp; (try intro x); (try go_bits); first | done | rfl | (simp; done) | (simp; omega))
  simp only [Act.put, List.setIfInBounds_toArray, List.set_cons_succ, List.set_cons_zero, List.nil_append, List.cons_append, Nat.zero_add, Nat.reduceAdd]
  refine Ex.we_append (j := 2) elt_CG rfl rfl rfl (.slice a m cap) (m) (xs) rfl (HV1.out) (by omega) rfl ?_
  simp only [Act.put, List.setIfInBounds_toArray, List.set_cons_succ, List.set_cons_zero, List.nil_append, List.cons_append, Nat.zero_add, Nat.reduceAdd]
  refine Ex.we_stop (fun w3 hx3 hF3 => ?_)
  clear hxc
  have h5 : Ex.PhS w1 73 3 m xs (sig3 5) w3 := hF3.phi 5 (by simp)
  unfold Ex.PhS at h5
  obtain ⟨aO, cO, e5, _, _, _⟩ := own_shape h5
  simp only [List.map_cons, List.map_nil, List.getD_cons_zero, List.getD_cons_succ, e5]
  rw [e5] at h5
  have hR3 := row_farC HR1.out hx3
  have zR := fun k => cell_of_row _ _ k _ _ _ hR3
  have fR := fun k => frozen_of_row _ _ k _ _ hR3
  have lR := (Array.getElem?_eq_some_iff.1 hR3).1
  have O5 := Lib.hid h5
  have HX3 := Lib.hid (HE1.out.trans hx3)
  clear h5 hx3 hF3 e5 zB lB hR3
  go_wp2
  refine bodyPost_ret (v := .agg #[.int .i64 q, .slice aO m cO]) (by simp [results, Try.results37, go_sem, *]) rfl ?_
  have hx := HX3.out
  refine ⟨_, rfl, ?_, (by repeat (first | (with_reducible refine Ext.setCell ?_ (by first | (simp; done) | (simp; omega)) _) | with_reducible refine Ext.alloc ?_ _ | with_reducible refine Ext.drew ?_ | with_reducible refine Ext.drewN ?_ _ | with_reducible assumption | with_reducible exact Ext.refl _ | with_reducible refine Ext.trans ?_ (by with_reducible assumption)))⟩
  exact own_base (own_set (own_set O5.out (by simp; omega) _) (by simp; omega) _) (by omega)

set_option maxRecDepth 20000 in
set_option maxHeartbeats 2000000 in
theorem l4Own_any (q : Int) {v : Value} {m : Nat} {xs : List Int} (hm : m ≤ 2000000) (w : World) (h : RV w 3 v m xs) :
    Calls Try.prog 33 #[.agg #[.int .i64 q, v]] w fun e w' => ∃ v', e = .returned (.agg #[.int .i64 q, v']) ∧ w'.ownsRow w.heap.size 73 3 v' m (IL xs) ∧ Ext w w' := by
  have HA := Lib.hid h
  obtain ⟨_, a, cap, rfl, _, _, _⟩ := h
  obtain ⟨w1, hw1⟩ : ∃ w1, w1 = (w.alloc (.cells #[.int .i64 q, .slice a m cap] 31 (0, 0))).alloc (.cells #[.int .i64 0, .slice none 0 0] 31 (0, 0)) := ⟨_, rfl⟩
  have hA1 : w1.heap[w.heap.size]? = some (.cells #[.int .i64 q, .slice a m cap] 31 (0, 0)) := by rw [hw1]; exact heap_alloc_lt (heap_alloc_new _ _)
  have HR1 : Hid (w1.heap[w.heap.size + 1]? = some (.cells #[.int .i64 0, .slice none 0 0] 31 (0, 0))) := by rw [hw1]; exact heap_alloc_at _ _ _ (by simp)
  have hE1 : Ext w w1 := by rw [hw1]; exact ((Ext.refl w).alloc _).alloc _
  have hs1 : w.heap.size + 2 ≤ w1.heap.size := by rw [hw1]; simp
  have HE1 := Lib.hid hE1
  have zB := fun k => cell_of_row _ _ k _ _ _ hA1
  have lB := (Array.getElem?_eq_some_iff.1 hA1).1
  have HV1 : Hid (∀ W, Ext w1 W → RV W 3 (.slice a m cap) m xs) := fun W hW => HA.out.ext (hE1.trans hW)
  clear hE1 hA1
  go_enter Try.func33, Try.ntmps33
  go_upto_region 1 with fail
  rw [← hw1]
  clear hw1
  go_wp2
  refine Ex.wp_region_ex (m := 10) [.fn [] (fun _ => .pointer (some ⟨w.heap.size, 0, none⟩)), .fn [] (fun _ => .int .i64 q), .ex (Ex.PhN (w1) (fun n => .slice (some ⟨n, 0, none⟩) 0 0) 73 #[]) 1 [], .fn [] (fun _ => .pointer (some ⟨w.heap.size, 1, none⟩)), .fn [] (fun _ => .slice a m cap), .ex (Ex.PhS (w1) 73 3 (m) (xs)) 1 [2]] (by kernel_rfl) (by kernel_rfl) rfl (by kernel_rfl) (by kernel_rfl) (Ex.mono_fn (Ex.mono_fn (Ex.mono_ex (Ex.phN_mono _ _ _ _) (Ex.mono_fn (Ex.mono_fn (Ex.mono_ex (Ex.phS_mono _ _ _ _ _) Ex.mono_nil)))))) (fun sig3 => ?_)
  have hxc := fun (x : Xt (w1)) (b o : Nat) (h : b < (w1).heap.size) => x.ext.cells.1 b o h
  refine Ex.we_det ?_ ?_
  · first | (go_simp; done) | (go_simp; rfl) | (go_simp; (try intro x); (try go_bits); first | done | rfl | (simp; done) | (simp; omega))
  simp only [Act.put, List.setIfInBounds_toArray, List.set_cons_succ, List.set_cons_zero, List.nil_append, List.cons_append, Nat.zero_add, Nat.reduceAdd]
  refine Ex.we_det ?_ ?_
  · first | (go_simp; done) | (go_simp; rfl) | (go_simp; (try intro x); (try go_bits); first | done | rfl | (simp; done) | (simp; omega))
  simp only [Act.put, List.setIfInBounds_toArray, List.set_cons_succ, List.set_cons_zero, List.nil_append, List.cons_append, Nat.zero_add, Nat.reduceAdd]
  refine Ex.we_new rfl (fun _ => rfl) (fun x => ?_) ?_
  · first | (go_simp; done) | (go_simp; rfl)
  simp only [Act.put, List.setIfInBounds_toArray, List.set_cons_succ, List.set_cons_zero, List.nil_append, List.cons_append, Nat.zero_add, Nat.reduceAdd]
  refine Ex.we_det ?_ ?_
  · first | (go_simp; done) | (go_simp; rfl) | (go_simp; (try intro x); (try go_bits); first | done | rfl | (simp; done) | (simp; omega))
  simp only [Act.put, List.setIfInBounds_toArray, List.set_cons_succ, List.set_cons_zero, List.nil_append, List.cons_append, Nat.zero_add, Nat.reduceAdd]
  refine Ex.we_det ?_ ?_
  · first | (go_simp; done) | (go_simp; rfl) | (go_simp; (try intro x); (try go_bits); first | done | rfl | (simp; done) | (simp; omega))
  simp only [Act.put, List.setIfInBounds_toArray, List.set_cons_succ, List.set_cons_zero, List.nil_append, List.cons_append, Nat.zero_add, Nat.reduceAdd]
  refine Ex.we_append (j := 2) elt_CG rfl rfl rfl (.slice a m cap) (m) (xs) rfl (HV1.out) (by omega) rfl ?_
  simp only [Act.put, List.setIfInBounds_toArray, List.set_cons_succ, List.set_cons_zero, List.nil_append, List.cons_append, Nat.zero_add, Nat.reduceAdd]
  refine Ex.we_stop (fun w3 hx3 hF3 => ?_)
  clear hxc
  have h5 : Ex.PhS w1 73 3 m xs (sig3 5) w3 := hF3.phi 5 (by simp)
  unfold Ex.PhS at h5
  obtain ⟨aO, cO, e5, _, _, _⟩ := own_shape h5
  simp only [List.map_cons, List.map_nil, List.getD_cons_zero, List.getD_cons_succ, e5]
  rw [e5] at h5
  have hR3 := row_farC HR1.out hx3
  have zR := fun k => cell_of_row _ _ k _ _ _ hR3
  have fR := fun k => frozen_of_row _ _ k _ _ hR3
  have lR := (Array.getElem?_eq_some_iff.1 hR3).1
  have O5 := Lib.hid h5
  have HX3 := Lib.hid (HE1.out.trans hx3)
  clear h5 hx3 hF3 e5 zB lB hR3
  go_wp2
  refine bodyPost_ret (v := .agg #[.int .i64 q, .slice aO m cO]) (by simp [results, Try.results33, go_sem, *]) rfl ?_
  have hx := HX3.out
  refine ⟨_, rfl, ?_, (by repeat (first | (with_reducible refine Ext.setCell ?_ (by first | (simp; done) | (simp; omega)) _) | with_reducible refine Ext.alloc ?_ _ | with_reducible refine Ext.drew ?_ | with_reducible refine Ext.drewN ?_ _ | with_reducible assumption | with_reducible exact Ext.refl _ | with_reducible refine Ext.trans ?_ (by with_reducible assumption)))⟩
  exact own_base (own_set (own_set O5.out (by simp; omega) _) (by simp; omega) _) (by omega)

end Go.Proofs.Ytlbcjbeafampcaa
