/- Two-level matrices: the reference's loop. -/
import Derived.Test.YtlaajkdhegkpdaaTlS
import Derived.Test.YtlaajkdhegkpdaaExA
import Derived.Deep.Cut
namespace Go.Proofs.Ytlaajkdhegkpdaa
open Go.RowKit Go.Lib
set_option linter.unusedVariables false
set_option linter.unusedSimpArgs false

theorem elt_dT : Elt Try.prog 24 44 5 40 := elt_of (z := .agg #[.int .i64 0, .int .i64 0, .int .i64 0, .int .i64 0, .int .i64 0]) Try.underlying24 (by kernel_rfl) rfl (by decide) (by decide)
theorem own_gxT {S : List Nat} {w w' : World} {base : Nat} {e : TypeId} {size : Nat} {v : Value} {n : Nat} {xs : List Value} (h : w.ownsRow base e size v n xs) (hg : GX S w w') (hS : ∀ k, v.ownBlock = some k → k ∉ S) : w'.ownsRow base e size v n xs := by
  refine ⟨h.1, ?_⟩
  rcases h.2 with hn | ⟨g, cap, cur, hv, hb, hh, r⟩
  · exact .inl hn
  · have hl := (Array.getElem?_eq_some_iff.1 hh).1
    exact .inr ⟨g, cap, cur, hv, hb, (hg.heap hl (hS g (by rw [hv]; rfl))).trans hh, r⟩

/-- the state of the loop -/
structure LV (bc bm gm capm g cap B n N : Nat) (K : Int) (I J M : Nat) (w : World) (X : Nat → R4) (E : Nat → Int) (β : Bool) (wr : World) : Prop where
  own : wr.ownsRow (w.heap.size + 3) 44 5 (.slice (some ⟨g, 0, none⟩) N cap) N (IL (moL X E N))
  src : wr.ownsRow bm 44 5 (.slice (some ⟨gm, 0, none⟩) N capm) N (IL (moL (unX n n) (fun _ => 0) N))
  bad : wr.heap[bc]? = some (.cells #[.bool β] 37 (0, 0))
  m : wr.heap[w.heap.size]? = some (.cells #[.int .i64 n, .int .i64 n, .slice (some ⟨gm, 0, none⟩) N capm] 26 (0, 0))
  t : wr.heap[w.heap.size + 1]? = some (.cells #[.int .i64 K, .int .i64 I, .int .i64 J, .int .i64 M] 29 (0, 0))
  res : wr.heap[w.heap.size + 2]? = some (.cells #[.int .i64 0, .int .i64 0, .slice none 0 0] 26 (0, 0))
  out : wr.heap[B]? = some (.cells #[.int .i64 n, .int .i64 n, .slice (some ⟨g, 0, none⟩) N cap] 26 (0, 0))
  gx : GX [bc] w wr
/-- which blocks differ -/
structure LC (bc bm gm g B : Nat) (w : World) : Prop where
  f1 : bc < w.heap.size
  f2 : gm < w.heap.size
  f3 : bc ≠ gm
  f4 : w.heap.size + 3 ≤ B
  f5 : w.heap.size + 3 ≤ g
  f6 : B ≠ g
theorem LV.gl {bc bm gm capm g cap B n N : Nat} {K : Int} {I J M : Nat} {w : World} {X : Nat → R4} {E : Nat → Int} {β : Bool} {wr : World} (h : LV bc bm gm capm g cap B n N K I J M w X E β wr) : g < wr.heap.size ∧ B < wr.heap.size ∧ gm < wr.heap.size ∧ bc < wr.heap.size ∧ w.heap.size + 2 < wr.heap.size :=
  ⟨(h.own.lt g rfl).2, (Array.getElem?_eq_some_iff.1 h.out).1, (h.src.lt gm rfl).2, (Array.getElem?_eq_some_iff.1 h.bad).1, (Array.getElem?_eq_some_iff.1 h.res).1⟩
theorem LV.keep {bc bm gm capm g cap B n N : Nat} {K : Int} {I J M : Nat} {w : World} {X : Nat → R4} {E : Nat → Int} {β β' : Bool} {wr wa : World} {S : List Nat} (h : LV bc bm gm capm g cap B n N K I J M w X E β wr) (hc : LC bc bm gm g B w) (hg : GX S wr wa) (hS : ∀ s, s ∈ S → s = bc ∨ wr.heap.size ≤ s)
    (hb : wa.heap[bc]? = some (.cells #[.bool β'] 37 (0, 0))) : LV bc bm gm capm g cap B n N K I J M w X E β' wa := by
  obtain ⟨l1, l2, l3, l4, l5⟩ := h.gl
  obtain ⟨c1, c2, c3, c4, c5, c6⟩ := hc
  have far : ∀ q, q < wr.heap.size → q ≠ bc → q ∉ S := fun q hq hn hm => by rcases hS q hm with e | e; exact hn e; omega
  refine ⟨own_gxT h.own hg (fun k hk => ?_), own_gxT h.src hg (fun k hk => ?_), hb, (hg.heap (by omega) (far _ (by omega) (by omega))).trans h.m, (hg.heap (by omega) (far _ (by omega) (by omega))).trans h.t,
    (hg.heap (by omega) (far _ (by omega) (by omega))).trans h.res, (hg.heap (by omega) (far _ (by omega) (by omega))).trans h.out, h.gx.join hg (fun s hs => ?_)⟩
  · have : g = k := by simpa [Value.ownBlock] using hk
    exact far k (by omega) (by omega)
  · have : gm = k := by simpa [Value.ownBlock] using hk
    exact far k (by omega) (by omega)
  · rcases hS s hs with e | e
    · exact .inl (by simp [e])
    · have := h.gx.size
      exact .inr (by omega)
theorem LV.store {bc bm gm capm g cap B n N p : Nat} {K : Int} {I J M : Nat} {w : World} {X : Nat → R4} {E : Nat → Int} {β : Bool} {wr : World} (h : LV bc bm gm capm g cap B n N K I J M w X E β wr) (hc : LC bc bm gm g B w) (hp : p < N) (x : R4) (e : Int) :
    LV bc bm gm capm g cap B n N K I J M w (upX X p x) (upE E p e) β (((((wr.setCell ⟨g, p * 5, none⟩ (.int .i64 x.a)).setCell ⟨g, p * 5 + 1, none⟩ (.int .i64 x.b)).setCell ⟨g, p * 5 + 2, none⟩ (.int .i64 x.c)).setCell ⟨g, p * 5 + 3, none⟩ (.int .i64 x.d)).setCell ⟨g, p * 5 + 4, none⟩ (.int .i64 e)) := by
  obtain ⟨c1, c2, c3, c4, c5, c6⟩ := hc
  have hG : GX [g] wr (((((wr.setCell ⟨g, p * 5, none⟩ (.int .i64 x.a)).setCell ⟨g, p * 5 + 1, none⟩ (.int .i64 x.b)).setCell ⟨g, p * 5 + 2, none⟩ (.int .i64 x.c)).setCell ⟨g, p * 5 + 3, none⟩ (.int .i64 x.d)).setCell ⟨g, p * 5 + 4, none⟩ (.int .i64 e)) :=
    (((((GX.refl [g] wr).setCell (.inl (by simp)) _).setCell (.inl (by simp)) _).setCell (.inl (by simp)) _).setCell (.inl (by simp)) _).setCell (.inl (by simp)) _
  refine ⟨own_up h.own hp x e, own_gxT h.src hG (fun k hk => ?_), heap_sets5 (by omega) h.bad, heap_sets5 (by omega) h.m, heap_sets5 (by omega) h.t, heap_sets5 (by omega) h.res, heap_sets5 (by omega) h.out, h.gx.join hG (fun s hs => ?_)⟩
  · have : gm = k := by simpa [Value.ownBlock] using hk
    simp
    omega
  · have : s = g := by simpa using hs
    exact .inr (by omega)
/-- a cell that is read -/
theorem LV.cell {bc bm gm capm g cap B n N p : Nat} {K : Int} {I J M : Nat} {w : World} {X : Nat → R4} {E : Nat → Int} {β : Bool} {wr : World} (h : LV bc bm gm capm g cap B n N K I J M w X E β wr) (hp : p < N) {Z : R4} (hZ : unX n n p = Z) :
    wr.cell? ⟨gm, p * 5, none⟩ = some (.int .i64 Z.a) ∧ wr.cell? ⟨gm, p * 5 + 1, none⟩ = some (.int .i64 Z.b) ∧ wr.cell? ⟨gm, p * 5 + 2, none⟩ = some (.int .i64 Z.c) ∧ wr.cell? ⟨gm, p * 5 + 3, none⟩ = some (.int .i64 Z.d) ∧ wr.cell? ⟨gm, p * 5 + 4, none⟩ = some (.int .i64 0) := by
  subst hZ
  obtain ⟨a, c, e, _, _, H⟩ := own_shape h.src
  obtain ⟨g', rfl, _, _, x2, _⟩ := H (by omega)
  obtain ⟨e1, _⟩ : gm = g' ∧ capm = c := by simpa using e
  subst e1
  obtain ⟨m0, m1, m2, m3, m4⟩ := moL_at (unX n n) (fun _ => 0) hp
  exact ⟨x2 _ _ m0, x2 _ _ m1, x2 _ _ m2, x2 _ _ m3, x2 _ _ m4⟩
theorem LV.congr {bc bm gm capm g cap B n N : Nat} {K : Int} {I J M : Nat} {w : World} {X X' : Nat → R4} {E E' : Nat → Int} {β : Bool} {wr : World} (h : LV bc bm gm capm g cap B n N K I J M w X E β wr) (hs : moL X E N = moL X' E' N) : LV bc bm gm capm g cap B n N K I J M w X' E' β wr :=
  ⟨by rw [← hs]; exact h.own, h.src, h.bad, h.m, h.t, h.res, h.out, h.gx⟩
theorem LV.rowAt {bc bm gm capm g cap B n N p : Nat} {K : Int} {I J M : Nat} {w : World} {X : Nat → R4} {E : Nat → Int} {β : Bool} {wr : World} (h : LV bc bm gm capm g cap B n N K I J M w X E β wr) (hp : p < N) :
    ∃ y0 y1 y2 y3 y4, wr.cell? ⟨g, p * 5, none⟩ = some y0 ∧ wr.cell? ⟨g, p * 5 + 1, none⟩ = some y1 ∧ wr.cell? ⟨g, p * 5 + 2, none⟩ = some y2 ∧ wr.cell? ⟨g, p * 5 + 3, none⟩ = some y3 ∧ wr.cell? ⟨g, p * 5 + 4, none⟩ = some y4 := by
  have hl5 : (IL (moL X E N)).length = N * 5 := by rw [il_length, moL_len]
  obtain ⟨y0, q0⟩ := own_at h.own hl5 (k := p * 5) (by omega)
  obtain ⟨y1, q1⟩ := own_at h.own hl5 (k := p * 5 + 1) (by omega)
  obtain ⟨y2, q2⟩ := own_at h.own hl5 (k := p * 5 + 2) (by omega)
  obtain ⟨y3, q3⟩ := own_at h.own hl5 (k := p * 5 + 3) (by omega)
  obtain ⟨y4, q4⟩ := own_at h.own hl5 (k := p * 5 + 4) (by omega)
  exact ⟨y0, y1, y2, y3, y4, q0, q1, q2, q3, q4⟩
theorem un_at {n i k : Nat} (hk : k < n) : unX n n (i * n + k) = oz (i == k) := by
  obtain ⟨d1, d2⟩ := pair_dm (i := i) hk
  unfold unX
  rw [d1, d2]
  simp [hk]

set_option maxRecDepth 20000 in
set_option maxHeartbeats 8000000 in
theorem level_any (bc n I J M : Nat) (K : Int) (hn : 1 ≤ n ∧ n ≤ 8) (hI : I < n) (hJ : J < n) (hM : M < 8) (hK : K = 1 ∨ (K = 2 ∧ I < J ∧ M = 0) ∨ (K = 3 ∧ I < J)) {N gm bm capm : Nat} (hN : n * n = N) (w : World)
    (hb : w.heap[bc]? = some (.cells #[.bool false] 37 (0, 0))) (hbm : bc < bm) (hm : w.ownsRow bm 44 5 (.slice (some ⟨gm, 0, none⟩) N capm) N (IL (moL (unX n n) (fun _ => 0) N))) :
    Calls Try.prog 11 #[.pointer (some ⟨bc, 0, none⟩), .agg #[.int .i64 n, .int .i64 n, .slice (some ⟨gm, 0, none⟩) N capm], .agg #[.int .i64 K, .int .i64 I, .int .i64 J, .int .i64 M]] w fun en w' => ∃ a cap, en = .returned (.agg #[.int .i64 n, .int .i64 n, .slice a N cap]) ∧
      w'.ownsRow w.heap.size 44 5 (.slice a N cap) N (IL (moL (lvX K I J M n n) (fun p => (lvE K I J M n n p : Int)) N)) ∧ GX [bc] w w' := by
  have hnn : N ≤ 64 := by rw [← hN]; exact Nat.le_trans (Nat.mul_le_mul hn.2 hn.2) (by decide)
  have hN1 : 0 < N := by rw [← hN]; exact Nat.mul_pos (by omega) (by omega)
  have HIN : Hid (∀ i k, i < n → k < n → i * n + k < N) := fun i k h h2 => by
    rw [← hN]
    have : (i + 1) * n ≤ n * n := Nat.mul_le_mul_right n h
    rw [Nat.succ_mul] at this
    omega
  have HP := fun w' => Lib.hid (l2PowerT_any M hM w')
  have lbc : bc < w.heap.size := (Array.getElem?_eq_some_iff.1 hb).1
  have lgm := hm.lt gm rfl
  have hlen : (moL (unX n n) (fun _ => 0) N).length = N * 5 := moL_len _ _ N
  obtain ⟨hcap1, hcap2⟩ : N ≤ capm ∧ capm ≤ maxLen := by
    obtain ⟨a, c, e, h1, h2, _⟩ := own_shape hm
    obtain ⟨_, rfl⟩ : some (⟨gm, 0, none⟩ : Addr) = a ∧ capm = c := by simpa using e
    exact ⟨h1, h2⟩
  obtain ⟨w1, hw1⟩ : ∃ w1, w1 = ((w.alloc (.cells #[.int .i64 n, .int .i64 n, .slice (some ⟨gm, 0, none⟩) N capm] 26)).alloc (.cells #[.int .i64 K, .int .i64 I, .int .i64 J, .int .i64 M] 29)).alloc (.cells #[.int .i64 0, .int .i64 0, .slice none 0 0] 26) := ⟨_, rfl⟩
  have hA1 : Hid (w1.heap[w.heap.size]? = some (.cells #[.int .i64 n, .int .i64 n, .slice (some ⟨gm, 0, none⟩) N capm] 26 (0, 0))) := by rw [hw1]; exact heap_alloc_lt (heap_alloc_lt (heap_alloc_new _ _))
  have hT1 : Hid (w1.heap[w.heap.size + 1]? = some (.cells #[.int .i64 K, .int .i64 I, .int .i64 J, .int .i64 M] 29 (0, 0))) := by rw [hw1]; exact heap_alloc_lt (heap_alloc_at _ _ _ (by simp))
  have hR1 : Hid (w1.heap[w.heap.size + 2]? = some (.cells #[.int .i64 0, .int .i64 0, .slice none 0 0] 26 (0, 0))) := by rw [hw1]; exact heap_alloc_at _ _ _ (by simp)
  have HE1 : Hid (Ext w w1) := by rw [hw1]; exact (((Ext.refl w).alloc _).alloc _).alloc _
  have hs1 : w1.heap.size = w.heap.size + 3 := by rw [hw1]; simp
  have HM1 := Lib.hid (own_ext hm HE1.out)
  have HB1 : Hid (w1.heap[bc]? = some (.cells #[.bool false] 37 (0, 0))) := (HE1.out.heap lbc).trans hb
  obtain ⟨LL, hLL⟩ : ∃ LL, moL (unX n n) (fun _ => 0) N = LL := ⟨_, rfl⟩
  have HRW : Hid (∀ W, Ext w1 W → RV W 5 (.slice (some ⟨gm, 0, none⟩) N capm) N LL) := fun W hW => RV.own (by rw [← hLL]; exact own_ext HM1.out hW) (by rw [← hLL]; exact hlen)
  have HLL := Lib.hid hLL
  clear hb hm hLL hlen
  have HN := Lib.hid hN
  clear hN
  have zA := fun k => cell_of_row _ _ k _ _ _ hA1.out
  have lA := (Array.getElem?_eq_some_iff.1 hA1.out).1
  go_enter Try.func11, Try.ntmps11
  go_upto_region 1 with fail
  rw [← hw1]
  clear hw1
  go_wp2
  refine Ex.wp_region_ex (m := 136) [.fn [] (fun _ => .pointer (some ⟨w.heap.size, 0, none⟩)), .fn [] (fun _ => .int .i64 n), .fn [] (fun _ => .pointer (some ⟨w.heap.size, 1, none⟩)), .fn [] (fun _ => .int .i64 n), .ex (Ex.PhN (w1) (fun n => .slice (some ⟨n, 0, none⟩) 0 0) 44 #[]) 1 [], .fn [] (fun _ => .pointer (some ⟨w.heap.size, 2, none⟩)), .fn [] (fun _ => .slice (some ⟨gm, 0, none⟩) N capm), .ex (Ex.PhS (w1) 44 5 (N) (LL)) 1 [4], .fn [7] (fun u => .agg #[.int .i64 n, .int .i64 n, u.getD 0 undef]), .ex (Ex.PhN (w1) (fun n => .pointer (some ⟨n, 0, none⟩)) 26 #[.int .i64 0, .int .i64 0, .slice none 0 0]) 2 []] (by kernel_rfl) (by kernel_rfl) rfl (by kernel_rfl) (by kernel_rfl) (Ex.mono_fn (Ex.mono_fn (Ex.mono_fn (Ex.mono_fn (Ex.mono_ex (Ex.phN_mono _ _ _ _) (Ex.mono_fn (Ex.mono_fn (Ex.mono_ex (Ex.phS_mono _ _ _ _ _) (Ex.mono_fn (Ex.mono_ex (Ex.phN_mono _ _ _ _) Ex.mono_nil)))))))))) (fun sig2 => ?_)
  have hxc := fun (x : Xt (w1)) (b o : Nat) (h : b < (w1).heap.size) => x.ext.cells.1 b o h
  refine Ex.we_det ?_ ?_
  · first | (go_simp; done) | (go_simp; rfl) | (go_simp; (try intro x); (try go_bits); first | done | rfl | (simp; done) | (simp; omega))
  simp only [Act.put, List.setIfInBounds_toArray, List.set_cons_succ, List.set_cons_zero, List.nil_append, List.cons_append, Nat.zero_add, Nat.reduceAdd]
  refine Ex.we_det ?_ ?_
  · first | (go_simp; done) | (go_simp; rfl) | (go_simp; (try intro x); (try go_bits); first | done | rfl | (simp; done) | (simp; omega))
  simp only [Act.put, List.setIfInBounds_toArray, List.set_cons_succ, List.set_cons_zero, List.nil_append, List.cons_append, Nat.zero_add, Nat.reduceAdd]
  refine Ex.we_det ?_ ?_
  · first | (go_simp; done) | (go_simp; rfl) | (go_simp; (try intro x); (try go_bits); first | done | rfl | (simp; done) | (simp; omega))
  simp only [Act.put, List.setIfInBounds_toArray, List.set_cons_succ, List.set_cons_zero, List.nil_append, List.cons_append, Nat.zero_add, Nat.reduceAdd]
  refine Ex.we_det ?_ ?_
  · first | (go_simp; done) | (go_simp; rfl) | (go_simp; (try intro x); (try go_bits); first | done | rfl | (simp; done) | (simp; omega))
  simp only [Act.put, List.setIfInBounds_toArray, List.set_cons_succ, List.set_cons_zero, List.nil_append, List.cons_append, Nat.zero_add, Nat.reduceAdd]
  refine Ex.we_new rfl (fun _ => rfl) (fun x => ?_) ?_
  · first | (go_simp; done) | (go_simp; rfl)
  simp only [Act.put, List.setIfInBounds_toArray, List.set_cons_succ, List.set_cons_zero, List.nil_append, List.cons_append, Nat.zero_add, Nat.reduceAdd]
  refine Ex.we_det ?_ ?_
  · first | (go_simp; done) | (go_simp; rfl) | (go_simp; (try intro x); (try go_bits); first | done | rfl | (simp; done) | (simp; omega))
  simp only [Act.put, List.setIfInBounds_toArray, List.set_cons_succ, List.set_cons_zero, List.nil_append, List.cons_append, Nat.zero_add, Nat.reduceAdd]
  refine Ex.we_det ?_ ?_
  · first | (go_simp; done) | (go_simp; rfl) | (go_simp; (try intro x); (try go_bits); first | done | rfl | (simp; done) | (simp; omega))
  simp only [Act.put, List.setIfInBounds_toArray, List.set_cons_succ, List.set_cons_zero, List.nil_append, List.cons_append, Nat.zero_add, Nat.reduceAdd]
  refine Ex.we_append (j := 4) elt_dT rfl rfl rfl (.slice (some ⟨gm, 0, none⟩) N capm) (N) (LL) rfl (HRW.out) (by omega) rfl ?_
  simp only [Act.put, List.setIfInBounds_toArray, List.set_cons_succ, List.set_cons_zero, List.nil_append, List.cons_append, Nat.zero_add, Nat.reduceAdd]
  refine Ex.we_fn rfl (fun W hxW hFW => ?_) ?_
  · (have h7 : Ex.PhS w1 44 5 N LL (sig2 7) W := hFW.phi 7 (by simp); obtain ⟨s1, s2, s3, _⟩ := own_shape h7; simp only [List.map_cons, List.map_nil, s3]; go_simp)
  simp only [Act.put, List.setIfInBounds_toArray, List.set_cons_succ, List.set_cons_zero, List.nil_append, List.cons_append, Nat.zero_add, Nat.reduceAdd]
  refine Ex.we_new rfl (fun _ => rfl) (fun x => ?_) ?_
  · first | (go_simp; done) | (go_simp; rfl)
  simp only [Act.put, List.setIfInBounds_toArray, List.set_cons_succ, List.set_cons_zero, List.nil_append, List.cons_append, Nat.zero_add, Nat.reduceAdd]
  refine Ex.we_stop (fun w2 hx2 hF2 => ?_)
  clear hxc
  have h7 : Ex.PhS w1 44 5 N LL (sig2 7) w2 := hF2.phi 7 (by simp)
  obtain ⟨B, hB1, hB2, hB3⟩ : Ex.PhN w1 (fun n => .pointer (some ⟨n, 0, none⟩)) 26 #[.int .i64 0, .int .i64 0, .slice none 0 0] (sig2 9) w2 := hF2.phi 9 (by simp)
  have d1 : ∀ b, Ex.blk (sig2 7) = some b → Ex.blk (sig2 9) = some b → False := hF2.dif 7 (by simp) 9 (by simp) (show (1 : Nat) ≠ 2 by decide) (show (1 : Nat) ≠ 0 by decide) (show (2 : Nat) ≠ 0 by decide)
  unfold Ex.PhS at h7
  obtain ⟨aO, cO, e7, c1, c2, H7⟩ := own_shape h7
  obtain ⟨g, hg0, _, _, _, _⟩ := H7 hN1
  subst hg0
  simp only [List.map_cons, List.map_nil, List.getD_cons_zero, List.getD_cons_succ, e7, hB1]
  rw [e7] at h7 d1
  rw [hB1] at d1
  have hBg : B ≠ g := fun e => d1 g rfl (by rw [e]; rfl)
  have lg := h7.lt g rfl
  rw [hs1] at lg hB2
  have HC : Hid (LC bc bm gm g B w) := ⟨lbc, lgm.2, by omega, hB2, lg.1, hBg⟩
  obtain ⟨w3, hw3⟩ : ∃ w3, w3 = ((w2.setCell ⟨B, 0, none⟩ (.int .i64 n)).setCell ⟨B, 1, none⟩ (.int .i64 n)).setCell ⟨B, 2, none⟩ (.slice (some ⟨g, 0, none⟩) N cO) := ⟨_, rfl⟩
  have hg3 : GX [B] w2 w3 := by rw [hw3]; exact (((GX.refl [B] w2).setCell (.inl (by simp)) _).setCell (.inl (by simp)) _).setCell (.inl (by simp)) _
  have HX3 : Hid (Ext w1 w3) := by rw [hw3]; exact ((hx2.setCell (by simp; omega) _).setCell (by simp; omega) _).setCell (by simp; omega) _
  have hOut3 : w3.heap[B]? = some (.cells #[.int .i64 n, .int .i64 n, .slice (some ⟨g, 0, none⟩) N cO] 26 (0, 0)) := by
    rw [hw3]
    exact heap_set_at (heap_set_at (heap_set_at hB3 0 _) 1 _) 2 _
  have hkp : ∀ {q : Nat} {o : Obj}, w1.heap[q]? = some o → w3.heap[q]? = some o := fun h => (HX3.out.heap (Array.getElem?_eq_some_iff.1 h).1).trans h
  have HL3 : Hid (LV bc bm gm capm g cO B n N K I J M w (lvX K I J M n 0) (fun p => (lvE K I J M n 0 p : Int)) false w3) := by
    refine ⟨?_, own_ext HM1.out HX3.out, hkp HB1.out, hkp hA1.out, hkp hT1.out, hkp hR1.out, hOut3, GX.ofExt (HE1.out.trans HX3.out)⟩
    have h := own_gxT h7 hg3 (fun k hk => by have : g = k := by simpa [Value.ownBlock] using hk
                                             simp; omega)
    rw [← HLL.out, un_full K I J M (by omega), hs1] at h
    exact h
  have zB := fun k => cell_of_row _ _ k _ _ _ hB3
  have fB := fun k => frozen_of_row _ _ k _ _ hB3
  have lB := (Array.getElem?_eq_some_iff.1 hB3).1
  clear hg3 hOut3 hkp h7 d1 e7 hB1 H7 hF2 hx2 hB3 HRW HM1 HB1 HLL hA1 hT1 hR1 HE1 HX3 c1 c2
  go_upto_region 2 with fail
  rw [← hw3]
  clear hw3 zB fB lB zA lA
  clear hs1
  go_wp2
  go_loopw [8, 9, 10, 11, 93, 111] (fun s8 _ _ _ _ _ wr => ∃ (k : Nat) (β : Bool), k ≤ n ∧ s8 = .int .i64 k ∧ Hid (LV bc bm gm capm g cO B n N K I J M w (lvX K I J M n k) (fun p => (lvE K I J M n k p : Int)) β wr)) (fun s8 _ _ _ _ _ _ => n - (intOf s8).toNat)
  case atStart => exact ⟨0, false, by omega, rfl, HL3⟩
  case round =>
    clear HL3
    obtain ⟨k, β, hk, rfl, HL⟩ := hrel
    obtain ⟨l1, l2, l3, l4, l5⟩ := HL.out.gl
    have zA := fun q => cell_of_row _ _ q _ _ _ HL.out.m
    have zT := fun q => cell_of_row _ _ q _ _ _ HL.out.t
    have lA : w.heap.size < wr.heap.size := by omega
    have lT : w.heap.size + 1 < wr.heap.size := by omega
    by_cases hlt : k < n
    · have hlt' : (k : Int) < n := by omega
      clear zA zT lA lT l1 l2 l3 l4 l5
      obtain ⟨p, hp⟩ : ∃ p, I * n + k = p := ⟨_, rfl⟩
      obtain ⟨q, hq⟩ : ∃ q, J * n + k = q := ⟨_, rfl⟩
      have hpN : p < N := by rw [← hp]; exact HIN.out I k hI hlt
      have hqN : q < N := by rw [← hq]; exact HIN.out J k hJ hlt
      have hpi : (I : Int) * n + k = (p : Int) := by rw [← hp]; push_cast; rfl
      have hqi : (J : Int) * n + k = (q : Int) := by rw [← hq]; push_cast; rfl
      have hm1 := mul_bd (a := (I : Int)) (b := (n : Int)) (A := 8) (B := 8) (by omega) (by omega) (by omega) (by omega)
      have hm2 := mul_bd (a := (J : Int)) (b := (n : Int)) (A := 8) (B := 8) (by omega) (by omega) (by omega) (by omega)
      have hpN' : (p : Int) < N := by omega
      have hqN' : (q : Int) < N := by omega
      have HSV := Lib.hid (sv_of K I J M k hM)
      have HXC := Lib.hid (HL.out.cell hpN (Z := oz (I == k)) (by rw [← hp]; exact un_at hlt))
      have HYC : Hid (∀ {β : Bool} {X : Nat → R4} {E : Nat → Int} {W : World}, LV bc bm gm capm g cO B n N K I J M w X E β W → W.cell? ⟨gm, q * 5, none⟩ = some (.int .i64 (oz (J == k)).a) ∧ W.cell? ⟨gm, q * 5 + 1, none⟩ = some (.int .i64 (oz (J == k)).b) ∧ W.cell? ⟨gm, q * 5 + 2, none⟩ = some (.int .i64 (oz (J == k)).c) ∧ W.cell? ⟨gm, q * 5 + 3, none⟩ = some (.int .i64 (oz (J == k)).d) ∧ W.cell? ⟨gm, q * 5 + 4, none⟩ = some (.int .i64 0)) := fun h => h.cell hqN (Z := oz (J == k)) (by rw [← hq]; exact un_at hlt)
      have HMY : ∀ (b : Bool) (w' : World), w'.heap[bc]? = some (.cells #[.bool b] 37 (0, 0)) → Hid (Calls Try.prog 22 #[.pointer (some ⟨bc, 0, none⟩), .agg #[.int .i64 (om M).a, .int .i64 (om M).b, .int .i64 (om M).c, .int .i64 (om M).d, .int .i64 0], .agg #[.int .i64 (oz (J == k)).a, .int .i64 (oz (J == k)).b, .int .i64 (oz (J == k)).c, .int .i64 (oz (J == k)).d, .int .i64 0]] w' fun e w2 => e = .returned (.agg #[.int .i64 (syX M (J == k)).a, .int .i64 (syX M (J == k)).b, .int .i64 (syX M (J == k)).c, .int .i64 (syX M (J == k)).d, .int .i64 0]) ∧ w'.grownBy w2 (some bc) ∧ w2.heap[bc]? = some (.cells #[.bool (b || mvBad (om M) 0 (oz (J == k)) 0)] 37 (0, 0))) := fun b w' h => by
        have hh := mul_any bc b (om M) 0 (oz (J == k)) 0 HSV.out.rP (by omega) HSV.out.rY (by omega) w' h
        have he : mvE (om M) 0 (oz (J == k)) 0 = 0 := HSV.out.se
        rw [he] at hh
        exact hh
      have HMX : ∀ (b : Bool) (w' : World), w'.heap[bc]? = some (.cells #[.bool b] 37 (0, 0)) → Hid (Calls Try.prog 22 #[.pointer (some ⟨bc, 0, none⟩), .agg #[.int .i64 (om M).a, .int .i64 (om M).b, .int .i64 (om M).c, .int .i64 (om M).d, .int .i64 0], .agg #[.int .i64 (oz (I == k)).a, .int .i64 (oz (I == k)).b, .int .i64 (oz (I == k)).c, .int .i64 (oz (I == k)).d, .int .i64 0]] w' fun e w2 => e = .returned (.agg #[.int .i64 (mvX (om M) 0 (oz (I == k)) 0).a, .int .i64 (mvX (om M) 0 (oz (I == k)) 0).b, .int .i64 (mvX (om M) 0 (oz (I == k)) 0).c, .int .i64 (mvX (om M) 0 (oz (I == k)) 0).d, .int .i64 (mvE (om M) 0 (oz (I == k)) 0 : Nat)]) ∧ w'.grownBy w2 (some bc) ∧ w2.heap[bc]? = some (.cells #[.bool (b || mvBad (om M) 0 (oz (I == k)) 0)] 37 (0, 0))) := fun b w' h => mul_any bc b (om M) 0 (oz (I == k)) 0 HSV.out.rP (by omega) HSV.out.rX (by omega) w' h
      have HAD : ∀ (b : Bool) (w' : World), w'.heap[bc]? = some (.cells #[.bool b] 37 (0, 0)) → Hid (Calls Try.prog 24 #[.pointer (some ⟨bc, 0, none⟩), .agg #[.int .i64 (oz (I == k)).a, .int .i64 (oz (I == k)).b, .int .i64 (oz (I == k)).c, .int .i64 (oz (I == k)).d, .int .i64 0], .agg #[.int .i64 (syX M (J == k)).a, .int .i64 (syX M (J == k)).b, .int .i64 (syX M (J == k)).c, .int .i64 (syX M (J == k)).d, .int .i64 0]] w' fun e w2 => e = .returned (.agg #[.int .i64 (saX M (I == k) (J == k)).a, .int .i64 (saX M (I == k) (J == k)).b, .int .i64 (saX M (I == k) (J == k)).c, .int .i64 (saX M (I == k) (J == k)).d, .int .i64 (saE M (I == k) (J == k) : Nat)]) ∧ w'.grownBy w2 (some bc) ∧ w2.heap[bc]? = some (.cells #[.bool (b || dyBad (oz (I == k)) 0 (syX M (J == k)) 0)] 37 (0, 0))) := fun b w' h => by
        have hh := add_any bc b (oz (I == k)) 0 (syX M (J == k)) 0 HSV.out.rX (by omega) HSV.out.sr (by omega) w' h
        unfold saX saE
        rw [HSV.out.se]
        exact hh
      have HNG : ∀ (w' : World), Hid (Calls Try.prog 25 #[.agg #[.int .i64 (syX M (J == k)).a, .int .i64 (syX M (J == k)).b, .int .i64 (syX M (J == k)).c, .int .i64 (syX M (J == k)).d, .int .i64 0]] w' fun e w2 => e = .returned (.agg #[.int .i64 (syX M (J == k)).neg.a, .int .i64 (syX M (J == k)).neg.b, .int .i64 (syX M (J == k)).neg.c, .int .i64 (syX M (J == k)).neg.d, .int .i64 0]) ∧ Ext w' w2) := fun w' => l2Neg_any _ 0 HSV.out.sr w'
      have HAN : ∀ (b : Bool) (w' : World), w'.heap[bc]? = some (.cells #[.bool b] 37 (0, 0)) → Hid (Calls Try.prog 24 #[.pointer (some ⟨bc, 0, none⟩), .agg #[.int .i64 (oz (I == k)).a, .int .i64 (oz (I == k)).b, .int .i64 (oz (I == k)).c, .int .i64 (oz (I == k)).d, .int .i64 0], .agg #[.int .i64 (syX M (J == k)).neg.a, .int .i64 (syX M (J == k)).neg.b, .int .i64 (syX M (J == k)).neg.c, .int .i64 (syX M (J == k)).neg.d, .int .i64 0]] w' fun e w2 => e = .returned (.agg #[.int .i64 (sbX M (I == k) (J == k)).a, .int .i64 (sbX M (I == k) (J == k)).b, .int .i64 (sbX M (I == k) (J == k)).c, .int .i64 (sbX M (I == k) (J == k)).d, .int .i64 (sbE M (I == k) (J == k) : Nat)]) ∧ w'.grownBy w2 (some bc) ∧ w2.heap[bc]? = some (.cells #[.bool (b || dyBad (oz (I == k)) 0 (syX M (J == k)).neg 0)] 37 (0, 0))) := fun b w' h => by
        have hr : (syX M (J == k)).neg.rg = true := by rw [rg_neg]; exact HSV.out.sr
        have hh := add_any bc b (oz (I == k)) 0 (syX M (J == k)).neg 0 HSV.out.rX (by omega) hr (by omega) w' h
        unfold sbX sbE
        rw [HSV.out.se]
        exact hh
      have HMA : K = 3 → I < J → ∀ (b : Bool) (w' : World), w'.heap[bc]? = some (.cells #[.bool b] 37 (0, 0)) → Hid (Calls Try.prog 22 #[.pointer (some ⟨bc, 0, none⟩), .agg #[.int .i64 1, .int .i64 0, .int .i64 0, .int .i64 0, .int .i64 1], .agg #[.int .i64 (saX M (I == k) (J == k)).a, .int .i64 (saX M (I == k) (J == k)).b, .int .i64 (saX M (I == k) (J == k)).c, .int .i64 (saX M (I == k) (J == k)).d, .int .i64 (saE M (I == k) (J == k) : Nat)]] w' fun e w2 => e = .returned (.agg #[.int .i64 (tlX K I J M I k).a, .int .i64 (tlX K I J M I k).b, .int .i64 (tlX K I J M I k).c, .int .i64 (tlX K I J M I k).d, .int .i64 (tlE K I J M I k : Nat)]) ∧ w'.grownBy w2 (some bc) ∧ w2.heap[bc]? = some (.cells #[.bool (b || mvBad R4.one 1 (saX M (I == k) (J == k)) (saE M (I == k) (J == k)))] 37 (0, 0))) := fun h3 h4 b w' h => by
        obtain ⟨a1, a2, _, _⟩ := HSV.out.ar h3 h4
        have hh := mul_any bc b R4.one 1 (saX M (I == k) (J == k)) (saE M (I == k) (J == k)) (by decide) (by omega) a1 a2 w' h
        rw [← (HSV.out.h1 h3 h4).1, ← (HSV.out.h1 h3 h4).2]
        exact hh
      have HMB : K = 3 → I < J → ∀ (b : Bool) (w' : World), w'.heap[bc]? = some (.cells #[.bool b] 37 (0, 0)) → Hid (Calls Try.prog 22 #[.pointer (some ⟨bc, 0, none⟩), .agg #[.int .i64 1, .int .i64 0, .int .i64 0, .int .i64 0, .int .i64 1], .agg #[.int .i64 (sbX M (I == k) (J == k)).a, .int .i64 (sbX M (I == k) (J == k)).b, .int .i64 (sbX M (I == k) (J == k)).c, .int .i64 (sbX M (I == k) (J == k)).d, .int .i64 (sbE M (I == k) (J == k) : Nat)]] w' fun e w2 => e = .returned (.agg #[.int .i64 (tlX K I J M J k).a, .int .i64 (tlX K I J M J k).b, .int .i64 (tlX K I J M J k).c, .int .i64 (tlX K I J M J k).d, .int .i64 (tlE K I J M J k : Nat)]) ∧ w'.grownBy w2 (some bc) ∧ w2.heap[bc]? = some (.cells #[.bool (b || mvBad R4.one 1 (sbX M (I == k) (J == k)) (sbE M (I == k) (J == k)))] 37 (0, 0))) := fun h3 h4 b w' h => by
        obtain ⟨_, _, a1, a2⟩ := HSV.out.ar h3 h4
        have hh := mul_any bc b R4.one 1 (sbX M (I == k) (J == k)) (sbE M (I == k) (J == k)) (by decide) (by omega) a1 a2 w' h
        rw [← (HSV.out.h2 h3 h4).1, ← (HSV.out.h2 h3 h4).2]
        exact hh
      have HVw := Lib.hid HSV.out.w1
      have HVx := Lib.hid HSV.out.x1
      have HVy := Lib.hid HSV.out.x2
      have HVs := Lib.hid HSV.out.se
      clear HSV
      have HP1 := Lib.hid hp
      have HQ1 := Lib.hid hq
      clear hp hq
      generalize syX M (J == k) = Y2 at *
      generalize syE M (J == k) = e2 at *
      generalize oz (I == k) = Xx at *
      generalize oz (J == k) = Yy at *
      generalize mvX (om M) 0 Xx 0 = V1 at *
      generalize mvE (om M) 0 Xx 0 = f1 at *
      generalize mvBad (om M) 0 Xx 0 = b1 at *
      generalize mvBad (om M) 0 Yy 0 = b2 at *
      generalize dyBad Xx 0 Y2 0 = b3 at *
      generalize dyBad Xx 0 Y2.neg 0 = b4 at *
      generalize mvBad R4.one 1 (saX M (I == k) (J == k)) (saE M (I == k) (J == k)) = b5 at *
      generalize mvBad R4.one 1 (sbX M (I == k) (J == k)) (sbE M (I == k) (J == k)) = b6 at *
      generalize saX M (I == k) (J == k) = A1 at *
      generalize saE M (I == k) (J == k) = a1 at *
      generalize sbX M (I == k) (J == k) = A2 at *
      generalize sbE M (I == k) (J == k) = a2 at *
      obtain ⟨Pm, hPm⟩ : ∃ Pm, om M = Pm := ⟨_, rfl⟩
      simp only [hPm] at HP HMY HMX
      obtain ⟨T1, hT1⟩ : ∃ T1, tlX K I J M I k = T1 := ⟨_, rfl⟩
      obtain ⟨t1, ht1⟩ : ∃ t1, tlE K I J M I k = t1 := ⟨_, rfl⟩
      obtain ⟨T2, hT2⟩ : ∃ T2, tlX K I J M J k = T2 := ⟨_, rfl⟩
      obtain ⟨t2, ht2⟩ : ∃ t2, tlE K I J M J k = t2 := ⟨_, rfl⟩
      simp only [hT1, ht1] at HMA HVw HVx
      simp only [hT2, ht2] at HMB HVy
      have HT1 := Lib.hid (And.intro hT1 ht1)
      have HT2 := Lib.hid (And.intro hT2 ht2)
      clear hT1 ht1 hT2 ht2 hPm
      obtain ⟨wx, hwx⟩ : ∃ wx, wx = wr.alloc (.cells #[.int .i64 Xx.a, .int .i64 Xx.b, .int .i64 Xx.c, .int .i64 Xx.d, .int .i64 0] 44) := ⟨_, rfl⟩
      have HLx : Hid (LV bc bm gm capm g cO B n N K I J M w (lvX K I J M n k) (fun p => (lvE K I J M n k p : Int)) β wx) := by
        rw [hwx]
        exact HL.out.keep HC.out (S := []) ((GX.refl _ _).alloc _) (by simp) (heap_alloc_lt HL.out.bad)
      have HXB : Hid (wx.heap[wr.heap.size]? = some (.cells #[.int .i64 Xx.a, .int .i64 Xx.b, .int .i64 Xx.c, .int .i64 Xx.d, .int .i64 0] 44 (0, 0))) := by rw [hwx]; exact heap_alloc_new _ _
      have hxb : w.heap.size + 2 < wr.heap.size ∧ g < wr.heap.size ∧ B < wr.heap.size ∧ bc < wr.heap.size ∧ gm < wr.heap.size := by obtain ⟨l1, l2, l3, l4, l5⟩ := HL.out.gl; exact ⟨l5, l1, l2, l4, l3⟩
      obtain ⟨c1, c2, c3, c4, c5, c6⟩ := HC.out
      obtain ⟨x0, x1, x2, x3, x4⟩ := HXC.out
      have lG : gm < wr.heap.size := hxb.2.2.2.2
      have zA := fun q => cell_of_row _ _ q _ _ _ HL.out.m
      have lA := (Array.getElem?_eq_some_iff.1 HL.out.m).1
      have zT := fun q => cell_of_row _ _ q _ _ _ HL.out.t
      have lT := (Array.getElem?_eq_some_iff.1 HL.out.t).1
      have zO := fun q => cell_of_row _ _ q _ _ _ HL.out.out
      have lO := (Array.getElem?_eq_some_iff.1 HL.out.out).1
      go_upto_region 6 with fail
      rw [← hwx]
      clear hwx zA lA zT lT zO lO x0 x1 x2 x3 x4 lG HXC
      obtain ⟨y0, y1, y2, y3, y4⟩ := HYC.out HLx.out
      have lG : gm < wx.heap.size := (HLx.out.src.lt gm rfl).2
      have zA := fun q => cell_of_row _ _ q _ _ _ HLx.out.m
      have lA := (Array.getElem?_eq_some_iff.1 HLx.out.m).1
      have zT := fun q => cell_of_row _ _ q _ _ _ HLx.out.t
      have lT := (Array.getElem?_eq_some_iff.1 HLx.out.t).1
      have zO := fun q => cell_of_row _ _ q _ _ _ HLx.out.out
      have lO := (Array.getElem?_eq_some_iff.1 HLx.out.out).1
      go_wp2
      refine Wr.wp_region_wra (m := 136) (fun n => .pointer (some ⟨n, 0, none⟩)) 44 #[.int .i64 0, .int .i64 0, .int .i64 0, .int .i64 0, .int .i64 0] [⟨bc, 37, #[.bool β]⟩] (by kernel_rfl) (by kernel_rfl) rfl (by simp; try omega) ?_ ?_
      · intro s hs
        rcases s with _ | s
        · exact (show (World.heap _)[bc]? = some (Obj.cells #[.bool β] 37 (0, 0)) from HLx.out.bad)
        · simp at hs
          try omega
      refine Wr.wa_old (w.heap.size) (by first | omega | (simp; done) | (simp; omega)) (by first | (simp; done) | (simp; omega)) (fun hold0 => ?_)
      refine Wr.wa_old (w.heap.size + 1) (by first | omega | (simp; done) | (simp; omega)) (by first | (simp; done) | (simp; omega)) (fun hold1 => ?_)
      refine Wr.wa_old (gm) (by first | omega | (simp; done) | (simp; omega)) (by first | (simp; done) | (simp; omega)) (fun hold2 => ?_)
      (refine Wr.wa_plain ?_; apply Exists.intro; refine ⟨?_, ?_⟩; (first | (go_simp; (try intro x); (try go_bits); rfl)); simp only [Act.put, List.setIfInBounds_toArray, List.set_cons_succ, List.set_cons_zero, List.nil_append, List.cons_append])
      (refine Wr.wa_plain ?_; apply Exists.intro; refine ⟨?_, ?_⟩; (first | (go_simp; (try intro x); (try go_bits); rfl)); simp only [Act.put, List.setIfInBounds_toArray, List.set_cons_succ, List.set_cons_zero, List.nil_append, List.cons_append])
      (refine Wr.wa_plain ?_; apply Exists.intro; refine ⟨?_, ?_⟩; (first | (go_simp; (try intro x); (try go_bits); rfl)); simp only [Act.put, List.setIfInBounds_toArray, List.set_cons_succ, List.set_cons_zero, List.nil_append, List.cons_append])
      (refine Wr.wa_plain ?_; apply Exists.intro; refine ⟨?_, ?_⟩; (first | (go_simp; (try intro x); (try go_bits); rfl) | (go_simp; intro x; go_at_call 23; exact (HP _).out)); simp only [Act.put, List.setIfInBounds_toArray, List.set_cons_succ, List.set_cons_zero, List.nil_append, List.cons_append])
      (refine Wr.wa_plain ?_; apply Exists.intro; refine ⟨?_, ?_⟩; (first | (go_simp; (try intro x); (try go_bits); rfl)); simp only [Act.put, List.setIfInBounds_toArray, List.set_cons_succ, List.set_cons_zero, List.nil_append, List.cons_append])
      (refine Wr.wa_plain ?_; apply Exists.intro; refine ⟨?_, ?_⟩; (first | (go_simp; (try intro x); (try go_bits); rfl)); simp only [Act.put, List.setIfInBounds_toArray, List.set_cons_succ, List.set_cons_zero, List.nil_append, List.cons_append])
      (refine Wr.wa_plain ?_; apply Exists.intro; refine ⟨?_, ?_⟩; (first | (go_simp; (try intro x); (try go_bits); rfl)); simp only [Act.put, List.setIfInBounds_toArray, List.set_cons_succ, List.set_cons_zero, List.nil_append, List.cons_append])
      (refine Wr.wa_plain ?_; apply Exists.intro; refine ⟨?_, ?_⟩; (first | (go_simp; (try intro x); (try go_bits); rfl)); simp only [Act.put, List.setIfInBounds_toArray, List.set_cons_succ, List.set_cons_zero, List.nil_append, List.cons_append])
      (refine Wr.wa_plain ?_; apply Exists.intro; refine ⟨?_, ?_⟩; (first | (go_simp; (try intro x); (try go_bits); rfl)); simp only [Act.put, List.setIfInBounds_toArray, List.set_cons_succ, List.set_cons_zero, List.nil_append, List.cons_append])
      (refine Wr.wa_plain ?_; apply Exists.intro; refine ⟨?_, ?_⟩; (first | (go_simp; (try intro x); (try go_bits); rfl)); simp only [Act.put, List.setIfInBounds_toArray, List.set_cons_succ, List.set_cons_zero, List.nil_append, List.cons_append])
      (refine Wr.wa_plain ?_; apply Exists.intro; refine ⟨?_, ?_⟩; (first | (go_simp; (try intro x); (try go_bits); rfl)); simp only [Act.put, List.setIfInBounds_toArray, List.set_cons_succ, List.set_cons_zero, List.nil_append, List.cons_append])
      (refine Wr.wa_plain ?_; apply Exists.intro; refine ⟨?_, ?_⟩; (first | (go_simp; (try intro x); (try go_bits); rfl)); simp only [Act.put, List.setIfInBounds_toArray, List.set_cons_succ, List.set_cons_zero, List.nil_append, List.cons_append])
      (refine Wr.wa_plain ?_; apply Exists.intro; refine ⟨?_, ?_⟩; (first | (go_simp; (try intro x); (try go_bits); rfl)); simp only [Act.put, List.setIfInBounds_toArray, List.set_cons_succ, List.set_cons_zero, List.nil_append, List.cons_append])
      (refine Wr.wa_plain ?_; apply Exists.intro; refine ⟨?_, ?_⟩; (first | (go_simp; (try intro x); (try go_bits); rfl)); simp only [Act.put, List.setIfInBounds_toArray, List.set_cons_succ, List.set_cons_zero, List.nil_append, List.cons_append])
      (refine Wr.wa_plain ?_; apply Exists.intro; refine ⟨?_, ?_⟩; (first | (go_simp; (try intro x); (try go_bits); rfl)); simp only [Act.put, List.setIfInBounds_toArray, List.set_cons_succ, List.set_cons_zero, List.nil_append, List.cons_append])
      refine Wr.wa_call (.agg #[.int .i64 Y2.a, .int .i64 Y2.b, .int .i64 Y2.c, .int .i64 Y2.d, .int .i64 0]) 0 (bc) 37 #[.bool β] #[.bool (or β b2)] rfl (by simp) rfl rfl rfl (fun x => ?_) ?_
      · apply Exists.intro
        apply Exists.intro
        refine ⟨?_, ?_⟩
        · go_simp
          (try go_bits)
          first | rfl | exact ⟨rfl, rfl⟩
        · exact (HMY _ _ x.2.2).out
      simp only [Act.put, List.setIfInBounds_toArray, List.set_cons_succ, List.set_cons_zero, List.nil_append, List.cons_append]
      refine Wr.wa_stop (fun _ => by kernel_rfl) (by kernel_rfl) (by rfl) (fun W hW => ?_) (fun w4 B4 hg4 hs4 hB4 hm4 => ?_)
      · first | (go_simp; done) | (go_simp; rfl)
      simp only [Act.put, List.setIfInBounds_toArray, List.set_cons_succ, List.set_cons_zero, List.nil_append, List.cons_append]
      have hb4_0 : w4.heap[bc]? = some (.cells #[.bool (or β b2)] 37 (0, 0)) := hs4 0 (by simp)
      clear hs4
      simp only [List.map_cons, List.map_nil] at hg4
      clear zA lA zT lT zO lO y0 y1 y2 y3 y4 lG
      obtain ⟨w5, hw5⟩ : ∃ w5, w5 = ((((w4.setCell ⟨B4, 0, none⟩ (.int .i64 Y2.a)).setCell ⟨B4, 1, none⟩ (.int .i64 Y2.b)).setCell ⟨B4, 2, none⟩ (.int .i64 Y2.c)).setCell ⟨B4, 3, none⟩ (.int .i64 Y2.d)).setCell ⟨B4, 4, none⟩ (.int .i64 0) := ⟨_, rfl⟩
      have hsx : wx.heap.size ≤ B4 := by first | exact hB4 | exact hB4.1
      have lX : wr.heap.size < wx.heap.size := (Array.getElem?_eq_some_iff.1 HXB.out).1
      have hg5 : GX [bc, B4] wx w5 := by
        rw [hw5]
        have h : GX [bc, B4] wx w4 := hg4.mono (fun k hk => .inl (by simp at hk; simp [hk]))
        exact ((((h.setCell (.inl (by simp)) _).setCell (.inl (by simp)) _).setCell (.inl (by simp)) _).setCell (.inl (by simp)) _).setCell (.inl (by simp)) _
      have HL5 : Hid (LV bc bm gm capm g cO B n N K I J M w (lvX K I J M n k) (fun p => (lvE K I J M n k p : Int)) (or β b2) w5) :=
        HLx.out.keep HC.out hg5 (fun s hs => by simp at hs; omega) (by rw [hw5]; exact heap_sets5 (by omega) hb4_0)
      have HY5 : Hid (w5.heap[B4]? = some (.cells #[.int .i64 Y2.a, .int .i64 Y2.b, .int .i64 Y2.c, .int .i64 Y2.d, .int .i64 0] 44 (0, 0))) := by
        rw [hw5]
        exact heap_set_at (heap_set_at (heap_set_at (heap_set_at (heap_set_at hm4 0 _) 1 _) 2 _) 3 _) 4 _
      have HX5 : Hid (w5.heap[wr.heap.size]? = some (.cells #[.int .i64 Xx.a, .int .i64 Xx.b, .int .i64 Xx.c, .int .i64 Xx.d, .int .i64 0] 44 (0, 0))) := (hg5.heap lX (by simp; omega)).trans HXB.out
      have z4 := fun q => cell_of_row _ _ q _ _ _ hm4
      have f4 := fun q => frozen_of_row _ _ q _ _ hm4
      have l4 := (Array.getElem?_eq_some_iff.1 hm4).1
      clear hg5
      go_upto_region 7 with fail
      rw [← hw5]
      clear hw5 z4 f4 l4 hb4_0 hm4 hg4 HLx HXB HL
      clear HMY HYC
      rcases hK with rfl | ⟨rfl, hIJ, hM0⟩ | ⟨rfl, hIJ⟩
      · have HVw1 := Lib.hid (HVw.out rfl)
        clear HMA HMB HAD HAN HNG HVx HVy HVw
        have zA := fun q => cell_of_row _ _ q _ _ _ HL5.out.m
        have lA := (Array.getElem?_eq_some_iff.1 HL5.out.m).1
        have zT := fun q => cell_of_row _ _ q _ _ _ HL5.out.t
        have lT := (Array.getElem?_eq_some_iff.1 HL5.out.t).1
        have zO := fun q => cell_of_row _ _ q _ _ _ HL5.out.out
        have lO := (Array.getElem?_eq_some_iff.1 HL5.out.out).1
        have zX := fun q => cell_of_row _ _ q _ _ _ HX5.out
        have lX := (Array.getElem?_eq_some_iff.1 HX5.out).1
        go_wp2
        refine Wr.wp_region_wr (m := 136) [⟨bc, 37, #[.bool (or β b2)]⟩] (by kernel_rfl) (by kernel_rfl) rfl (by simp; try omega) ?_ ?_
        · intro s hs
          rcases s with _ | s
          · exact (show (World.heap _)[bc]? = some (Obj.cells #[.bool (or β b2)] 37 (0, 0)) from HL5.out.bad)
          · simp at hs
            try omega
        refine Wr.ww_old (w.heap.size) (by first | omega | (simp; done) | (simp; omega)) (by first | (simp; done) | (simp; omega)) (fun hold0 => ?_)
        refine Wr.ww_old (w.heap.size + 1) (by first | omega | (simp; done) | (simp; omega)) (by first | (simp; done) | (simp; omega)) (fun hold1 => ?_)
        refine Wr.ww_old (B) (by first | omega | (simp; done) | (simp; omega)) (by first | (simp; done) | (simp; omega)) (fun hold2 => ?_)
        refine Wr.ww_old (wr.heap.size) (by first | omega | (simp; done) | (simp; omega)) (by first | (simp; done) | (simp; omega)) (fun hold3 => ?_)
        (refine Wr.ww_plain ?_; apply Exists.intro; refine ⟨?_, ?_⟩; (first | (go_simp; (try intro x); (try go_bits); rfl)); simp only [Act.put, List.setIfInBounds_toArray, List.set_cons_succ, List.set_cons_zero, List.nil_append, List.cons_append])
        (refine Wr.ww_plain ?_; apply Exists.intro; refine ⟨?_, ?_⟩; (first | (go_simp; (try intro x); (try go_bits); rfl)); simp only [Act.put, List.setIfInBounds_toArray, List.set_cons_succ, List.set_cons_zero, List.nil_append, List.cons_append])
        (refine Wr.ww_plain ?_; apply Exists.intro; refine ⟨?_, ?_⟩; (first | (go_simp; (try intro x); (try go_bits); rfl)); simp only [Act.put, List.setIfInBounds_toArray, List.set_cons_succ, List.set_cons_zero, List.nil_append, List.cons_append])
        (refine Wr.ww_plain ?_; apply Exists.intro; refine ⟨?_, ?_⟩; (first | (go_simp; (try intro x); (try go_bits); rfl)); simp only [Act.put, List.setIfInBounds_toArray, List.set_cons_succ, List.set_cons_zero, List.nil_append, List.cons_append])
        (refine Wr.ww_plain ?_; apply Exists.intro; refine ⟨?_, ?_⟩; (first | (go_simp; (try intro x); (try go_bits); rfl)); simp only [Act.put, List.setIfInBounds_toArray, List.set_cons_succ, List.set_cons_zero, List.nil_append, List.cons_append])
        (refine Wr.ww_plain ?_; apply Exists.intro; refine ⟨?_, ?_⟩; (first | (go_simp; (try intro x); (try go_bits); rfl)); simp only [Act.put, List.setIfInBounds_toArray, List.set_cons_succ, List.set_cons_zero, List.nil_append, List.cons_append])
        (refine Wr.ww_plain ?_; apply Exists.intro; refine ⟨?_, ?_⟩; (first | (go_simp; (try intro x); (try go_bits); rfl)); simp only [Act.put, List.setIfInBounds_toArray, List.set_cons_succ, List.set_cons_zero, List.nil_append, List.cons_append])
        (refine Wr.ww_plain ?_; apply Exists.intro; refine ⟨?_, ?_⟩; (first | (go_simp; (try intro x); (try go_bits); rfl)); simp only [Act.put, List.setIfInBounds_toArray, List.set_cons_succ, List.set_cons_zero, List.nil_append, List.cons_append])
        (refine Wr.ww_plain ?_; apply Exists.intro; refine ⟨?_, ?_⟩; (first | (go_simp; (try intro x); (try go_bits); rfl)); simp only [Act.put, List.setIfInBounds_toArray, List.set_cons_succ, List.set_cons_zero, List.nil_append, List.cons_append])
        (refine Wr.ww_plain ?_; apply Exists.intro; refine ⟨?_, ?_⟩; (first | (go_simp; (try intro x); (try go_bits); rfl)); simp only [Act.put, List.setIfInBounds_toArray, List.set_cons_succ, List.set_cons_zero, List.nil_append, List.cons_append])
        (refine Wr.ww_plain ?_; apply Exists.intro; refine ⟨?_, ?_⟩; (first | (go_simp; (try intro x); (try go_bits); rfl)); simp only [Act.put, List.setIfInBounds_toArray, List.set_cons_succ, List.set_cons_zero, List.nil_append, List.cons_append])
        (refine Wr.ww_plain ?_; apply Exists.intro; refine ⟨?_, ?_⟩; (first | (go_simp; (try intro x); (try go_bits); rfl)); simp only [Act.put, List.setIfInBounds_toArray, List.set_cons_succ, List.set_cons_zero, List.nil_append, List.cons_append])
        (refine Wr.ww_plain ?_; apply Exists.intro; refine ⟨?_, ?_⟩; (first | (go_simp; (try intro x); (try go_bits); rfl) | (go_simp; intro x; go_at_call 23; exact (HP _).out)); simp only [Act.put, List.setIfInBounds_toArray, List.set_cons_succ, List.set_cons_zero, List.nil_append, List.cons_append])
        (refine Wr.ww_plain ?_; apply Exists.intro; refine ⟨?_, ?_⟩; (first | (go_simp; (try intro x); (try go_bits); rfl)); simp only [Act.put, List.setIfInBounds_toArray, List.set_cons_succ, List.set_cons_zero, List.nil_append, List.cons_append])
        refine Wr.ww_call (.agg #[.int .i64 V1.a, .int .i64 V1.b, .int .i64 V1.c, .int .i64 V1.d, .int .i64 f1]) 0 (bc) 37 #[.bool (or β b2)] #[.bool (or (or β b2) b1)] rfl (by simp) rfl rfl rfl (fun x => ?_) ?_
        · apply Exists.intro
          apply Exists.intro
          refine ⟨?_, ?_⟩
          · go_simp
            (try go_bits)
            first | rfl | exact ⟨rfl, rfl⟩
          · exact (HMX _ _ x.2.2).out
        simp only [Act.put, List.setIfInBounds_toArray, List.set_cons_succ, List.set_cons_zero, List.nil_append, List.cons_append]
        (refine Wr.ww_plain ?_; apply Exists.intro; refine ⟨?_, ?_⟩; (first | (go_simp; (try intro x); (try go_bits); rfl)); simp only [Act.put, List.setIfInBounds_toArray, List.set_cons_succ, List.set_cons_zero, List.nil_append, List.cons_append])
        refine Wr.ww_stop (by kernel_rfl) (by kernel_rfl) (fun w6 hg6 hs6 => ?_)
        have hb6_0 : w6.heap[bc]? = some (.cells #[.bool (or (or β b2) b1)] 37 (0, 0)) := hs6 0 (by simp)
        clear hs6
        simp only [List.map_cons, List.map_nil] at hg6
        have HL6 := Lib.hid (HL5.out.keep HC.out hg6 (fun s hs => by simp at hs; exact .inl hs) hb6_0)
        clear zA lA zT lT zO lO zX lX hg6 hb6_0
        obtain ⟨r0, r1, r2, r3, r4, q0, q1, q2, q3, q4⟩ := HL6.out.rowAt hpN
        have hfr := HL6.out.own.frozenAt
        have lrow : g < _ := (HL6.out.own.lt g rfl).2
        go_wp2
        refine ⟨⟨k + 1, (or (or β b2) b1), by omega, by go_num, ?_⟩, by simp [intOf]; omega⟩
        have hst := HL6.out.store HC.out hpN V1 f1
        obtain ⟨e1, e3⟩ := HVw1.out
        have hs := lv_step1 (I := I) (J := J) (M := M) (n := n) (k := k) (N := N) hlt hI
        rw [HP1.out, HT1.out.1, HT1.out.2, ← e1, ← e3] at hs
        exact hst.congr hs
      · clear HMA HMB HAD HAN HNG HVw HMX
        have zA := fun q => cell_of_row _ _ q _ _ _ HL5.out.m
        have lA := (Array.getElem?_eq_some_iff.1 HL5.out.m).1
        have zT := fun q => cell_of_row _ _ q _ _ _ HL5.out.t
        have lT := (Array.getElem?_eq_some_iff.1 HL5.out.t).1
        have zO := fun q => cell_of_row _ _ q _ _ _ HL5.out.out
        have lO := (Array.getElem?_eq_some_iff.1 HL5.out.out).1
        have zX := fun q => cell_of_row _ _ q _ _ _ HX5.out
        have lX := (Array.getElem?_eq_some_iff.1 HX5.out).1
        have zY := fun q => cell_of_row _ _ q _ _ _ HY5.out
        have lY := (Array.getElem?_eq_some_iff.1 HY5.out).1
        obtain ⟨r0, r1, r2, r3, r4, q0, q1, q2, q3, q4⟩ := HL5.out.rowAt hpN
        have hfr := HL5.out.own.frozenAt
        have lrow : g < _ := (HL5.out.own.lt g rfl).2
        obtain ⟨w6, hw6⟩ : ∃ w6, w6 = ((((w5.setCell ⟨g, p * 5, none⟩ (.int .i64 Y2.a)).setCell ⟨g, p * 5 + 1, none⟩ (.int .i64 Y2.b)).setCell ⟨g, p * 5 + 2, none⟩ (.int .i64 Y2.c)).setCell ⟨g, p * 5 + 3, none⟩ (.int .i64 Y2.d)).setCell ⟨g, p * 5 + 4, none⟩ (.int .i64 0) := ⟨_, rfl⟩
        have HL6 : Hid (LV bc bm gm capm g cO B n N 2 I J M w (upX (lvX 2 I J M n k) p Y2) (upE (fun p => (lvE 2 I J M n k p : Int)) p 0) (or β b2) w6) := by rw [hw6]; exact HL5.out.store HC.out hpN Y2 0
        have HX6 : Hid (w6.heap[wr.heap.size]? = some (.cells #[.int .i64 Xx.a, .int .i64 Xx.b, .int .i64 Xx.c, .int .i64 Xx.d, .int .i64 0] 44 (0, 0))) := by rw [hw6]; exact heap_sets5 (by omega) HX5.out
        go_upto_region 15 with fail
        rw [← hw6]
        clear hw6 zA lA zT lT zO lO zX lX zY lY q0 q1 q2 q3 q4 hfr lrow r0 r1 r2 r3 r4
        have zA := fun q => cell_of_row _ _ q _ _ _ HL6.out.m
        have lA := (Array.getElem?_eq_some_iff.1 HL6.out.m).1
        have zT := fun q => cell_of_row _ _ q _ _ _ HL6.out.t
        have lT := (Array.getElem?_eq_some_iff.1 HL6.out.t).1
        have zO := fun q => cell_of_row _ _ q _ _ _ HL6.out.out
        have lO := (Array.getElem?_eq_some_iff.1 HL6.out.out).1
        have zX := fun q => cell_of_row _ _ q _ _ _ HX6.out
        have lX := (Array.getElem?_eq_some_iff.1 HX6.out).1
        obtain ⟨r0, r1, r2, r3, r4, q0, q1, q2, q3, q4⟩ := HL6.out.rowAt hqN
        have hfr := HL6.out.own.frozenAt
        have lrow : g < _ := (HL6.out.own.lt g rfl).2
        go_wp2
        refine ⟨⟨k + 1, (or β b2), by omega, by go_num, ?_⟩, by simp [intOf]; omega⟩
        have hst := HL6.out.store HC.out hqN Xx 0
        obtain ⟨e1, e3⟩ := HVx.out rfl hM0 hIJ
        obtain ⟨e4, e5⟩ := HVy.out rfl hIJ
        have hs := lv_step2 (K := 2) (I := I) (J := J) (M := M) (n := n) (k := k) (N := N) hlt hI hJ (by omega)
        rw [HP1.out, HQ1.out, HT1.out.1, HT1.out.2, HT2.out.1, HT2.out.2, ← e1, ← e3, HVs.out, ← e4, ← e5] at hs
        exact hst.congr hs
      · clear HVw HVx HVy HMX
        have HMA3 := HMA rfl hIJ
        have HMB3 := HMB rfl hIJ
        clear HMA HMB
        obtain ⟨wy, hwy⟩ : ∃ wy, wy = w5.alloc (.cells #[.int .i64 1, .int .i64 0, .int .i64 0, .int .i64 0, .int .i64 1] 44) := ⟨_, rfl⟩
        have HLy : Hid (LV bc bm gm capm g cO B n N 3 I J M w (lvX 3 I J M n k) (fun p => (lvE 3 I J M n k p : Int)) (or β b2) wy) := by rw [hwy]; exact HL5.out.keep HC.out (S := []) ((GX.refl _ _).alloc _) (by simp) (heap_alloc_lt HL5.out.bad)
        have HXy : Hid (wy.heap[wr.heap.size]? = some (.cells #[.int .i64 Xx.a, .int .i64 Xx.b, .int .i64 Xx.c, .int .i64 Xx.d, .int .i64 0] 44 (0, 0))) := by rw [hwy]; exact heap_alloc_lt HX5.out
        have HYy : Hid (wy.heap[B4]? = some (.cells #[.int .i64 Y2.a, .int .i64 Y2.b, .int .i64 Y2.c, .int .i64 Y2.d, .int .i64 0] 44 (0, 0))) := by rw [hwy]; exact heap_alloc_lt HY5.out
        have HHy : Hid (wy.heap[w5.heap.size]? = some (.cells #[.int .i64 1, .int .i64 0, .int .i64 0, .int .i64 0, .int .i64 1] 44 (0, 0))) := by rw [hwy]; exact heap_alloc_new _ _
        have zA := fun q => cell_of_row _ _ q _ _ _ HL5.out.m
        have lA := (Array.getElem?_eq_some_iff.1 HL5.out.m).1
        have zT := fun q => cell_of_row _ _ q _ _ _ HL5.out.t
        have lT := (Array.getElem?_eq_some_iff.1 HL5.out.t).1
        have zO := fun q => cell_of_row _ _ q _ _ _ HL5.out.out
        have lO := (Array.getElem?_eq_some_iff.1 HL5.out.out).1
        have l5 : B4 < w5.heap.size := (Array.getElem?_eq_some_iff.1 HY5.out).1
        have l6 : wr.heap.size < w5.heap.size := (Array.getElem?_eq_some_iff.1 HX5.out).1
        have l7 := HL5.out.gl
        obtain ⟨l8, l9, l10, l11, l12⟩ := l7
        have hB4x : wr.heap.size ≤ B4 := by omega
        go_upto_region 9 with fail
        rw [← hwy]
        clear hwy zA lA zT lT zO lO
        have zA := fun q => cell_of_row _ _ q _ _ _ HLy.out.m
        have lA := (Array.getElem?_eq_some_iff.1 HLy.out.m).1
        have zT := fun q => cell_of_row _ _ q _ _ _ HLy.out.t
        have lT := (Array.getElem?_eq_some_iff.1 HLy.out.t).1
        have zO := fun q => cell_of_row _ _ q _ _ _ HLy.out.out
        have lO := (Array.getElem?_eq_some_iff.1 HLy.out.out).1
        have zX := fun q => cell_of_row _ _ q _ _ _ HXy.out
        have lX := (Array.getElem?_eq_some_iff.1 HXy.out).1
        have zY := fun q => cell_of_row _ _ q _ _ _ HYy.out
        have lY := (Array.getElem?_eq_some_iff.1 HYy.out).1
        have zH := fun q => cell_of_row _ _ q _ _ _ HHy.out
        have lH := (Array.getElem?_eq_some_iff.1 HHy.out).1
        go_wp2
        refine Wr.wp_region_wr (m := 136) [⟨bc, 37, #[.bool (or β b2)]⟩] (by kernel_rfl) (by kernel_rfl) rfl (by simp; try omega) ?_ ?_
        · intro s hs
          rcases s with _ | s
          · exact (show (World.heap _)[bc]? = some (Obj.cells #[.bool (or β b2)] 37 (0, 0)) from HLy.out.bad)
          · simp at hs
            try omega
        refine Wr.ww_old (w.heap.size) (by first | omega | (simp; done) | (simp; omega)) (by first | (simp; done) | (simp; omega)) (fun hold0 => ?_)
        refine Wr.ww_old (w.heap.size + 1) (by first | omega | (simp; done) | (simp; omega)) (by first | (simp; done) | (simp; omega)) (fun hold1 => ?_)
        refine Wr.ww_old (B) (by first | omega | (simp; done) | (simp; omega)) (by first | (simp; done) | (simp; omega)) (fun hold2 => ?_)
        refine Wr.ww_old (wr.heap.size) (by first | omega | (simp; done) | (simp; omega)) (by first | (simp; done) | (simp; omega)) (fun hold3 => ?_)
        refine Wr.ww_old (B4) (by first | omega | (simp; done) | (simp; omega)) (by first | (simp; done) | (simp; omega)) (fun hold4 => ?_)
        refine Wr.ww_old (w5.heap.size) (by first | omega | (simp; done) | (simp; omega)) (by first | (simp; done) | (simp; omega)) (fun hold5 => ?_)
        (refine Wr.ww_plain ?_; apply Exists.intro; refine ⟨?_, ?_⟩; (first | (go_simp; (try intro x); (try go_bits); rfl)); simp only [Act.put, List.setIfInBounds_toArray, List.set_cons_succ, List.set_cons_zero, List.nil_append, List.cons_append])
        (refine Wr.ww_plain ?_; apply Exists.intro; refine ⟨?_, ?_⟩; (first | (go_simp; (try intro x); (try go_bits); rfl)); simp only [Act.put, List.setIfInBounds_toArray, List.set_cons_succ, List.set_cons_zero, List.nil_append, List.cons_append])
        (refine Wr.ww_plain ?_; apply Exists.intro; refine ⟨?_, ?_⟩; (first | (go_simp; (try intro x); (try go_bits); rfl)); simp only [Act.put, List.setIfInBounds_toArray, List.set_cons_succ, List.set_cons_zero, List.nil_append, List.cons_append])
        (refine Wr.ww_plain ?_; apply Exists.intro; refine ⟨?_, ?_⟩; (first | (go_simp; (try intro x); (try go_bits); rfl)); simp only [Act.put, List.setIfInBounds_toArray, List.set_cons_succ, List.set_cons_zero, List.nil_append, List.cons_append])
        (refine Wr.ww_plain ?_; apply Exists.intro; refine ⟨?_, ?_⟩; (first | (go_simp; (try intro x); (try go_bits); rfl)); simp only [Act.put, List.setIfInBounds_toArray, List.set_cons_succ, List.set_cons_zero, List.nil_append, List.cons_append])
        (refine Wr.ww_plain ?_; apply Exists.intro; refine ⟨?_, ?_⟩; (first | (go_simp; (try intro x); (try go_bits); rfl)); simp only [Act.put, List.setIfInBounds_toArray, List.set_cons_succ, List.set_cons_zero, List.nil_append, List.cons_append])
        (refine Wr.ww_plain ?_; apply Exists.intro; refine ⟨?_, ?_⟩; (first | (go_simp; (try intro x); (try go_bits); rfl)); simp only [Act.put, List.setIfInBounds_toArray, List.set_cons_succ, List.set_cons_zero, List.nil_append, List.cons_append])
        (refine Wr.ww_plain ?_; apply Exists.intro; refine ⟨?_, ?_⟩; (first | (go_simp; (try intro x); (try go_bits); rfl)); simp only [Act.put, List.setIfInBounds_toArray, List.set_cons_succ, List.set_cons_zero, List.nil_append, List.cons_append])
        (refine Wr.ww_plain ?_; apply Exists.intro; refine ⟨?_, ?_⟩; (first | (go_simp; (try intro x); (try go_bits); rfl)); simp only [Act.put, List.setIfInBounds_toArray, List.set_cons_succ, List.set_cons_zero, List.nil_append, List.cons_append])
        (refine Wr.ww_plain ?_; apply Exists.intro; refine ⟨?_, ?_⟩; (first | (go_simp; (try intro x); (try go_bits); rfl)); simp only [Act.put, List.setIfInBounds_toArray, List.set_cons_succ, List.set_cons_zero, List.nil_append, List.cons_append])
        (refine Wr.ww_plain ?_; apply Exists.intro; refine ⟨?_, ?_⟩; (first | (go_simp; (try intro x); (try go_bits); rfl)); simp only [Act.put, List.setIfInBounds_toArray, List.set_cons_succ, List.set_cons_zero, List.nil_append, List.cons_append])
        (refine Wr.ww_plain ?_; apply Exists.intro; refine ⟨?_, ?_⟩; (first | (go_simp; (try intro x); (try go_bits); rfl)); simp only [Act.put, List.setIfInBounds_toArray, List.set_cons_succ, List.set_cons_zero, List.nil_append, List.cons_append])
        (refine Wr.ww_plain ?_; apply Exists.intro; refine ⟨?_, ?_⟩; (first | (go_simp; (try intro x); (try go_bits); rfl)); simp only [Act.put, List.setIfInBounds_toArray, List.set_cons_succ, List.set_cons_zero, List.nil_append, List.cons_append])
        (refine Wr.ww_plain ?_; apply Exists.intro; refine ⟨?_, ?_⟩; (first | (go_simp; (try intro x); (try go_bits); rfl)); simp only [Act.put, List.setIfInBounds_toArray, List.set_cons_succ, List.set_cons_zero, List.nil_append, List.cons_append])
        refine Wr.ww_call (.agg #[.int .i64 A1.a, .int .i64 A1.b, .int .i64 A1.c, .int .i64 A1.d, .int .i64 a1]) 0 (bc) 37 #[.bool (or β b2)] #[.bool (or (or β b2) b3)] rfl (by simp) rfl rfl rfl (fun x => ?_) ?_
        · apply Exists.intro
          apply Exists.intro
          refine ⟨?_, ?_⟩
          · go_simp
            (try go_bits)
            first | rfl | exact ⟨rfl, rfl⟩
          · exact (HAD _ _ x.2.2).out
        simp only [Act.put, List.setIfInBounds_toArray, List.set_cons_succ, List.set_cons_zero, List.nil_append, List.cons_append]
        refine Wr.ww_call (.agg #[.int .i64 T1.a, .int .i64 T1.b, .int .i64 T1.c, .int .i64 T1.d, .int .i64 t1]) 0 (bc) 37 #[.bool (or (or β b2) b3)] #[.bool (or (or (or β b2) b3) b5)] rfl (by simp) rfl rfl rfl (fun x => ?_) ?_
        · apply Exists.intro
          apply Exists.intro
          refine ⟨?_, ?_⟩
          · go_simp
            (try go_bits)
            first | rfl | exact ⟨rfl, rfl⟩
          · exact (HMA3 _ _ x.2.2).out
        simp only [Act.put, List.setIfInBounds_toArray, List.set_cons_succ, List.set_cons_zero, List.nil_append, List.cons_append]
        (refine Wr.ww_plain ?_; apply Exists.intro; refine ⟨?_, ?_⟩; (first | (go_simp; (try intro x); (try go_bits); rfl)); simp only [Act.put, List.setIfInBounds_toArray, List.set_cons_succ, List.set_cons_zero, List.nil_append, List.cons_append])
        refine Wr.ww_stop (by kernel_rfl) (by kernel_rfl) (fun w6 hg6 hs6 => ?_)
        have hb6_0 : w6.heap[bc]? = some (.cells #[.bool (or (or (or β b2) b3) b5)] 37 (0, 0)) := hs6 0 (by simp)
        clear hs6
        simp only [List.map_cons, List.map_nil] at hg6
        have HL6 := Lib.hid (HLy.out.keep HC.out hg6 (fun s hs => by simp at hs; exact .inl hs) hb6_0)
        have HX6 : Hid (w6.heap[wr.heap.size]? = some (.cells #[.int .i64 Xx.a, .int .i64 Xx.b, .int .i64 Xx.c, .int .i64 Xx.d, .int .i64 0] 44 (0, 0))) := (hg6.heap lX (by simp; omega)).trans HXy.out
        have HY6 : Hid (w6.heap[B4]? = some (.cells #[.int .i64 Y2.a, .int .i64 Y2.b, .int .i64 Y2.c, .int .i64 Y2.d, .int .i64 0] 44 (0, 0))) := (hg6.heap lY (by simp; omega)).trans HYy.out
        have HH6 : Hid (w6.heap[w5.heap.size]? = some (.cells #[.int .i64 1, .int .i64 0, .int .i64 0, .int .i64 0, .int .i64 1] 44 (0, 0))) := (hg6.heap lH (by simp; omega)).trans HHy.out
        clear zA lA zT lT zO lO zX lX zY lY zH lH hg6 hb6_0
        obtain ⟨r0, r1, r2, r3, r4, q0, q1, q2, q3, q4⟩ := HL6.out.rowAt hpN
        have hfr := HL6.out.own.frozenAt
        have lrow : g < _ := (HL6.out.own.lt g rfl).2
        obtain ⟨w7, hw7⟩ : ∃ w7, w7 = ((((w6.setCell ⟨g, p * 5, none⟩ (.int .i64 T1.a)).setCell ⟨g, p * 5 + 1, none⟩ (.int .i64 T1.b)).setCell ⟨g, p * 5 + 2, none⟩ (.int .i64 T1.c)).setCell ⟨g, p * 5 + 3, none⟩ (.int .i64 T1.d)).setCell ⟨g, p * 5 + 4, none⟩ (.int .i64 (t1 : Nat)) := ⟨_, rfl⟩
        have HL7 : Hid (LV bc bm gm capm g cO B n N 3 I J M w (upX (lvX 3 I J M n k) p T1) (upE (fun p => (lvE 3 I J M n k p : Int)) p (t1 : Nat)) (or (or (or β b2) b3) b5) w7) := by rw [hw7]; exact HL6.out.store HC.out hpN T1 (t1 : Nat)
        have HX7 : Hid (w7.heap[wr.heap.size]? = some (.cells #[.int .i64 Xx.a, .int .i64 Xx.b, .int .i64 Xx.c, .int .i64 Xx.d, .int .i64 0] 44 (0, 0))) := by rw [hw7]; exact heap_sets5 (by omega) HX6.out
        have HY7 : Hid (w7.heap[B4]? = some (.cells #[.int .i64 Y2.a, .int .i64 Y2.b, .int .i64 Y2.c, .int .i64 Y2.d, .int .i64 0] 44 (0, 0))) := by rw [hw7]; exact heap_sets5 (by omega) HY6.out
        have HH7 : Hid (w7.heap[w5.heap.size]? = some (.cells #[.int .i64 1, .int .i64 0, .int .i64 0, .int .i64 0, .int .i64 1] 44 (0, 0))) := by rw [hw7]; exact heap_sets5 (by omega) HH6.out
        go_upto_region 10 with fail
        rw [← hw7]
        clear hw7 q0 q1 q2 q3 q4 hfr lrow r0 r1 r2 r3 r4
        have zA := fun q => cell_of_row _ _ q _ _ _ HL7.out.m
        have lA := (Array.getElem?_eq_some_iff.1 HL7.out.m).1
        have zT := fun q => cell_of_row _ _ q _ _ _ HL7.out.t
        have lT := (Array.getElem?_eq_some_iff.1 HL7.out.t).1
        have zO := fun q => cell_of_row _ _ q _ _ _ HL7.out.out
        have lO := (Array.getElem?_eq_some_iff.1 HL7.out.out).1
        have zX := fun q => cell_of_row _ _ q _ _ _ HX7.out
        have lX := (Array.getElem?_eq_some_iff.1 HX7.out).1
        have zY := fun q => cell_of_row _ _ q _ _ _ HY7.out
        have lY := (Array.getElem?_eq_some_iff.1 HY7.out).1
        have zH := fun q => cell_of_row _ _ q _ _ _ HH7.out
        have lH := (Array.getElem?_eq_some_iff.1 HH7.out).1
        go_wp2
        refine Wr.wp_region_wr (m := 136) [⟨bc, 37, #[.bool (or (or (or β b2) b3) b5)]⟩] (by kernel_rfl) (by kernel_rfl) rfl (by simp; try omega) ?_ ?_
        · intro s hs
          rcases s with _ | s
          · exact (show (World.heap _)[bc]? = some (Obj.cells #[.bool (or (or (or β b2) b3) b5)] 37 (0, 0)) from HL7.out.bad)
          · simp at hs
            try omega
        refine Wr.ww_old (w.heap.size) (by first | omega | (simp; done) | (simp; omega)) (by first | (simp; done) | (simp; omega)) (fun hold0 => ?_)
        refine Wr.ww_old (w.heap.size + 1) (by first | omega | (simp; done) | (simp; omega)) (by first | (simp; done) | (simp; omega)) (fun hold1 => ?_)
        refine Wr.ww_old (B) (by first | omega | (simp; done) | (simp; omega)) (by first | (simp; done) | (simp; omega)) (fun hold2 => ?_)
        refine Wr.ww_old (wr.heap.size) (by first | omega | (simp; done) | (simp; omega)) (by first | (simp; done) | (simp; omega)) (fun hold3 => ?_)
        refine Wr.ww_old (B4) (by first | omega | (simp; done) | (simp; omega)) (by first | (simp; done) | (simp; omega)) (fun hold4 => ?_)
        refine Wr.ww_old (w5.heap.size) (by first | omega | (simp; done) | (simp; omega)) (by first | (simp; done) | (simp; omega)) (fun hold5 => ?_)
        (refine Wr.ww_plain ?_; apply Exists.intro; refine ⟨?_, ?_⟩; (first | (go_simp; (try intro x); (try go_bits); rfl)); simp only [Act.put, List.setIfInBounds_toArray, List.set_cons_succ, List.set_cons_zero, List.nil_append, List.cons_append])
        (refine Wr.ww_plain ?_; apply Exists.intro; refine ⟨?_, ?_⟩; (first | (go_simp; (try intro x); (try go_bits); rfl)); simp only [Act.put, List.setIfInBounds_toArray, List.set_cons_succ, List.set_cons_zero, List.nil_append, List.cons_append])
        (refine Wr.ww_plain ?_; apply Exists.intro; refine ⟨?_, ?_⟩; (first | (go_simp; (try intro x); (try go_bits); rfl)); simp only [Act.put, List.setIfInBounds_toArray, List.set_cons_succ, List.set_cons_zero, List.nil_append, List.cons_append])
        (refine Wr.ww_plain ?_; apply Exists.intro; refine ⟨?_, ?_⟩; (first | (go_simp; (try intro x); (try go_bits); rfl)); simp only [Act.put, List.setIfInBounds_toArray, List.set_cons_succ, List.set_cons_zero, List.nil_append, List.cons_append])
        (refine Wr.ww_plain ?_; apply Exists.intro; refine ⟨?_, ?_⟩; (first | (go_simp; (try intro x); (try go_bits); rfl)); simp only [Act.put, List.setIfInBounds_toArray, List.set_cons_succ, List.set_cons_zero, List.nil_append, List.cons_append])
        (refine Wr.ww_plain ?_; apply Exists.intro; refine ⟨?_, ?_⟩; (first | (go_simp; (try intro x); (try go_bits); rfl)); simp only [Act.put, List.setIfInBounds_toArray, List.set_cons_succ, List.set_cons_zero, List.nil_append, List.cons_append])
        (refine Wr.ww_plain ?_; apply Exists.intro; refine ⟨?_, ?_⟩; (first | (go_simp; (try intro x); (try go_bits); rfl)); simp only [Act.put, List.setIfInBounds_toArray, List.set_cons_succ, List.set_cons_zero, List.nil_append, List.cons_append])
        (refine Wr.ww_plain ?_; apply Exists.intro; refine ⟨?_, ?_⟩; (first | (go_simp; (try intro x); (try go_bits); rfl)); simp only [Act.put, List.setIfInBounds_toArray, List.set_cons_succ, List.set_cons_zero, List.nil_append, List.cons_append])
        (refine Wr.ww_plain ?_; apply Exists.intro; refine ⟨?_, ?_⟩; (first | (go_simp; (try intro x); (try go_bits); rfl)); simp only [Act.put, List.setIfInBounds_toArray, List.set_cons_succ, List.set_cons_zero, List.nil_append, List.cons_append])
        (refine Wr.ww_plain ?_; apply Exists.intro; refine ⟨?_, ?_⟩; (first | (go_simp; (try intro x); (try go_bits); rfl)); simp only [Act.put, List.setIfInBounds_toArray, List.set_cons_succ, List.set_cons_zero, List.nil_append, List.cons_append])
        (refine Wr.ww_plain ?_; apply Exists.intro; refine ⟨?_, ?_⟩; (first | (go_simp; (try intro x); (try go_bits); rfl)); simp only [Act.put, List.setIfInBounds_toArray, List.set_cons_succ, List.set_cons_zero, List.nil_append, List.cons_append])
        (refine Wr.ww_plain ?_; apply Exists.intro; refine ⟨?_, ?_⟩; (first | (go_simp; (try intro x); (try go_bits); rfl)); simp only [Act.put, List.setIfInBounds_toArray, List.set_cons_succ, List.set_cons_zero, List.nil_append, List.cons_append])
        (refine Wr.ww_plain ?_; apply Exists.intro; refine ⟨?_, ?_⟩; (first | (go_simp; (try intro x); (try go_bits); rfl)); simp only [Act.put, List.setIfInBounds_toArray, List.set_cons_succ, List.set_cons_zero, List.nil_append, List.cons_append])
        (refine Wr.ww_plain ?_; apply Exists.intro; refine ⟨?_, ?_⟩; (first | (go_simp; (try intro x); (try go_bits); rfl)); simp only [Act.put, List.setIfInBounds_toArray, List.set_cons_succ, List.set_cons_zero, List.nil_append, List.cons_append])
        (refine Wr.ww_plain ?_; apply Exists.intro; refine ⟨?_, ?_⟩; (first | (go_simp; (try intro x); (try go_bits); rfl) | (go_simp; intro x; go_at_call 25; exact (HNG _).out)); simp only [Act.put, List.setIfInBounds_toArray, List.set_cons_succ, List.set_cons_zero, List.nil_append, List.cons_append])
        refine Wr.ww_call (.agg #[.int .i64 A2.a, .int .i64 A2.b, .int .i64 A2.c, .int .i64 A2.d, .int .i64 a2]) 0 (bc) 37 #[.bool (or (or (or β b2) b3) b5)] #[.bool (or (or (or (or β b2) b3) b5) b4)] rfl (by simp) rfl rfl rfl (fun x => ?_) ?_
        · apply Exists.intro
          apply Exists.intro
          refine ⟨?_, ?_⟩
          · go_simp
            (try go_bits)
            first | rfl | exact ⟨rfl, rfl⟩
          · exact (HAN _ _ x.2.2).out
        simp only [Act.put, List.setIfInBounds_toArray, List.set_cons_succ, List.set_cons_zero, List.nil_append, List.cons_append]
        refine Wr.ww_call (.agg #[.int .i64 T2.a, .int .i64 T2.b, .int .i64 T2.c, .int .i64 T2.d, .int .i64 t2]) 0 (bc) 37 #[.bool (or (or (or (or β b2) b3) b5) b4)] #[.bool (or (or (or (or (or β b2) b3) b5) b4) b6)] rfl (by simp) rfl rfl rfl (fun x => ?_) ?_
        · apply Exists.intro
          apply Exists.intro
          refine ⟨?_, ?_⟩
          · go_simp
            (try go_bits)
            first | rfl | exact ⟨rfl, rfl⟩
          · exact (HMB3 _ _ x.2.2).out
        simp only [Act.put, List.setIfInBounds_toArray, List.set_cons_succ, List.set_cons_zero, List.nil_append, List.cons_append]
        (refine Wr.ww_plain ?_; apply Exists.intro; refine ⟨?_, ?_⟩; (first | (go_simp; (try intro x); (try go_bits); rfl)); simp only [Act.put, List.setIfInBounds_toArray, List.set_cons_succ, List.set_cons_zero, List.nil_append, List.cons_append])
        refine Wr.ww_stop (by kernel_rfl) (by kernel_rfl) (fun w8 hg8 hs8 => ?_)
        have hb8_0 : w8.heap[bc]? = some (.cells #[.bool (or (or (or (or (or β b2) b3) b5) b4) b6)] 37 (0, 0)) := hs8 0 (by simp)
        clear hs8
        simp only [List.map_cons, List.map_nil] at hg8
        have HL8 := Lib.hid (HL7.out.keep HC.out hg8 (fun s hs => by simp at hs; exact .inl hs) hb8_0)
        clear zA lA zT lT zO lO zX lX zY lY zH lH hg8 hb8_0
        obtain ⟨r0, r1, r2, r3, r4, q0, q1, q2, q3, q4⟩ := HL8.out.rowAt hqN
        have hfr := HL8.out.own.frozenAt
        have lrow : g < _ := (HL8.out.own.lt g rfl).2
        go_wp2
        refine ⟨⟨k + 1, (or (or (or (or (or β b2) b3) b5) b4) b6), by omega, by go_num, ?_⟩, by simp [intOf]; omega⟩
        have hst := HL8.out.store HC.out hqN T2 (t2 : Nat)
        have hs := lv_step2 (K := 3) (I := I) (J := J) (M := M) (n := n) (k := k) (N := N) hlt hI hJ (by omega)
        rw [HP1.out, HQ1.out, HT1.out.1, HT1.out.2, HT2.out.1, HT2.out.2] at hs
        exact hst.congr hs
    · obtain rfl : k = n := by omega
      have zO := fun q => cell_of_row _ _ q _ _ _ HL.out.out
      have zR := fun q => cell_of_row _ _ q _ _ _ HL.out.res
      have fR := fun q => frozen_of_row _ _ q _ _ HL.out.res
      go_wp2
      refine bodyPost_ret (v := .agg #[.int .i64 k, .int .i64 k, .slice (some ⟨g, 0, none⟩) N cO]) (by simp [results, Try.results11, go_sem, *]) rfl ?_
      refine ⟨_, _, rfl, own_base (own_set (own_set (own_set HL.out.own (by simp) _) (by simp) _) (by simp) _) (by omega), ((HL.out.gx.setCell (.inr (by simp; try omega)) _).setCell (.inr (by simp; try omega)) _).setCell (.inr (by simp; try omega)) _⟩

end Go.Proofs.Ytlaajkdhegkpdaa
