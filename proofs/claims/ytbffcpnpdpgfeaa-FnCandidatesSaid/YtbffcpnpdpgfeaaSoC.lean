/- The compare function of CandidatesFor; slices.insertionSortCmpFunc. -/
import Derived.Test.YtbffcpnpdpgfeaaSoM
import Derived.Test.YtbffcpnpdpgfeaaWithin
import Derived.Test.YtbffcpnpdpgfeaaGrdL
namespace Go.Proofs.Ytbffcpnpdpgfeaa
open Go.RowKit
set_option linter.unusedVariables false
set_option linter.unusedSimpArgs false

/-- in the order of the coefficients -/
def lx (x y : Q4) : Prop := x.a < y.a ∨ (x.a = y.a ∧ (x.b < y.b ∨ (x.b = y.b ∧ (x.c < y.c ∨ (x.c = y.c ∧ x.d < y.d)))))
theorem lx_ord : So.Ord2 lx := ⟨fun x h => by unfold lx at h; omega, fun x y z h k => by unfold lx at *; omega⟩

/-- what the compare function closes over: the target in the block tb, k in the block kb -/
structure Cx where
  tb : Nat
  kb : Nat
  x : Int
  y : Int
  n : Int
  k : Int
def Cx.ep (c : Cx) (q : Q4) : Int := erP c.x c.y c.n q.a q.b q.c q.d c.k
def Cx.eq (c : Cx) (q : Q4) : Int := erQ c.x c.y q.a q.b q.c q.d c.k
def Cx.key (c : Cx) (q : Q4) : Int := ky (c.ep q) (c.eq q)
def Cx.ok (c : Cx) (q : Q4) : Prop := Small c.x c.y c.n q.a q.b q.c q.d c.k
def Cx.at (c : Cx) (w : World) : Prop := w.heap[c.tb]? = some (.cells #[.int .i64 c.x, .int .i64 c.y, .int .i64 c.n] 27 (0, 0)) ∧ w.heap[c.kb]? = some (.cells #[.int .i64 c.k] 3 (0, 0))
def Cx.cmp (c : Cx) (p q : Q4) : Int := S2 (c.ep p - c.ep q) (c.eq p - c.eq q)
theorem Cx.at.ext {c : Cx} {w w' : World} (h : c.at w) (hx : Ext w w') : c.at w' := ⟨(hx.heap (Array.getElem?_eq_some_iff.1 h.1).1).trans h.1, (hx.heap (Array.getElem?_eq_some_iff.1 h.2).1).trans h.2⟩
theorem Cx.at.gx {c : Cx} {w w' : World} {g : Nat} (h : c.at w) (hx : GX [g] w w') (h1 : c.tb ≠ g) (h2 : c.kb ≠ g) : c.at w' :=
  ⟨(hx.heap (Array.getElem?_eq_some_iff.1 h.1).1 (by simpa using h1)).trans h.1, (hx.heap (Array.getElem?_eq_some_iff.1 h.2).1 (by simpa using h2)).trans h.2⟩
theorem Cx.diff {c : Cx} {p q : Q4} (hp : c.ok p) (hq : c.ok q) : Cf (c.ep p - c.ep q) = true ∧ Cf (c.eq p - c.eq q) = true := by
  have h1 := hp.er
  have h2 := hq.er
  unfold Cx.ep Cx.eq
  exact ⟨Cf_mk (by omega), Cf_mk (by omega)⟩
theorem Cx.neg {c : Cx} {p q : Q4} (hp : c.ok p) (hq : c.ok q) : c.cmp p q < 0 ↔ c.key p < c.key q := by
  obtain ⟨h1, h2⟩ := Cx.diff hp hq
  unfold Cx.cmp Cx.key
  rw [S2_ky h1 h2, ky_sub]
  unfold sg
  repeat' split
  all_goals omega

set_option maxRecDepth 20000 in
set_option maxHeartbeats 2000000 in
theorem cmp_any (c : Cx) (p q : Q4) (hp : c.ok p) (hq : c.ok q) (w : World) (h : c.at w) :
    Calls Try.prog 34 #[.agg #[.int .i64 p.a, .int .i64 p.b, .int .i64 p.c, .int .i64 p.d], .agg #[.int .i64 q.a, .int .i64 q.b, .int .i64 q.c, .int .i64 q.d], .pointer (some ⟨c.tb, 0, none⟩), .pointer (some ⟨c.kb, 0, none⟩)] w fun e w' => e = .returned (.int .i64 (c.cmp p q)) ∧ Ext w w' := by
  obtain ⟨d1, d2⟩ := Cx.diff hp hq
  have HE1 := fun w' => Lib.hid (errorOf_any c.x c.y c.n p.a p.b p.c p.d c.k hp w')
  have HE2 := fun w' => Lib.hid (errorOf_any c.x c.y c.n q.a q.b q.c q.d c.k hq w')
  have HC := fun w' => Lib.hid (compareRoot2_any (c.ep p) (c.eq p) (c.ep q) (c.eq q) d1 d2 w')
  rw [show erP c.x c.y c.n p.a p.b p.c p.d c.k = c.ep p from rfl, show erQ c.x c.y p.a p.b p.c p.d c.k = c.eq p from rfl] at HE1
  rw [show erP c.x c.y c.n q.a q.b q.c q.d c.k = c.ep q from rfl, show erQ c.x c.y q.a q.b q.c q.d c.k = c.eq q from rfl] at HE2
  rw [show S2 (c.ep p - c.ep q) (c.eq p - c.eq q) = c.cmp p q from rfl] at HC
  have HTK : Hid (∀ W, Ext w W → (∀ o, W.cell? ⟨c.tb, o, none⟩ = (#[.int .i64 c.x, .int .i64 c.y, .int .i64 c.n] : Array Value)[o]?) ∧ (∀ o, W.cell? ⟨c.kb, o, none⟩ = (#[.int .i64 c.k] : Array Value)[o]?) ∧ c.tb < W.heap.size ∧ c.kb < W.heap.size) := fun W hx =>
    ⟨fun o => cell_of_row _ _ o _ _ _ (h.ext hx).1, fun o => cell_of_row _ _ o _ _ _ (h.ext hx).2, (Array.getElem?_eq_some_iff.1 (h.ext hx).1).1, (Array.getElem?_eq_some_iff.1 (h.ext hx).2).1⟩
  clear h d1 d2 hp hq
  generalize c.ep p = e1 at *
  generalize c.eq p = e2 at *
  generalize c.ep q = e3 at *
  generalize c.eq q = e4 at *
  generalize c.cmp p q = r at *
  generalize erM c.n c.k = m at *
  obtain ⟨tb, kb, x, y, n, k⟩ := c
  obtain ⟨pa, pb, pc, pd⟩ := p
  obtain ⟨qa, qb, qc, qd⟩ := q
  dsimp only at *
  obtain ⟨zT, zK, lT, lK⟩ := HTK.out w (Ext.refl w)
  have n1 : tb ≠ w.heap.size := by omega
  have n2 : kb ≠ w.heap.size := by omega
  have n3 : tb ≠ w.heap.size + 1 := by omega
  have n4 : kb ≠ w.heap.size + 1 := by omega
  go_enter Try.func34, Try.ntmps34
  go_wp2_with fail
  refine ((HE1 _).out).mono ?_
  rintro e w1 ⟨rfl, hx1⟩
  have hE1 : Ext w w1 := (by repeat (first | exact Ext.refl _ | assumption | refine Ext.alloc ?_ _ | refine Ext.drew ?_ | refine Ext.drewN ?_ _ | refine Ext.setCell ?_ (by first | omega | (dsimp only; omega) | (simp; done) | (simp; omega)) _ | refine Ext.trans ?_ (by assumption)))
  have HP1 : Hid (w1.heap[w.heap.size]? = some (.cells #[.int .i64 pa, .int .i64 pb, .int .i64 pc, .int .i64 pd] 33 (0, 0))) := (hx1.heap (by simp; omega)).trans (heap_alloc_lt (heap_alloc_new _ _))
  have HQ1 : Hid (w1.heap[w.heap.size + 1]? = some (.cells #[.int .i64 qa, .int .i64 qb, .int .i64 qc, .int .i64 qd] 33 (0, 0))) := (hx1.heap (by simp)).trans (heap_alloc_at _ _ _ (by simp))
  have HX1 := Lib.hid hE1
  clear zT zK lT lK n1 n2 n3 n4 hx1
  obtain ⟨zT, zK, lT, lK⟩ := HTK.out w1 hE1
  have zQ := fun o => cell_of_row _ _ o _ _ _ HQ1.out
  have lQ := (Array.getElem?_eq_some_iff.1 HQ1.out).1
  have n1 : tb ≠ w1.heap.size := by omega
  have n2 : kb ≠ w1.heap.size := by omega
  have n3 : w.heap.size + 1 ≠ w1.heap.size := by omega
  clear hE1
  go_wp2_with fail
  refine ((HE2 _).out).mono ?_
  rintro e w2 ⟨rfl, hx2⟩
  have HE2' : Hid (w2.heap[w1.heap.size]? = some (.cells #[.int .i64 e1, .int .i64 e2] 53 (0, 0))) := (hx2.heap (by simp)).trans (heap_alloc_new _ _)
  have HX2 := Lib.hid ((HX1.out.alloc _).trans hx2)
  have zE := fun o => cell_of_row _ _ o _ _ _ HE2'.out
  have lE := (Array.getElem?_eq_some_iff.1 HE2'.out).1
  have n4 : w1.heap.size ≠ w2.heap.size := by omega
  clear zT zK lT lK n1 n2 n3 hx2 zQ lQ
  go_wp2_with fail
  refine ((HC _).out).mono ?_
  rintro e w3 ⟨rfl, hx3⟩
  have HX3 := Lib.hid ((HX2.out.alloc _).trans hx3)
  go_wp2
  go_ret
  exact ⟨rfl, HX3.out⟩

/-- the closure -/
def Cx.fn (c : Cx) : Value := .func (.func 34) #[] #[.pointer (some ⟨c.tb, 0, none⟩), .pointer (some ⟨c.kb, 0, none⟩)]
abbrev Cx.So (c : Cx) (a b : Nat) (X : Nat → Q4) : Prop := So.Sorted c.key lx a b X

set_option maxRecDepth 20000 in
set_option maxHeartbeats 8000000 in
theorem insertion_any (c : Cx) (base g n cap : Nat) (X : Nat → Q4) (a b : Nat) (ht : c.tb ≠ g) (hk : c.kb ≠ g) (hok : ∀ p, p < n → c.ok (X p)) (hasc : So.Asc lx a b X) (h1 : a ≤ b) (h2 : b ≤ n) (hn : n ≤ 1000000) (w : World) (hR : RW w base g n cap X) (hc : c.at w) :
    Calls Try.prog 69 #[.slice (some ⟨g, 0, none⟩) n cap, .int .i64 a, .int .i64 b, .func (.func 34) #[] #[.pointer (some ⟨c.tb, 0, none⟩), .pointer (some ⟨c.kb, 0, none⟩)]] w fun e w' => e = .returned (.tuple #[]) ∧ ∃ Y, RW w' base g n cap Y ∧ So.Same a b X Y ∧ So.Sorted c.key lx a b Y ∧ GX [g] w w' := by
  obtain ⟨hcap1, hcap2⟩ := hR.caps
  have HR := Lib.hid hR
  have HOK := Lib.hid hok
  have HA := Lib.hid hasc
  have HAT := Lib.hid hc
  clear hok hasc hc
  obtain ⟨A1, hA1⟩ : ∃ A1, a + 1 = A1 := ⟨_, rfl⟩
  have eA : ((a : Int) + 1) = (A1 : Int) := by omega
  by_cases hab : a = b
  · subst hab
    have hlt : ¬ (A1 : Int) < (a : Int) := by omega
    clear hR
    go_enter Try.func69, Try.ntmps69
    go_wp2
    go_loopw [8, 9] (fun s8 _ wr => s8 = .int .i64 A1 ∧ wr = w) (fun _ _ _ => 0)
    case atStart => exact ⟨rfl, rfl⟩
    case round =>
      obtain ⟨rfl, rfl⟩ := hrel
      go_wp2
      go_end0
      exact ⟨rfl, X, HR.out, So.Same.refl _ _ _, fun i j i1 i2 i3 => by omega, GX.refl _ _⟩
  clear hR
  go_enter Try.func69, Try.ntmps69
  go_wp2
  go_loopw [8, 9] (fun s8 _ wr => ∃ (i : Nat) (Y : Nat → Q4), A1 ≤ i ∧ i ≤ b ∧ s8 = .int .i64 i ∧ Hid (RW wr base g n cap Y) ∧ Hid (So.Same a i X Y ∧ So.Sorted c.key lx a i Y) ∧ Hid (GX [g] w wr)) (fun s8 _ _ => b - (intOf s8).toNat)
  case atStart =>
    refine ⟨A1, X, by omega, by omega, rfl, HR, ⟨So.Same.refl _ _ _, ?_⟩, GX.refl _ _⟩
    rw [← hA1]
    exact So.sorted_one
  case round =>
    obtain ⟨i, Y, i1, i2, rfl, HW, HS, HG⟩ := hrel
    by_cases hlt : i < b
    · have hlt' : (i : Int) < (b : Int) := by omega
      go_wp2
      go_loopw [9] (fun s9 wq => ∃ (j : Nat), a ≤ j ∧ j ≤ i ∧ s9 = .int .i64 j ∧ Hid (RW wq base g n cap (So.rotF j i (i + 1) Y)) ∧ Hid (∀ p, j ≤ p → p < i → So.Lt c.key lx (Y i) (Y p)) ∧ Hid (GX [g] wr wq)) (fun s9 _ => (intOf s9).toNat)
      case atStart => exact ⟨i, by omega, by omega, rfl, by rw [So.rot_left]; exact HW, fun p p1 p2 => by omega, GX.refl _ _⟩
      case round =>
        obtain ⟨j, j1, j2, rfl, HZ, HL, HQ⟩ := hrel
        have hsame := HS.out.1
        have HOY : Hid (∀ p, p < n → c.ok (Y p)) := fun p hp => by
          by_cases hpi : a ≤ p ∧ p < i
          · obtain ⟨q, q1, q2, e⟩ := hsame.to p hpi.1 hpi.2
            rw [e]
            exact HOK.out q (by omega)
          · rw [hsame.off p (by omega)]
            exact HOK.out p hp
        have HLX : Hid (∀ p, a ≤ p → p < i → lx (Y p) (Y i)) := fun p p1 p2 => by
          obtain ⟨q, q1, q2, e⟩ := hsame.to p p1 p2
          rw [e, hsame.off i (.inr (Nat.le_refl _))]
          exact HA.out q i q1 q2 hlt
        have HEnd : Hid ((a < j → So.Lt c.key lx (Y (j - 1)) (Y i)) → So.Same a (i + 1) X (So.rotF j i (i + 1) Y) ∧ So.Sorted c.key lx a (i + 1) (So.rotF j i (i + 1) Y)) := fun hd => by
          refine ⟨(hsame.widen (Nat.le_refl _) (by omega)).trans ((So.same_rot Y j2 (by omega)).widen j1 (Nat.le_refl _)), ?_⟩
          exact So.put_left lx_ord HS.out.2 j1 j2 hd (fun h => HL.out j (Nat.le_refl _) h)
        clear hsame
        by_cases hja : a < j
        · have hja' : (a : Int) < (j : Int) := by omega
          obtain ⟨J, hJ⟩ : ∃ J, j - 1 = J := ⟨_, rfl⟩
          have eJ : ((j : Int) - 1) = (J : Int) := by omega
          have hx : So.rotF j i (i + 1) Y j = Y i := by
            rw [So.rot_at1 Y (Nat.le_refl _) (by omega) j2 (by omega), show j + (i - j) = i by omega]
          have hy : So.rotF j i (i + 1) Y J = Y J := So.rot_at3 Y (.inl (by omega))
          have o1 := HOY.out i (by omega)
          have o2 := HOY.out J (by omega)
          have hneg := Cx.neg o1 o2
          have HC := fun (W : World) (hx : Ext wr W) => Lib.hid (cmp_any c (Y i) (Y J) o1 o2 W ((HAT.out.gx (HG.out.trans HQ.out) ht hk).ext hx))
          rw [hJ] at HEnd
          have HNo := Lib.hid (fun (h : ¬ c.key (Y i) < c.key (Y J)) => HEnd.out (fun _ => So.lt_no (K := c.key) (HLX.out J (by omega) (by omega)) h))
          have HYes := Lib.hid (fun (h : c.key (Y i) < c.key (Y J)) p (p1 : J ≤ p) (p2 : p < i) => (by
            by_cases e : p = J
            · subst e; exact So.lt_yes h
            · exact HL.out p (by omega) p2 : So.Lt c.key lx (Y i) (Y p)))
          have HSW := Lib.hid (So.swap_rot_left (k := j) Y (by omega) j2)
          rw [hJ] at HSW
          generalize c.cmp (Y i) (Y J) = r at *
          clear HEnd HL HOY HLX o1 o2
          generalize So.rotF j i (i + 1) Y = Z at *
          have hcx := HZ.out.cells (p := j) (by omega)
          have hcy := HZ.out.cells (p := J) (by omega)
          rw [hx] at hcx
          rw [hy] at hcy
          have HT := fun W (h : RW W base g n cap Z) => Lib.hid ((h.store (p := j) (by omega) (Z J)).store (p := J) (by omega) (Z j))
          simp only [up4_swap] at HT
          simp only [HSW.out] at HT
          simp only [hx, hy] at HT
          obtain ⟨x, hxx⟩ : ∃ x, Y i = x := ⟨_, rfl⟩
          obtain ⟨y, hyy⟩ : ∃ y, Y J = y := ⟨_, rfl⟩
          have hfr := HZ.out.frozen
          have lg := HZ.out.lt.2
          simp only [hxx, hyy] at HC hcx hcy HT
          have HXX := Lib.hid (And.intro hxx hyy)
          clear hxx hyy hx hy HSW
          obtain ⟨x0, x1, x2, x3⟩ := hcx
          obtain ⟨y0, y1, y2, y3⟩ := hcy
          by_cases hr : r < 0
          · have HY2 := Lib.hid (HYes.out (hneg.1 hr))
            clear HNo HYes hneg
            go_wp2
            refine wp_region_xt (by kernel_rfl) (by kernel_rfl) (fun hxc => ?_)
            repeat (first | go_big_quiet_step ((first | (go_at_call 34; exact calls_xt ((HC _ (Xt.ext _)).out)))) | quiet_step ((first | (go_at_call 34; exact calls_xt ((HC _ (Xt.ext _)).out)))))
            refine wpQuiet_nil (forall_xt ?_)
            clear hxc
            intro w1 hx1
            obtain ⟨hc1, hf1⟩ := hx1.cells
            have hz1 := hx1.size
            try simp at hz1
            have HZ1 := Lib.hid (HZ.out.ext hx1)
            have HQ1 := Lib.hid (HQ.out.ext hx1)
            have HT1 := Lib.hid (HT _ HZ1.out).out
            have hfr := HZ1.out.frozen
            obtain ⟨x0, x1, x2, x3⟩ : w1.cell? ⟨g, j * 4, none⟩ = some (.int .i64 x.a) ∧ w1.cell? ⟨g, j * 4 + 1, none⟩ = some (.int .i64 x.b) ∧ w1.cell? ⟨g, j * 4 + 2, none⟩ = some (.int .i64 x.c) ∧ w1.cell? ⟨g, j * 4 + 3, none⟩ = some (.int .i64 x.d) := ⟨(hc1 _ _ lg).trans x0, (hc1 _ _ lg).trans x1, (hc1 _ _ lg).trans x2, (hc1 _ _ lg).trans x3⟩
            obtain ⟨y0, y1, y2, y3⟩ : w1.cell? ⟨g, J * 4, none⟩ = some (.int .i64 y.a) ∧ w1.cell? ⟨g, J * 4 + 1, none⟩ = some (.int .i64 y.b) ∧ w1.cell? ⟨g, J * 4 + 2, none⟩ = some (.int .i64 y.c) ∧ w1.cell? ⟨g, J * 4 + 3, none⟩ = some (.int .i64 y.d) := ⟨(hc1 _ _ lg).trans y0, (hc1 _ _ lg).trans y1, (hc1 _ _ lg).trans y2, (hc1 _ _ lg).trans y3⟩
            have lg1 : g < w1.heap.size := by omega
            have bj : j < n := by omega
            have bJ : J < n := by omega
            have hJ3 : a ≤ J ∧ J ≤ i ∧ J < j := by omega
            clear HC HZ HQ HT hc1 hf1 hx1 lg hJ
            go_wp2
            go_region
            all_goals
              go_wp2
              go_roundw
              case rel => exact ⟨J, hJ3.1, hJ3.2.1, rfl, RW.drew HT1.out, HY2, HQ1.out.trans (by repeat (first | (with_reducible refine GX.setCell ?_ (by first | (simp; done) | (simp; omega)) _) | with_reducible refine GX.alloc ?_ _ | with_reducible refine GX.drew ?_ | with_reducible refine GX.drewN ?_ _ | with_reducible assumption | with_reducible exact GX.refl _ _ | with_reducible refine GX.ext ?_ (by with_reducible assumption) | with_reducible refine GX.trans ?_ (by with_reducible assumption)))⟩
              case measure => simp [intOf]; omega
          · have HE := Lib.hid (HNo.out (fun h => hr (hneg.2 h)))
            clear HNo HYes hneg
            go_wp2
            refine wp_region_xt (by kernel_rfl) (by kernel_rfl) (fun hxc => ?_)
            repeat (first | go_big_quiet_step ((first | (go_at_call 34; exact calls_xt ((HC _ (Xt.ext _)).out)))) | quiet_step ((first | (go_at_call 34; exact calls_xt ((HC _ (Xt.ext _)).out)))))
            refine wpQuiet_nil (forall_xt ?_)
            clear hxc
            intro w1 hx1
            obtain ⟨hc1, hf1⟩ := hx1.cells
            have hz1 := hx1.size
            try simp at hz1
            have HZ1 := Lib.hid (HZ.out.ext hx1)
            have HQ1 := Lib.hid ((HG.out.trans HQ.out).ext hx1)
            clear HC HZ HQ HT
            go_wp2
            go_roundw
            case rel => exact ⟨i + 1, Z, by omega, by omega, by go_num, HZ1, HE, HQ1⟩
            case measure => simp [intOf]; omega
        · have hja' : ¬ (a : Int) < (j : Int) := by omega
          obtain rfl : j = a := by omega
          have HE := Lib.hid (HEnd.out (fun h => absurd h (by omega)))
          clear HEnd HOY HLX HL
          generalize So.rotF j i (i + 1) Y = Z at *
          go_wp2
          refine wp_region_xt (by kernel_rfl) (by kernel_rfl) (fun hxc => ?_)
          repeat (first | go_big_quiet_step (fail) | quiet_step (fail))
          refine wpQuiet_nil (forall_xt ?_)
          clear hxc
          intro w1 hx1
          obtain ⟨hc1, hf1⟩ := hx1.cells
          have hz1 := hx1.size
          try simp at hz1
          have HZ1 := Lib.hid (HZ.out.ext hx1)
          have HQ1 := Lib.hid ((HG.out.trans HQ.out).ext hx1)
          go_wp2
          go_roundw
          case rel => exact ⟨i + 1, Z, by omega, by omega, by go_num, HZ1, HE, HQ1⟩
          case measure => simp [intOf]; omega
    · obtain rfl : i = b := by omega
      go_wp2
      go_end0
      exact ⟨rfl, Y, HW.out, HS.out.1, HS.out.2, HG.out⟩

end Go.Proofs.Ytbffcpnpdpgfeaa
