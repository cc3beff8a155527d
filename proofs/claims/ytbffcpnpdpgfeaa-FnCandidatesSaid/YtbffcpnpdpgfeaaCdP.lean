/- CandidatesFor: the program's walk: what is done with one number; all small numbers. -/
import Derived.Test.YtbffcpnpdpgfeaaCdL
import Derived.Test.YtbffcpnpdpgfeaaSoT
import Derived.Test.YtbffcpnpdpgfeaaLt
namespace Go.Proofs.Ytbffcpnpdpgfeaa
open Go.RowKit
set_option linter.unusedVariables false
set_option linter.unusedSimpArgs false

theorem sqV_small {u : Q4} (h : smq u ≤ 256) : -1024 ≤ sqV u.a u.b u.c u.d ∧ sqV u.a u.b u.c u.d ≤ 1024 := by
  obtain ⟨a, b, c, d⟩ := sqU_small (a := u.a) (b := u.b) (c := u.c) (d := u.d) h
  have h1 := mul_bd a.1 a.2 b.1 b.2
  have h2 := mul_bd b.1 b.2 c.1 c.2
  have h3 := mul_bd c.1 c.2 d.1 d.2
  have h4 := mul_bd d.1 d.2 a.1 a.2
  unfold sqV
  omega
theorem smq_nn (u : Q4) : 0 ≤ smq u := by
  have e := smq_parts u
  have a := sq_nn u.a
  have b := sq_nn u.b
  have c := sq_nn u.c
  have d := sq_nn u.d
  omega

set_option maxHeartbeats 2000000 in
theorem remainder_any (c : Cx) (hk : 0 ≤ c.k ∧ c.k ≤ 8) (u : Q4) (hu : smq u ≤ c.pw) (w : World) :
    Calls Try.prog 32 #[.agg #[.int .i64 u.a, .int .i64 u.b, .int .i64 u.c, .int .i64 u.d], .int .i64 c.k] w fun e w' => e = .returned (.agg #[.int .i64 (c.pw - smq u), .int .i64 (-(sqV u.a u.b u.c u.d))]) ∧ Ext w w' := by
  have hp := pw_bd hk
  have h256 : smq u ≤ 256 := by omega
  obtain ⟨a, b, c', d⟩ := sqU_small (a := u.a) (b := u.b) (c := u.c) (d := u.d) h256
  have hv := sqV_small h256
  have hn := smq_nn u
  have hrg : Rg u.a u.b u.c u.d = true := Rg_mk (by omega)
  have hok : okSq u.a u.b u.c u.d = true := by
    have h1 : sqU u.a u.b u.c u.d = smq u := rfl
    unfold okSq
    rw [hrg, Cf_mk (n := sqU u.a u.b u.c u.d) (by omega), Cf_mk (n := sqV u.a u.b u.c u.d) (by omega)]
    rfl
  have HA := fun w' => Lib.hid (absSquare_any u.a u.b u.c u.d w')
  rw [show absU u.a u.b u.c u.d = smq u by unfold absU; rw [hok]; rfl, show absV u.a u.b u.c u.d = sqV u.a u.b u.c u.d by unfold absV; rw [hok]; rfl, hok] at HA
  have hpow : (2 : Int) ^ c.k.toNat = c.pw := rfl
  generalize smq u = S at *
  generalize sqV u.a u.b u.c u.d = V at *
  generalize c.pw = P at *
  generalize c.k = k at *
  clear a b c' d hok hrg h256
  obtain ⟨a, b, c, d⟩ := u
  dsimp only at *
  go_enter Try.func32, Try.ntmps32
  go_wp2_with fail
  refine ((HA _).out).mono ?_
  rintro e w1 ⟨rfl, hx1⟩
  obtain ⟨hc1, hf1⟩ := hx1.cells
  have hz1 := hx1.size
  try simp at hz1
  have hs1_0 := sz2 (a := w.heap.size) (b := w1.heap.size) (by omega)
  go_wp2
  refine bodyPost_ret (v := .agg #[.int .i64 (P - S), .int .i64 (-V)]) (by simp [results, Try.results32, go_sem, *]) rfl ?_
  exact ⟨rfl, (by repeat (first | (with_reducible refine Ext.setCell ?_ (by first | (simp; done) | (simp; omega)) _) | with_reducible refine Ext.alloc ?_ _ | with_reducible refine Ext.drew ?_ | with_reducible refine Ext.drewN ?_ _ | with_reducible assumption | with_reducible exact Ext.refl _ | with_reducible refine Ext.trans ?_ (by with_reducible assumption)))⟩

/-- the boxes that the visitor reads -/
def Bx4 (c : Cx) (nb db : Nat) (num den : Int) (w : World) : Prop := c.at w ∧ w.heap[nb]? = some (.cells #[.int .i64 num] 3 (0, 0)) ∧ w.heap[db]? = some (.cells #[.int .i64 den] 3 (0, 0))
theorem Bx4.ext {c : Cx} {nb db : Nat} {num den : Int} {w w' : World} (h : Bx4 c nb db num den w) (hx : Ext w w') : Bx4 c nb db num den w' :=
  ⟨h.1.ext hx, (hx.heap (Array.getElem?_eq_some_iff.1 h.2.1).1).trans h.2.1, (hx.heap (Array.getElem?_eq_some_iff.1 h.2.2).1).trans h.2.2⟩
/-- the list so far: the box ob holds the slice v, v holds X -/
structure ST (W0 : World) (ob : Nat) (w : World) (v : Value) (cnt : Nat) (X : Nat → Q4) : Prop where
  ext : Ext W0 w
  box : w.heap[ob]? = some (.cells #[v] 24 (0, 0))
  own : w.ownsRow W0.heap.size 33 4 v cnt (IL (mo4 X cnt))
  dif : ∀ k, v.ownBlock = some k → k ≠ ob
  new : W0.heap.size ≤ ob
theorem ST.later {W0 w w' : World} {ob : Nat} {v : Value} {cnt : Nat} {X : Nat → Q4} (h : ST W0 ob w v cnt X) (hx : Ext w w') : ST W0 ob w' v cnt X :=
  ⟨h.ext.trans hx, (hx.heap (Array.getElem?_eq_some_iff.1 h.box).1).trans h.box, own_ext h.own hx, h.dif, h.new⟩
theorem own_set_ne {w : World} {base : Nat} {e : TypeId} {size : Nat} {v : Value} {n : Nat} {xs : List Value} (h : w.ownsRow base e size v n xs) {p : Addr} (hp : ∀ k, v.ownBlock = some k → k ≠ p.block) (u : Value) : (w.setCell p u).ownsRow base e size v n xs := by
  refine ⟨h.1, ?_⟩
  rcases h.2 with hn | ⟨g, cap, cur, hv, hb, hg, r⟩
  · exact .inl hn
  · exact .inr ⟨g, cap, cur, hv, hb, by rw [Below.heap_setCell _ _ _ _ (hp g (by rw [hv]; rfl))]; exact hg, r⟩
theorem elt_R4 : Elt Try.prog 24 33 4 32 := elt_of (z := .agg #[.int .i64 0, .int .i64 0, .int .i64 0, .int .i64 0]) Try.underlying24 (by kernel_rfl) rfl (by decide) (by decide)

set_option maxRecDepth 20000 in
set_option maxHeartbeats 8000000 in
theorem visit_any (c : Cx) (nb db ob : Nat) (num den : Int) (hk : 0 ≤ c.k ∧ c.k ≤ 8) (hb : Bnd num den = true) (u : Q4) (hu : smq u ≤ c.pw) (hok : c.ok u) (W0 : World) (hB : Bx4 c nb db num den W0) (w : World) (v : Value) (cnt : Nat) (X : Nat → Q4) (hcnt : cnt ≤ 1500000) (h : ST W0 ob w v cnt X) :
    Calls Try.prog 28 #[.agg #[.int .i64 u.a, .int .i64 u.b, .int .i64 u.c, .int .i64 u.d], .pointer (some ⟨c.tb, 0, none⟩), .pointer (some ⟨c.kb, 0, none⟩), .pointer (some ⟨nb, 0, none⟩), .pointer (some ⟨db, 0, none⟩), .pointer (some ⟨ob, 0, none⟩)] w fun e w' =>
      e = .returned (.tuple #[]) ∧ ∃ v' cnt' X', ST W0 ob w' v' cnt' X' ∧ ((gdB c num den u = true ∧ cnt' = cnt + 1 ∧ X' = up4 X cnt u) ∨ (gdB c num den u = false ∧ cnt' = cnt ∧ X' = X)) := by
  have her := hok.er
  have hm := erM_bd hok.n hok.k
  have HE1 := fun w' => Lib.hid (errorOf_any c.x c.y c.n u.a u.b u.c u.d c.k hok w')
  have HCl := fun w' => Lib.hid (isClose_any (c.ep u) (c.eq u) (erM c.n c.k) num den (cloB her.1 her.2 hm hb) w')
  have HRe := fun w' => Lib.hid (remainder_any c hk u hu w')
  have hp := pw_bd hk
  have hn := smq_nn u
  have hv := sqV_small (u := u) (by omega)
  have HDp := fun w' => Lib.hid (isDoublyPositive_any (c.pw - smq u) (-(sqV u.a u.b u.c u.d)) (Cf_mk (by omega)) (Cf_mk (by omega)) w')
  rw [show erP c.x c.y c.n u.a u.b u.c u.d c.k = c.ep u from rfl, show erQ c.x c.y u.a u.b u.c u.d c.k = c.eq u from rfl] at HE1
  have HG : Hid (gdB c num den u = (clo (c.ep u) (c.eq u) (erM c.n c.k) num den && Dp (c.pw - smq u) (-(sqV u.a u.b u.c u.d)))) := rfl
  have HH := Lib.hid h
  have HTK : Hid (∀ W, Ext w W → (∀ o, W.cell? ⟨c.tb, o, none⟩ = (#[.int .i64 c.x, .int .i64 c.y, .int .i64 c.n] : Array Value)[o]?) ∧ (∀ o, W.cell? ⟨c.kb, o, none⟩ = (#[.int .i64 c.k] : Array Value)[o]?) ∧ (∀ o, W.cell? ⟨nb, o, none⟩ = (#[.int .i64 num] : Array Value)[o]?) ∧ (∀ o, W.cell? ⟨db, o, none⟩ = (#[.int .i64 den] : Array Value)[o]?) ∧ (∀ o, W.cell? ⟨ob, o, none⟩ = (#[v] : Array Value)[o]?) ∧ (c.tb < W.heap.size ∧ c.kb < W.heap.size ∧ nb < W.heap.size ∧ db < W.heap.size ∧ ob < W.heap.size)) := fun W hx => by
    have b := (hB.ext h.ext).ext hx
    have b0 := b
    exact ⟨fun o => cell_of_row _ _ o _ _ _ b.1.1, fun o => cell_of_row _ _ o _ _ _ b.1.2, fun o => cell_of_row _ _ o _ _ _ b.2.1, fun o => cell_of_row _ _ o _ _ _ b.2.2, fun o => cell_of_row _ _ o _ _ _ (h.later hx).box,
      (Array.getElem?_eq_some_iff.1 b0.1.1).1, (Array.getElem?_eq_some_iff.1 b0.1.2).1, (Array.getElem?_eq_some_iff.1 b0.2.1).1, (Array.getElem?_eq_some_iff.1 b0.2.2).1, (Array.getElem?_eq_some_iff.1 (h.later hx).box).1⟩
  clear h hok hB hb hk hu her hm hp hn hv
  generalize c.ep u = e1 at *
  generalize c.eq u = e2 at *
  generalize erM c.n c.k = m at *
  generalize c.pw - smq u = r1 at *
  generalize -(sqV u.a u.b u.c u.d) = r2 at *
  generalize gdB c num den u = gd at *
  obtain ⟨zT, zK, zN, zD, zO, lT, lK, lN, lD, lO⟩ := HTK.out w (Ext.refl w)
  have HU : Hid (IL (mo4 (up4 X cnt u) (cnt + 1)) = IL (mo4 X cnt) ++ [.int .i64 u.a, .int .i64 u.b, .int .i64 u.c, .int .i64 u.d]) := by
    unfold Hid
    rw [mo4_succ, mo4_congr (X := up4 X cnt u) (Y := X) (fun k hk => by simp only [up4]; rw [if_neg (by omega)])]
    simp [up4]
  generalize hU : up4 X cnt u = X1 at *
  clear hU
  have n1 : c.tb ≠ w.heap.size := by omega
  have n2 : c.kb ≠ w.heap.size := by omega
  have n3 : nb ≠ w.heap.size := by omega
  have n4 : db ≠ w.heap.size := by omega
  have n5 : ob ≠ w.heap.size := by omega
  obtain ⟨tb, kb, x, y, n, k⟩ := c
  obtain ⟨a, b, c', d⟩ := u
  dsimp only at *
  have HL := Lib.hid (And.intro lT (And.intro lK (And.intro lN (And.intro lD lO))))
  go_enter Try.func28, Try.ntmps28
  go_wp2_with fail
  refine ((HE1 _).out).mono ?_
  rintro e w1 ⟨rfl, hx1⟩
  have HX1 : Hid (Ext w w1) := (by repeat (first | exact Ext.refl _ | assumption | refine Ext.alloc ?_ _ | refine Ext.drew ?_ | refine Ext.drewN ?_ _ | refine Ext.setCell ?_ (by first | omega | (dsimp only; omega) | (simp; done) | (simp; omega)) _ | refine Ext.trans ?_ (by assumption)))
  have HU1 : Hid (w1.heap[w.heap.size]? = some (.cells #[.int .i64 a, .int .i64 b, .int .i64 c', .int .i64 d] 33 (0, 0))) := (hx1.heap (by simp)).trans (heap_alloc_new _ _)
  have hs1 := HX1.out.size
  clear zT zK zN zD zO n1 n2 n3 n4 n5 hx1 lT lK lN lD lO
  obtain ⟨zT, zK, zN, zD, zO, lT, lK, lN, lD, lO⟩ := HTK.out w1 HX1.out
  have zU := fun o => cell_of_row _ _ o _ _ _ HU1.out
  have lU := (Array.getElem?_eq_some_iff.1 HU1.out).1
  have n3 : nb ≠ w1.heap.size := by omega
  have n4 : db ≠ w1.heap.size := by omega
  have n5 : w.heap.size ≠ w1.heap.size := by omega
  have n6 : kb ≠ w1.heap.size := by omega
  cases hc : clo e1 e2 m num den
  · rw [hc] at HCl HG
    have HG2 : Hid (gd = false) := HG.out
    go_wp2_with fail
    refine ((HCl _).out).mono ?_
    rintro e w2 ⟨rfl, hx2⟩
    have HX2 := Lib.hid ((HX1.out.alloc _).trans hx2)
    clear hx2
    go_wp2
    go_end0
    exact ⟨rfl, v, cnt, X, HH.out.later HX2.out, .inr ⟨HG2.out, rfl, rfl⟩⟩
  rw [hc] at HCl HG
  go_wp2_with fail
  refine ((HCl _).out).mono ?_
  rintro e w2 ⟨rfl, hx2⟩
  have HX2 := Lib.hid ((HX1.out.alloc _).trans hx2)
  have HU2 := Lib.hid ((hx2.heap (by simp; omega)).trans (heap_alloc_lt (o := .cells #[.int .i64 e1, .int .i64 e2] 53 (0, 0)) HU1.out))
  clear zT zK zN zD zO zU lU n3 n4 n5 n6 hx2 HU1 hs1 lT lK lN lD lO
  obtain ⟨zT, zK, zN, zD, zO, lT, lK, lN, lD, lO⟩ := HTK.out w2 HX2.out
  have zU := fun o => cell_of_row _ _ o _ _ _ HU2.out
  have lU := (Array.getElem?_eq_some_iff.1 HU2.out).1
  go_wp2_with fail
  refine ((HRe _).out).mono ?_
  rintro e w3 ⟨rfl, hx3⟩
  have HX3 := Lib.hid (HX2.out.trans hx3)
  have HU3 := Lib.hid ((hx3.heap lU).trans HU2.out)
  clear zT zK zN zD zO zU lU hx3 HU2 lT lK lN lD lO
  cases hd : Dp r1 r2
  · rw [hd] at HDp HG
    have HG2 : Hid (gd = false) := HG.out
    go_wp2_with fail
    refine ((HDp _).out).mono ?_
    rintro e w4 ⟨rfl, hx4⟩
    have HX4 := Lib.hid (HX3.out.trans hx4)
    clear hx4
    go_wp2
    go_end0
    exact ⟨rfl, v, cnt, X, HH.out.later HX4.out, .inr ⟨HG2.out, rfl, rfl⟩⟩
  · rw [hd] at HDp HG
    have HG2 : Hid (gd = true) := HG.out
    go_wp2_with fail
    refine ((HDp _).out).mono ?_
    rintro e w4 ⟨rfl, hx4⟩
    have HX4 := Lib.hid (HX3.out.trans hx4)
    have HU4 := Lib.hid ((hx4.heap (Array.getElem?_eq_some_iff.1 HU3.out).1).trans HU3.out)
    clear hx4 HU3
    obtain ⟨zT, zK, zN, zD, zO, lT, lK, lN, lD, lO⟩ := HTK.out w4 HX4.out
    have zU := fun o => cell_of_row _ _ o _ _ _ HU4.out
    have lU := (Array.getElem?_eq_some_iff.1 HU4.out).1
    have HS4 := Lib.hid (HH.out.later HX4.out)
    obtain ⟨va, vc, hva, _, _, _⟩ := own_shape HS4.out.own
    have lO4 : ob < w4.heap.size := by have := HX4.out.size; omega
    have n7 : ob ≠ w4.heap.size := by omega
    have HR4 := Lib.hid (RVV.ofHeap (heap_alloc_new w4 (.cells #[.int .i64 a, .int .i64 b, .int .i64 c', .int .i64 d] 33)) rfl (k := 4) (m := 1) (cap := 1) (ys := [.int .i64 a, .int .i64 b, .int .i64 c', .int .i64 d]) rfl (by simp [Value.oneCell']))
    subst hva
    have hW0 : W0.heap.size ≤ w4.heap.size := by have := HS4.out.new; omega
    go_wp2_with (at_builtin; go_loud (refine wpList_append_val (base := W0.heap.size) rfl elt_R4 rfl (.slice va cnt vc) cnt _ rfl (own_ext HS4.out.own ((Ext.refl _).alloc _)) (.slice (some ⟨w4.heap.size, 0, none⟩) 1 1) 1 [.int .i64 a, .int .i64 b, .int .i64 c', .int .i64 d] rfl HR4.out (by omega) (by simp; omega) ?_); intro v5 w5 hown5 hgrow5 hiff5 hloc5; obtain ⟨a5, c5, rfl, _, _, _⟩ := own_shape hown5; have HW5 := Lib.hid hown5; have HG5 := Lib.hid hgrow5; have HL5 := Lib.hid hloc5; have hb5 := Lib.hid (heap_grown hgrow5 (heap_alloc_lt (o := .cells #[.int .i64 a, .int .i64 b, .int .i64 c', .int .i64 d] 33 (0, 0)) HS4.out.box) (fun e => HS4.out.dif _ e.symm rfl)); have z5 := (fun o => cell_of_row _ _ o _ _ _ hb5.out); have l5 := (Array.getElem?_eq_some_iff.1 hb5.out).1; have f5 := (fun o => frozen_of_row _ _ o _ _ hb5.out); clear hown5 hgrow5 hiff5 hloc5)
    go_end0
    have hE5 : Ext W0 w5 := Ext.grown (HS4.out.ext.alloc _) HG5.out fun k hk => (HS4.out.own.lt k hk).1
    have hdif : ∀ k, (Value.slice a5 (cnt + 1) c5).ownBlock = some k → k ≠ ob := by
      intro k hk hko
      subst hko
      rcases HL5.out with hl | hl
      · rw [hl] at hk
        exact HS4.out.dif _ hk rfl
      · rw [hl] at hk
        have := Option.some.inj hk
        simp at this
        omega
    refine ⟨rfl, _, cnt + 1, X1, ⟨Ext.setCell hE5 HS4.out.new _, heap_set_at hb5.out 0 _, ?_, ?_, HS4.out.new⟩, .inl ⟨HG2.out, rfl, rfl⟩⟩
    · rw [HU.out]
      exact own_set_ne HW5.out (fun k hk => hdif k hk) _
    · exact hdif

end Go.Proofs.Ytbffcpnpdpgfeaa
