/- Numbers of the ring: which are valid, the absolute square. -/
import Derived.Test.YtbddgeoaaklgpaaRows
import Derived.Test.YtbddgeoaaklgpaaBase
namespace Go.Proofs.Ytbddgeoaaklgpaa
open Go.RowKit

def Rg (a b c d : Int) : Bool := Cf a && Cf b && Cf c && Cf d
def sqU (a b c d : Int) : Int := a * a + b * b + c * c + d * d
def sqV (a b c d : Int) : Int := a * b + b * c + c * d - d * a
theorem Rg_bd {a b c d : Int} (h : Rg a b c d = true) : (-1000000000 ≤ a ∧ a ≤ 1000000000) ∧ (-1000000000 ≤ b ∧ b ≤ 1000000000) ∧ (-1000000000 ≤ c ∧ c ≤ 1000000000) ∧ (-1000000000 ≤ d ∧ d ≤ 1000000000) := by
  simp only [Rg, Cf, Wn, Bool.and_eq_true, decide_eq_true_eq] at h
  omega
theorem Rg_mk {a b c d : Int} (h : (-1000000000 ≤ a ∧ a ≤ 1000000000) ∧ (-1000000000 ≤ b ∧ b ≤ 1000000000) ∧ (-1000000000 ≤ c ∧ c ≤ 1000000000) ∧ (-1000000000 ≤ d ∧ d ≤ 1000000000)) : Rg a b c d = true := by
  simp only [Rg, Cf, Wn, Bool.and_eq_true, decide_eq_true_eq]
  omega
/-- the products of two coefficients -/
theorem prod_bd {a b : Int} (ha : -1000000000 ≤ a ∧ a ≤ 1000000000) (hb : -1000000000 ≤ b ∧ b ≤ 1000000000) : -1000000000000000000 ≤ a * b ∧ a * b ≤ 1000000000000000000 :=
  mul_bd ha.1 ha.2 hb.1 hb.2

theorem isValidRing_any (a b c d : Int) (w : World) :
    Calls Try.prog 116 #[.agg #[.int .i64 a, .int .i64 b, .int .i64 c, .int .i64 d]] w fun e w' => e = .returned (.bool (Rg a b c d)) ∧ Ext w w' := by
  have HR : Hid (Rg a b c d = (Cf a && Cf b && Cf c && Cf d)) := rfl
  cases h1 : Cf a
  · go_enter Try.func116, Try.ntmps116
    go_wp2_with (go_at_call 123; ((with_reducible refine (isCoef_any _ _).mono ?_); rintro e w' ⟨rfl, rfl⟩))
    go_ret
    exact ⟨ret_bool (by rw [HR.out, h1]; rfl), (by repeat (first | exact Ext.refl _ | assumption | refine Ext.alloc ?_ _ | refine Ext.drew ?_ | refine Ext.drewN ?_ _ | refine Ext.setCell ?_ (by first | omega | (dsimp only; omega) | (simp; done) | (simp; omega)) _ | refine Ext.trans ?_ (by assumption)))⟩
  cases h2 : Cf b
  · go_enter Try.func116, Try.ntmps116
    go_wp2_with (go_at_call 123; ((with_reducible refine (isCoef_any _ _).mono ?_); rintro e w' ⟨rfl, rfl⟩))
    go_ret
    exact ⟨ret_bool (by rw [HR.out, h1, h2]; rfl), (by repeat (first | exact Ext.refl _ | assumption | refine Ext.alloc ?_ _ | refine Ext.drew ?_ | refine Ext.drewN ?_ _ | refine Ext.setCell ?_ (by first | omega | (dsimp only; omega) | (simp; done) | (simp; omega)) _ | refine Ext.trans ?_ (by assumption)))⟩
  cases h3 : Cf c
  · go_enter Try.func116, Try.ntmps116
    go_wp2_with (go_at_call 123; ((with_reducible refine (isCoef_any _ _).mono ?_); rintro e w' ⟨rfl, rfl⟩))
    go_ret
    exact ⟨ret_bool (by rw [HR.out, h1, h2, h3]; rfl), (by repeat (first | exact Ext.refl _ | assumption | refine Ext.alloc ?_ _ | refine Ext.drew ?_ | refine Ext.drewN ?_ _ | refine Ext.setCell ?_ (by first | omega | (dsimp only; omega) | (simp; done) | (simp; omega)) _ | refine Ext.trans ?_ (by assumption)))⟩
  · go_enter Try.func116, Try.ntmps116
    go_wp2_with (go_at_call 123; ((with_reducible refine (isCoef_any _ _).mono ?_); rintro e w' ⟨rfl, rfl⟩))
    go_ret
    exact ⟨ret_bool (by rw [HR.out, h1, h2, h3]; rfl), (by repeat (first | exact Ext.refl _ | assumption | refine Ext.alloc ?_ _ | refine Ext.drew ?_ | refine Ext.drewN ?_ _ | refine Ext.setCell ?_ (by first | omega | (dsimp only; omega) | (simp; done) | (simp; omega)) _ | refine Ext.trans ?_ (by assumption)))⟩

def okSq (a b c d : Int) : Bool := Rg a b c d && Cf (sqU a b c d) && Cf (sqV a b c d)
def absU (a b c d : Int) : Int := if okSq a b c d then sqU a b c d else 0
def absV (a b c d : Int) : Int := if okSq a b c d then sqV a b c d else 0
structure Prods (a b c d : Int) : Prop where
  aa : 0 ≤ a * a ∧ a * a ≤ 1000000000000000000
  bb : 0 ≤ b * b ∧ b * b ≤ 1000000000000000000
  cc : 0 ≤ c * c ∧ c * c ≤ 1000000000000000000
  dd : 0 ≤ d * d ∧ d * d ≤ 1000000000000000000
  ab : -1000000000000000000 ≤ a * b ∧ a * b ≤ 1000000000000000000
  bc : -1000000000000000000 ≤ b * c ∧ b * c ≤ 1000000000000000000
  cd : -1000000000000000000 ≤ c * d ∧ c * d ≤ 1000000000000000000
  da : -1000000000000000000 ≤ d * a ∧ d * a ≤ 1000000000000000000
theorem prods {a b c d : Int} (h : Rg a b c d = true) : Prods a b c d := by
  have b := Rg_bd h
  exact ⟨sq_bd b.1.1 b.1.2, sq_bd b.2.1.1 b.2.1.2, sq_bd b.2.2.1.1 b.2.2.1.2, sq_bd b.2.2.2.1 b.2.2.2.2, prod_bd b.1 b.2.1, prod_bd b.2.1 b.2.2.1, prod_bd b.2.2.1 b.2.2.2, prod_bd b.2.2.2 b.1⟩


open Go.RowKit

def RgAt (ys : List Int) (i : Nat) : Bool := Rg (ys.getD (i * 4) 0) (ys.getD (i * 4 + 1) 0) (ys.getD (i * 4 + 2) 0) (ys.getD (i * 4 + 3) 0)
def AllRg (ys : List Int) (N : Nat) : Bool := (List.range N).all (RgAt ys)
theorem allRg_succ (ys : List Int) (N : Nat) : AllRg ys (N + 1) = (AllRg ys N && RgAt ys N) := by
  simp [AllRg, List.range_succ]
theorem allRg_false {ys : List Int} {i N : Nat} (h : i < N) (hf : RgAt ys i = false) : AllRg ys N = false := by
  unfold AllRg
  rw [List.all_eq_false]
  exact ⟨i, List.mem_range.2 h, by simp [hf]⟩
def ifZ (b : Bool) (x : Int) : Int := if b then x else 0
theorem ifZ_true (x : Int) : ifZ true x = x := rfl
theorem ifZ_false (x : Int) : ifZ false x = 0 := rfl
theorem news2 {w : World} {c : Array Value} {t : TypeId} {xs : List Value} {N : Nat} (hN : w.heap.size = N) (h : c.toList = xs) : ∀ j u, xs[j]? = some u → (w.alloc (.cells c t)).cell? ((⟨N, 0, none⟩ : Addr).add j) = some u := by
  subst hN
  exact news1 h
theorem own_lit2 {w : World} {N : Nat} (hN : w.heap.size = N) {cs : Array Value} {e : TypeId} {size n : Nat} {xs : List Value} (hm : n ≤ maxLen) (hs : cs.size = n * size) (hx : cs.toList = xs) :
    (w.alloc (.cells cs e)).ownsRow N e size (.slice (some ⟨N, 0, none⟩) n n) n xs := by
  subst hN
  subst hx
  exact World.ownsRow_lit w cs n (Nat.le_refl _) hm hs
theorem Below.facts {B : Nat} {w w' : World} (h : Below B w w') : (∀ b o, b < B → w'.cell? ⟨b, o, none⟩ = w.cell? ⟨b, o, none⟩) ∧ (∀ b o, b < B → w'.frozen? ⟨b, o, none⟩ = w.frozen? ⟨b, o, none⟩) :=
  ⟨fun b o hb => Below.cell h (p := ⟨b, o, none⟩) hb, fun b o hb => Below.frozen h (p := ⟨b, o, none⟩) hb⟩
theorem info_ring : (Try.prog.info? 105).map (fun i => (i.zero, i.size, i.bytes)) = some (some (.agg #[.int .i64 0, .int .i64 0, .int .i64 0, .int .i64 0]), 4, 32) := by kernel_rfl

set_option maxHeartbeats 2000000 in
theorem ringIf_any (p q r s : Int) (n g : Nat) (v : Value) (ys : List Int) (hn : n ≤ 3) (hl : ys.length = n * 4) (w : World) (hg : g ≤ w.heap.size) (hown : w.ownsRow g 105 4 v n (IL ys)) :
    Calls Try.prog 119 #[.agg #[.int .i64 p, .int .i64 q, .int .i64 r, .int .i64 s], v] w fun e w' =>
      e = .returned (.tuple #[.agg #[.int .i64 (ifZ (AllRg (ys ++ [p, q, r, s]) (n + 1)) p), .int .i64 (ifZ (AllRg (ys ++ [p, q, r, s]) (n + 1)) q), .int .i64 (ifZ (AllRg (ys ++ [p, q, r, s]) (n + 1)) r), .int .i64 (ifZ (AllRg (ys ++ [p, q, r, s]) (n + 1)) s)],
        .bool (AllRg (ys ++ [p, q, r, s]) (n + 1))]) ∧ Below g w w' := by
  obtain ⟨i0, hi, hz0, hz1, hz2⟩ := info_parts info_ring
  have HO := Lib.hid hown
  have hob : ∀ k, v.ownBlock = some k → g ≤ k ∧ k < w.heap.size := fun k hk => hown.lt k hk
  have HB := Lib.hid hob
  have HV : Hid (AllRg (ys ++ [p, q, r, s]) (n + 1) = AllRg (ys ++ [p, q, r, s]) (n + 1)) := rfl
  have HI : Hid (IL ys ++ [.int .i64 p, .int .i64 q, .int .i64 r, .int .i64 s] = IL (ys ++ [p, q, r, s])) := by simp [Hid, IL]
  have hL : (ys ++ [p, q, r, s]).length = (n + 1) * 4 := by simp [hl]; omega
  generalize ys ++ [p, q, r, s] = zs at *
  clear hown hob HV hl
  go_enter Try.func119, Try.ntmps119
  go_wp2_with (at_builtin; refine wpList_append_lies _ rfl (.tmp 8) (.tmp 10) _ rfl g 105 i0 (.agg #[.int .i64 0, .int .i64 0, .int .i64 0, .int .i64 0]) 4 32 Try.underlying158 hi hz0 hz1 hz2 rfl (by decide) v n (IL ys) (by rfl) (((HO.out.alloc _).alloc _).alloc _) ⟨w.heap.size + 1 + 1, 0, none⟩ 1 1 [.int .i64 p, .int .i64 q, .int .i64 r, .int .i64 s] (by rfl) (by rfl) (news2 (by simp) rfl) (by intro u hu; simp at hu; rcases hu with rfl | rfl | rfl | rfl <;> rfl) (by decide) (by simp only [maxLen]; omega) (by omega) (by simp; omega) (w.heap.size + 1 + 1 + 1) (by simp) ?_; intro g2 cap w1 hown1 hgrow hat hlt)
  have H1 := Lib.hid hown1
  rw [HI.out] at hown1
  clear H1
  have HW := Lib.hid hown1
  have hne : ∀ k, w.heap.size ≤ k → some k ≠ v.ownBlock := fun k hk e => by have := (HB.out k e.symm).2; omega
  have hbx : w1.heap[w.heap.size]? = some (.cells #[.int .i64 p, .int .i64 q, .int .i64 r, .int .i64 s] 105 (0, 0)) := by
    rw [hgrow.block _ (by simp; omega) (hne _ (Nat.le_refl _))]
    exact ((((Ext.refl _).alloc _).alloc _).heap (by simp)).trans (heap_alloc_new w _)
  have hb4 : w1.heap[w.heap.size + 1]? = some (.cells #[.int .i64 0, .int .i64 0, .int .i64 0, .int .i64 0] 105 (0, 0)) := by
    rw [hgrow.block _ (by simp) (hne _ (by omega))]
    have := ((Ext.refl ((w.alloc (.cells #[.int .i64 p, .int .i64 q, .int .i64 r, .int .i64 s] 105)).alloc (.cells #[.int .i64 0, .int .i64 0, .int .i64 0, .int .i64 0] 105))).alloc (.cells #[.int .i64 p, .int .i64 q, .int .i64 r, .int .i64 s] 105)).heap (k := w.heap.size + 1) (by simp)
    rw [this]
    have h2 := heap_alloc_new (w.alloc (.cells #[.int .i64 p, .int .i64 q, .int .i64 r, .int .i64 s] 105)) (.cells #[.int .i64 0, .int .i64 0, .int .i64 0, .int .i64 0] 105)
    rw [World.size_alloc] at h2
    exact h2
  have hE1 : Below g w w1 := Below.grown ((((Below.refl g w).alloc hg _).alloc (by simp; omega) _).alloc (by simp; omega) _) hgrow (by simp; omega) (fun k hk => (HB.out k hk).1)
  have hs1 : w.heap.size + 1 + 1 + 1 ≤ w1.heap.size := by have := hgrow.size; simpa using this
  clear hown1 hgrow hat hlt hne HB HO
  go_loopw [13, 7] (fun i _ wr => ∃ j : Nat, j ≤ n + 1 ∧ i = .int .i64 j ∧ Ext w1 wr ∧ AllRg zs j = true) (fun i _ _ => n + 1 - (intOf i).toNat)
  case atStart => exact ⟨0, by omega, rfl, Ext.refl _, rfl⟩
  case round =>
    obtain ⟨j, hj, rfl, hE, hall⟩ := hrel
    have HA := Lib.hid hall
    clear hall
    have hEs := hE.size
    have hbx' := (hE.heap (k := w.heap.size) (by omega)).trans hbx
    have hb4' := (hE.heap (k := w.heap.size + 1) (by omega)).trans hb4
    have hcx : ∀ k, wr.cell? ⟨w.heap.size, k, none⟩ = (#[.int .i64 p, .int .i64 q, .int .i64 r, .int .i64 s] : Array Value)[k]? := fun k => cell_of_row _ _ _ _ _ _ hbx'
    have hc4 : ∀ k, wr.cell? ⟨w.heap.size + 1, k, none⟩ = (#[.int .i64 0, .int .i64 0, .int .i64 0, .int .i64 0] : Array Value)[k]? := fun k => cell_of_row _ _ _ _ _ _ hb4'
    have hf4 : ∀ k, wr.frozen? ⟨w.heap.size + 1, k, none⟩ = false := fun k => frozen_of_row _ _ _ _ _ hb4'
    clear hbx' hb4'
    have hsz := sz3 (a := w.heap.size) (b := wr.heap.size) (by omega)
    have hB : Below g w wr := hE1.trans (Below.mono hE (by omega))
    by_cases hlt : j < n + 1
    · have hlt' : (j : Int) < (n : Int) + 1 := by omega
      have ho := own_ext HW.out hE
      have hcl : ∀ k, k < (n + 1) * 4 → wr.cell? ⟨g2, k, none⟩ = some (.int .i64 (zs.getD k 0)) := by
        intro k hk
        rw [ho.cellAt k hk, il_get (xs := zs) (k := k) (by omega)]
        simp [List.getElem?_eq_getElem (show k < zs.length by omega)]
      have z0 := hcl (j * 4) (by omega)
      have z1 := hcl (j * 4 + 1) (by omega)
      have z2 := hcl (j * 4 + 2) (by omega)
      have z3 := hcl (j * 4 + 3) (by omega)
      have HR : Hid (RgAt zs j = Rg (zs.getD (j * 4) 0) (zs.getD (j * 4 + 1) 0) (zs.getD (j * 4 + 2) 0) (zs.getD (j * 4 + 3) 0)) := rfl
      generalize zs.getD (j * 4) 0 = y0 at *
      generalize zs.getD (j * 4 + 1) 0 = y1 at *
      generalize zs.getD (j * 4 + 2) 0 = y2 at *
      generalize zs.getD (j * 4 + 3) 0 = y3 at *
      have hg2 : g2 < wr.heap.size := lt_of_cell z0
      clear ho hcl
      cases hrg : Rg y0 y1 y2 y3
      · have HF : Hid (AllRg zs (n + 1) = false) := allRg_false hlt (by rw [HR.out, hrg])
        go_wp2_with fail
        refine (isValidRing_any _ _ _ _ _).mono ?_
        rintro e w2 ⟨rfl, hx2⟩
        obtain ⟨hc2, hf2⟩ := hx2.cells
        have hz2 := hx2.size
        try simp at hz2
        have hs2_0 := sz1 (a := wr.heap.size) (b := w2.heap.size) (by omega)
        go_wp2
        refine bodyPost_ret (v := .tuple #[.agg #[.int .i64 0, .int .i64 0, .int .i64 0, .int .i64 0], .bool false]) (by simp [results, Try.results119, go_sem, *]) rfl ⟨by rw [HF.out]; rfl, ?_⟩
        (repeat (refine Below.setCell ?_ (by simp; omega) _)); exact (hB.alloc (by omega) _).trans (Below.mono hx2 (by simp; omega))
      · go_wp2_with fail
        refine (isValidRing_any _ _ _ _ _).mono ?_
        rintro e w2 ⟨rfl, hx2⟩
        obtain ⟨hc2, hf2⟩ := hx2.cells
        have hz2 := hx2.size
        try simp at hz2
        have hs2_0 := sz1 (a := wr.heap.size) (b := w2.heap.size) (by omega)
        go_wp2
        go_roundw
        case rel => exact ⟨j + 1, by omega, by go_num, (hE.alloc _).trans hx2, by rw [allRg_succ, HA.out, HR.out, hrg]; rfl⟩
        case measure => simp [intOf]; omega
    · obtain rfl : j = n + 1 := by omega
      go_wp2
      refine bodyPost_ret (v := .tuple #[.agg #[.int .i64 p, .int .i64 q, .int .i64 r, .int .i64 s], .bool true]) (by simp [results, Try.results119, go_sem, *]) rfl ⟨by rw [HA.out]; rfl, ?_⟩
      (repeat (refine Below.setCell ?_ (by simp; omega) _)); exact hB


open Go.RowKit

theorem allRgN2 (a b c d e f g h p q r s : Int) : AllRg ([a, b, c, d, e, f, g, h] ++ [p, q, r, s]) (2 + 1) = (Rg a b c d && Rg e f g h && Rg p q r s) := by
  simp [AllRg, RgAt, List.range_succ, Bool.and_assoc]
theorem allRgN1 (a b c d p q r s : Int) : AllRg ([a, b, c, d] ++ [p, q, r, s]) (1 + 1) = (Rg a b c d && Rg p q r s) := by
  simp [AllRg, RgAt, List.range_succ]

def okAddRing (a b c d e f g h : Int) : Bool := Rg a b c d && Rg e f g h && Rg (a + e) (b + f) (c + g) (d + h)
set_option maxHeartbeats 2000000 in
theorem addRing_any (a b c d e f g h : Int) (w : World) :
    Calls Try.prog 114 #[.agg #[.int .i64 a, .int .i64 b, .int .i64 c, .int .i64 d], .agg #[.int .i64 e, .int .i64 f, .int .i64 g, .int .i64 h]] w fun en w' => en = .returned (.tuple #[.agg #[.int .i64 (ifZ (okAddRing a b c d e f g h) (a + e)), .int .i64 (ifZ (okAddRing a b c d e f g h) (b + f)), .int .i64 (ifZ (okAddRing a b c d e f g h) (c + g)), .int .i64 (ifZ (okAddRing a b c d e f g h) (d + h))], .bool (okAddRing a b c d e f g h)]) ∧ Ext w w' := by
  cases h0 : Rg a b c d && Rg e f g h
  · have HO : Hid (okAddRing a b c d e f g h = false) := by unfold Hid okAddRing; rw [h0]; rfl
    have HB : ∀ p q r s : Int, AllRg ([a, b, c, d, e, f, g, h] ++ [p, q, r, s]) (2 + 1) = false := fun p q r s => (allRgN2 a b c d e f g h p q r s).trans (by rw [h0]; rfl)
    rw [HO.out]
    clear HO h0
    go_enter Try.func114, Try.ntmps114
    go_wp2_with fail
    refine (ringIf_any _ _ _ _ 2 (w.heap.size + 1 + 1 + 1) _ [a, b, c, d, e, f, g, h] (by decide) rfl _ (by simp) (own_lit2 (by simp) (by decide) rfl rfl)).mono ?_
    rintro en w1 ⟨rfl, hx1⟩
    obtain ⟨hc1, hf1⟩ := Below.facts hx1
    have hz1 := hx1.size
    try simp at hz1
    have hs1 := sz4 (a := w.heap.size) (b := w1.heap.size) (by omega)
    have hx1' : Ext w w1 := Below.trans (by repeat (first | exact Ext.refl _ | assumption | refine Ext.alloc ?_ _ | refine Ext.drew ?_ | refine Ext.drewN ?_ _ | refine Ext.setCell ?_ (by first | omega | (dsimp only; omega) | (simp; done) | (simp; omega)) _ | refine Ext.trans ?_ (by assumption))) (Below.mono hx1 (by omega))
    clear hx1
    simp only [HB, ifZ_false]
    go_wp2
    refine bodyPost_ret (v := .tuple #[.agg #[.int .i64 0, .int .i64 0, .int .i64 0, .int .i64 0], .bool false]) (by simp [results, Try.results114, go_sem, *]) rfl ⟨rfl, ?_⟩
    (repeat (refine Ext.setCell ?_ (by first | (simp; done) | (simp; omega)) _)); exact hx1'
  · simp only [Bool.and_eq_true] at h0
    obtain ⟨k1, k2⟩ := h0
    obtain ⟨ba, bb, bc, bd⟩ := Rg_bd k1
    obtain ⟨be, bf, bg, bh⟩ := Rg_bd k2
    have HB : Hid (AllRg ([a, b, c, d, e, f, g, h] ++ [a + e, b + f, c + g, d + h]) (2 + 1) = okAddRing a b c d e f g h) := allRgN2 a b c d e f g h _ _ _ _
    go_enter Try.func114, Try.ntmps114
    go_wp2_with fail
    have HT := Lib.hid (ringIf_any (a + e) (b + f) (c + g) (d + h) 2 (w.heap.size + 1 + 1 + 1) (.slice (some ⟨w.heap.size + 1 + 1 + 1, 0, none⟩) 2 2) [a, b, c, d, e, f, g, h] (by decide) rfl)
    unfold Hid at HT
    rw [HB.out] at HT
    refine (HT _ (by simp) (own_lit2 (by simp) (by decide) rfl rfl)).mono ?_
    rintro en w1 ⟨rfl, hx1⟩
    clear HT
    obtain ⟨hc1, hf1⟩ := Below.facts hx1
    have hz1 := hx1.size
    try simp at hz1
    have hs1 := sz4 (a := w.heap.size) (b := w1.heap.size) (by omega)
    have hx1' : Ext w w1 := Below.trans (by repeat (first | exact Ext.refl _ | assumption | refine Ext.alloc ?_ _ | refine Ext.drew ?_ | refine Ext.drewN ?_ _ | refine Ext.setCell ?_ (by first | omega | (dsimp only; omega) | (simp; done) | (simp; omega)) _ | refine Ext.trans ?_ (by assumption))) (Below.mono hx1 (by omega))
    clear hx1
    go_wp2
    refine bodyPost_ret (v := .tuple #[.agg #[.int .i64 (ifZ (okAddRing a b c d e f g h) (a + e)), .int .i64 (ifZ (okAddRing a b c d e f g h) (b + f)), .int .i64 (ifZ (okAddRing a b c d e f g h) (c + g)), .int .i64 (ifZ (okAddRing a b c d e f g h) (d + h))], .bool (okAddRing a b c d e f g h)]) (by simp [results, Try.results114, go_sem, *]) rfl ⟨rfl, ?_⟩
    (repeat (refine Ext.setCell ?_ (by first | (simp; done) | (simp; omega)) _)); exact hx1'

def okSubRing (a b c d e f g h : Int) : Bool := Rg a b c d && Rg e f g h && Rg (a - e) (b - f) (c - g) (d - h)

def okMulRootTwo (a b c d : Int) : Bool := Rg a b c d && Rg (b - d) (a + c) (b + d) (c - a)
set_option maxHeartbeats 2000000 in
theorem mulRootTwo_any (a b c d : Int) (w : World) :
    Calls Try.prog 124 #[.agg #[.int .i64 a, .int .i64 b, .int .i64 c, .int .i64 d]] w fun en w' => en = .returned (.tuple #[.agg #[.int .i64 (ifZ (okMulRootTwo a b c d) (b - d)), .int .i64 (ifZ (okMulRootTwo a b c d) (a + c)), .int .i64 (ifZ (okMulRootTwo a b c d) (b + d)), .int .i64 (ifZ (okMulRootTwo a b c d) (c - a))], .bool (okMulRootTwo a b c d)]) ∧ Ext w w' := by
  cases h0 : Rg a b c d
  · have HO : Hid (okMulRootTwo a b c d = false) := by unfold Hid okMulRootTwo; rw [h0]; rfl
    have HB : ∀ p q r s : Int, AllRg ([a, b, c, d] ++ [p, q, r, s]) (1 + 1) = false := fun p q r s => (allRgN1 a b c d p q r s).trans (by rw [h0]; rfl)
    rw [HO.out]
    clear HO h0
    go_enter Try.func124, Try.ntmps124
    go_wp2_with fail
    refine (ringIf_any _ _ _ _ 1 (w.heap.size + 1 + 1) _ [a, b, c, d] (by decide) rfl _ (by simp) (own_lit2 (by simp) (by decide) rfl rfl)).mono ?_
    rintro en w1 ⟨rfl, hx1⟩
    obtain ⟨hc1, hf1⟩ := Below.facts hx1
    have hz1 := hx1.size
    try simp at hz1
    have hs1 := sz3 (a := w.heap.size) (b := w1.heap.size) (by omega)
    have hx1' : Ext w w1 := Below.trans (by repeat (first | exact Ext.refl _ | assumption | refine Ext.alloc ?_ _ | refine Ext.drew ?_ | refine Ext.drewN ?_ _ | refine Ext.setCell ?_ (by first | omega | (dsimp only; omega) | (simp; done) | (simp; omega)) _ | refine Ext.trans ?_ (by assumption))) (Below.mono hx1 (by omega))
    clear hx1
    simp only [HB, ifZ_false]
    go_wp2
    refine bodyPost_ret (v := .tuple #[.agg #[.int .i64 0, .int .i64 0, .int .i64 0, .int .i64 0], .bool false]) (by simp [results, Try.results124, go_sem, *]) rfl ⟨rfl, ?_⟩
    (repeat (refine Ext.setCell ?_ (by first | (simp; done) | (simp; omega)) _)); exact hx1'
  · have k1 := h0
    obtain ⟨ba, bb, bc, bd⟩ := Rg_bd k1
    have HB : Hid (AllRg ([a, b, c, d] ++ [b - d, a + c, b + d, c - a]) (1 + 1) = okMulRootTwo a b c d) := allRgN1 a b c d _ _ _ _
    go_enter Try.func124, Try.ntmps124
    go_wp2_with fail
    have HT := Lib.hid (ringIf_any (b - d) (a + c) (b + d) (c - a) 1 (w.heap.size + 1 + 1) (.slice (some ⟨w.heap.size + 1 + 1, 0, none⟩) 1 1) [a, b, c, d] (by decide) rfl)
    unfold Hid at HT
    rw [HB.out] at HT
    refine (HT _ (by simp) (own_lit2 (by simp) (by decide) rfl rfl)).mono ?_
    rintro en w1 ⟨rfl, hx1⟩
    clear HT
    obtain ⟨hc1, hf1⟩ := Below.facts hx1
    have hz1 := hx1.size
    try simp at hz1
    have hs1 := sz3 (a := w.heap.size) (b := w1.heap.size) (by omega)
    have hx1' : Ext w w1 := Below.trans (by repeat (first | exact Ext.refl _ | assumption | refine Ext.alloc ?_ _ | refine Ext.drew ?_ | refine Ext.drewN ?_ _ | refine Ext.setCell ?_ (by first | omega | (dsimp only; omega) | (simp; done) | (simp; omega)) _ | refine Ext.trans ?_ (by assumption))) (Below.mono hx1 (by omega))
    clear hx1
    go_wp2
    refine bodyPost_ret (v := .tuple #[.agg #[.int .i64 (ifZ (okMulRootTwo a b c d) (b - d)), .int .i64 (ifZ (okMulRootTwo a b c d) (a + c)), .int .i64 (ifZ (okMulRootTwo a b c d) (b + d)), .int .i64 (ifZ (okMulRootTwo a b c d) (c - a))], .bool (okMulRootTwo a b c d)]) (by simp [results, Try.results124, go_sem, *]) rfl ⟨rfl, ?_⟩
    (repeat (refine Ext.setCell ?_ (by first | (simp; done) | (simp; omega)) _)); exact hx1'

def okConjugate (a b c d : Int) : Bool := Rg a b c d && Rg (a) (-d) (-c) (-b)


open Go.RowKit

def evR (a b c d : Int) : Bool := (Int.tmod (a + c) 2 == 0) && (Int.tmod (b + d) 2 == 0)

theorem isEven_any (a b c d : Int) (h : Rg a b c d = true) (w : World) :
    Calls Try.prog 118 #[.agg #[.int .i64 a, .int .i64 b, .int .i64 c, .int .i64 d]] w fun e w' => e = .returned (.bool (evR a b c d)) ∧ Ext w w' := by
  obtain ⟨ba, bb, bc, bd⟩ := Rg_bd h
  cases h1 : (Int.tmod (a + c) 2 == 0)
  · have HE : Hid (evR a b c d = false) := by unfold Hid evR; rw [h1]; rfl
    go_enter Try.func118, Try.ntmps118
    go_wp2
    go_ret
    exact ⟨ret_bool (by rw [HE.out]), (by repeat (first | exact Ext.refl _ | assumption | refine Ext.alloc ?_ _ | refine Ext.drew ?_ | refine Ext.drewN ?_ _ | refine Ext.setCell ?_ (by first | omega | (dsimp only; omega) | (simp; done) | (simp; omega)) _ | refine Ext.trans ?_ (by assumption)))⟩
  · have HE : Hid (evR a b c d = (Int.tmod (b + d) 2 == 0)) := by unfold Hid evR; rw [h1]; rfl
    go_enter Try.func118, Try.ntmps118
    go_wp2
    go_ret
    exact ⟨ret_bool (by rw [HE.out]), (by repeat (first | exact Ext.refl _ | assumption | refine Ext.alloc ?_ _ | refine Ext.drew ?_ | refine Ext.drewN ?_ _ | refine Ext.setCell ?_ (by first | omega | (dsimp only; omega) | (simp; done) | (simp; omega)) _ | refine Ext.trans ?_ (by assumption)))⟩


open Go.RowKit

theorem half_bd {x y : Int} (hx : -1000000000 ≤ x ∧ x ≤ 1000000000) (hy : -1000000000 ≤ y ∧ y ≤ 1000000000) : (-1000000000 ≤ Int.tdiv (x - y) 2 ∧ Int.tdiv (x - y) 2 ≤ 1000000000) ∧ (-1000000000 ≤ Int.tdiv (x + y) 2 ∧ Int.tdiv (x + y) 2 ≤ 1000000000) := by
  have h3 : (Int.tdiv (x - y) 2).natAbs = (x - y).natAbs / 2 := by rw [Int.natAbs_tdiv]; rfl
  have h4 : (Int.tdiv (x + y) 2).natAbs = (x + y).natAbs / 2 := by rw [Int.natAbs_tdiv]; rfl
  omega


open Go.RowKit

def mrA (a b c d e f g h : Int) : Int := a * e - b * h - c * g - d * f
def mrB (a b c d e f g h : Int) : Int := a * f + b * e - c * h - d * g
def mrC (a b c d e f g h : Int) : Int := a * g + b * f + c * e - d * h
def mrD (a b c d e f g h : Int) : Int := a * h + b * g + c * f + d * e
def okMr (a b c d e f g h : Int) : Bool := Rg a b c d && Rg e f g h && Rg (mrA a b c d e f g h) (mrB a b c d e f g h) (mrC a b c d e f g h) (mrD a b c d e f g h)
theorem allRg3 (a b c d e f g h p q r s : Int) : AllRg [a, b, c, d, e, f, g, h, p, q, r, s] 3 = (Rg a b c d && Rg e f g h && Rg p q r s) := by
  simp [AllRg, RgAt, List.range_succ, Bool.and_assoc]

/-- the sixteen products -/
structure P16 (a b c d e f g h : Int) : Prop where
  ae : -1000000000000000000 ≤ a * e ∧ a * e ≤ 1000000000000000000
  af : -1000000000000000000 ≤ a * f ∧ a * f ≤ 1000000000000000000
  ag : -1000000000000000000 ≤ a * g ∧ a * g ≤ 1000000000000000000
  ah : -1000000000000000000 ≤ a * h ∧ a * h ≤ 1000000000000000000
  be : -1000000000000000000 ≤ b * e ∧ b * e ≤ 1000000000000000000
  bf : -1000000000000000000 ≤ b * f ∧ b * f ≤ 1000000000000000000
  bg : -1000000000000000000 ≤ b * g ∧ b * g ≤ 1000000000000000000
  bh : -1000000000000000000 ≤ b * h ∧ b * h ≤ 1000000000000000000
  ce : -1000000000000000000 ≤ c * e ∧ c * e ≤ 1000000000000000000
  cf : -1000000000000000000 ≤ c * f ∧ c * f ≤ 1000000000000000000
  cg : -1000000000000000000 ≤ c * g ∧ c * g ≤ 1000000000000000000
  ch : -1000000000000000000 ≤ c * h ∧ c * h ≤ 1000000000000000000
  de : -1000000000000000000 ≤ d * e ∧ d * e ≤ 1000000000000000000
  df : -1000000000000000000 ≤ d * f ∧ d * f ≤ 1000000000000000000
  dg : -1000000000000000000 ≤ d * g ∧ d * g ≤ 1000000000000000000
  dh : -1000000000000000000 ≤ d * h ∧ d * h ≤ 1000000000000000000
theorem p16 {a b c d e f g h : Int} (h1 : Rg a b c d = true) (h2 : Rg e f g h = true) : P16 a b c d e f g h := by
  obtain ⟨ba, bb, bc, bd⟩ := Rg_bd h1
  obtain ⟨be, bf, bg, bh⟩ := Rg_bd h2
  exact ⟨prod_bd ba be, prod_bd ba bf, prod_bd ba bg, prod_bd ba bh, prod_bd bb be, prod_bd bb bf, prod_bd bb bg, prod_bd bb bh, prod_bd bc be, prod_bd bc bf, prod_bd bc bg, prod_bd bc bh, prod_bd bd be, prod_bd bd bf, prod_bd bd bg, prod_bd bd bh⟩

set_option maxHeartbeats 2000000 in
theorem mulRing_any (a b c d e f g h : Int) (w : World) :
    Calls Try.prog 111 #[.agg #[.int .i64 a, .int .i64 b, .int .i64 c, .int .i64 d], .agg #[.int .i64 e, .int .i64 f, .int .i64 g, .int .i64 h]] w fun en w' =>
      en = .returned (.tuple #[.agg #[.int .i64 (ifZ (okMr a b c d e f g h) (mrA a b c d e f g h)), .int .i64 (ifZ (okMr a b c d e f g h) (mrB a b c d e f g h)), .int .i64 (ifZ (okMr a b c d e f g h) (mrC a b c d e f g h)), .int .i64 (ifZ (okMr a b c d e f g h) (mrD a b c d e f g h))],
        .bool (okMr a b c d e f g h)]) ∧ Ext w w' := by
  cases h0 : Rg a b c d && Rg e f g h
  · have HO : Hid (okMr a b c d e f g h = false) := by unfold Hid okMr; rw [h0]; rfl
    have HB : ∀ p q r s : Int, AllRg ([a, b, c, d, e, f, g, h] ++ [p, q, r, s]) (2 + 1) = false := fun p q r s => (allRg3 a b c d e f g h p q r s).trans (by rw [h0]; rfl)
    rw [HO.out]
    clear HO h0
    go_enter Try.func111, Try.ntmps111
    go_wp2_with fail
    refine (ringIf_any _ _ _ _ 2 (w.heap.size + 1 + 1 + 1) _ [a, b, c, d, e, f, g, h] (by decide) rfl _ (by simp) (own_lit2 (by simp) (by decide) rfl rfl)).mono ?_
    rintro en w1 ⟨rfl, hx1⟩
    obtain ⟨hc1, hf1⟩ := Below.facts hx1
    have hz1 := hx1.size
    try simp at hz1
    have hs1 := sz4 (a := w.heap.size) (b := w1.heap.size) (by omega)
    have hx1' : Ext w w1 := Below.trans (by repeat (first | exact Ext.refl _ | assumption | refine Ext.alloc ?_ _ | refine Ext.drew ?_ | refine Ext.drewN ?_ _ | refine Ext.setCell ?_ (by first | omega | (dsimp only; omega) | (simp; done) | (simp; omega)) _ | refine Ext.trans ?_ (by assumption))) (Below.mono hx1 (by omega))
    clear hx1
    simp only [HB, ifZ_false]
    go_wp2
    refine bodyPost_ret (v := .tuple #[.agg #[.int .i64 0, .int .i64 0, .int .i64 0, .int .i64 0], .bool false]) (by simp [results, Try.results111, go_sem, *]) rfl ⟨rfl, ?_⟩
    (repeat (refine Ext.setCell ?_ (by simp; omega) _)); exact hx1'
  · simp only [Bool.and_eq_true] at h0
    obtain ⟨k1, k2⟩ := h0
    have HP := Lib.hid (p16 k1 k2)
    obtain ⟨p1, p2, p3, p4, p5, p6, p7, p8, p9, p10, p11, p12, p13, p14, p15, p16⟩ := HP.out
    have HB : Hid (AllRg ([a, b, c, d, e, f, g, h] ++ [mrA a b c d e f g h, mrB a b c d e f g h, mrC a b c d e f g h, mrD a b c d e f g h]) (2 + 1) = okMr a b c d e f g h) := allRg3 a b c d e f g h _ _ _ _
    clear HP k1 k2
    go_enter Try.func111, Try.ntmps111
    go_wp2_with fail
    have HT := Lib.hid (ringIf_any (mrA a b c d e f g h) (mrB a b c d e f g h) (mrC a b c d e f g h) (mrD a b c d e f g h) 2 (w.heap.size + 1 + 1 + 1) (.slice (some ⟨w.heap.size + 1 + 1 + 1, 0, none⟩) 2 2) [a, b, c, d, e, f, g, h] (by decide) rfl)
    unfold Hid at HT
    rw [HB.out] at HT
    refine (HT _ (by simp) (own_lit2 (by simp) (by decide) rfl rfl)).mono ?_
    rintro en w1 ⟨rfl, hx1⟩
    clear HT
    obtain ⟨hc1, hf1⟩ := Below.facts hx1
    have hz1 := hx1.size
    try simp at hz1
    have hs1 := sz4 (a := w.heap.size) (b := w1.heap.size) (by omega)
    have hx1' : Ext w w1 := Below.trans (by repeat (first | exact Ext.refl _ | assumption | refine Ext.alloc ?_ _ | refine Ext.drew ?_ | refine Ext.drewN ?_ _ | refine Ext.setCell ?_ (by first | omega | (dsimp only; omega) | (simp; done) | (simp; omega)) _ | refine Ext.trans ?_ (by assumption))) (Below.mono hx1 (by omega))
    clear hx1
    go_wp2
    refine bodyPost_ret (v := .tuple #[.agg #[.int .i64 (ifZ (okMr a b c d e f g h) (mrA a b c d e f g h)), .int .i64 (ifZ (okMr a b c d e f g h) (mrB a b c d e f g h)), .int .i64 (ifZ (okMr a b c d e f g h) (mrC a b c d e f g h)), .int .i64 (ifZ (okMr a b c d e f g h) (mrD a b c d e f g h))], .bool (okMr a b c d e f g h)]) (by simp [results, Try.results111, go_sem, *]) rfl ⟨rfl, ?_⟩
    (repeat (refine Ext.setCell ?_ (by simp; omega) _)); exact hx1'


open Go.RowKit

theorem allW4 (a b c d : Int) : AllW [a, b, c, d] (-1000000000) 1000000000 = Rg a b c d := by simp [AllW, Rg, Cf, Bool.and_assoc]


open Go.RowKit


open Go.RowKit Go.Lib
set_option linter.unusedVariables false
set_option linter.unusedSimpArgs false


open Go.RowKit

theorem own_lit3 {w : World} {N : Nat} (hN : w.heap.size = N) {cs : Array Value} {e : TypeId} {size n : Nat} {xs : List Value} (hm : n ≤ maxLen) (hs : cs.size = n * size) (hx : cs.toList = xs) :
    (w.alloc (.cells cs e)).ownsRow N e size (.slice (some ⟨N, 0, none⟩) n n) n xs := by
  subst hN
  subst hx
  exact World.ownsRow_lit w cs n (Nat.le_refl _) hm hs
theorem news3 {w : World} {c : Array Value} {t : TypeId} {xs : List Value} {N : Nat} (hN : w.heap.size = N) (h : c.toList = xs) : ∀ j u, xs[j]? = some u → (w.alloc (.cells c t)).cell? ((⟨N, 0, none⟩ : Addr).add j) = some u := by
  subst hN
  exact news1 h


open Go.RowKit

end Go.Proofs.Ytbddgeoaaklgpaa
