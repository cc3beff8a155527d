/- ApplyReplacement: the reference's side. -/
import Derived.Test.YtlbcjbeafampcaaAppL
import Derived.Test.YtlbcjbeafampcaaLt
import Derived.Test.YtlbcjbeafampcaaAppP
import Derived.Deep.RegionHeld3
import Derived.Deep.Cut
namespace Go.Proofs.Ytlbcjbeafampcaa
open Go.RowKit Go.Lib
set_option linter.unusedVariables false
set_option linter.unusedSimpArgs false

theorem heap_drewS {w : World} {k : Nat} {x : Option Obj} (h : w.heap[k]? = x) : w.drew.heap[k]? = x := h
theorem own_zero {w : World} {base g : Nat} {e : TypeId} {k : Nat} (hb : base ≤ g) (h : w.heap[g]? = some (.cells #[] e (0, 0))) : w.ownsRow base e k (.slice (some ⟨g, 0, none⟩) 0 0) 0 (IL []) :=
  ⟨by simp [IL], .inr ⟨g, 0, #[], rfl, hb, h, Nat.le_refl _, by decide, by simp, by simp [IL]⟩⟩

theorem ext_zero {wr W w4 : World} {g : Nat} {e : TypeId} {c : Nat} (hx : Ext wr W) (hb : wr.heap.size ≤ g) (h : W.heap[g]? = some (.cells #[] e (0, 0))) (hg : W.grownBy w4 (Value.slice (some ⟨g, 0, none⟩) 0 c).ownBlock) : Ext wr w4 :=
  Ext.grown hx hg (fun k hk => by simp [Value.ownBlock] at hk; omega)

theorem heap_set2 {w : World} {g : Nat} {t : TypeId} {a b x y : Value} (h : w.heap[g]? = some (.cells #[a, b] t (0, 0))) : ((w.setCell ⟨g, 0, none⟩ x).setCell ⟨g, 1, none⟩ y).heap[g]? = some (.cells #[x, y] t (0, 0)) := by
  have h1 := heap_set_at h 0 x
  have h2 := heap_set_at h1 1 y
  simpa using h2
theorem heap_set1 {w : World} {g : Nat} {t : TypeId} {a b y : Value} (h : w.heap[g]? = some (.cells #[a, b] t (0, 0))) : (w.setCell ⟨g, 1, none⟩ y).heap[g]? = some (.cells #[a, y] t (0, 0)) := by
  have h2 := heap_set_at h 1 y
  simpa using h2
theorem own_setne {w : World} {base : Nat} {e : TypeId} {size : Nat} {v : Value} {n : Nat} {xs : List Value} (h : w.ownsRow base e size v n xs) {p : Addr} (hp : ∀ k, v.ownBlock = some k → k ≠ p.block) (u : Value) : (w.setCell p u).ownsRow base e size v n xs := by
  refine ⟨h.1, ?_⟩
  rcases h.2 with hn | ⟨g, cap, cur, hv, hb, hg, r⟩
  · exact .inl hn
  · have : g ≠ p.block := hp g (by rw [hv]; rfl)
    exact .inr ⟨g, cap, cur, hv, hb, by rw [Below.heap_setCell _ _ _ _ this]; exact hg, r⟩

theorem own_gxn {S : List Nat} {w w' : World} {base : Nat} {e : TypeId} {size : Nat} {v : Value} {n : Nat} {xs : List Value} (h : w.ownsRow base e size v n xs) (hg : GX S w w') (hS : ∀ k, v.ownBlock = some k → k ∉ S) : w'.ownsRow base e size v n xs := by
  refine ⟨h.1, ?_⟩
  rcases h.2 with hn | ⟨g, cap, cur, hv, hb, hh, r⟩
  · exact .inl hn
  · exact .inr ⟨g, cap, cur, hv, hb, (hg.heap (Array.getElem?_eq_some_iff.1 hh).1 (hS g (by rw [hv]; rfl))).trans hh, r⟩

theorem ext_gxk {S : List Nat} {a b c : World} (h : Ext a b) (hg : GX S b c) (hS : ∀ k, k ∈ S → k < a.heap.size → c.heap[k]? = a.heap[k]?) : Ext a c := by
  have h' : Below a.heap.size a b := h
  refine ⟨hg.os.trans h'.os, hg.tape.trans h'.tape, hg.output.trans h'.output, Nat.le_trans h'.size hg.size, fun k hk => ?_⟩
  by_cases hm : k ∈ S
  · exact hS k hm hk
  · exact (hg.heap (Nat.lt_of_lt_of_le hk h'.size) hm).trans (h'.block k hk)

theorem num1 {T l n E j : Nat} (h : E = T + j) (h2 : E ≤ n) : T + l + (n - E) = n - j + l := by omega
theorem num2 {T l n E : Nat} (h : T ≤ 2000000) (h2 : l ≤ 2000000) (h3 : n ≤ 2000000) : T + l + (n - E) ≤ 8000000 := by omega
theorem num3 {T l : Nat} (h : T ≤ 2000000) (h2 : l ≤ 2000000) : T + l ≤ 8000000 := by omega

/-- is the part as it should be, cell by cell -/
theorem apE_at (xs : List Int) (T m : Nat) (ys : List Int) : apE xs T m ys = allTo (fun j => (at3 xs ((T + j) * 3) == at3 ys (j * 3)) && ((at3 xs ((T + j) * 3 + 1) == at3 ys (j * 3 + 1)) && (at3 xs ((T + j) * 3 + 2) == at3 ys (j * 3 + 2)))) m := by
  unfold apE eqG
  refine allTo_congr fun k hk => ?_
  unfold eqAt
  rw [at3_take (by omega), at3_take (by omega), at3_take (by omega), at3_drop, at3_drop, at3_drop, show T * 3 + k * 3 = (T + k) * 3 by omega, show T * 3 + (k * 3 + 1) = (T + k) * 3 + 1 by omega, show T * 3 + (k * 3 + 2) = (T + k) * 3 + 2 by omega]

set_option maxRecDepth 20000 in
set_option maxHeartbeats 8000000 in
theorem l30Apply_nil (q : Int) (hq : 1 ≤ q ∧ q ≤ 5) {a2 a3 : Option Addr} {c2 c3 l : Nat} {ys zs : List Int} (hl : l ≤ 40) (hr : rOk q 0 ys 0 zs l = true) (w : World) (h2 : RV w 3 (.slice a2 0 c2) 0 ys) (h3 : RV w 3 (.slice a3 l c3) l zs) :
    Calls Try.prog 55 #[.agg #[.int .i64 q, .slice none 0 0], .agg #[.int .i64 0, .slice a2 0 c2, .slice a3 l c3]] w fun e w' => ∃ v, e = .returned (.tuple #[.agg #[.int .i64 q, v], .bool true]) ∧
      w'.ownsRow w.heap.size 73 3 v l (IL zs) ∧ Ext w w' := by
  have HR := fun w' (hx : Ext w w') => Lib.hid (l30Valid_any q 0 (by omega) (by omega) w' (h2.ext hx) (h3.ext hx))
  rw [hr] at HR
  clear hr
  have H3 := Lib.hid h3
  obtain ⟨_, _, p5, p6, _⟩ := h3
  clear h2
  have g4 : ¬ ((400 : Int) < l) := by omega
  go_enter Try.func55, Try.ntmps55
  go_wp2_with fail
  refine (HR _ (by repeat (first | exact Ext.refl _ | assumption | refine Ext.alloc ?_ _ | refine Ext.drew ?_ | refine Ext.drewN ?_ _ | refine Ext.setCell ?_ (by first | omega | (dsimp only; omega) | (simp; done) | (simp; omega)) _ | refine Ext.trans ?_ (by assumption)))).out.mono ?_
  rintro e w1 ⟨rfl, hx1⟩
  have hA1 : Hid (w1.heap[w.heap.size]? = some (.cells #[.int .i64 q, .slice none 0 0] 31 (0, 0))) := (hx1.heap (by simp; omega)).trans (heap_alloc_lt (heap_alloc_lt (heap_alloc_new _ _)))
  have hB1 : Hid (w1.heap[w.heap.size + 1]? = some (.cells #[.int .i64 0, .slice a2 0 c2, .slice a3 l c3] 45 (0, 0))) := (hx1.heap (by simp)).trans (heap_alloc_lt (heap_alloc_at _ _ _ (by simp)))
  have hR1 : Hid (w1.heap[w.heap.size + 1 + 1]? = some (.cells #[.int .i64 0, .slice none 0 0] 31 (0, 0))) := (hx1.heap (by simp)).trans (heap_alloc_at _ _ _ (by simp))
  have hE1 : Ext w w1 := (by repeat (first | (with_reducible refine Ext.setCell ?_ (by first | (simp; done) | (simp; omega)) _) | with_reducible refine Ext.alloc ?_ _ | with_reducible refine Ext.drew ?_ | with_reducible refine Ext.drewN ?_ _ | with_reducible assumption | with_reducible exact Ext.refl _ | with_reducible refine Ext.trans ?_ (by with_reducible assumption)))
  have lA := (Array.getElem?_eq_some_iff.1 hA1.out).1
  have lB := (Array.getElem?_eq_some_iff.1 hB1.out).1
  have lR := (Array.getElem?_eq_some_iff.1 hR1.out).1
  have zA1 : ∀ k, w1.cell? ⟨w.heap.size, k, none⟩ = (#[.int .i64 q, .slice none 0 0] : Array Value)[k]? := fun k => cell_of_row _ _ _ _ _ _ hA1.out
  have zB1 : ∀ k, w1.cell? ⟨w.heap.size + 1, k, none⟩ = (#[.int .i64 0, .slice a2 0 c2, .slice a3 l c3] : Array Value)[k]? := fun k => cell_of_row _ _ _ _ _ _ hB1.out
  clear hx1 HR
  go_wp2
  clear zA1 zB1
  go_loopw [6, 7, 44] (fun _ _ i wr => i = .int .i64 0 ∧ Ext w1 wr) (fun _ _ i _ => 0)
  case atStart => exact ⟨rfl, Ext.refl _⟩
  case round =>
    obtain ⟨rfl, hE⟩ := hrel
    have hA := Lib.hid ((hE.heap lA).trans hA1.out)
    have hB := Lib.hid ((hE.heap lB).trans hB1.out)
    have hRr := Lib.hid ((hE.heap lR).trans hR1.out)
    have lA' := (Array.getElem?_eq_some_iff.1 hA.out).1
    have lB' := (Array.getElem?_eq_some_iff.1 hB.out).1
    have lR' := (Array.getElem?_eq_some_iff.1 hRr.out).1
    have HEw := Lib.hid (hE1.trans hE)
    clear hE hE1 hA1 hB1 hR1 lA lB lR
    have zA := fun k => cell_of_row _ _ k _ _ _ hA.out
    have zB := fun k => cell_of_row _ _ k _ _ _ hB.out
    have HK : Hid (∀ W, Ext wr W → W.cell? ⟨w.heap.size, 0, none⟩ = some (.int .i64 q) ∧ W.cell? ⟨w.heap.size, 1, none⟩ = some (.slice none 0 0) ∧ W.cell? ⟨w.heap.size + 1, 0, none⟩ = some (.int .i64 0) ∧ W.cell? ⟨w.heap.size + 1, 1, none⟩ = some (.slice a2 0 c2) ∧ W.cell? ⟨w.heap.size + 1, 2, none⟩ = some (.slice a3 l c3)) := fun W hx =>
      ⟨(hx.cells.1 _ 0 lA').trans (zA 0), (hx.cells.1 _ 1 lA').trans (zA 1), (hx.cells.1 _ 0 lB').trans (zB 0), (hx.cells.1 _ 1 lB').trans (zB 1), (hx.cells.1 _ 2 lB').trans (zB 2)⟩
    clear zA zB
    have HR0 : Hid (∀ W : World, RV W 3 (.slice none 0 0) 0 []) := fun W => ⟨rfl, none, 0, rfl, Nat.le_refl _, Nat.zero_le _, fun h => absurd h (by omega)⟩
    go_upto_region 9 with fail
    go_cut [8] from 61 (fun u8 wx => ∃ (B : Nat) (a : Option Addr) (c : Nat), u8 = .pointer (some ⟨B, 0, none⟩) ∧ wr.heap.size ≤ B ∧ wx.heap[B]? = some (.cells #[.int .i64 q, .slice a 0 c] 31 (0, 0)) ∧ wx.ownsRow wr.heap.size 73 3 (.slice a 0 c) 0 (IL []) ∧ (∀ k, (Value.slice a 0 c).ownBlock = some k → k ≠ B) ∧ Ext wr wx)
    case first =>
      go_region_held3 (fun W => W.cell? ⟨w.heap.size, 0, none⟩ = some (.int .i64 q) ∧ W.cell? ⟨w.heap.size, 1, none⟩ = some (.slice none 0 0) ∧ W.cell? ⟨w.heap.size + 1, 0, none⟩ = some (.int .i64 0) ∧ W.cell? ⟨w.heap.size + 1, 1, none⟩ = some (.slice a2 0 c2) ∧ W.cell? ⟨w.heap.size + 1, 2, none⟩ = some (.slice a3 l c3)) (exact HK.out _ (by repeat (first | (with_reducible refine Ext.setCell ?_ (by first | (simp; done) | (simp; omega)) _) | with_reducible refine Ext.alloc ?_ _ | with_reducible refine Ext.drew ?_ | with_reducible refine Ext.drewN ?_ _ | with_reducible assumption | with_reducible exact Ext.refl _ | with_reducible refine Ext.trans ?_ (by with_reducible assumption)))) (first
        | (refine step_append_rvt (base := wr.heap.size) rfl elt_CG rfl (.slice (some ⟨_, 0, none⟩) 0 0) 0 [] rfl ?_ (.slice none 0 0) 0 [] rfl ?_ ?_ ?_ ?_
           · exact own_zero (by first | exact Nat.le_refl _ | (simp; done) | (simp; omega)) (by (repeat (first | with_reducible exact heap_alloc_new _ _ | with_reducible refine heap_drewS ?_ | (exact heap_alloc_at _ _ _ (by simp; done)) | with_reducible refine heap_alloc_lt ?_)); done)
           · exact HR0.out _
           · omega
           · (first | (simp; done) | (simp; omega))
           intro v4 w4 hown4 hgrow4 hiff4 hloc4
           have hx4 : Ext wr w4 := by
             refine ext_zero (e := 73) ?_ ?_ ?_ hgrow4
             rotate_left
             · first | exact Nat.le_refl _ | (simp; done) | (simp; omega)
             · exact (by (repeat (first | with_reducible exact heap_alloc_new _ _ | with_reducible refine heap_drewS ?_ | (exact heap_alloc_at _ _ _ (by simp; done)) | with_reducible refine heap_alloc_lt ?_)); done)
             · exact (by repeat (first | (with_reducible refine Ext.setCell ?_ (by first | (simp; done) | (simp; omega)) _) | with_reducible refine Ext.alloc ?_ _ | with_reducible refine Ext.drew ?_ | with_reducible refine Ext.drewN ?_ _ | with_reducible assumption | with_reducible exact Ext.refl _ | with_reducible refine Ext.trans ?_ (by with_reducible assumption)))
           first
             | (have hz8 := heap_grown (k := wr.heap.size + 1) (o := .cells #[.int .i64 0, .slice none 0 0] 31 (0, 0)) hgrow4 (heap_drewS (heap_alloc_at _ _ _ (by simp))) (by intro e; simp only [Value.ownBlock, Option.some.injEq] at e; omega); have z8 : ∀ k, w4.cell? ⟨wr.heap.size + 1, k, none⟩ = (#[.int .i64 0, .slice none 0 0] : Array Value)[k]? := (fun k => cell_of_row _ _ _ _ _ _ hz8); have f8 : ∀ k, w4.frozen? ⟨wr.heap.size + 1, k, none⟩ = false := (fun k => frozen_of_row _ _ _ _ _ hz8); have l8 := (Array.getElem?_eq_some_iff.1 hz8).1; have HZ8 := Lib.hid hz8; clear hz8)
             | (have hz8 := heap_grown (k := wr.heap.size) (o := .cells #[.int .i64 0, .slice none 0 0] 31 (0, 0)) hgrow4 (heap_drewS (heap_alloc_lt (heap_alloc_new _ _))) (by intro e; simp only [Value.ownBlock, Option.some.injEq] at e; omega); have z8 : ∀ k, w4.cell? ⟨wr.heap.size, k, none⟩ = (#[.int .i64 0, .slice none 0 0] : Array Value)[k]? := (fun k => cell_of_row _ _ _ _ _ _ hz8); have f8 : ∀ k, w4.frozen? ⟨wr.heap.size, k, none⟩ = false := (fun k => frozen_of_row _ _ _ _ _ hz8); have l8 := (Array.getElem?_eq_some_iff.1 hz8).1; have HZ8 := Lib.hid hz8; clear hz8)
             | skip
           obtain ⟨a4, c4, rfl, _, _, _⟩ := own_shape hown4
           have O4 := Lib.hid hown4
           clear hown4))
      all_goals
        go_wp2_with fail
        go_meet
        have o4 : w4.ownsRow wr.heap.size 73 3 (.slice a4 0 c4) 0 (IL []) := by simpa only [Nat.zero_add, List.nil_append] using O4.out
        clear O4
        have hlt4 := fun k hk => o4.lt k hk
        have hsz4 := hx4.size
        simp only [Nat.zero_add] at hloc4
        have hne4 : ∀ k, (Value.slice a4 0 c4).ownBlock = some k → k ≠ w4.heap.size := fun k hk => by have := hlt4 k hk; omega
        refine ⟨_, a4, c4, rfl, ?_, ?_, ?_, ?_, (by repeat (first | (with_reducible refine Ext.setCell ?_ (by first | (simp; done) | (simp; omega)) _) | with_reducible refine Ext.alloc ?_ _ | with_reducible refine Ext.drew ?_ | with_reducible refine Ext.drewN ?_ _ | with_reducible assumption | with_reducible exact Ext.refl _ | with_reducible refine Ext.trans ?_ (by with_reducible assumption)))⟩
        · first | (simp; done) | (simp; omega) | omega
        · first
            | (with_reducible exact heap_alloc_new _ _)
            | exact heap_set2 HZ8.out
        · first
            | exact own_ext o4 ((Ext.refl _).alloc _)
            | exact own_setne (own_setne o4 (by intro k hk; rw [hk] at hloc4; simp [Value.ownBlock] at hloc4 ⊢; omega) _) (by intro k hk; rw [hk] at hloc4; simp [Value.ownBlock] at hloc4 ⊢; omega) _
        · intro k hk
          first
            | exact hne4 k hk
            | (rw [hk] at hloc4; simp [Value.ownBlock] at hloc4 ⊢; omega)
    case rest =>
      obtain ⟨B, a, c, rfl, hB8, hb8, ho8, hne8, hx8⟩ := hcut
      have HB8 := Lib.hid hb8
      have lB8 := (Array.getElem?_eq_some_iff.1 hb8).1
      have O8 := Lib.hid ho8
      have HX8 := Lib.hid hx8
      have RZ := Lib.hid (H3.out.ext (HEw.out.trans hx8))
      obtain ⟨k0, k1, k2, k3, k4⟩ := HK.out wc hx8
      have z8 : ∀ k, wc.cell? ⟨B, k, none⟩ = (#[.int .i64 q, .slice a 0 c] : Array Value)[k]? := fun k => cell_of_row _ _ _ _ _ _ hb8
      clear hb8 ho8 HK hx8
      have HN2 : Hid (0 + l ≤ 8000000) := show 0 + l ≤ 8000000 by omega
      go_wp2_with (at_builtin; refine wpList_append_rvt (base := wr.heap.size) rfl elt_CG rfl (.slice a 0 c) 0 [] rfl O8.out (.slice a3 l c3) l zs rfl RZ.out HN2.out HX8.out.size ?_; intro v5 w5 hown5 hgrow5 hiff5 hloc5; rw [Nat.zero_add] at hown5; obtain ⟨a5, c5, rfl, _, _, _⟩ := own_shape hown5; have hb5 := heap_grown hgrow5 HB8.out (fun e => hne8 _ e.symm rfl); have l5 := (Array.getElem?_eq_some_iff.1 hb5).1; have f5 : ∀ k, w5.frozen? ⟨B, k, none⟩ = false := (fun k => frozen_of_row _ _ _ _ _ hb5); have z5 : ∀ k, w5.cell? ⟨B, k, none⟩ = (#[.int .i64 q, .slice a 0 c] : Array Value)[k]? := (fun k => cell_of_row _ _ _ _ _ _ hb5); have HB5 := Lib.hid hb5; have O5 := Lib.hid hown5; have hx5 : Ext wr w5 := (ext_grownB HX8.out hgrow5 O8.out (Nat.le_refl _)); have HX5 := Lib.hid hx5; clear hb5 hown5 hx5)
      have hA5 : w5.heap[w.heap.size]? = some (.cells #[.int .i64 q, .slice none 0 0] 31 (0, 0)) := (HX5.out.heap lA').trans hA.out
      have hR5 : w5.heap[w.heap.size + 1]? = some (.cells #[.int .i64 0, .slice a2 0 c2, .slice a3 l c3] 45 (0, 0)) := (HX5.out.heap lB').trans hB.out
      have hne1 : w.heap.size ≠ B := by omega
      have hne2 : w.heap.size + 1 ≠ B := by omega
      have hloc5' : ∀ k, (Value.slice a5 l c5).ownBlock = some k → k ≠ B ∧ wr.heap.size ≤ k ∧ k < w5.heap.size := fun k hk => by
        have h1 := O5.out.lt k hk
        refine ⟨?_, h1.1, h1.2⟩
        try simp only [Nat.zero_add] at hloc5
        rw [hk] at hloc5
        rcases hloc5 with h2 | h2
        · exact hne8 k h2.symm
        · have := Option.some.inj h2
          have := (Array.getElem?_eq_some_iff.1 HB8.out).1
          omega
      have HLOC5 := Lib.hid hloc5'
      clear hloc5 hloc5'
      go_wp2
      refine Wr.wp_region_wr (m := 91) [⟨w.heap.size, 31, #[.int .i64 q, .slice none 0 0]⟩, ⟨B, 31, #[.int .i64 q, .slice a5 l c5]⟩, ⟨w.heap.size + 1, 45, #[.int .i64 0, .slice a2 0 c2, .slice a3 l c3]⟩] (by kernel_rfl) (by kernel_rfl) rfl (by simp; try omega) ?_ ?_
      · intro s hs
        rcases s with _ | _ | _ | s
        · exact (show (World.heap _)[w.heap.size]? = some (Obj.cells #[.int .i64 q, .slice none 0 0] 31 (0, 0)) from heap_set_ne hne1 hA5)
        · exact (show (World.heap _)[B]? = some (Obj.cells #[.int .i64 q, .slice a5 l c5] 31 (0, 0)) from heap_set1 HB5.out)
        · exact (show (World.heap _)[w.heap.size + 1]? = some (Obj.cells #[.int .i64 0, .slice a2 0 c2, .slice a3 l c3] 45 (0, 0)) from heap_set_ne hne2 hR5)
        · simp at hs
          try omega
      (refine Wr.ww_plain ?_; apply Exists.intro; refine ⟨?_, ?_⟩; (first | (go_simp; (try intro x); (try go_bits); rfl)); simp only [Act.put, List.setIfInBounds_toArray, List.set_cons_succ, List.set_cons_zero, List.nil_append, List.cons_append])
      refine Wr.ww_read 1 (B) 31 #[.int .i64 q, .slice a5 l c5] (by simp) rfl rfl rfl (fun hr => ?_)
      apply Exists.intro
      refine ⟨?_, ?_⟩
      · go_simp
        (try intro x)
        (try go_bits)
        rfl
      clear hr
      simp only [Act.put, List.setIfInBounds_toArray, List.set_cons_succ, List.set_cons_zero, List.nil_append, List.cons_append]
      (refine Wr.ww_plain ?_; apply Exists.intro; refine ⟨?_, ?_⟩; (first | (go_simp; (try intro x); (try go_bits); rfl)); simp only [Act.put, List.setIfInBounds_toArray, List.set_cons_succ, List.set_cons_zero, List.nil_append, List.cons_append])
      refine Wr.ww_read 0 (w.heap.size) 31 #[.int .i64 q, .slice none 0 0] (by simp) rfl rfl rfl (fun hr => ?_)
      apply Exists.intro
      refine ⟨?_, ?_⟩
      · go_simp
        (try intro x)
        (try go_bits)
        rfl
      clear hr
      simp only [Act.put, List.setIfInBounds_toArray, List.set_cons_succ, List.set_cons_zero, List.nil_append, List.cons_append]
      (refine Wr.ww_plain ?_; apply Exists.intro; refine ⟨?_, ?_⟩; (first | (go_simp; (try intro x); (try go_bits); rfl)); simp only [Act.put, List.setIfInBounds_toArray, List.set_cons_succ, List.set_cons_zero, List.nil_append, List.cons_append])
      refine Wr.ww_read 2 (w.heap.size + 1) 45 #[.int .i64 0, .slice a2 0 c2, .slice a3 l c3] (by simp) rfl rfl rfl (fun hr => ?_)
      apply Exists.intro
      refine ⟨?_, ?_⟩
      · go_simp
        (try intro x)
        (try go_bits)
        rfl
      clear hr
      simp only [Act.put, List.setIfInBounds_toArray, List.set_cons_succ, List.set_cons_zero, List.nil_append, List.cons_append]
      (refine Wr.ww_plain ?_; apply Exists.intro; refine ⟨?_, ?_⟩; (first | (go_simp; (try intro x); (try go_bits); rfl)); simp only [Act.put, List.setIfInBounds_toArray, List.set_cons_succ, List.set_cons_zero, List.nil_append, List.cons_append])
      refine Wr.ww_read 2 (w.heap.size + 1) 45 #[.int .i64 0, .slice a2 0 c2, .slice a3 l c3] (by simp) rfl rfl rfl (fun hr => ?_)
      apply Exists.intro
      refine ⟨?_, ?_⟩
      · go_simp
        (try intro x)
        (try go_bits)
        rfl
      clear hr
      simp only [Act.put, List.setIfInBounds_toArray, List.set_cons_succ, List.set_cons_zero, List.nil_append, List.cons_append]
      (refine Wr.ww_plain ?_; apply Exists.intro; refine ⟨?_, ?_⟩; (first | (go_simp; (try intro x); (try go_bits); rfl)); simp only [Act.put, List.setIfInBounds_toArray, List.set_cons_succ, List.set_cons_zero, List.nil_append, List.cons_append])
      (refine Wr.ww_plain ?_; apply Exists.intro; refine ⟨?_, ?_⟩; (first | (go_simp; (try intro x); (try go_bits); rfl)); simp only [Act.put, List.setIfInBounds_toArray, List.set_cons_succ, List.set_cons_zero, List.nil_append, List.cons_append])
      (refine Wr.ww_plain ?_; apply Exists.intro; refine ⟨?_, ?_⟩; (first | (go_simp; (try intro x); (try go_bits); rfl)); simp only [Act.put, List.setIfInBounds_toArray, List.set_cons_succ, List.set_cons_zero, List.nil_append, List.cons_append])
      refine Wr.ww_stop (by kernel_rfl) (by kernel_rfl) (fun w9 hg9 hs9 => ?_)
      have hb9_0 : w9.heap[w.heap.size]? = some (.cells #[.int .i64 q, .slice none 0 0] 31 (0, 0)) := hs9 0 (by simp)
      have hb9_1 : w9.heap[B]? = some (.cells #[.int .i64 q, .slice a5 l c5] 31 (0, 0)) := hs9 1 (by simp)
      have hb9_2 : w9.heap[w.heap.size + 1]? = some (.cells #[.int .i64 0, .slice a2 0 c2, .slice a3 l c3] 45 (0, 0)) := hs9 2 (by simp)
      clear hs9
      simp only [List.map_cons, List.map_nil] at hg9
      have O9 := Lib.hid (own_gxn (own_setne O5.out (p := ⟨B, 1, none⟩) (fun k hk => (HLOC5.out k hk).1) (.slice a5 l c5)) hg9 (by intro k hk; have := HLOC5.out k hk; simp; omega))
      have hE9 : Ext wr w9 := ext_gxk (HX5.out.setCell (p := ⟨B, 1, none⟩) hB8 _) hg9 (by
        intro k hk hlt
        simp only [List.mem_cons, List.not_mem_nil, or_false] at hk
        rcases hk with rfl | rfl | rfl
        · exact hb9_0.trans hA.out.symm
        · omega
        · exact hb9_2.trans hB.out.symm)
      have HE9 := Lib.hid hE9
      have HB9 := Lib.hid hb9_1
      have lRr : w.heap.size + 1 + 1 < wr.heap.size := lR'
      have hsz9 := hE9.size
      clear hb9_0 hb9_1 hb9_2 hg9 hA5 hR5 f5 z5
      have HN1 : Hid (l + 0 ≤ 8000000) := show l + 0 ≤ 8000000 by omega
      go_wp2_with (at_builtin; refine wpList_append_rvt (base := wr.heap.size) rfl elt_CG rfl (.slice a5 l c5) l _ rfl O9.out _ 0 [] rfl (HR0.out _) HN1.out HE9.out.size ?_; intro v6 w6 hown6 hgrow6 hiff6 hloc6; rw [Nat.add_zero, List.append_nil] at hown6; obtain ⟨a6, c6, rfl, _, _, _⟩ := own_shape hown6; have hb6 := heap_grown hgrow6 HB9.out (fun e => (HLOC5.out _ e.symm).1 rfl); have l6 := (Array.getElem?_eq_some_iff.1 hb6).1; have f6 : ∀ k, w6.frozen? ⟨B, k, none⟩ = false := (fun k => frozen_of_row _ _ _ _ _ hb6); have z6 : ∀ k, w6.cell? ⟨B, k, none⟩ = (#[.int .i64 q, .slice a5 l c5] : Array Value)[k]? := (fun k => cell_of_row _ _ _ _ _ _ hb6); have HB6 := Lib.hid hb6; have O6 := Lib.hid hown6; have hx6 : Ext wr w6 := (ext_grownB HE9.out hgrow6 O9.out (Nat.le_refl _)); have HX6 := Lib.hid hx6; have hr6 := ((hx6.heap lR').trans hRr.out); have lr6 := (Array.getElem?_eq_some_iff.1 hr6).1; have zr6 : ∀ k, w6.cell? ⟨w.heap.size + 1 + 1, k, none⟩ = (#[.int .i64 0, .slice none 0 0] : Array Value)[k]? := (fun k => cell_of_row _ _ _ _ _ _ hr6); have fr6 : ∀ k, w6.frozen? ⟨w.heap.size + 1 + 1, k, none⟩ = false := (fun k => frozen_of_row _ _ _ _ _ hr6); have hs6 := hx6.size; clear hb6 hown6 hx6 hr6)
      have hloc6' : ∀ k, (Value.slice a6 l c6).ownBlock = some k → k ≠ B := fun k hk => by
        try simp only [Nat.add_zero] at hloc6
        rw [hk] at hloc6
        rcases hloc6 with h2 | h2
        · exact (HLOC5.out k h2.symm).1
        · have := Option.some.inj h2
          have := (Array.getElem?_eq_some_iff.1 HB9.out).1
          omega
      refine bodyPost_ret (v := .tuple #[.agg #[.int .i64 q, .slice a6 l c6], .bool true]) (by simp [results, Try.results55, go_sem, *]) rfl ?_
      have hEwr := HEw.out
      have hX6 := HX6.out
      have hsz := hEwr.size
      refine ⟨_, rfl, ?_, (by repeat (first | (with_reducible refine Ext.setCell ?_ (by first | (simp; done) | (simp; omega)) _) | with_reducible refine Ext.alloc ?_ _ | with_reducible refine Ext.drew ?_ | with_reducible refine Ext.drewN ?_ _ | with_reducible assumption | with_reducible exact Ext.refl _ | with_reducible refine Ext.trans ?_ (by with_reducible assumption)))⟩
      refine own_base (base := wr.heap.size) ?_ (by omega)
      refine own_set (own_set (own_setne O6.out (p := ⟨B, 1, none⟩) hloc6' _) ?_ _) ?_ _
      all_goals (simp; omega)

set_option maxRecDepth 20000 in
set_option maxHeartbeats 8000000 in
theorem l30Apply_any (q t : Int) {v1 v2 v3 : Value} {n m l : Nat} {xs ys zs : List Int} (hn : n ≤ 2000000) (hm : m ≤ 2000000) (hl : l ≤ 2000000) (hc : cOk q xs n = true) (w : World) (h1 : RVs w 3 v1 n xs) (h2 : RV w 3 v2 m ys) (h3 : RV w 3 v3 l zs) :
    Calls Try.prog 55 #[.agg #[.int .i64 q, v1], .agg #[.int .i64 t, v2, v3]] w fun e w' => ∃ v, e = .returned (.tuple #[.agg #[.int .i64 (apQ q xs n t ys m zs l), v], .bool (apOk q xs n t ys m zs l)]) ∧
      w'.ownsRow w.heap.size 73 3 v (apN q xs n t ys m zs l) (IL (apL q xs n t ys m zs l)) ∧ Ext w w' := by
  have HR := fun w' (hx : Ext w w') => Lib.hid (l30Valid_any q t hm hl w' (h2.ext hx) (h3.ext hx))
  have HO : Hid (apOk q xs n t ys m zs l = (cOk q xs n && (rOk q t ys m zs l && (decide (t + m ≤ n) && (decide ((n : Int) - m + l ≤ 400) && apE xs t.toNat m ys))))) := rfl
  have HNO : Hid (apOk q xs n t ys m zs l = false → apL q xs n t ys m zs l = [] ∧ apN q xs n t ys m zs l = 0 ∧ apQ q xs n t ys m zs l = 0) := ap_no
  have HYES : Hid (apOk q xs n t ys m zs l = true → apL q xs n t ys m zs l = apX xs t.toNat m zs ∧ apN q xs n t ys m zs l = n - m + l ∧ apQ q xs n t ys m zs l = q) := ap_yes
  have H1 := Lib.hid h1
  have H2 := Lib.hid h2
  have H3 := Lib.hid h3
  have hn4 : n ≤ 400 := by
    unfold cOk at hc
    simp only [Bool.and_eq_true, decide_eq_true_eq] at hc
    exact hc.2.1
  rw [hc] at HO
  clear hc
  obtain ⟨_, a1, c1, rfl, p1, p2, _⟩ := h1.rv
  obtain ⟨_, a2, c2, rfl, p3, p4, HH2⟩ := h2
  obtain ⟨_, a3, c3, rfl, p5, p6, _⟩ := h3
  have HY := Lib.hid HH2
  clear h1 HH2
  cases g2 : rOk q t ys m zs l
  · rw [g2] at HR HO
    have HN : Hid (apOk q xs n t ys m zs l = false) := HO.out.trans (by simp)
    have HN3 := Lib.hid (HNO.out HN.out)
    clear HO HNO HYES
    go_enter Try.func55, Try.ntmps55
    go_wp2_with fail
    refine (HR _ (by repeat (first | exact Ext.refl _ | assumption | refine Ext.alloc ?_ _ | refine Ext.drew ?_ | refine Ext.drewN ?_ _ | refine Ext.setCell ?_ (by first | omega | (dsimp only; omega) | (simp; done) | (simp; omega)) _ | refine Ext.trans ?_ (by assumption)))).out.mono ?_
    rintro e w1 ⟨rfl, hx1⟩
    obtain ⟨hc1, hf1⟩ := hx1.cells
    have hz1 := hx1.size
    try simp at hz1
    have hs1_0 := sz3 (a := w.heap.size) (b := w1.heap.size) (by omega)
    go_wp2
    refine bodyPost_ret (v := .tuple #[.agg #[.int .i64 0, .slice none 0 0], .bool false]) (by simp [results, Try.results55, go_sem, *]) rfl ?_
    obtain ⟨e1, e2, e3⟩ := HN3.out
    rw [HN.out, e1, e2, e3]
    exact ⟨_, rfl, own_nil _ _ _ _, (by repeat (first | (with_reducible refine Ext.setCell ?_ (by first | (simp; done) | (simp; omega)) _) | with_reducible refine Ext.alloc ?_ _ | with_reducible refine Ext.drew ?_ | with_reducible refine Ext.drewN ?_ _ | with_reducible assumption | with_reducible exact Ext.refl _ | with_reducible refine Ext.trans ?_ (by with_reducible assumption)))⟩
  obtain ⟨r1, r2, r3, r4, r5, r6, r7⟩ := rOk_facts g2
  rw [g2] at HR HO
  obtain ⟨T, rfl⟩ : ∃ T : Nat, t = T := ⟨t.toNat, by omega⟩
  rw [Int.toNat_natCast] at HO HYES
  obtain ⟨E, hE⟩ : ∃ E : Nat, E = T + m := ⟨_, rfl⟩
  have hwE : (T : Int) + m = E := by omega
  have HEE := Lib.hid hE
  by_cases g3 : E ≤ n
  case neg =>
    have g3' : (n : Int) < E := by omega
    have g3n : n < E := by omega
    have HN : Hid (apOk q xs n T ys m zs l = false) := HO.out.trans (by rw [hwE]; simp; omega)
    have HN3 := Lib.hid (HNO.out HN.out)
    clear HO HNO HYES hE
    go_enter Try.func55, Try.ntmps55
    go_wp2_with fail
    refine (HR _ (by repeat (first | exact Ext.refl _ | assumption | refine Ext.alloc ?_ _ | refine Ext.drew ?_ | refine Ext.drewN ?_ _ | refine Ext.setCell ?_ (by first | omega | (dsimp only; omega) | (simp; done) | (simp; omega)) _ | refine Ext.trans ?_ (by assumption)))).out.mono ?_
    rintro e w1 ⟨rfl, hx1⟩
    obtain ⟨hc1, hf1⟩ := hx1.cells
    have hz1 := hx1.size
    try simp at hz1
    have hs1_0 := sz3 (a := w.heap.size) (b := w1.heap.size) (by omega)
    go_wp2
    refine bodyPost_ret (v := .tuple #[.agg #[.int .i64 0, .slice none 0 0], .bool false]) (by simp [results, Try.results55, go_sem, *]) rfl ?_
    obtain ⟨e1, e2, e3⟩ := HN3.out
    rw [HN.out, e1, e2, e3]
    exact ⟨_, rfl, own_nil _ _ _ _, (by repeat (first | (with_reducible refine Ext.setCell ?_ (by first | (simp; done) | (simp; omega)) _) | with_reducible refine Ext.alloc ?_ _ | with_reducible refine Ext.drew ?_ | with_reducible refine Ext.drewN ?_ _ | with_reducible assumption | with_reducible exact Ext.refl _ | with_reducible refine Ext.trans ?_ (by with_reducible assumption)))⟩
  have g3' : ¬ ((n : Int) < E) := by omega
  have g3n : ¬ n < E := by omega
  have g3m : m ≤ n := by omega
  by_cases g4 : (n : Int) - m + l ≤ 400
  case neg =>
    have g4' : (400 : Int) < (n : Int) - m + l := by omega
    have HN : Hid (apOk q xs n T ys m zs l = false) := HO.out.trans (by simp [g4])
    have HN3 := Lib.hid (HNO.out HN.out)
    clear HO HNO HYES hE
    go_enter Try.func55, Try.ntmps55
    go_wp2_with fail
    refine (HR _ (by repeat (first | exact Ext.refl _ | assumption | refine Ext.alloc ?_ _ | refine Ext.drew ?_ | refine Ext.drewN ?_ _ | refine Ext.setCell ?_ (by first | omega | (dsimp only; omega) | (simp; done) | (simp; omega)) _ | refine Ext.trans ?_ (by assumption)))).out.mono ?_
    rintro e w1 ⟨rfl, hx1⟩
    obtain ⟨hc1, hf1⟩ := hx1.cells
    have hz1 := hx1.size
    try simp at hz1
    have hs1_0 := sz3 (a := w.heap.size) (b := w1.heap.size) (by omega)
    go_wp2
    refine bodyPost_ret (v := .tuple #[.agg #[.int .i64 0, .slice none 0 0], .bool false]) (by simp [results, Try.results55, go_sem, *]) rfl ?_
    obtain ⟨e1, e2, e3⟩ := HN3.out
    rw [HN.out, e1, e2, e3]
    exact ⟨_, rfl, own_nil _ _ _ _, (by repeat (first | (with_reducible refine Ext.setCell ?_ (by first | (simp; done) | (simp; omega)) _) | with_reducible refine Ext.alloc ?_ _ | with_reducible refine Ext.drew ?_ | with_reducible refine Ext.drewN ?_ _ | with_reducible assumption | with_reducible exact Ext.refl _ | with_reducible refine Ext.trans ?_ (by with_reducible assumption)))⟩
  have g4' : ¬ ((400 : Int) < (n : Int) - m + l) := by omega
  have HGO : Hid (apOk q xs n T ys m zs l = apE xs T m ys) := HO.out.trans (by rw [hwE]; simp [g4]; omega)
  have HAE := Lib.hid (apE_at xs T m ys)
  by_cases hnil : Value.slice a1 n c1 = .slice none 0 0
  · simp only [Value.slice.injEq] at hnil
    obtain ⟨rfl, rfl, rfl⟩ := hnil
    obtain rfl : E = 0 := by omega
    obtain rfl : T = 0 := by omega
    obtain rfl : m = 0 := by omega
    have hx0 : xs = [] := List.eq_nil_of_length_eq_zero (by have := H1.out.1; omega)
    subst hx0
    have HN := HGO.out.trans (HAE.out.trans rfl)
    obtain ⟨e1, e2, e3⟩ := HYES.out HN
    have hzs : zs.length = l * 3 := H3.out.1
    refine (l30Apply_nil q ⟨r1, r2⟩ r6 g2 w H2.out H3.out).mono ?_
    rintro e w' ⟨v, rfl, o, hx⟩
    rw [HN, e1, e2, e3]
    have hX : apX ([] : List Int) 0 0 zs = zs := by unfold apX; simp
    rw [hX, show 0 - 0 + l = l by omega]
    exact ⟨v, rfl, o, hx⟩
  have HNIL := Lib.hid hnil
  clear HO hE hnil
  go_enter Try.func55, Try.ntmps55
  go_wp2_with fail
  refine (HR _ (by repeat (first | exact Ext.refl _ | assumption | refine Ext.alloc ?_ _ | refine Ext.drew ?_ | refine Ext.drewN ?_ _ | refine Ext.setCell ?_ (by first | omega | (dsimp only; omega) | (simp; done) | (simp; omega)) _ | refine Ext.trans ?_ (by assumption)))).out.mono ?_
  rintro e w1 ⟨rfl, hx1⟩
  have hA1 : Hid (w1.heap[w.heap.size]? = some (.cells #[.int .i64 q, .slice a1 n c1] 31 (0, 0))) := (hx1.heap (by simp; omega)).trans (heap_alloc_lt (heap_alloc_lt (heap_alloc_new _ _)))
  have hB1 : Hid (w1.heap[w.heap.size + 1]? = some (.cells #[.int .i64 T, .slice a2 m c2, .slice a3 l c3] 45 (0, 0))) := (hx1.heap (by simp)).trans (heap_alloc_lt (heap_alloc_at _ _ _ (by simp)))
  have hR1 : Hid (w1.heap[w.heap.size + 1 + 1]? = some (.cells #[.int .i64 0, .slice none 0 0] 31 (0, 0))) := (hx1.heap (by simp)).trans (heap_alloc_at _ _ _ (by simp))
  have hE1 : Ext w w1 := (by repeat (first | (with_reducible refine Ext.setCell ?_ (by first | (simp; done) | (simp; omega)) _) | with_reducible refine Ext.alloc ?_ _ | with_reducible refine Ext.drew ?_ | with_reducible refine Ext.drewN ?_ _ | with_reducible assumption | with_reducible exact Ext.refl _ | with_reducible refine Ext.trans ?_ (by with_reducible assumption)))
  have lA := (Array.getElem?_eq_some_iff.1 hA1.out).1
  have lB := (Array.getElem?_eq_some_iff.1 hB1.out).1
  have lR := (Array.getElem?_eq_some_iff.1 hR1.out).1
  have zA1 : ∀ k, w1.cell? ⟨w.heap.size, k, none⟩ = (#[.int .i64 q, .slice a1 n c1] : Array Value)[k]? := fun k => cell_of_row _ _ _ _ _ _ hA1.out
  have zB1 : ∀ k, w1.cell? ⟨w.heap.size + 1, k, none⟩ = (#[.int .i64 T, .slice a2 m c2, .slice a3 l c3] : Array Value)[k]? := fun k => cell_of_row _ _ _ _ _ _ hB1.out
  clear hx1 HR
  go_wp2
  clear zA1 zB1
  go_loopw [6, 7, 44] (fun _ _ i wr => ∃ j : Nat, j ≤ m ∧ i = .int .i64 j ∧ Hid (allTo (fun j => (at3 xs ((T + j) * 3) == at3 ys (j * 3)) && ((at3 xs ((T + j) * 3 + 1) == at3 ys (j * 3 + 1)) && (at3 xs ((T + j) * 3 + 2) == at3 ys (j * 3 + 2)))) j = true) ∧ Ext w1 wr) (fun _ _ i _ => m - (intOf i).toNat)
  case atStart => exact ⟨0, by omega, rfl, rfl, Ext.refl _⟩
  case round =>
    obtain ⟨j, hj, rfl, HC, hE⟩ := hrel
    have hA := Lib.hid ((hE.heap lA).trans hA1.out)
    have hB := Lib.hid ((hE.heap lB).trans hB1.out)
    have hRr := Lib.hid ((hE.heap lR).trans hR1.out)
    have lA' := (Array.getElem?_eq_some_iff.1 hA.out).1
    have lB' := (Array.getElem?_eq_some_iff.1 hB.out).1
    have lR' := (Array.getElem?_eq_some_iff.1 hRr.out).1
    have HEw := Lib.hid (hE1.trans hE)
    have HE := Lib.hid hE
    by_cases hlt : j < m
    · have hlt' : (j : Int) < m := by omega
      rcases H1.out.2 with ⟨h4, h5⟩ | ⟨b, off, cap, h4, h5, h6, h7, h8⟩
      · exact absurd hlt (by omega)
      obtain ⟨rfl, rfl⟩ : a1 = some ⟨b, off, none⟩ ∧ c1 = cap := by simpa using h4
      clear h4
      have HS : Hid (allTo (fun j => (at3 xs ((T + j) * 3) == at3 ys (j * 3)) && ((at3 xs ((T + j) * 3 + 1) == at3 ys (j * 3 + 1)) && (at3 xs ((T + j) * 3 + 2) == at3 ys (j * 3 + 2)))) (j + 1) = (allTo (fun j => (at3 xs ((T + j) * 3) == at3 ys (j * 3)) && ((at3 xs ((T + j) * 3 + 1) == at3 ys (j * 3 + 1)) && (at3 xs ((T + j) * 3 + 2) == at3 ys (j * 3 + 2)))) j && ((at3 xs ((T + j) * 3) == at3 ys (j * 3)) && ((at3 xs ((T + j) * 3 + 1) == at3 ys (j * 3 + 1)) && (at3 xs ((T + j) * 3 + 2) == at3 ys (j * 3 + 2)))))) := rfl
      have HF : Hid (((at3 xs ((T + j) * 3) == at3 ys (j * 3)) && ((at3 xs ((T + j) * 3 + 1) == at3 ys (j * 3 + 1)) && (at3 xs ((T + j) * 3 + 2) == at3 ys (j * 3 + 2)))) = false → apE xs T m ys = false) := fun h => by
        rw [HAE.out]
        exact allTo_false (f := fun j => (at3 xs ((T + j) * 3) == at3 ys (j * 3)) && ((at3 xs ((T + j) * 3 + 1) == at3 ys (j * 3 + 1)) && (at3 xs ((T + j) * 3 + 2) == at3 ys (j * 3 + 2)))) h hlt
      obtain ⟨F, hF⟩ : ∃ F : Nat, F = T + j := ⟨_, rfl⟩
      have hFn : F < n := by omega
      have hFn' : (F : Int) < n := by omega
      have hwF : (T : Int) + j = F := by omega
      rw [← hF] at HS HF
      have l0 := H1.out.1
      have hcl : ∀ i u, (IL xs)[i]? = some u → wr.cell? ⟨b, off + i, none⟩ = some u := fun i u hu => (HEw.out.cells.1 b (off + i) h7).trans (h8 i u hu)
      have zx0 := hcl (F * 3) _ (at3_get (by omega))
      have zx1 := hcl (F * 3 + 1) _ (at3_get (by omega))
      have zx2 := hcl (F * 3 + 2) _ (at3_get (by omega))
      rw [← Nat.add_assoc] at zx1 zx2
      have lb : b < wr.heap.size := by have := HEw.out.size; omega
      clear hcl l0 h8
      have HL2 := Lib.hid H2.out.1
      have hEw := HEw.out
      obtain ⟨bz, offz, rfl, hbkz, hcellz⟩ := HY.out (by omega)
      have hbrz : bz < wr.heap.size := by have := hEw.size; omega
      have zz0 : wr.cell? ⟨bz, offz + j * 3, none⟩ = some (.int .i64 (at3 ys (j * 3))) := (hEw.cells.1 bz (offz + (j * 3)) hbkz).trans (hcellz _ _ (at3_get (by have := HL2.out; omega)))
      have zz1 : wr.cell? ⟨bz, offz + j * 3 + 1, none⟩ = some (.int .i64 (at3 ys (j * 3 + 1))) := (hEw.cells.1 bz (offz + (j * 3 + 1)) hbkz).trans (hcellz _ _ (at3_get (by have := HL2.out; omega)))
      have zz2 : wr.cell? ⟨bz, offz + j * 3 + 2, none⟩ = some (.int .i64 (at3 ys (j * 3 + 2))) := (hEw.cells.1 bz (offz + (j * 3 + 2)) hbkz).trans (hcellz _ _ (at3_get (by have := HL2.out; omega)))
      clear hcellz
      generalize at3 xs (F * 3) = x0 at *
      generalize at3 xs (F * 3 + 1) = x1 at *
      generalize at3 xs (F * 3 + 2) = x2 at *
      generalize at3 ys (j * 3) = y0 at *
      generalize at3 ys (j * 3 + 1) = y1 at *
      generalize at3 ys (j * 3 + 2) = y2 at *
      have hneq := fun w => neq_gate x0 x1 x2 y0 y1 y2 w
      generalize hg : ((x0 == y0) && ((x1 == y1) && (x2 == y2))) = g at *
      have hwr : IntKind.i64.wrap (F : Int) = F := IntWalk.i64_in _ (by omega)
      have lbz := hbrz
      clear hg hF
      have zA : ∀ k, wr.cell? ⟨w.heap.size, k, none⟩ = (#[.int .i64 q, .slice (some ⟨b, off, none⟩) n c1] : Array Value)[k]? := fun k => cell_of_row _ _ _ _ _ _ hA.out
      have zB : ∀ k, wr.cell? ⟨w.heap.size + 1, k, none⟩ = (#[.int .i64 T, .slice (some ⟨bz, offz, none⟩) m c2, .slice a3 l c3] : Array Value)[k]? := fun k => cell_of_row _ _ _ _ _ _ hB.out
      have zR : ∀ k, wr.cell? ⟨w.heap.size + 1 + 1, k, none⟩ = (#[.int .i64 0, .slice none 0 0] : Array Value)[k]? := fun k => cell_of_row _ _ _ _ _ _ hRr.out
      have fR : ∀ k, wr.frozen? ⟨w.heap.size + 1 + 1, k, none⟩ = false := fun k => frozen_of_row _ _ _ _ _ hRr.out
      have hw2 : wrap64 (F : Int) = F := by rw [← IntWalk.i64_left]; exact hwr
      go_wp2
      refine wp_region_madeC (m := 91) (by kernel_rfl) (by kernel_rfl) rfl (fun hxc => ?_)
      repeat (refine mw_quiet ?_; apply Exists.intro; refine ⟨fun σ => ?_, ?_⟩; (first | (go_simp; rfl) | fail); simp only [Act.put, List.setIfInBounds_toArray, List.set_cons_succ, List.set_cons_zero, List.nil_append, List.cons_append])
      refine ⟨by kernel_rfl, fun σ w2 hF2 => ?_⟩
      have hx2 := hF2.ext
      clear hF2 hxc
      obtain ⟨hc2, hf2⟩ := hx2.cells
      have hz2 := hx2.size
      try simp at hz2
      have hs2_0 := sz1 (a := wr.heap.size) (b := w2.heap.size) (by omega)
      clear hneq hw2
      cases g
      · have HN : Hid (apOk q xs n T ys m zs l = false) := HGO.out.trans (HF.out (by first | rfl | trivial))
        have HN3 := Lib.hid (HNO.out HN.out)
        have hEx := HEw.out
        go_wp2
        refine bodyPost_ret (v := .tuple #[.agg #[.int .i64 0, .slice none 0 0], .bool false]) (by simp [results, Try.results55, go_sem, *]) rfl ?_
        obtain ⟨e1, e2, e3⟩ := HN3.out
        rw [HN.out, e1, e2, e3]
        exact ⟨_, rfl, own_nil _ _ _ _, (by repeat (first | (with_reducible refine Ext.setCell ?_ (by first | (simp; done) | (simp; omega)) _) | with_reducible refine Ext.alloc ?_ _ | with_reducible refine Ext.drew ?_ | with_reducible refine Ext.drewN ?_ _ | with_reducible assumption | with_reducible exact Ext.refl _ | with_reducible refine Ext.trans ?_ (by with_reducible assumption)))⟩
      · have hEx := HE.out
        go_wp2
        go_roundw
        case rel => exact ⟨j + 1, by omega, by go_num, by unfold Hid; rw [HS.out, HC.out]; rfl, (by repeat (first | (with_reducible refine Ext.setCell ?_ (by first | (simp; done) | (simp; omega)) _) | with_reducible refine Ext.alloc ?_ _ | with_reducible refine Ext.drew ?_ | with_reducible refine Ext.drewN ?_ _ | with_reducible assumption | with_reducible exact Ext.refl _ | with_reducible refine Ext.trans ?_ (by with_reducible assumption)))⟩
        case measure => simp [intOf]; omega
    · obtain rfl : j = m := by omega
      have HN : Hid (apOk q xs n T ys j zs l = true) := HGO.out.trans (HAE.out.trans HC.out)
      have HN3 := Lib.hid (HYES.out HN.out)
      have HNN : Hid (T + l + (n - E) = n - j + l) := num1 HEE.out (by omega)
      have HN1 : Hid (T + l + (n - E) ≤ 8000000) := num2 (by omega) (by omega) (by omega)
      have HN2 : Hid (T + l ≤ 8000000) := num3 (by omega) (by omega)
      have HNE : Hid (n = E + (n - E)) := (Nat.add_sub_cancel' (by omega)).symm
      have zA := fun k => cell_of_row _ _ k _ _ _ hA.out
      have zB := fun k => cell_of_row _ _ k _ _ _ hB.out
      have HK : Hid (∀ W, Ext wr W → W.cell? ⟨w.heap.size, 0, none⟩ = some (.int .i64 q) ∧ W.cell? ⟨w.heap.size, 1, none⟩ = some (.slice a1 n c1) ∧ W.cell? ⟨w.heap.size + 1, 0, none⟩ = some (.int .i64 T) ∧ W.cell? ⟨w.heap.size + 1, 1, none⟩ = some (.slice a2 j c2) ∧ W.cell? ⟨w.heap.size + 1, 2, none⟩ = some (.slice a3 l c3)) := fun W hx =>
        ⟨(hx.cells.1 _ 0 lA').trans (zA 0), (hx.cells.1 _ 1 lA').trans (zA 1), (hx.cells.1 _ 0 lB').trans (zB 0), (hx.cells.1 _ 1 lB').trans (zB 1), (hx.cells.1 _ 2 lB').trans (zB 2)⟩
      clear zA zB
      rcases H1.out.2 with ⟨h4, h5⟩ | ⟨b, off, cap, h4, h5, h6, h7, h8⟩
      · exact absurd h4 HNIL.out
      obtain ⟨rfl, rfl⟩ : a1 = some ⟨b, off, none⟩ ∧ c1 = cap := by simpa using h4
      clear h4
      have HCL : Hid (∀ W, Ext w W → b < W.heap.size ∧ ∀ i u, (IL xs)[i]? = some u → W.cell? ⟨b, off + i, none⟩ = some u) := fun W hx => ⟨by have := hx.size; omega, fun i u hu => (hx.cells.1 b (off + i) h7).trans (h8 i u hu)⟩
      have HR0 : Hid (∀ W, Ext w W → RV W 3 (.slice (some ⟨b, off, none⟩) T c1) T (xs.take (T * 3))) := fun W hx => by
        have k1 := rv_part (cap := c1) H1.out.1 (HCL.out W hx).1 (HCL.out W hx).2 0 T c1 (by omega) (by omega) h6
        simpa only [Nat.zero_mul, Nat.add_zero, List.drop_zero] using k1
      have hTc : (T : Int) ≤ c1 := by omega
      have hTc' : T ≤ c1 := by omega
      have hT0 : (0 : Int) ≤ T := by omega
      have hT4 : T ≤ 400 := by omega
      go_upto_region 9 with fail
      go_cut [8] from 61 (fun u8 wx => ∃ (B : Nat) (a : Option Addr) (c : Nat), u8 = .pointer (some ⟨B, 0, none⟩) ∧ wr.heap.size ≤ B ∧ wx.heap[B]? = some (.cells #[.int .i64 q, .slice a T c] 31 (0, 0)) ∧ wx.ownsRow wr.heap.size 73 3 (.slice a T c) T (IL (xs.take (T * 3))) ∧ (∀ k, (Value.slice a T c).ownBlock = some k → k ≠ B) ∧ Ext wr wx)
      case first =>
        go_region_held3 (fun W => W.cell? ⟨w.heap.size, 0, none⟩ = some (.int .i64 q) ∧ W.cell? ⟨w.heap.size, 1, none⟩ = some (.slice (some ⟨b, off, none⟩) n c1) ∧ W.cell? ⟨w.heap.size + 1, 0, none⟩ = some (.int .i64 T) ∧ W.cell? ⟨w.heap.size + 1, 1, none⟩ = some (.slice a2 j c2) ∧ W.cell? ⟨w.heap.size + 1, 2, none⟩ = some (.slice a3 l c3)) (exact HK.out _ (by repeat (first | (with_reducible refine Ext.setCell ?_ (by first | (simp; done) | (simp; omega)) _) | with_reducible refine Ext.alloc ?_ _ | with_reducible refine Ext.drew ?_ | with_reducible refine Ext.drewN ?_ _ | with_reducible assumption | with_reducible exact Ext.refl _ | with_reducible refine Ext.trans ?_ (by with_reducible assumption)))) (first
          | (refine step_append_rvt (base := wr.heap.size) rfl elt_CG rfl (.slice (some ⟨_, 0, none⟩) 0 0) 0 [] rfl ?_ (.slice (some ⟨b, off, none⟩) T c1) T (xs.take (T * 3)) rfl ?_ ?_ ?_ ?_
             · exact own_zero (by first | exact Nat.le_refl _ | (simp; done) | (simp; omega)) (by (repeat (first | with_reducible exact heap_alloc_new _ _ | with_reducible refine heap_drewS ?_ | (exact heap_alloc_at _ _ _ (by simp; done)) | with_reducible refine heap_alloc_lt ?_)); done)
             · exact HR0.out _ (HEw.out.trans (by repeat (first | (with_reducible refine Ext.setCell ?_ (by first | (simp; done) | (simp; omega)) _) | with_reducible refine Ext.alloc ?_ _ | with_reducible refine Ext.drew ?_ | with_reducible refine Ext.drewN ?_ _ | with_reducible assumption | with_reducible exact Ext.refl _ | with_reducible refine Ext.trans ?_ (by with_reducible assumption))))
             · omega
             · (first | (simp; done) | (simp; omega))
             intro v4 w4 hown4 hgrow4 hiff4 hloc4
             have hx4 : Ext wr w4 := by
               refine ext_zero (e := 73) ?_ ?_ ?_ hgrow4
               rotate_left
               · first | exact Nat.le_refl _ | (simp; done) | (simp; omega)
               · exact (by (repeat (first | with_reducible exact heap_alloc_new _ _ | with_reducible refine heap_drewS ?_ | (exact heap_alloc_at _ _ _ (by simp; done)) | with_reducible refine heap_alloc_lt ?_)); done)
               · exact (by repeat (first | (with_reducible refine Ext.setCell ?_ (by first | (simp; done) | (simp; omega)) _) | with_reducible refine Ext.alloc ?_ _ | with_reducible refine Ext.drew ?_ | with_reducible refine Ext.drewN ?_ _ | with_reducible assumption | with_reducible exact Ext.refl _ | with_reducible refine Ext.trans ?_ (by with_reducible assumption)))
             first
               | (have hz8 := heap_grown (k := wr.heap.size + 1) (o := .cells #[.int .i64 0, .slice none 0 0] 31 (0, 0)) hgrow4 (heap_drewS (heap_alloc_at _ _ _ (by simp))) (by intro e; simp only [Value.ownBlock, Option.some.injEq] at e; omega); have z8 : ∀ k, w4.cell? ⟨wr.heap.size + 1, k, none⟩ = (#[.int .i64 0, .slice none 0 0] : Array Value)[k]? := (fun k => cell_of_row _ _ _ _ _ _ hz8); have f8 : ∀ k, w4.frozen? ⟨wr.heap.size + 1, k, none⟩ = false := (fun k => frozen_of_row _ _ _ _ _ hz8); have l8 := (Array.getElem?_eq_some_iff.1 hz8).1; have HZ8 := Lib.hid hz8; clear hz8)
               | (have hz8 := heap_grown (k := wr.heap.size) (o := .cells #[.int .i64 0, .slice none 0 0] 31 (0, 0)) hgrow4 (heap_drewS (heap_alloc_lt (heap_alloc_new _ _))) (by intro e; simp only [Value.ownBlock, Option.some.injEq] at e; omega); have z8 : ∀ k, w4.cell? ⟨wr.heap.size, k, none⟩ = (#[.int .i64 0, .slice none 0 0] : Array Value)[k]? := (fun k => cell_of_row _ _ _ _ _ _ hz8); have f8 : ∀ k, w4.frozen? ⟨wr.heap.size, k, none⟩ = false := (fun k => frozen_of_row _ _ _ _ _ hz8); have l8 := (Array.getElem?_eq_some_iff.1 hz8).1; have HZ8 := Lib.hid hz8; clear hz8)
               | skip
             obtain ⟨a4, c4, rfl, _, _, _⟩ := own_shape hown4
             have O4 := Lib.hid hown4
             clear hown4))
        all_goals
          go_wp2_with fail
          go_meet
          have o4 : w4.ownsRow wr.heap.size 73 3 (.slice a4 T c4) T (IL (xs.take (T * 3))) := by simpa only [Nat.zero_add, List.nil_append] using O4.out
          clear O4
          have hlt4 := fun k hk => o4.lt k hk
          have hsz4 := hx4.size
          simp only [Nat.zero_add] at hloc4
          have hne4 : ∀ k, (Value.slice a4 T c4).ownBlock = some k → k ≠ w4.heap.size := fun k hk => by have := hlt4 k hk; omega
          refine ⟨_, a4, c4, rfl, ?_, ?_, ?_, ?_, (by repeat (first | (with_reducible refine Ext.setCell ?_ (by first | (simp; done) | (simp; omega)) _) | with_reducible refine Ext.alloc ?_ _ | with_reducible refine Ext.drew ?_ | with_reducible refine Ext.drewN ?_ _ | with_reducible assumption | with_reducible exact Ext.refl _ | with_reducible refine Ext.trans ?_ (by with_reducible assumption)))⟩
          · first | (simp; done) | (simp; omega) | omega
          · first
              | (with_reducible exact heap_alloc_new _ _)
              | exact heap_set2 HZ8.out
          · first
              | exact own_ext o4 ((Ext.refl _).alloc _)
              | exact own_setne (own_setne o4 (by intro k hk; rw [hk] at hloc4; simp [Value.ownBlock] at hloc4 ⊢; omega) _) (by intro k hk; rw [hk] at hloc4; simp [Value.ownBlock] at hloc4 ⊢; omega) _
          · intro k hk
            first
              | exact hne4 k hk
              | (rw [hk] at hloc4; simp [Value.ownBlock] at hloc4 ⊢; omega)
      case rest =>
        obtain ⟨B, a, c, rfl, hB8, hb8, ho8, hne8, hx8⟩ := hcut
        have HB8 := Lib.hid hb8
        have lB8 := (Array.getElem?_eq_some_iff.1 hb8).1
        have O8 := Lib.hid ho8
        have HX8 := Lib.hid hx8
        have RZ := Lib.hid (H3.out.ext (HEw.out.trans hx8))
        have HKW := Lib.hid (fun W (hx : Ext wr W) (hb : W.heap[B]? = some (.cells #[.int .i64 q, .slice a T c] 31 (0, 0))) => HK.out W hx)
        obtain ⟨k0, k1, k2, k3, k4⟩ := HK.out wc hx8
        have z8 : ∀ k, wc.cell? ⟨B, k, none⟩ = (#[.int .i64 q, .slice a T c] : Array Value)[k]? := fun k => cell_of_row _ _ _ _ _ _ hb8
        clear hb8 ho8 HK HKW hx8
        rcases Decidable.em (c1 = E) with hcE | hcE
        all_goals
          first
            | (have pE := eq_false hcE)
            | (have pE := eq_true hcE)
          have HCE := Lib.hid hcE
          clear hcE
          go_wp2_with (at_builtin; refine wpList_append_rvt (base := wr.heap.size) rfl elt_CG rfl (.slice a T c) T (xs.take (T * 3)) rfl O8.out (.slice a3 l c3) l zs rfl RZ.out HN2.out HX8.out.size ?_; intro v5 w5 hown5 hgrow5 hiff5 hloc5; obtain ⟨a5, c5, rfl, _, _, _⟩ := own_shape hown5; have hb5 := heap_grown hgrow5 HB8.out (fun e => hne8 _ e.symm rfl); have l5 := (Array.getElem?_eq_some_iff.1 hb5).1; have f5 : ∀ k, w5.frozen? ⟨B, k, none⟩ = false := (fun k => frozen_of_row _ _ _ _ _ hb5); have z5 : ∀ k, w5.cell? ⟨B, k, none⟩ = (#[.int .i64 q, .slice a T c] : Array Value)[k]? := (fun k => cell_of_row _ _ _ _ _ _ hb5); have HB5 := Lib.hid hb5; have O5 := Lib.hid hown5; have hx5 : Ext wr w5 := (ext_grownB HX8.out hgrow5 O8.out (Nat.le_refl _)); have HX5 := Lib.hid hx5; clear hb5 hown5 hx5)
          have hA5 : w5.heap[w.heap.size]? = some (.cells #[.int .i64 q, .slice (some ⟨b, off, none⟩) n c1] 31 (0, 0)) := (HX5.out.heap lA').trans hA.out
          have hR5 : w5.heap[w.heap.size + 1]? = some (.cells #[.int .i64 T, .slice a2 j c2, .slice a3 l c3] 45 (0, 0)) := (HX5.out.heap lB').trans hB.out
          have hne1 : w.heap.size ≠ B := by omega
          have hne2 : w.heap.size + 1 ≠ B := by omega
          have hw1 : IntKind.i64.wrap (E : Int) = E := IntWalk.i64_in _ (by omega)
          have k5 : (0 : Int) ≤ (E : Int) := by omega
          have k6 : (E : Int) ≤ n := by omega
          have k7 : (n : Int) ≤ c1 := by omega
          have hloc5' : ∀ k, (Value.slice a5 (T + l) c5).ownBlock = some k → k ≠ B ∧ wr.heap.size ≤ k ∧ k < w5.heap.size := fun k hk => by
            have h1 := O5.out.lt k hk
            refine ⟨?_, h1.1, h1.2⟩
            rw [hk] at hloc5
            rcases hloc5 with h2 | h2
            · exact hne8 k h2.symm
            · have := Option.some.inj h2
              have := (Array.getElem?_eq_some_iff.1 HB8.out).1
              omega
          have HLOC5 := Lib.hid hloc5'
          clear hloc5 hloc5'
          have hw2 : wrap64 (E : Int) = E := by rw [← IntWalk.i64_left]; exact hw1
          go_wp2
          refine Wr.wp_region_wr (m := 91) [⟨w.heap.size, 31, #[.int .i64 q, .slice (some ⟨b, off, none⟩) n c1]⟩, ⟨B, 31, #[.int .i64 q, .slice a5 (T + l) c5]⟩, ⟨w.heap.size + 1, 45, #[.int .i64 T, .slice a2 j c2, .slice a3 l c3]⟩] (by kernel_rfl) (by kernel_rfl) rfl (by simp; try omega) ?_ ?_
          · intro s hs
            rcases s with _ | _ | _ | s
            · exact (show (World.heap _)[w.heap.size]? = some (Obj.cells #[.int .i64 q, .slice (some ⟨b, off, none⟩) n c1] 31 (0, 0)) from heap_set_ne hne1 hA5)
            · exact (show (World.heap _)[B]? = some (Obj.cells #[.int .i64 q, .slice a5 (T + l) c5] 31 (0, 0)) from heap_set1 HB5.out)
            · exact (show (World.heap _)[w.heap.size + 1]? = some (Obj.cells #[.int .i64 T, .slice a2 j c2, .slice a3 l c3] 45 (0, 0)) from heap_set_ne hne2 hR5)
            · simp at hs
              try omega
          (refine Wr.ww_plain ?_; apply Exists.intro; refine ⟨?_, ?_⟩; (first | (go_simp; (try intro x); (try go_bits); rfl)); simp only [Act.put, List.setIfInBounds_toArray, List.set_cons_succ, List.set_cons_zero, List.nil_append, List.cons_append])
          refine Wr.ww_read 1 (B) 31 #[.int .i64 q, .slice a5 (T + l) c5] (by simp) rfl rfl rfl (fun hr => ?_)
          apply Exists.intro
          refine ⟨?_, ?_⟩
          · go_simp
            (try intro x)
            (try go_bits)
            rfl
          clear hr
          simp only [Act.put, List.setIfInBounds_toArray, List.set_cons_succ, List.set_cons_zero, List.nil_append, List.cons_append]
          (refine Wr.ww_plain ?_; apply Exists.intro; refine ⟨?_, ?_⟩; (first | (go_simp; (try intro x); (try go_bits); rfl)); simp only [Act.put, List.setIfInBounds_toArray, List.set_cons_succ, List.set_cons_zero, List.nil_append, List.cons_append])
          refine Wr.ww_read 0 (w.heap.size) 31 #[.int .i64 q, .slice (some ⟨b, off, none⟩) n c1] (by simp) rfl rfl rfl (fun hr => ?_)
          apply Exists.intro
          refine ⟨?_, ?_⟩
          · go_simp
            (try intro x)
            (try go_bits)
            rfl
          clear hr
          simp only [Act.put, List.setIfInBounds_toArray, List.set_cons_succ, List.set_cons_zero, List.nil_append, List.cons_append]
          (refine Wr.ww_plain ?_; apply Exists.intro; refine ⟨?_, ?_⟩; (first | (go_simp; (try intro x); (try go_bits); rfl)); simp only [Act.put, List.setIfInBounds_toArray, List.set_cons_succ, List.set_cons_zero, List.nil_append, List.cons_append])
          refine Wr.ww_read 2 (w.heap.size + 1) 45 #[.int .i64 T, .slice a2 j c2, .slice a3 l c3] (by simp) rfl rfl rfl (fun hr => ?_)
          apply Exists.intro
          refine ⟨?_, ?_⟩
          · go_simp
            (try intro x)
            (try go_bits)
            rfl
          clear hr
          simp only [Act.put, List.setIfInBounds_toArray, List.set_cons_succ, List.set_cons_zero, List.nil_append, List.cons_append]
          (refine Wr.ww_plain ?_; apply Exists.intro; refine ⟨?_, ?_⟩; (first | (go_simp; (try intro x); (try go_bits); rfl)); simp only [Act.put, List.setIfInBounds_toArray, List.set_cons_succ, List.set_cons_zero, List.nil_append, List.cons_append])
          refine Wr.ww_read 2 (w.heap.size + 1) 45 #[.int .i64 T, .slice a2 j c2, .slice a3 l c3] (by simp) rfl rfl rfl (fun hr => ?_)
          apply Exists.intro
          refine ⟨?_, ?_⟩
          · go_simp
            (try intro x)
            (try go_bits)
            rfl
          clear hr
          simp only [Act.put, List.setIfInBounds_toArray, List.set_cons_succ, List.set_cons_zero, List.nil_append, List.cons_append]
          (refine Wr.ww_plain ?_; apply Exists.intro; refine ⟨?_, ?_⟩; (first | (go_simp; (try intro x); (try go_bits); rfl)); simp only [Act.put, List.setIfInBounds_toArray, List.set_cons_succ, List.set_cons_zero, List.nil_append, List.cons_append])
          (refine Wr.ww_plain ?_; apply Exists.intro; refine ⟨?_, ?_⟩; (first | (go_simp; (try intro x); (try go_bits); rfl)); simp only [Act.put, List.setIfInBounds_toArray, List.set_cons_succ, List.set_cons_zero, List.nil_append, List.cons_append])
          (refine Wr.ww_plain ?_; apply Exists.intro; refine ⟨?_, ?_⟩; (first | (go_simp; (try intro x); (try go_bits); rfl)); simp only [Act.put, List.setIfInBounds_toArray, List.set_cons_succ, List.set_cons_zero, List.nil_append, List.cons_append])
          refine Wr.ww_stop (by kernel_rfl) (by kernel_rfl) (fun w9 hg9 hs9 => ?_)
          have hb9_0 : w9.heap[w.heap.size]? = some (.cells #[.int .i64 q, .slice (some ⟨b, off, none⟩) n c1] 31 (0, 0)) := hs9 0 (by simp)
          have hb9_1 : w9.heap[B]? = some (.cells #[.int .i64 q, .slice a5 (T + l) c5] 31 (0, 0)) := hs9 1 (by simp)
          have hb9_2 : w9.heap[w.heap.size + 1]? = some (.cells #[.int .i64 T, .slice a2 j c2, .slice a3 l c3] 45 (0, 0)) := hs9 2 (by simp)
          clear hs9
          simp only [List.map_cons, List.map_nil] at hg9
          have O9 := Lib.hid (own_gxn (own_setne O5.out (p := ⟨B, 1, none⟩) (fun k hk => (HLOC5.out k hk).1) (.slice a5 (T + l) c5)) hg9 (by intro k hk; have := HLOC5.out k hk; simp; omega))
          have hE9 : Ext wr w9 := ext_gxk (HX5.out.setCell (p := ⟨B, 1, none⟩) hB8 _) hg9 (by
            intro k hk hlt
            simp only [List.mem_cons, List.not_mem_nil, or_false] at hk
            rcases hk with rfl | rfl | rfl
            · exact hb9_0.trans hA.out.symm
            · omega
            · exact hb9_2.trans hB.out.symm)
          have HE9 := Lib.hid hE9
          have RT : Hid (RV w9 3 (.slice (if c1 = E then some ⟨b, off, none⟩ else some ⟨b, off + E * 3, none⟩) (n - E) (c1 - E)) (n - E) ((xs.drop (E * 3)).take ((n - E) * 3))) := by
            have hcl := HCL.out w9 (HEw.out.trans hE9)
            exact rv_cut (T := E) (m := n - E) (e := n) H1.out.1 hcl.1 hcl.2 h5 h6 HNE.out (Nat.le_refl _)
          simp only [pE, if_true, if_false] at RT
          have HB9 := Lib.hid hb9_1
          have lRr : w.heap.size + 1 + 1 < wr.heap.size := lR'
          have hsz9 := hE9.size
          clear hb9_0 hb9_1 hb9_2 hg9 hA5 hR5 hw2 hw1 f5 z5
          go_wp2_with (at_builtin; refine wpList_append_rvt (base := wr.heap.size) rfl elt_CG rfl (.slice a5 (T + l) c5) (T + l) _ rfl O9.out _ (n - E) _ rfl RT.out HN1.out HE9.out.size ?_; intro v6 w6 hown6 hgrow6 hiff6 hloc6; obtain ⟨a6, c6, rfl, _, _, _⟩ := own_shape hown6; have hb6 := heap_grown hgrow6 HB9.out (fun e => (HLOC5.out _ e.symm).1 rfl); have l6 := (Array.getElem?_eq_some_iff.1 hb6).1; have f6 : ∀ k, w6.frozen? ⟨B, k, none⟩ = false := (fun k => frozen_of_row _ _ _ _ _ hb6); have z6 : ∀ k, w6.cell? ⟨B, k, none⟩ = (#[.int .i64 q, .slice a5 (T + l) c5] : Array Value)[k]? := (fun k => cell_of_row _ _ _ _ _ _ hb6); have HB6 := Lib.hid hb6; have O6 := Lib.hid hown6; have hx6 : Ext wr w6 := (ext_grownB HE9.out hgrow6 O9.out (Nat.le_refl _)); have HX6 := Lib.hid hx6; have hr6 := ((hx6.heap lR').trans hRr.out); have lr6 := (Array.getElem?_eq_some_iff.1 hr6).1; have zr6 : ∀ k, w6.cell? ⟨w.heap.size + 1 + 1, k, none⟩ = (#[.int .i64 0, .slice none 0 0] : Array Value)[k]? := (fun k => cell_of_row _ _ _ _ _ _ hr6); have fr6 : ∀ k, w6.frozen? ⟨w.heap.size + 1 + 1, k, none⟩ = false := (fun k => frozen_of_row _ _ _ _ _ hr6); have hs6 := hx6.size; clear hb6 hown6 hx6 hr6)
          have hloc6' : ∀ k, (Value.slice a6 (T + l + (n - E)) c6).ownBlock = some k → k ≠ B := fun k hk => by
            rw [hk] at hloc6
            rcases hloc6 with h2 | h2
            · exact (HLOC5.out k h2.symm).1
            · have := Option.some.inj h2
              have := (Array.getElem?_eq_some_iff.1 HB9.out).1
              omega
          refine bodyPost_ret (v := .tuple #[.agg #[.int .i64 q, .slice a6 (T + l + (n - E)) c6], .bool true]) (by simp [results, Try.results55, go_sem, *]) rfl ?_
          obtain ⟨e1, e2, e3⟩ := HN3.out
          have hEwr := HEw.out
          have hX6 := HX6.out
          have hEe := HEE.out
          have hlen : (xs.drop (E * 3)).take ((n - E) * 3) = xs.drop (E * 3) := List.take_of_length_le (by rw [List.length_drop, H1.out.1]; omega)
          have hL : IL ((xs.take (T * 3) ++ zs) ++ (xs.drop (E * 3)).take ((n - E) * 3)) = IL (apX xs T j zs) := by rw [hlen, hEe]; rfl
          have hN := HNN.out
          rw [HN.out, e1, e2, e3, ← hN, ← hL]
          refine ⟨_, rfl, ?_, (by repeat (first | (with_reducible refine Ext.setCell ?_ (by first | (simp; done) | (simp; omega)) _) | with_reducible refine Ext.alloc ?_ _ | with_reducible refine Ext.drew ?_ | with_reducible refine Ext.drewN ?_ _ | with_reducible assumption | with_reducible exact Ext.refl _ | with_reducible refine Ext.trans ?_ (by with_reducible assumption)))⟩
          refine own_base (base := wr.heap.size) ?_ (by have := hEwr.size; omega)
          refine own_set (own_set (own_setne O6.out (p := ⟨B, 1, none⟩) hloc6' _) ?_ _) ?_ _
          all_goals (simp; omega)

end Go.Proofs.Ytlbcjbeafampcaa
