/- The program's closures over layers; slices.SortStableFunc at short lists of ints. -/
import Derived.Test.YtbddgeoaaklgpaaTrX
import Derived.Test.YtbddgeoaaklgpaaTrT
namespace Go.Proofs.Ytbddgeoaaklgpaa
open Go.RowKit Go.Lib
set_option linter.unusedVariables false
set_option linter.unusedSimpArgs false

/-- what the closures see -/
structure KY (ab cb kb : Nat) (q : Int) (va v : Value) (m : Nat) (xs : List Int) (w : World) : Prop where
  hk : w.heap[kb]? = some (.cells #[.func (.func 47) #[] #[.pointer (some ⟨ab, 0, none⟩), .pointer (some ⟨cb, 0, none⟩)]] 86 (0, 0))
  ha : w.heap[ab]? = some (.cells #[va] 53 (0, 0))
  hc : w.heap[cb]? = some (.cells #[.int .i64 q, v] 25 (0, 0))
  ra : RV w 1 va m (lyL xs m)
  rc : RV w 3 v m xs
theorem KY.ext {ab cb kb : Nat} {q : Int} {va v : Value} {m : Nat} {xs : List Int} {w w' : World} (h : KY ab cb kb q va v m xs w) (hx : Ext w w') : KY ab cb kb q va v m xs w' :=
  ⟨(hx.heap (Array.getElem?_eq_some_iff.1 h.hk).1).trans h.hk, (hx.heap (Array.getElem?_eq_some_iff.1 h.ha).1).trans h.ha, (hx.heap (Array.getElem?_eq_some_iff.1 h.hc).1).trans h.hc, h.ra.ext hx, h.rc.ext hx⟩

set_option maxRecDepth 20000 in
set_option maxHeartbeats 2000000 in
theorem fkey_any {ab cb kb : Nat} {q : Int} {va v : Value} {m : Nat} {xs : List Int} {i : Nat} (hm : m ≤ 400) (hi : i < m) (w : World) (h : KY ab cb kb q va v m xs w) :
    Calls Try.prog 47 #[.int .i64 i, .pointer (some ⟨ab, 0, none⟩), .pointer (some ⟨cb, 0, none⟩)] w fun e w' => e = .returned (.tuple #[.int .i64 (lyA xs i : Nat), .int .i64 (at3 xs (i * 3 + 1))]) ∧ Ext w w' := by
  obtain ⟨_, ha, hc, ra, rc⟩ := h
  obtain ⟨hl, a, cap, rfl, c1, c2, H⟩ := rc
  obtain ⟨hl2, a2, cap2, rfl, d1, d2, H2⟩ := ra
  have HH := Lib.hid H
  have HH2 := Lib.hid H2
  have HL := Lib.hid hl
  have HL2 := Lib.hid hl2
  clear H H2 hl hl2
  have hE := Ext.refl w
  obtain ⟨b, off, rfl, hbk, hcell⟩ := HH.out (by omega)
  have HCELL := Lib.hid hcell
  clear hcell
  have hbr : b < w.heap.size := by have := hE.size; omega
  have z0 : w.cell? ⟨b, off + i * 3, none⟩ = some (.int .i64 (at3 xs (i * 3))) := (hE.cells.1 b (off + (i * 3)) hbk).trans (HCELL.out _ _ (at3_get (by have := HL.out; omega)))
  have z1 : w.cell? ⟨b, off + i * 3 + 1, none⟩ = some (.int .i64 (at3 xs (i * 3 + 1))) := (hE.cells.1 b (off + (i * 3 + 1)) hbk).trans (HCELL.out _ _ (at3_get (by have := HL.out; omega)))
  have z2 : w.cell? ⟨b, off + i * 3 + 2, none⟩ = some (.int .i64 (at3 xs (i * 3 + 2))) := (hE.cells.1 b (off + (i * 3 + 2)) hbk).trans (HCELL.out _ _ (at3_get (by have := HL.out; omega)))
  obtain ⟨bk, offk, rfl, hbkk, hcellk⟩ := HH2.out (by omega)
  have HCELLk := Lib.hid hcellk
  clear hcellk
  have hbrk : bk < w.heap.size := by have := hE.size; omega
  have zk0 : w.cell? ⟨bk, offk + i, none⟩ = some (.int .i64 (at3 (lyL xs m) (i))) := (hE.cells.1 bk (offk + (i)) hbkk).trans (HCELLk.out _ _ (at3_get (by have := HL2.out; omega)))
  rw [lyL_at hi] at zk0
  have hlb := lyA_bd xs i
  have za := fun k => cell_of_row _ _ k _ _ _ ha
  have zc := fun k => cell_of_row _ _ k _ _ _ hc
  have la := (Array.getElem?_eq_some_iff.1 ha).1
  have lc := (Array.getElem?_eq_some_iff.1 hc).1
  have hi' : (i : Int) < m := by omega
  have hic : i < cap := by omega
  have hic2 : i < cap2 := by omega
  clear HCELL HCELLk ha hc hE
  generalize lyA xs i = y at *
  generalize at3 xs (i * 3 + 1) = a0 at *
  go_enter Try.func47, Try.ntmps47
  go_wp2
  refine wp_region_madeC (m := 16) (by kernel_rfl) (by kernel_rfl) rfl (fun hxc => ?_)
  repeat (refine mw_quiet ?_; apply Exists.intro; refine ⟨fun σ => ?_, ?_⟩; (first | (go_simp; rfl) | fail); simp only [Act.put, List.setIfInBounds_toArray, List.set_cons_succ, List.set_cons_zero, List.nil_append, List.cons_append])
  refine ⟨by kernel_rfl, fun σ w1 hF1 => ?_⟩
  have hx1 := hF1.ext
  clear hF1 hxc
  obtain ⟨hc1, hf1⟩ := hx1.cells
  have hz1 := hx1.size
  try simp at hz1
  go_wp2
  go_ret2
  exact ⟨rfl, hx1⟩

/-- how the program compares -/
def cK (xs : List Int) (i k : Nat) : Int := if (lyA xs i : Int) = (lyA xs k : Nat) then at3 xs (i * 3 + 1) - at3 xs (k * 3 + 1) else (lyA xs i : Int) - (lyA xs k : Nat)
def prT (xs : List Int) (i : Nat) : Nat × G3 := (lyA xs i, gN xs i)
theorem cK_neg {q : Nat} {xs : List Int} {m i k : Nat} (hc : cOk q xs m = true) (hi : i < m) (hk : k < m) : cK xs i k < 0 ↔ tkey (prT xs i) < tkey (prT xs k) := by
  have f := gOk_facts (cOk_gate hc hi) (cOk_q1 hc).1
  have g := gOk_facts (cOk_gate hc hk) (cOk_q1 hc).1
  have q1 := cOk_q1 hc
  have e1 : (gN xs i).2.1 = (at3 xs (i * 3 + 1)).toNat := rfl
  have e2 : (gN xs k).2.1 = (at3 xs (k * 3 + 1)).toNat := rfl
  unfold cK prT tkey
  simp only
  split <;> omega

set_option maxRecDepth 20000 in
set_option maxHeartbeats 2000000 in
theorem scmp_any {ab cb kb : Nat} {q : Nat} {va v : Value} {m : Nat} {xs : List Int} {i k : Nat} (hc : cOk q xs m = true) (hi : i < m) (hk : k < m) (w : World) (h : KY ab cb kb q va v m xs w) :
    Calls Try.prog 74 #[.int .i64 i, .int .i64 k, .pointer (some ⟨kb, 0, none⟩)] w fun e w' => e = .returned (.int .i64 (cK xs i k)) ∧ Ext w w' := by
  have hm := (cOk_q1 hc).2.2
  have HF1 := fun w' (hx : Ext w w') => Lib.hid (fkey_any hm hi w' (h.ext hx))
  have HF2 := fun w' (hx : Ext w w') => Lib.hid (fkey_any hm hk w' (h.ext hx))
  have h1 := lyA_bd xs i
  have h2 := lyA_bd xs k
  have f := gOk_facts (cOk_gate hc hi) (cOk_q1 hc).1
  have g := gOk_facts (cOk_gate hc hk) (cOk_q1 hc).1
  have q1 := cOk_q1 hc
  have b1 : 0 ≤ at3 xs (i * 3 + 1) ∧ at3 xs (i * 3 + 1) < 5 := by omega
  have b2 : 0 ≤ at3 xs (k * 3 + 1) ∧ at3 xs (k * 3 + 1) < 5 := by omega
  have HB := Lib.hid h.hk
  have zk := fun o => cell_of_row _ _ o _ _ _ h.hk
  have lk := (Array.getElem?_eq_some_iff.1 h.hk).1
  have HV : Hid (cK xs i k = if (lyA xs i : Int) = (lyA xs k : Nat) then at3 xs (i * 3 + 1) - at3 xs (k * 3 + 1) else (lyA xs i : Int) - (lyA xs k : Nat)) := rfl
  clear f g q1 h
  generalize cK xs i k = V at *
  generalize at3 xs (i * 3 + 1) = x at *
  generalize at3 xs (k * 3 + 1) = y at *
  generalize lyA xs i = s at *
  generalize lyA xs k = t at *
  go_enter Try.func74, Try.ntmps74
  go_wp2_with fail
  refine (HF1 _ (by repeat (first | (with_reducible refine Ext.setCell ?_ (by first | (simp; done) | (simp; omega)) _) | with_reducible refine Ext.alloc ?_ _ | with_reducible refine Ext.drew ?_ | with_reducible refine Ext.drewN ?_ _ | with_reducible assumption | with_reducible exact Ext.refl _ | with_reducible refine Ext.trans ?_ (by with_reducible assumption)))).out.mono ?_
  rintro e w1 ⟨rfl, hx1⟩
  have hb1 := (hx1.heap lk).trans HB.out
  have zk1 := fun o => cell_of_row _ _ o _ _ _ hb1
  have lk1 := (Array.getElem?_eq_some_iff.1 hb1).1
  have X1 := Lib.hid hx1
  clear hb1 hx1
  go_wp2_with fail
  refine (HF2 _ X1.out).out.mono ?_
  rintro e w2 ⟨rfl, hx2⟩
  have X2 : Hid (Ext w w2) := X1.out.trans hx2
  clear hx2
  by_cases he : (s : Int) = (t : Int)
  · have hV : V = x - y := by rw [HV.out, if_pos he]
    have he2 : s = t := by omega
    clear HV he
    subst he2 hV
    go_wp2
    go_ret
    exact ⟨rfl, X2.out⟩
  · have hV : V = (s : Int) - t := by rw [HV.out, if_neg he]
    have he2 : ((s : Int) == (t : Int)) = false := by simpa using he
    have he3 : ¬ s = t := by omega
    clear HV
    subst hV
    go_wp2
    go_ret
    exact ⟨rfl, X2.out⟩

end Go.Proofs.Ytbddgeoaaklgpaa
