/- General lemmas for the proofs of this claim: worlds that grow (Ext), bounds of products, endings. -/
import Derived.WalkKit
import Derived.WalkSpells
import Derived.WalkLawsBesides
import Derived.Lib.Hide
import Derived.BigQuiet
namespace Go.Proofs.YtamiploliebplaaDoor
open Go.RowKit

/-- Everything that was in the world w is in w' as it was. -/
def Ext (w w' : World) : Prop := Below w.heap.size w w'

theorem Ext.refl (w : World) : Ext w w := Below.refl _ _
theorem Ext.size {w w' : World} (h : Ext w w') : w.heap.size ≤ w'.heap.size := Below.size h
theorem Ext.trans {a b c : World} (h : Ext a b) (k : Ext b c) : Ext a c := Below.trans h (Below.mono k h.size)
theorem Ext.alloc {a b : World} (h : Ext a b) (o : Obj) : Ext a (b.alloc o) := Below.alloc h h.size o
theorem Ext.drew {a b : World} (h : Ext a b) : Ext a b.drew := Below.drew h
theorem Ext.drewN {a b : World} (h : Ext a b) (n : Nat) : Ext a (b.drewN n) := by
  have h' : Below a.heap.size a b := h
  exact ⟨h'.os, h'.tape, h'.output, h'.size, h'.block⟩
theorem Ext.setCell {a b : World} (h : Ext a b) {p : Addr} (hp : a.heap.size ≤ p.block) (u : Value) : Ext a (b.setCell p u) := Below.setCell h hp u
theorem Ext.grown {a b c : World} {row : Option Nat} (h : Ext a b) (hg : b.grownBy c row) (hr : ∀ k, row = some k → a.heap.size ≤ k) : Ext a c := Below.grown h hg h.size hr
theorem Ext.cells {W w1 : World} (hb : Ext W w1) : (∀ b o, b < W.heap.size → w1.cell? ⟨b, o, none⟩ = W.cell? ⟨b, o, none⟩) ∧ (∀ b o, b < W.heap.size → w1.frozen? ⟨b, o, none⟩ = W.frozen? ⟨b, o, none⟩) :=
  ⟨fun b o h => Below.cell hb (p := ⟨b, o, none⟩) h, fun b o h => Below.frozen hb (p := ⟨b, o, none⟩) h⟩
theorem lt_of_cell {w : World} {b o : Nat} {v : Value} (h : w.cell? ⟨b, o, none⟩ = some v) : b < w.heap.size := by
  have := World.block_lt_of_cell? (w := w) (a := ⟨b, o, none⟩) (u := v)
  exact this h
theorem Ext.cellA {W w1 : World} (hb : Ext W w1) {p : Addr} (h : p.block < W.heap.size) : w1.cell? p = W.cell? p := Below.cell hb h
theorem Ext.heap {W w1 : World} (hb : Ext W w1) {k : Nat} (h : k < W.heap.size) : w1.heap[k]? = W.heap[k]? := Below.block hb k h

theorem sz1 {a b : Nat} (h : a + 1 ≤ b) : a < b ∧ a ≤ b ∧ a ≤ b + 1 ∧ a ≤ b + 1 + 1 ∧ a ≤ b + 1 + 1 + 1 ∧ a ≤ b + 1 + 1 + 1 + 1 := by omega
theorem sz2 {a b : Nat} (h : a + 2 ≤ b) : a < b ∧ a + 1 < b ∧ a ≤ b ∧ a ≤ b + 1 ∧ a ≤ b + 1 + 1 ∧ a ≤ b + 1 + 1 + 1 ∧ a ≤ b + 1 + 1 + 1 + 1 := by omega
theorem sz3 {a b : Nat} (h : a + 3 ≤ b) : a < b ∧ a + 1 < b ∧ a + 1 + 1 < b ∧ a ≤ b ∧ a ≤ b + 1 ∧ a ≤ b + 1 + 1 ∧ a ≤ b + 1 + 1 + 1 ∧ a ≤ b + 1 + 1 + 1 + 1 := by omega
theorem sz4 {a b : Nat} (h : a + 4 ≤ b) : a < b ∧ a + 1 < b ∧ a + 1 + 1 < b ∧ a + 1 + 1 + 1 < b ∧ a ≤ b ∧ a ≤ b + 1 ∧ a ≤ b + 1 + 1 ∧ a ≤ b + 1 + 1 + 1 ∧ a ≤ b + 1 + 1 + 1 + 1 := by omega
theorem sz5 {a b : Nat} (h : a + 5 ≤ b) : a < b ∧ a + 1 < b ∧ a + 1 + 1 < b ∧ a + 1 + 1 + 1 < b ∧ a + 1 + 1 + 1 + 1 < b ∧ a ≤ b ∧ a ≤ b + 1 ∧ a ≤ b + 1 + 1 ∧ a ≤ b + 1 + 1 + 1 ∧ a ≤ b + 1 + 1 + 1 + 1 := by omega
theorem sz6 {a b : Nat} (h : a + 6 ≤ b) : a < b ∧ a + 1 < b ∧ a + 1 + 1 < b ∧ a + 1 + 1 + 1 < b ∧ a + 1 + 1 + 1 + 1 < b ∧ a + 1 + 1 + 1 + 1 + 1 < b ∧ a ≤ b ∧ a ≤ b + 1 ∧ a ≤ b + 1 + 1 ∧ a ≤ b + 1 + 1 + 1 ∧ a ≤ b + 1 + 1 + 1 + 1 := by omega
theorem sz7 {a b : Nat} (h : a + 7 ≤ b) : a < b ∧ a + 1 < b ∧ a + 1 + 1 < b ∧ a + 1 + 1 + 1 < b ∧ a + 1 + 1 + 1 + 1 < b ∧ a + 1 + 1 + 1 + 1 + 1 < b ∧ a + 1 + 1 + 1 + 1 + 1 + 1 < b ∧ a ≤ b ∧ a ≤ b + 1 ∧ a ≤ b + 1 + 1 ∧ a ≤ b + 1 + 1 + 1 ∧ a ≤ b + 1 + 1 + 1 + 1 := by omega
theorem sz8 {a b : Nat} (h : a + 8 ≤ b) : a < b ∧ a + 1 < b ∧ a + 1 + 1 < b ∧ a + 1 + 1 + 1 < b ∧ a + 1 + 1 + 1 + 1 < b ∧ a + 1 + 1 + 1 + 1 + 1 < b ∧ a + 1 + 1 + 1 + 1 + 1 + 1 < b ∧ a + 1 + 1 + 1 + 1 + 1 + 1 + 1 < b ∧ a ≤ b ∧ a ≤ b + 1 ∧ a ≤ b + 1 + 1 ∧ a ≤ b + 1 + 1 + 1 ∧ a ≤ b + 1 + 1 + 1 + 1 := by omega
@[simp] theorem size_drewN (w : World) (n : Nat) : (w.drewN n).heap.size = w.heap.size := rfl

/-- A world that has grown out of w. -/
def Xt (w : World) : Type := { W : World // Ext w W }
def Xt.w {w : World} (x : Xt w) : World := x.1
instance (w : World) : Nonempty (Xt w) := ⟨⟨w, Ext.refl w⟩⟩
theorem Xt.ext {w : World} (x : Xt w) : Ext w x.w := x.2
/-- A region that draws its order, whose operations only read what was there and whose calls make at most new memory: one walk. -/
theorem wp_region_xt {P : Program} {id : Nat} {Q : Exit → Act → World → Prop} {a : Act} {w : World} {l : List Oper} (hm : P.follows .mixedOrders = true) (hB : Region.lexB .any l.toArray = true)
    (h : (∀ (x : Xt w) (b o : Nat), b < w.heap.size → x.w.cell? ⟨b, o, none⟩ = w.cell? ⟨b, o, none⟩) →
      wpQuiet P l.toArray (fun w' => ∃ x : Xt w, w' = x.w) (fun a' => ∀ w', (∃ x : Xt w, w' = x.w) → Q .normal a' w') l a) : (Code.region id l.toArray true).wp P Q a w :=
  wp_region_quiet (C := fun w' => ∃ x : Xt w, w' = x.w) hm hB ⟨⟨w.drew, (Ext.refl w).drew⟩, rfl⟩ (h fun x b o h => x.ext.cells.1 b o h)
theorem forall_xt {w : World} {φ : World → Prop} (h : ∀ W, Ext w W → φ W) : ∀ w', (∃ x : Xt w, w' = x.w) → φ w' := by
  rintro _ ⟨x, rfl⟩
  exact h _ x.ext
theorem calls_xt {P : Program} {f : FuncId} {args : Array Value} {w : World} {x : Xt w} {v : Value} (h : Calls P f args x.w fun e w' => e = .returned v ∧ Ext x.w w') :
    Calls P f args x.w fun e w'' => e = .returned v ∧ ∃ y : Xt w, w'' = y.w :=
  h.mono fun _ w' ⟨he, hx⟩ => ⟨he, ⟨w', x.ext.trans hx⟩, rfl⟩
theorem calls_xt_same {P : Program} {f : FuncId} {args : Array Value} {w : World} {x : Xt w} {v : Value} (h : Calls P f args x.w fun e w' => e = .returned v ∧ x.w = w') :
    Calls P f args x.w fun e w'' => e = .returned v ∧ ∃ y : Xt w, w'' = y.w :=
  h.mono fun _ _ ⟨he, hx⟩ => ⟨he, x, hx.symm⟩

theorem ret_bool {a b : Bool} (h : a = b) : Ending.returned (.bool a) = .returned (.bool b) := by rw [h]
theorem ret_int {k : IntKind} {a b : Int} (h : a = b) : Ending.returned (.int k a) = .returned (.int k b) := by rw [h]

theorem mul_bd {a b A B : Int} (ha : -A ≤ a) (ha' : a ≤ A) (hb : -B ≤ b) (hb' : b ≤ B) : -(A * B) ≤ a * b ∧ a * b ≤ A * B := by
  have hA : 0 ≤ A := by omega
  have hB : 0 ≤ B := by omega
  have h1 := Int.mul_nonneg (a := A - a) (b := B - b) (by omega) (by omega)
  have h2 := Int.mul_nonneg (a := A + a) (b := B + b) (by omega) (by omega)
  have h3 := Int.mul_nonneg (a := A - a) (b := B + b) (by omega) (by omega)
  have h4 := Int.mul_nonneg (a := A + a) (b := B - b) (by omega) (by omega)
  rw [Int.sub_mul, Int.mul_sub, Int.mul_sub] at h1
  rw [Int.add_mul, Int.mul_add, Int.mul_add] at h2
  rw [Int.sub_mul, Int.mul_add, Int.mul_add] at h3
  rw [Int.add_mul, Int.mul_sub, Int.mul_sub] at h4
  omega
theorem sq_bd {a A : Int} (ha : -A ≤ a) (ha' : a ≤ A) : 0 ≤ a * a ∧ a * a ≤ A * A := by
  refine ⟨?_, (mul_bd ha ha' ha ha').2⟩
  rcases Int.le_total 0 a with h | h
  · exact Int.mul_nonneg h h
  · have := Int.mul_nonneg (a := -a) (b := -a) (by omega) (by omega)
    rwa [Int.neg_mul_neg] at this

/-- lo ≤ n ≤ hi -/
def Wn (n lo hi : Int) : Bool := decide (lo ≤ n) && decide (n ≤ hi)
theorem Wn_iff {n lo hi : Int} : Wn n lo hi = true ↔ lo ≤ n ∧ n ≤ hi := by simp [Wn]
theorem Wn_not {n lo hi : Int} : Wn n lo hi = false ↔ ¬ (lo ≤ n ∧ n ≤ hi) := by simp [Wn]
def AllW (xs : List Int) (lo hi : Int) : Bool := xs.all fun x => Wn x lo hi
theorem allW_take_succ (xs : List Int) (lo hi : Int) (k : Nat) (h : k < xs.length) : AllW (xs.take (k+1)) lo hi = (AllW (xs.take k) lo hi && Wn xs[k] lo hi) := by
  unfold AllW
  rw [List.take_succ_eq_append_getElem h, List.all_append]
  simp only [List.all_cons, List.all_nil, Bool.and_true]
theorem allW_false (xs : List Int) (lo hi : Int) (k : Nat) (h : k < xs.length) (h2 : Wn xs[k] lo hi = false) : AllW xs lo hi = false := by
  unfold AllW; rw [List.all_eq_false]; exact ⟨xs[k], List.getElem_mem h, by simp [h2]⟩
/-- a component or an end -/
def Lim (n : Int) : Bool := Wn n (-1000000) 1000000
def R2 (p q : Int) : Bool := Lim p && Lim q
theorem R2_bd {p q : Int} (h : R2 p q = true) : (-1000000 ≤ p ∧ p ≤ 1000000) ∧ (-1000000 ≤ q ∧ q ≤ 1000000) := by
  simpa [R2, Lim, Wn] using h
theorem allW2 (p q lo hi : Int) : AllW [p, q] lo hi = (Wn p lo hi && Wn q lo hi) := by simp [AllW]

end Go.Proofs.YtamiploliebplaaDoor
