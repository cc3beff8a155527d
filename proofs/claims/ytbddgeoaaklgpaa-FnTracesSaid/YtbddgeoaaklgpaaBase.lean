/- General lemmas for the proofs of this claim: worlds that grow (Ext), bounds of products, endings. -/
import Derived.WalkKit
import Derived.WalkSpells
import Derived.WalkLawsBesides
import Derived.Lib.Hide
import Derived.BigQuiet
import Derived.Test.YtbddgeoaaklgpaaRows
import Derived.Deep.AppendLies
namespace Go.Proofs.Ytbddgeoaaklgpaa
open Go.RowKit

/-- Everything that was in the world w is in w' as it was. -/
def Ext (w w' : World) : Prop := Below w.heap.size w w'

theorem Ext.refl (w : World) : Ext w w := Below.refl _ _
theorem Ext.size {w w' : World} (h : Ext w w') : w.heap.size ≤ w'.heap.size := Below.size h
theorem Ext.trans {a b c : World} (h : Ext a b) (k : Ext b c) : Ext a c := Below.trans h (Below.mono k h.size)
theorem Ext.alloc {a b : World} (h : Ext a b) (o : Obj) : Ext a (b.alloc o) := Below.alloc h h.size o
theorem Ext.drew {a b : World} (h : Ext a b) : Ext a b.drew := Below.drew h
theorem Ext.drewN {a b : World} (h : Ext a b) (n : Nat) : Ext a (b.drewN n) := by
  have h' : Below a.heap.size a b := h
  exact ⟨h'.os, h'.tape, h'.output, h'.size, h'.block⟩
theorem Ext.setCell {a b : World} (h : Ext a b) {p : Addr} (hp : a.heap.size ≤ p.block) (u : Value) : Ext a (b.setCell p u) := Below.setCell h hp u
theorem Ext.grown {a b c : World} {row : Option Nat} (h : Ext a b) (hg : b.grownBy c row) (hr : ∀ k, row = some k → a.heap.size ≤ k) : Ext a c := Below.grown h hg h.size hr
theorem Ext.cells {W w1 : World} (hb : Ext W w1) : (∀ b o, b < W.heap.size → w1.cell? ⟨b, o, none⟩ = W.cell? ⟨b, o, none⟩) ∧ (∀ b o, b < W.heap.size → w1.frozen? ⟨b, o, none⟩ = W.frozen? ⟨b, o, none⟩) :=
  ⟨fun b o h => Below.cell hb (p := ⟨b, o, none⟩) h, fun b o h => Below.frozen hb (p := ⟨b, o, none⟩) h⟩
theorem lt_of_cell {w : World} {b o : Nat} {v : Value} (h : w.cell? ⟨b, o, none⟩ = some v) : b < w.heap.size := by
  have := World.block_lt_of_cell? (w := w) (a := ⟨b, o, none⟩) (u := v)
  exact this h
theorem Ext.cellA {W w1 : World} (hb : Ext W w1) {p : Addr} (h : p.block < W.heap.size) : w1.cell? p = W.cell? p := Below.cell hb h
theorem Ext.heap {W w1 : World} (hb : Ext W w1) {k : Nat} (h : k < W.heap.size) : w1.heap[k]? = W.heap[k]? := Below.block hb k h

theorem sz1 {a b : Nat} (h : a + 1 ≤ b) : a < b ∧ a ≤ b ∧ a ≤ b + 1 ∧ a ≤ b + 1 + 1 ∧ a ≤ b + 1 + 1 + 1 ∧ a ≤ b + 1 + 1 + 1 + 1 := by omega
theorem sz2 {a b : Nat} (h : a + 2 ≤ b) : a < b ∧ a + 1 < b ∧ a ≤ b ∧ a ≤ b + 1 ∧ a ≤ b + 1 + 1 ∧ a ≤ b + 1 + 1 + 1 ∧ a ≤ b + 1 + 1 + 1 + 1 := by omega
theorem sz3 {a b : Nat} (h : a + 3 ≤ b) : a < b ∧ a + 1 < b ∧ a + 1 + 1 < b ∧ a ≤ b ∧ a ≤ b + 1 ∧ a ≤ b + 1 + 1 ∧ a ≤ b + 1 + 1 + 1 ∧ a ≤ b + 1 + 1 + 1 + 1 := by omega
theorem sz4 {a b : Nat} (h : a + 4 ≤ b) : a < b ∧ a + 1 < b ∧ a + 1 + 1 < b ∧ a + 1 + 1 + 1 < b ∧ a ≤ b ∧ a ≤ b + 1 ∧ a ≤ b + 1 + 1 ∧ a ≤ b + 1 + 1 + 1 ∧ a ≤ b + 1 + 1 + 1 + 1 := by omega
theorem sz5 {a b : Nat} (h : a + 5 ≤ b) : a < b ∧ a + 1 < b ∧ a + 1 + 1 < b ∧ a + 1 + 1 + 1 < b ∧ a + 1 + 1 + 1 + 1 < b ∧ a ≤ b ∧ a ≤ b + 1 ∧ a ≤ b + 1 + 1 ∧ a ≤ b + 1 + 1 + 1 ∧ a ≤ b + 1 + 1 + 1 + 1 := by omega
theorem sz6 {a b : Nat} (h : a + 6 ≤ b) : a < b ∧ a + 1 < b ∧ a + 1 + 1 < b ∧ a + 1 + 1 + 1 < b ∧ a + 1 + 1 + 1 + 1 < b ∧ a + 1 + 1 + 1 + 1 + 1 < b ∧ a ≤ b ∧ a ≤ b + 1 ∧ a ≤ b + 1 + 1 ∧ a ≤ b + 1 + 1 + 1 ∧ a ≤ b + 1 + 1 + 1 + 1 := by omega
theorem sz7 {a b : Nat} (h : a + 7 ≤ b) : a < b ∧ a + 1 < b ∧ a + 1 + 1 < b ∧ a + 1 + 1 + 1 < b ∧ a + 1 + 1 + 1 + 1 < b ∧ a + 1 + 1 + 1 + 1 + 1 < b ∧ a + 1 + 1 + 1 + 1 + 1 + 1 < b ∧ a ≤ b ∧ a ≤ b + 1 ∧ a ≤ b + 1 + 1 ∧ a ≤ b + 1 + 1 + 1 ∧ a ≤ b + 1 + 1 + 1 + 1 := by omega
theorem sz8 {a b : Nat} (h : a + 8 ≤ b) : a < b ∧ a + 1 < b ∧ a + 1 + 1 < b ∧ a + 1 + 1 + 1 < b ∧ a + 1 + 1 + 1 + 1 < b ∧ a + 1 + 1 + 1 + 1 + 1 < b ∧ a + 1 + 1 + 1 + 1 + 1 + 1 < b ∧ a + 1 + 1 + 1 + 1 + 1 + 1 + 1 < b ∧ a ≤ b ∧ a ≤ b + 1 ∧ a ≤ b + 1 + 1 ∧ a ≤ b + 1 + 1 + 1 ∧ a ≤ b + 1 + 1 + 1 + 1 := by omega
@[simp] theorem size_drewN (w : World) (n : Nat) : (w.drewN n).heap.size = w.heap.size := rfl

/-- A world that has grown out of w. -/
def Xt (w : World) : Type := { W : World // Ext w W }
def Xt.w {w : World} (x : Xt w) : World := x.1
instance (w : World) : Nonempty (Xt w) := ⟨⟨w, Ext.refl w⟩⟩
theorem Xt.ext {w : World} (x : Xt w) : Ext w x.w := x.2
/-- A region that draws its order, whose operations only read what was there and whose calls make at most new memory: one walk. -/
theorem wp_region_xt {P : Program} {id : Nat} {Q : Exit → Act → World → Prop} {a : Act} {w : World} {l : List Oper} (hm : P.follows .mixedOrders = true) (hB : Region.lexB .any l.toArray = true)
    (h : (∀ (x : Xt w) (b o : Nat), b < w.heap.size → x.w.cell? ⟨b, o, none⟩ = w.cell? ⟨b, o, none⟩) →
      wpQuiet P l.toArray (fun w' => ∃ x : Xt w, w' = x.w) (fun a' => ∀ w', (∃ x : Xt w, w' = x.w) → Q .normal a' w') l a) : (Code.region id l.toArray true).wp P Q a w :=
  wp_region_quiet (C := fun w' => ∃ x : Xt w, w' = x.w) hm hB ⟨⟨w.drew, (Ext.refl w).drew⟩, rfl⟩ (h fun x b o h => x.ext.cells.1 b o h)
theorem forall_xt {w : World} {φ : World → Prop} (h : ∀ W, Ext w W → φ W) : ∀ w', (∃ x : Xt w, w' = x.w) → φ w' := by
  rintro _ ⟨x, rfl⟩
  exact h _ x.ext
theorem calls_xt {P : Program} {f : FuncId} {args : Array Value} {w : World} {x : Xt w} {v : Value} (h : Calls P f args x.w fun e w' => e = .returned v ∧ Ext x.w w') :
    Calls P f args x.w fun e w'' => e = .returned v ∧ ∃ y : Xt w, w'' = y.w :=
  h.mono fun _ w' ⟨he, hx⟩ => ⟨he, ⟨w', x.ext.trans hx⟩, rfl⟩
theorem calls_xt_same {P : Program} {f : FuncId} {args : Array Value} {w : World} {x : Xt w} {v : Value} (h : Calls P f args x.w fun e w' => e = .returned v ∧ x.w = w') :
    Calls P f args x.w fun e w'' => e = .returned v ∧ ∃ y : Xt w, w'' = y.w :=
  h.mono fun _ _ ⟨he, hx⟩ => ⟨he, x, hx.symm⟩

theorem ret_bool {a b : Bool} (h : a = b) : Ending.returned (.bool a) = .returned (.bool b) := by rw [h]
theorem ret_int {k : IntKind} {a b : Int} (h : a = b) : Ending.returned (.int k a) = .returned (.int k b) := by rw [h]

theorem mul_bd {a b A B : Int} (ha : -A ≤ a) (ha' : a ≤ A) (hb : -B ≤ b) (hb' : b ≤ B) : -(A * B) ≤ a * b ∧ a * b ≤ A * B := by
  have hA : 0 ≤ A := by omega
  have hB : 0 ≤ B := by omega
  have h1 := Int.mul_nonneg (a := A - a) (b := B - b) (by omega) (by omega)
  have h2 := Int.mul_nonneg (a := A + a) (b := B + b) (by omega) (by omega)
  have h3 := Int.mul_nonneg (a := A - a) (b := B + b) (by omega) (by omega)
  have h4 := Int.mul_nonneg (a := A + a) (b := B - b) (by omega) (by omega)
  rw [Int.sub_mul, Int.mul_sub, Int.mul_sub] at h1
  rw [Int.add_mul, Int.mul_add, Int.mul_add] at h2
  rw [Int.sub_mul, Int.mul_add, Int.mul_add] at h3
  rw [Int.add_mul, Int.mul_sub, Int.mul_sub] at h4
  omega
theorem sq_bd {a A : Int} (ha : -A ≤ a) (ha' : a ≤ A) : 0 ≤ a * a ∧ a * a ≤ A * A := by
  refine ⟨?_, (mul_bd ha ha' ha ha').2⟩
  rcases Int.le_total 0 a with h | h
  · exact Int.mul_nonneg h h
  · have := Int.mul_nonneg (a := -a) (b := -a) (by omega) (by omega)
    rwa [Int.neg_mul_neg] at this

/-- lo ≤ n ≤ hi -/
def Wn (n lo hi : Int) : Bool := decide (lo ≤ n) && decide (n ≤ hi)
theorem Wn_iff {n lo hi : Int} : Wn n lo hi = true ↔ lo ≤ n ∧ n ≤ hi := by simp [Wn]
theorem Wn_not {n lo hi : Int} : Wn n lo hi = false ↔ ¬ (lo ≤ n ∧ n ≤ hi) := by simp [Wn]
def AllW (xs : List Int) (lo hi : Int) : Bool := xs.all fun x => Wn x lo hi
theorem allW_take_succ (xs : List Int) (lo hi : Int) (k : Nat) (h : k < xs.length) : AllW (xs.take (k+1)) lo hi = (AllW (xs.take k) lo hi && Wn xs[k] lo hi) := by
  unfold AllW
  rw [List.take_succ_eq_append_getElem h, List.all_append]
  simp only [List.all_cons, List.all_nil, Bool.and_true]
theorem allW_false (xs : List Int) (lo hi : Int) (k : Nat) (h : k < xs.length) (h2 : Wn xs[k] lo hi = false) : AllW xs lo hi = false := by
  unfold AllW; rw [List.all_eq_false]; exact ⟨xs[k], List.getElem_mem h, by simp [h2]⟩
/-- a component or an end -/
def Lim (n : Int) : Bool := Wn n (-1000000) 1000000
def R2 (p q : Int) : Bool := Lim p && Lim q
theorem R2_bd {p q : Int} (h : R2 p q = true) : (-1000000 ≤ p ∧ p ≤ 1000000) ∧ (-1000000 ≤ q ∧ q ≤ 1000000) := by
  simpa [R2, Lim, Wn] using h
theorem allW2 (p q lo hi : Int) : AllW [p, q] lo hi = (Wn p lo hi && Wn q lo hi) := by simp [AllW]


open Go.RowKit

theorem within_any (n lo hi : Int) (w : World) :
    Calls Try.prog 68 #[.int .i64 n, .int .i64 lo, .int .i64 hi] w fun e w' => e = .returned (.bool (Wn n lo hi)) ∧ w = w' := by
  by_cases h : lo ≤ n
  all_goals
    go_enter Try.func68, Try.ntmps68
    go_wp2
    go_ret
    exact ⟨ret_bool (by simp [Wn]; try omega), rfl⟩

theorem l1In_any (n lo hi : Int) (w : World) :
    Calls Try.prog 53 #[.int .i64 n, .int .i64 lo, .int .i64 hi] w fun e w' => e = .returned (.bool (Wn n lo hi)) ∧ w = w' := by
  by_cases h : lo ≤ n
  all_goals
    go_enter Try.func53, Try.ntmps53
    go_wp2
    go_ret
    exact ⟨ret_bool (by simp [Wn]; try omega), rfl⟩

def normN (p q : Int) : Int := if R2 p q then p * p - 2 * (q * q) else 0
theorem normN_bd (p q : Int) (h : R2 p q = true) : -2000000000000 ≤ p * p - 2 * (q * q) ∧ p * p - 2 * (q * q) ≤ 1000000000000 := by
  have hb := R2_bd h
  have h1 := sq_bd hb.1.1 hb.1.2
  have h2 := sq_bd hb.2.1 hb.2.2
  omega

/-- a valid range lo/den .. hi/den -/
def Rng (lo hi den : Int) : Bool := Wn den 1 100 && Lim lo && Lim hi && Wn (hi - lo) 0 (40 * den)
theorem Rng_ways (lo hi den : Int) : (Wn den 1 100 = false ∧ Rng lo hi den = false) ∨ (Wn den 1 100 = true ∧ Lim lo = false ∧ Rng lo hi den = false) ∨ (Wn den 1 100 = true ∧ Lim lo = true ∧ Lim hi = false ∧ Rng lo hi den = false) ∨
    (Wn den 1 100 = true ∧ Lim lo = true ∧ Lim hi = true ∧ Rng lo hi den = Wn (hi - lo) 0 (40 * den) ∧ 1 ≤ den ∧ den ≤ 100 ∧ -1000000 ≤ lo ∧ lo ≤ 1000000 ∧ -1000000 ≤ hi ∧ hi ≤ 1000000) := by
  unfold Rng
  cases h1 : Wn den 1 100 <;> cases h2 : Lim lo <;> cases h3 : Lim hi <;> simp
  simp only [Lim, Wn_iff] at *
  omega
theorem Rng_bd {lo hi den : Int} (h : Rng lo hi den = true) : 1 ≤ den ∧ den ≤ 100 ∧ -1000000 ≤ lo ∧ lo ≤ 1000000 ∧ -1000000 ≤ hi ∧ hi ≤ 1000000 ∧ lo ≤ hi ∧ hi - lo ≤ 40 * den := by
  simp only [Rng, Lim, Wn, Bool.and_eq_true, decide_eq_true_eq] at h
  omega
theorem allW_lim (p q : Int) : AllW [p, q] (-1000000) 1000000 = (Lim p && Lim q) := by rw [allW2]; rfl

theorem Rng_ways2 (lo hi den : Int) : (Wn den 1 100 = false ∧ Rng lo hi den = false) ∨ (Wn den 1 100 = true ∧ R2 lo hi = false ∧ Rng lo hi den = false) ∨
    (Wn den 1 100 = true ∧ R2 lo hi = true ∧ Rng lo hi den = Wn (hi - lo) 0 (40 * den) ∧ 1 ≤ den ∧ den ≤ 100 ∧ -1000000 ≤ lo ∧ lo ≤ 1000000 ∧ -1000000 ≤ hi ∧ hi ≤ 1000000) := by
  unfold Rng R2
  cases h1 : Wn den 1 100 <;> cases h2 : Lim lo <;> cases h3 : Lim hi <;> simp
  simp only [Lim, Wn_iff] at *
  omega

/-! ### The sign of u + v sqrt 2 -/
def sg (n : Int) : Int := if n < 0 then -1 else if 0 < n then 1 else 0
theorem sg_bd (n : Int) : -1 ≤ sg n ∧ sg n ≤ 1 := by unfold sg; split <;> (try split) <;> omega
def S2 (u v : Int) : Int :=
  if 0 ≤ u ∧ 0 ≤ v ∧ 0 < u + v then 1 else if u ≤ 0 ∧ v ≤ 0 ∧ u + v < 0 then -1 else if u * u - 2 * v * v = 0 then 0
  else if (0 < u ∧ 0 < u * u - 2 * v * v) ∨ (u < 0 ∧ u * u - 2 * v * v < 0) then 1 else -1
theorem S2_bd (u v : Int) : -1 ≤ S2 u v ∧ S2 u v ≤ 1 := by 
  unfold S2
  repeat' split
  all_goals omega
def Cf (n : Int) : Bool := Wn n (-1000000000) 1000000000
theorem Cf_bd {n : Int} (h : Cf n = true) : -1000000000 ≤ n ∧ n ≤ 1000000000 := Wn_iff.1 h
theorem Cf_mk {n : Int} (h : -1000000000 ≤ n ∧ n ≤ 1000000000) : Cf n = true := Wn_iff.2 h
theorem S2_same (u v : Int) (h : (0 ≤ u ∧ 0 ≤ v) ∨ (u ≤ 0 ∧ v ≤ 0)) : S2 u v = sg (u + v) := by
  unfold S2 sg
  have h0 : u = 0 → v = 0 → u * u - 2 * v * v = 0 := by rintro rfl rfl; rfl
  repeat' split
  all_goals omega
theorem S2_pos (u v : Int) (hu : 0 < u) (hv : v < 0) : S2 u v = 1 * sg (u * u - 2 * v * v) := by
  unfold S2 sg
  repeat' split
  all_goals omega
theorem S2_neg (u v : Int) (hu : u < 0) (hv : 0 < v) : S2 u v = (-1) * sg (u * u - 2 * v * v) := by
  unfold S2 sg
  repeat' split
  all_goals omega
theorem S2_anti (u v : Int) : S2 (-u) (-v) = - S2 u v := by
  unfold S2
  rw [show -u * -u - 2 * -v * -v = u * u - 2 * v * v by rw [Int.neg_mul_neg, Int.mul_assoc, Int.neg_mul_neg, ← Int.mul_assoc]]
  have h0 : u = 0 → v = 0 → u * u - 2 * v * v = 0 := by rintro rfl rfl; rfl
  have h1 : u = 0 → u * u = 0 := by rintro rfl; rfl
  have h2 := (sq_bd (a := v) (A := if v < 0 then -v else v) (by split <;> omega) (by split <;> omega)).1
  rw [Int.mul_assoc] at *
  have h3 : v ≠ 0 → 0 < v * v := fun hv => by
    rcases Int.lt_or_gt_of_ne hv with h | h
    · have := Int.mul_pos (a := -v) (b := -v) (by omega) (by omega)
      rwa [Int.neg_mul_neg] at this
    · exact Int.mul_pos h h
  repeat' split
  all_goals omega
theorem sq2_bd {u v A : Int} (hu : -A ≤ u ∧ u ≤ A) (hv : -A ≤ v ∧ v ≤ A) : (0 ≤ u * u ∧ u * u ≤ A * A) ∧ (0 ≤ 2 * v * v ∧ 2 * v * v ≤ 2 * (A * A)) := by
  have h1 := sq_bd hu.1 hu.2
  have h2 := sq_bd hv.1 hv.2
  rw [Int.mul_assoc]
  omega

theorem isCoef_any (n : Int) (w : World) :
    Calls Try.prog 123 #[.int .i64 n] w fun e w' => e = .returned (.bool (Cf n)) ∧ w = w' := by
  go_enter Try.func123, Try.ntmps123
  go_wp2_with (go_at_call 68; ((with_reducible refine (within_any _ _ _ _).mono ?_); rintro e w' ⟨rfl, rfl⟩))
  go_ret
  exact ⟨rfl, rfl⟩

def rsV (u v : Int) : Int := if Cf u && Cf v then S2 u v else 0
theorem sg_neg {u : Int} (h : u < 0) : sg u = -1 := if_pos h
theorem sg_pos {u : Int} (h : 0 < u) : sg u = 1 := by unfold sg; rw [if_neg (by omega), if_pos h]
theorem sg_zero : sg 0 = 0 := rfl


open Go.RowKit

theorem own_ext {w w' : World} {base : Nat} {e : TypeId} {size : Nat} {v : Value} {n : Nat} {xs : List Value} (h : w.ownsRow base e size v n xs) (hx : Ext w w') : w'.ownsRow base e size v n xs := by
  refine ⟨h.1, ?_⟩
  rcases h.2 with hn | ⟨g, cap, cur, hv, hb, hg, r⟩
  · exact .inl hn
  · exact .inr ⟨g, cap, cur, hv, hb, (hx.heap (Array.getElem?_eq_some_iff.1 hg).1).trans hg, r⟩
theorem own_base {w : World} {base base' : Nat} {e : TypeId} {size : Nat} {v : Value} {n : Nat} {xs : List Value} (h : w.ownsRow base e size v n xs) (hb : base' ≤ base) : w.ownsRow base' e size v n xs := by
  refine ⟨h.1, ?_⟩
  rcases h.2 with hn | ⟨g, cap, cur, hv, hb', r⟩
  · exact .inl hn
  · exact .inr ⟨g, cap, cur, hv, by omega, r⟩
/-- the shape of such a slice -/
theorem own_shape {w : World} {base : Nat} {e : TypeId} {size : Nat} {v : Value} {n : Nat} {xs : List Value} (h : w.ownsRow base e size v n xs) :
    ∃ (a : Option Addr) (cap : Nat), v = .slice a n cap ∧ n ≤ cap ∧ cap ≤ maxLen ∧ (0 < n → ∃ g, a = some ⟨g, 0, none⟩ ∧ base ≤ g ∧ g < w.heap.size ∧ (∀ j u, xs[j]? = some u → w.cell? ⟨g, j, none⟩ = some u) ∧ ∀ j, w.frozen? ⟨g, j, none⟩ = false) := by
  rcases h.2 with ⟨rfl, rfl⟩ | ⟨g, cap, cur, hv, hb, hg, hn, hc, r⟩
  · exact ⟨none, 0, rfl, Nat.le_refl _, Nat.zero_le _, fun h => absurd h (by omega)⟩
  · refine ⟨_, cap, hv, hn, hc, fun hpos => ⟨g, rfl, hb, (Array.getElem?_eq_some_iff.1 hg).1, fun j u hu => ?_, fun j => ?_⟩⟩
    · subst hv
      have := h.cells (g := g) rfl j u hu
      rwa [show (⟨g, 0, none⟩ : Addr).add j = ⟨g, j, none⟩ by unfold Addr.add; split <;> simp_all] at this
    · subst hv
      exact h.frozenAt j
theorem own_set {w : World} {base : Nat} {e : TypeId} {size : Nat} {v : Value} {n : Nat} {xs : List Value} (h : w.ownsRow base e size v n xs) {p : Addr} (hp : p.block < base) (u : Value) : (w.setCell p u).ownsRow base e size v n xs := by
  refine ⟨h.1, ?_⟩
  rcases h.2 with hn | ⟨g, cap, cur, hv, hb, hg, r⟩
  · exact .inl hn
  · exact .inr ⟨g, cap, cur, hv, hb, by rw [Below.heap_setCell _ _ _ _ (by omega)]; exact hg, r⟩
/-- the slice of nothing -/
theorem own_nil (w : World) (base : Nat) (e : TypeId) (size : Nat) : w.ownsRow base e size (.slice none 0 0) 0 [] := ⟨by simp, .inl ⟨rfl, rfl⟩⟩
theorem own_grown {w w' : World} {base g : Nat} {e : TypeId} {size : Nat} {v : Value} {n : Nat} {xs : List Value} {row : Option Nat} (h : w.ownsRow base e size v n xs) (hg : w.grownBy w' row) (hr : ∀ k, row = some k → g ≤ k) (hb : ∀ k, v.ownBlock = some k → k < g) : w'.ownsRow base e size v n xs := by
  refine h.kept hg ?_
  cases hv : v.ownBlock with
  | none => exact .inl rfl
  | some k =>
    refine .inr fun he => ?_
    have h1 := hb k hv
    have h2 := hr k he.symm
    omega
theorem news1 {w : World} {c : Array Value} {t : TypeId} {xs : List Value} (h : c.toList = xs) : ∀ j u, xs[j]? = some u → (w.alloc (.cells c t)).cell? ((⟨w.heap.size, 0, none⟩ : Addr).add j) = some u := by
  intro j u hu
  rw [show (⟨w.heap.size, 0, none⟩ : Addr).add j = ⟨w.heap.size, j, none⟩ by unfold Addr.add; split <;> simp_all]
  rw [World.cell?_alloc_at _ _ _ _ rfl, ← hu, ← h]
  simp
/-- the pairs, cell by cell -/
def flat2 (l : List (Int × Int)) : List Value := l.flatMap fun x => [.int .i64 x.1, .int .i64 x.2]
theorem flat2_snoc (l : List (Int × Int)) (a b : Int) : flat2 (l ++ [(a, b)]) = flat2 l ++ [.int .i64 a, .int .i64 b] := by simp [flat2]
theorem flat2_get (l : List (Int × Int)) : ∀ (k : Nat) (h : k < l.length), (flat2 l)[k * 2]? = some (.int .i64 l[k].1) ∧ (flat2 l)[k * 2 + 1]? = some (.int .i64 l[k].2) := by
  induction l with
  | nil => intro k h; simp at h
  | cons x l ih =>
    intro k h
    cases k with
    | zero => simp [flat2]
    | succ k =>
      have := ih k (by simpa using h)
      rw [show (k + 1) * 2 = k * 2 + 1 + 1 by omega]
      simpa [flat2] using this


open Go.RowKit

def IL (xs : List Int) : List Value := xs.map (.int .i64)
theorem il_get {xs : List Int} {k : Nat} (h : k < xs.length) : (IL xs)[k]? = some (.int .i64 xs[k]) := by simp [IL, h]
theorem il_length (xs : List Int) : (IL xs).length = xs.length := by simp [IL]
/-- m, m + 1, .. -/
def marks (m : Int) (N : Nat) : List Int := (List.range N).map fun (i : Nat) => m + (i : Int)
theorem marks_length (m : Int) (N : Nat) : (marks m N).length = N := by simp [marks]
theorem marks_get {m : Int} {N k : Nat} (h : k < N) : (IL (marks m N))[k]? = some (.int .i64 (m + k)) := by simp [IL, marks, h]
/-- the first k are marked -/
def MK (zs : List Value) (m : Int) (k : Nat) : Prop := ∀ j, j < k → zs[j]? = some (.int .i64 (m + j))
theorem MK.zero (zs : List Value) (m : Int) (sz : Nat) : MK zs m (0 * sz) := by intro j hj; simp at hj
theorem MK.snoc {zs : List Value} {m x : Int} {k k' i : Nat} (h : MK zs m k) (hk : k < zs.length) (hi : i = k) (hx : x = m + k) (hk' : k' = k + 1) : MK (zs.set i (.int .i64 x)) m k' := by
  subst hi; subst hx; subst hk'
  intro j hj
  rw [List.getElem?_set]
  split
  · rename_i e; subst e; first | rw [if_pos hk] | rfl
  · exact h j (by omega)
theorem MK.full {zs : List Value} {m : Int} {k : Nat} (h : MK zs m k) (hl : zs.length = k) : zs = IL (marks m k) := by
  apply List.ext_getElem?
  intro j
  by_cases hj : j < k
  · rw [h j hj, marks_get hj]
  · rw [List.getElem?_eq_none (by omega), List.getElem?_eq_none (by rw [il_length, marks_length]; omega)]
theorem own_at {w : World} {b g n cap N : Nat} {t : TypeId} {size : Nat} {zs : List Value} (h : w.ownsRow b t size (.slice (some ⟨g, 0, none⟩) n cap) n zs) (hl : zs.length = N) {k : Nat} (hk : k < N) : ∃ u, w.cell? ⟨g, k, none⟩ = some u := by
  have hz : ∃ u, zs[k]? = some u := ⟨zs[k]'(by omega), by simp⟩
  obtain ⟨u, hu⟩ := hz
  refine ⟨u, ?_⟩
  have := h.cells (g := g) rfl k u hu
  rwa [show (⟨g, 0, none⟩ : Addr).add k = ⟨g, k, none⟩ by unfold Addr.add; split <;> simp_all] at this


open Go.RowKit

theorem S2_eq {u v k : Int} (h : (0 ≤ u ∧ 0 ≤ v ∧ 0 < u + v ∧ k = 1) ∨ (u ≤ 0 ∧ v ≤ 0 ∧ u + v < 0 ∧ k = -1) ∨ (0 ≤ u ∧ u ≤ 0 ∧ 0 ≤ v ∧ v ≤ 0 ∧ k = 0) ∨
    (0 < u ∧ v < 0 ∧ k = sg (u * u - 2 * v * v)) ∨ (u < 0 ∧ 0 < v ∧ k = - sg (u * u - 2 * v * v))) : S2 u v = k := by
  rcases h with h | h | h | ⟨h1, h2, h3⟩ | ⟨h1, h2, h3⟩
  · rw [S2_same _ _ (.inl ⟨h.1, h.2.1⟩), sg_pos h.2.2.1]; exact h.2.2.2.symm
  · rw [S2_same _ _ (.inr ⟨h.1, h.2.1⟩), sg_neg h.2.2.1]; exact h.2.2.2.symm
  · obtain rfl : u = 0 := by omega
    obtain rfl : v = 0 := by omega
    rw [h.2.2.2.2]; rfl
  · rw [S2_pos _ _ h1 h2, h3]; omega
  · rw [S2_neg _ _ h1 h2, h3]; omega

def cmpV (p q r s : Int) : Int := if R2 p q && R2 r s then S2 (p - r) (q - s) else 0

end Go.Proofs.Ytbddgeoaaklgpaa
