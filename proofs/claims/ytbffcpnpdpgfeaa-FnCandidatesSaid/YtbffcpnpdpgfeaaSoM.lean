/- A row of ring numbers in memory; exchanges, rotations of pieces (slices.swapRangeCmpFunc, rotateCmpFunc). -/
import Derived.Test.YtbffcpnpdpgfeaaSoL
import Derived.Test.YtbffcpnpdpgfeaaOwn
import Derived.Test.YtbffcpnpdpgfeaaWr
import Derived.Test.YtbffcpnpdpgfeaaLs
namespace Go.Proofs.Ytbffcpnpdpgfeaa
open Go.RowKit
set_option linter.unusedVariables false
set_option linter.unusedSimpArgs false

structure Q4 where
  a : Int
  b : Int
  c : Int
  d : Int
def Q4.val (x : Q4) : Value := .agg #[.int .i64 x.a, .int .i64 x.b, .int .i64 x.c, .int .i64 x.d]
/-- the cells of n numbers -/
def mo4 (X : Nat → Q4) : Nat → List Int
  | 0 => []
  | n + 1 => mo4 X n ++ [(X n).a, (X n).b, (X n).c, (X n).d]
theorem mo4_len (X : Nat → Q4) : ∀ n, (mo4 X n).length = n * 4
  | 0 => rfl
  | n + 1 => by rw [mo4, List.length_append, mo4_len X n]; simp; omega
theorem mo4_succ (X : Nat → Q4) (n : Nat) : IL (mo4 X (n + 1)) = IL (mo4 X n) ++ [.int .i64 (X n).a, .int .i64 (X n).b, .int .i64 (X n).c, .int .i64 (X n).d] := by simp [mo4, IL]
theorem mo4_congr {X Y : Nat → Q4} : ∀ {n : Nat}, (∀ k, k < n → X k = Y k) → mo4 X n = mo4 Y n
  | 0, _ => rfl
  | n + 1, h => by rw [mo4, mo4, mo4_congr (n := n) (fun k hk => h k (by omega)), h n (by omega)]
theorem mo4_at (X : Nat → Q4) : ∀ {N p : Nat}, p < N → (IL (mo4 X N))[p * 4]? = some (.int .i64 (X p).a) ∧ (IL (mo4 X N))[p * 4 + 1]? = some (.int .i64 (X p).b) ∧ (IL (mo4 X N))[p * 4 + 2]? = some (.int .i64 (X p).c) ∧ (IL (mo4 X N))[p * 4 + 3]? = some (.int .i64 (X p).d)
  | N + 1, p, h => by
    rw [mo4_succ]
    have hl : (IL (mo4 X N)).length = N * 4 := by rw [il_length, mo4_len]
    by_cases h1 : p = N
    · subst h1
      refine ⟨?_, ?_, ?_, ?_⟩ <;> rw [List.getElem?_append_right (by omega), hl]
      · rw [Nat.sub_self]; rfl
      · rw [Nat.add_sub_cancel_left]; rfl
      · rw [Nat.add_sub_cancel_left]; rfl
      · rw [Nat.add_sub_cancel_left]; rfl
    · obtain ⟨e1, e2, e3, e4⟩ := mo4_at X (N := N) (p := p) (by omega)
      refine ⟨?_, ?_, ?_, ?_⟩ <;> rw [List.getElem?_append_left (by omega)] <;> assumption
/-- one number set -/
def up4 (X : Nat → Q4) (p : Nat) (x : Q4) : Nat → Q4 := fun q => if q = p then x else X q
def S4 (zs : List Value) (p : Nat) (x : Q4) : List Value := (((zs.set (p * 4) (.int .i64 x.a)).set (p * 4 + 1) (.int .i64 x.b)).set (p * 4 + 2) (.int .i64 x.c)).set (p * 4 + 3) (.int .i64 x.d)
theorem mo4_up (X : Nat → Q4) {N p : Nat} (hp : p < N) (x : Q4) : S4 (IL (mo4 X N)) p x = IL (mo4 (up4 X p x) N) := by
  have hl : (IL (mo4 X N)).length = N * 4 := by rw [il_length, mo4_len]
  have hl2 : (IL (mo4 (up4 X p x) N)).length = N * 4 := by rw [il_length, mo4_len]
  refine List.ext_getElem? fun q => ?_
  by_cases hq : q < N * 4
  case neg => rw [List.getElem?_eq_none (by simp only [S4, List.length_set]; omega), List.getElem?_eq_none (by omega)]
  obtain ⟨p', r, h1, h2, rfl⟩ : ∃ p' r, p' < N ∧ r < 4 ∧ q = p' * 4 + r := ⟨q / 4, q % 4, by omega, by omega, by omega⟩
  obtain ⟨a0, a1, a2, a3⟩ := mo4_at X h1
  obtain ⟨b0, b1, b2, b3⟩ := mo4_at (up4 X p x) h1
  by_cases he : p' = p
  · subst he
    have hu : up4 X p' x p' = x := by simp [up4]
    rw [hu] at b0 b1 b2 b3
    have hc : r = 0 ∨ r = 1 ∨ r = 2 ∨ r = 3 := by omega
    rcases hc with rfl | rfl | rfl | rfl
    · rw [Nat.add_zero, b0]; simp only [S4]; rw [List.getElem?_set_ne (by omega), List.getElem?_set_ne (by omega), List.getElem?_set_ne (by omega), List.getElem?_set_self (by omega)]
    · rw [b1]; simp only [S4]; rw [List.getElem?_set_ne (by omega), List.getElem?_set_ne (by omega), List.getElem?_set_self (by simp only [List.length_set]; omega)]
    · rw [b2]; simp only [S4]; rw [List.getElem?_set_ne (by omega), List.getElem?_set_self (by simp only [List.length_set]; omega)]
    · rw [b3]; simp only [S4]; rw [List.getElem?_set_self (by simp only [List.length_set]; omega)]
  · have hu : up4 X p x p' = X p' := by simp [up4, he]
    rw [hu] at b0 b1 b2 b3
    have hc : r = 0 ∨ r = 1 ∨ r = 2 ∨ r = 3 := by omega
    have hk : (S4 (IL (mo4 X N)) p x)[p' * 4 + r]? = (IL (mo4 X N))[p' * 4 + r]? := by
      simp only [S4]
      rw [List.getElem?_set_ne (by omega), List.getElem?_set_ne (by omega), List.getElem?_set_ne (by omega), List.getElem?_set_ne (by omega)]
    rw [hk]
    rcases hc with rfl | rfl | rfl | rfl
    · rw [Nat.add_zero, a0, b0]
    · rw [a1, b1]
    · rw [a2, b2]
    · rw [a3, b3]
theorem up4_swap (X : Nat → Q4) (i j : Nat) : up4 (up4 X i (X j)) j (X i) = So.swapF i j X := by
  funext p
  simp only [up4, So.swapF]
  repeat' split
  all_goals first | rfl | (congr 1; omega) | (subst_vars; rfl)

/-- the row in block g holds X -/
def RW (w : World) (base g n cap : Nat) (X : Nat → Q4) : Prop := w.ownsRow base 33 4 (.slice (some ⟨g, 0, none⟩) n cap) n (IL (mo4 X n))
section
variable {w : World} {base g n cap : Nat} {X : Nat → Q4}
theorem RW.cells (h : RW w base g n cap X) {p : Nat} (hp : p < n) : w.cell? ⟨g, p * 4, none⟩ = some (.int .i64 (X p).a) ∧ w.cell? ⟨g, p * 4 + 1, none⟩ = some (.int .i64 (X p).b) ∧ w.cell? ⟨g, p * 4 + 2, none⟩ = some (.int .i64 (X p).c) ∧ w.cell? ⟨g, p * 4 + 3, none⟩ = some (.int .i64 (X p).d) := by
  obtain ⟨e1, e2, e3, e4⟩ := mo4_at X hp
  exact ⟨(h.cellAt _ (by omega)).trans e1, (h.cellAt _ (by omega)).trans e2, (h.cellAt _ (by omega)).trans e3, (h.cellAt _ (by omega)).trans e4⟩
theorem RW.frozen (h : RW w base g n cap X) (j : Nat) : w.frozen? ⟨g, j, none⟩ = false := h.frozenAt j
theorem RW.lt (h : RW w base g n cap X) : base ≤ g ∧ g < w.heap.size := ⟨(World.ownsRow.lt h g rfl).1, (World.ownsRow.lt h g rfl).2⟩
theorem RW.caps (h : RW w base g n cap X) : n ≤ cap ∧ cap ≤ maxLen := by
  obtain ⟨_, _, e, h1, h2, _⟩ := own_shape h
  cases e
  exact ⟨h1, h2⟩
/-- a number stored -/
theorem RW.store (h : RW w base g n cap X) {p : Nat} (hp : p < n) (x : Q4) :
    RW ((((w.setCell ⟨g, p * 4, none⟩ (.int .i64 x.a)).setCell ⟨g, p * 4 + 1, none⟩ (.int .i64 x.b)).setCell ⟨g, p * 4 + 2, none⟩ (.int .i64 x.c)).setCell ⟨g, p * 4 + 3, none⟩ (.int .i64 x.d)) base g n cap (up4 X p x) := by
  have s0 := World.ownsRow.stored h (p * 4) (.int .i64 x.a)
  have s1 := World.ownsRow.stored s0.1 (p * 4 + 1) (.int .i64 x.b)
  have s2 := World.ownsRow.stored s1.1 (p * 4 + 2) (.int .i64 x.c)
  have s3 := World.ownsRow.stored s2.1 (p * 4 + 3) (.int .i64 x.d)
  unfold RW
  rw [← mo4_up X hp x]
  exact s3.1
theorem RW.ext {w' : World} (h : RW w base g n cap X) (hx : Ext w w') : RW w' base g n cap X := own_ext h hx
theorem RW.drew (h : RW w base g n cap X) : RW w.drew base g n cap X := h
theorem RW.congr {Y : Nat → Q4} (h : RW w base g n cap X) (e : ∀ k, k < n → X k = Y k) : RW w base g n cap Y := by
  unfold RW
  rw [← mo4_congr e]
  exact h
end

set_option maxHeartbeats 4000000 in
theorem swapRange_any (base g n cap : Nat) (X : Nat → Q4) (a b k : Nat) (h1 : a + k ≤ b) (h2 : b + k ≤ n) (hn : n ≤ 1000000) (cv : Value) (w : World) (hR : RW w base g n cap X) :
    Calls Try.prog 78 #[.slice (some ⟨g, 0, none⟩) n cap, .int .i64 a, .int .i64 b, .int .i64 k, cv] w fun e w' => e = .returned (.tuple #[]) ∧ RW w' base g n cap (So.swrF a b k X) ∧ GX [g] w w' := by
  obtain ⟨hcap1, hcap2⟩ := hR.caps
  go_enter Try.func78, Try.ntmps78
  go_wp2
  go_loopw [10] (fun i wr => ∃ j : Nat, j ≤ k ∧ i = .int .i64 j ∧ Hid (RW wr base g n cap (So.swrF a b j X)) ∧ Hid (GX [g] w wr)) (fun i _ => k - (intOf i).toNat)
  case atStart => exact ⟨0, by omega, rfl, by rw [So.swr_zero]; exact hR, GX.refl _ _⟩
  case round =>
    obtain ⟨j, hj, rfl, HW, HG⟩ := hrel
    by_cases hlt : j < k
    · have hlt' : (j : Int) < k := by omega
      have HS : Hid (So.swapF (a + j) (b + j) (So.swrF a b j X) = So.swrF a b (j + 1) X) := So.swr_succ X h1 hlt
      generalize So.swrF a b j X = Y at *
      obtain ⟨x0, x1, x2, x3⟩ := HW.out.cells (p := a + j) (by omega)
      obtain ⟨y0, y1, y2, y3⟩ := HW.out.cells (p := b + j) (by omega)
      have hfr := HW.out.frozen
      have lg := HW.out.lt.2
      have ea : ((a : Int) + (j : Int)) = ((a + j : Nat) : Int) := by push_cast; rfl
      have eb : ((b : Int) + (j : Int)) = ((b + j : Nat) : Int) := by push_cast; rfl
      obtain ⟨A, hA⟩ : ∃ A, a + j = A := ⟨_, rfl⟩
      obtain ⟨B, hB⟩ : ∃ B, b + j = B := ⟨_, rfl⟩
      rw [hA] at ea x0 x1 x2 x3 HS
      rw [hB] at eb y0 y1 y2 y3 HS
      have bA : A < n := by omega
      have bB : B < n := by omega
      clear hA hB
      have HF : Hid (∀ W, RW W base g n cap (So.swapF A B Y) → RW W base g n cap (So.swrF a b (j + 1) X)) := fun W h => by rw [← HS.out]; exact h
      have HT := Lib.hid ((HW.out.store bA (Y B)).store bB (Y A))
      rw [up4_swap] at HT
      clear HS
      generalize Y A = x at *
      generalize Y B = y at *
      go_wp2
      go_region
      all_goals
        go_wp2
        go_roundw
        case rel => exact ⟨j + 1, by omega, by go_num, HF.out _ (RW.drew HT.out), HG.out.trans (by repeat (first | (with_reducible refine GX.setCell ?_ (by first | (simp; done) | (simp; omega)) _) | with_reducible refine GX.alloc ?_ _ | with_reducible refine GX.drew ?_ | with_reducible refine GX.drewN ?_ _ | with_reducible assumption | with_reducible exact GX.refl _ _ | with_reducible refine GX.ext ?_ (by with_reducible assumption) | with_reducible refine GX.trans ?_ (by with_reducible assumption)))⟩
        case measure => simp [intOf]; omega
    · obtain rfl : j = k := by omega
      go_wp2
      go_end0
      exact ⟨rfl, HW.out, HG.out⟩

set_option maxHeartbeats 4000000 in
theorem rotate_any (base g n cap : Nat) (X : Nat → Q4) (a m b : Nat) (h1 : a < m) (h2 : m < b) (h3 : b ≤ n) (hn : n ≤ 1000000) (cv : Value) (w : World) (hR : RW w base g n cap X) :
    Calls Try.prog 75 #[.slice (some ⟨g, 0, none⟩) n cap, .int .i64 a, .int .i64 m, .int .i64 b, cv] w fun e w' => e = .returned (.tuple #[]) ∧ RW w' base g n cap (So.rotF a m b X) ∧ GX [g] w w' := by
  have ei : ((m : Int) - (a : Int)) = ((m - a : Nat) : Int) := by omega
  have ej : ((b : Int) - (m : Int)) = ((b - m : Nat) : Int) := by omega
  have HS : Hid (So.rotF (m - (m - a)) m (m + (b - m)) X = So.rotF a m b X) := by unfold Hid; rw [show m - (m - a) = a by omega, show m + (b - m) = b by omega]
  have HR := Lib.hid hR
  clear hR
  obtain ⟨i0, hi0⟩ : ∃ i0, m - a = i0 := ⟨_, rfl⟩
  obtain ⟨j0, hj0⟩ : ∃ j0, b - m = j0 := ⟨_, rfl⟩
  rw [hi0] at ei HS
  rw [hj0] at ej HS
  have q1 : 0 < i0 ∧ i0 ≤ m := by omega
  have q2 : 0 < j0 ∧ m + j0 ≤ n := by omega
  generalize So.rotF a m b X = F at *
  clear hi0 hj0
  go_enter Try.func75, Try.ntmps75
  go_wp2
  go_loopw [10, 11] (fun s10 s11 wr => ∃ (i j : Nat) (Y : Nat → Q4), 0 < i ∧ i ≤ m ∧ 0 < j ∧ m + j ≤ n ∧ s10 = .int .i64 i ∧ s11 = .int .i64 j ∧ Hid (RW wr base g n cap Y) ∧ Hid (So.rotF (m - i) m (m + j) Y = F) ∧ Hid (GX [g] w wr)) (fun s10 s11 _ => (intOf s10).toNat + (intOf s11).toNat)
  case atStart => exact ⟨i0, j0, X, q1.1, q1.2, q2.1, q2.2, rfl, rfl, HR, HS, GX.refl _ _⟩
  case round =>
    clear ei ej HS q1 q2
    obtain ⟨i, j, Y, i1, i2, j1, j2, rfl, rfl, HW, HS, HG⟩ := hrel
    have ei : ((m : Int) - (i : Int)) = ((m - i : Nat) : Int) := by omega
    by_cases heq : i = j
    · subst heq
      have HC := fun W h => Lib.hid (swapRange_any base g n cap Y (m - i) m i (by omega) (by omega) hn cv W h)
      rw [So.rot_end Y i2, HS.out] at HC
      generalize m - i = p at *
      go_wp2_with fail
      refine (HC _ HW.out).out.mono ?_
      rintro e w1 ⟨rfl, h1, hg1⟩
      go_wp2
      go_end0
      exact ⟨rfl, h1, HG.out.trans hg1⟩
    · have hne : ¬ ((i : Int) = (j : Int)) := by omega
      by_cases hlt : j < i
      · have hlt' : (j : Int) < (i : Int) := by omega
        have HC := fun W h => Lib.hid (swapRange_any base g n cap Y (m - i) m j (by omega) (by omega) hn cv W h)
        have HS2 := Lib.hid ((So.rot_step1 Y hlt i2).trans HS.out)
        generalize So.swrF (m - i) m j Y = Z at *
        have ed : ((i : Int) - (j : Int)) = ((i - j : Nat) : Int) := by omega
        obtain ⟨r, hr⟩ : ∃ r, i - j = r := ⟨_, rfl⟩
        rw [hr] at ed HS2
        have hr' : 0 < r ∧ r ≤ m ∧ r + j < i + j := by omega
        clear hr HS
        generalize m - i = p at *
        go_wp2_with fail
        refine (HC _ HW.out).out.mono ?_
        rintro e w1 ⟨rfl, h1, hg1⟩
        have HW1 := Lib.hid h1
        have HG1 := Lib.hid (HG.out.trans hg1)
        clear h1 hg1
        go_wp2
        go_roundw
        case rel => exact ⟨r, j, Z, hr'.1, hr'.2.1, j1, j2, rfl, rfl, HW1, HS2, HG1⟩
        case measure => simp [intOf]; omega
      · have hlt' : ¬ (j : Int) < (i : Int) := by omega
        have HC := fun W h => Lib.hid (swapRange_any base g n cap Y (m - i) (m + j - i) i (by omega) (by omega) hn cv W h)
        have HS2 := Lib.hid ((So.rot_step2 Y (show i < j by omega) i2).trans HS.out)
        generalize So.swrF (m - i) (m + j - i) i Y = Z at *
        have ed : ((j : Int) - (i : Int)) = ((j - i : Nat) : Int) := by omega
        have es : ((m : Int) + (j : Int) - (i : Int)) = ((m + j - i : Nat) : Int) := by omega
        obtain ⟨r, hr⟩ : ∃ r, j - i = r := ⟨_, rfl⟩
        rw [hr] at ed HS2
        have hr' : 0 < r ∧ m + r ≤ n ∧ i + r < i + j := by omega
        clear hr HS
        have HS3 := HS2
        obtain ⟨p, hp⟩ : ∃ p, m - i = p := ⟨_, rfl⟩
        simp only [hp] at HC ei
        clear HS2 hp
        generalize m + j - i = q at *
        go_wp2_with fail
        refine (HC _ HW.out).out.mono ?_
        rintro e w1 ⟨rfl, h1, hg1⟩
        have HW1 := Lib.hid h1
        have HG1 := Lib.hid (HG.out.trans hg1)
        clear h1 hg1
        go_wp2
        go_roundw
        case rel => exact ⟨i, r, Z, i1, i2, hr'.1, hr'.2.1, rfl, rfl, HW1, HS3, HG1⟩
        case measure => simp [intOf]; omega

end Go.Proofs.Ytbffcpnpdpgfeaa
