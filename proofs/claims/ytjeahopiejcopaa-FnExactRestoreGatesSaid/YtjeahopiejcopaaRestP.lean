/- Restoring a placement: both sides. -/
import Derived.Test.YtjeahopiejcopaaRestL
import Derived.Test.YtjeahopiejcopaaLs
namespace Go.Proofs.Ytjeahopiejcopaa
open Go.RowKit Go.Lib
set_option linter.unusedVariables false
set_option linter.unusedSimpArgs false

theorem elt_intR : Elt Try.prog 33 3 1 8 := elt_of (z := .int .i64 0) Try.underlying33 (by kernel_rfl) rfl (by decide) (by decide)
theorem elt_gate : Elt Try.prog 27 98 3 24 := elt_of (z := .agg #[.int .i64 0, .int .i64 0, .int .i64 0]) Try.underlying27 (by kernel_rfl) rfl (by decide) (by decide)

def okRg (xs ys : List Int) (n m : Nat) : Bool := decide (n = m) && (nOk xs n && nOk ys m)
def rgL (xs ys : List Int) (n m : Nat) : List Int := if okRg xs ys n m then rstL ys m 0 xs else []
theorem rgL_no {xs ys : List Int} {n m : Nat} (h : okRg xs ys n m = false) : rgL xs ys n m = [] := by unfold rgL; rw [h]; rfl
theorem rgL_len (xs ys : List Int) (n m : Nat) : (rgL xs ys n m).length % 3 = 0 ∧ (rgL xs ys n m).length ≤ m * 3 := by
  unfold rgL
  split
  · exact rstL_len ys m 0 xs
  · simp
theorem rstL_step_eq {to : List Int} {f i : Nat} {l : List Int} (h : at3 l i = at3 to i) : rstL to (f + 1) i l = rstL to f (i + 1) l := by
  conv => lhs; unfold rstL
  rw [if_pos h]
theorem rstL_step_ne {to : List Int} {f i : Nat} {l : List Int} (h : ¬ at3 l i = at3 to i) : rstL to (f + 1) i l = [11, at3 l i, at3 to i] ++ rstL to f (i + 1) (swpL l (at3 l i) (at3 to i)) := by
  conv => lhs; unfold rstL
  rw [if_neg h]

set_option maxRecDepth 20000 in
set_option maxHeartbeats 1000000 in
theorem l1OwnR_any {n : Nat} {v : Value} {xs : List Int} (hn : n ≤ 2000000) (w : World) (h : RV w 1 v n xs) :
    Calls Try.prog 69 #[v] w fun e w' => ∃ v', e = .returned v' ∧ w'.ownsRow w.heap.size 3 1 v' n (IL xs) ∧ Ext w w' := by
  have HR := Lib.hid (h.ext ((Ext.refl w).alloc (.cells #[] 3 (0, 0))))
  obtain ⟨hl, a, cap, rfl, c1, c2, H⟩ := h
  clear H
  have HO : Hid ((w.alloc (.cells #[] 3)).ownsRow w.heap.size 3 1 (.slice (some ⟨w.heap.size, 0, none⟩) 0 0) 0 (IL [])) := World.ownsRow_lit _ _ 0 (Nat.le_refl _) (by decide) rfl
  go_enter Try.func69, Try.ntmps69
  go_wp2_with (at_builtin; go_loud (refine wpList_append_rv rfl elt_intR rfl _ 0 [] rfl HO.out _ n xs rfl HR.out (by omega) (by simp) ?_); intro v4 w4 hown4 hgrow4 hiff4)
  go_ret
  exact ⟨_, rfl, by simpa using hown4, ext_grownB ((Ext.refl w).alloc _) hgrow4 HO.out (Nat.le_refl _)⟩

set_option maxRecDepth 20000 in
set_option maxHeartbeats 1000000 in
theorem cloneR_any {n : Nat} {v : Value} {xs : List Int} (hn : n ≤ 2000000) (w : World) (h : RV w 1 v n xs) :
    Calls Try.prog 72 #[v] w fun e w' => ∃ v', e = .returned v' ∧ w'.ownsRow w.heap.size 3 1 v' n (IL xs) ∧ Ext w w' := by
  have HR := Lib.hid (h.ext ((Ext.refl w).alloc (.cells #[] 3 (0, 0))))
  obtain ⟨hl, a, cap, rfl, c1, c2, H⟩ := h
  cases a with
  | none =>
    have hn0 : n = 0 := by
      rcases Nat.eq_zero_or_pos n with h | h
      · exact h
      · obtain ⟨_, _, h3, _⟩ := H h; cases h3
    subst hn0
    have hx : xs = [] := List.eq_nil_of_length_eq_zero (by omega)
    subst hx
    have heq : ∀ w, (binOp .eql 33 (.slice none 0 cap) (.slice none 0 0)).run Try.prog w = .ok (.bool true) w := fun w => by simpa using run_eql_slice_nil w 33 3 none 0 cap 0 0 Try.underlying33
    clear H HR
    go_enter Try.func72, Try.ntmps72
    go_wp2
    go_ret
    exact ⟨_, rfl, own_nil _ _ _ _, (by repeat (first | exact Ext.refl _ | assumption | refine Ext.alloc ?_ _ | refine Ext.drew ?_ | refine Ext.drewN ?_ _ | refine Ext.setCell ?_ (by first | omega | (dsimp only; omega) | (simp; done) | (simp; omega)) _ | refine Ext.trans ?_ (by assumption)))⟩
  | some ad =>
    have heq : ∀ w, (binOp .eql 33 (.slice (some ad) n cap) (.slice none 0 0)).run Try.prog w = .ok (.bool false) w := fun w => by simpa using run_eql_slice_nil w 33 3 (some ad) n cap 0 0 Try.underlying33
    clear H
    have HO : Hid ((w.alloc (.cells #[] 3)).ownsRow w.heap.size 3 1 (.slice (some ⟨w.heap.size, 0, none⟩) 0 0) 0 (IL [])) := World.ownsRow_lit _ _ 0 (Nat.le_refl _) (by decide) rfl
    go_enter Try.func72, Try.ntmps72
    go_wp2_with (at_builtin; go_loud (refine wpList_append_rv rfl elt_intR rfl _ 0 [] rfl HO.out _ n xs rfl HR.out (by omega) (by simp) ?_); intro v4 w4 hown4 hgrow4 hiff4)
    go_ret
    exact ⟨_, rfl, by simpa using hown4, ext_grownB ((Ext.refl w).alloc _) hgrow4 HO.out (Nat.le_refl _)⟩

theorem own_grownF {w w' : World} {base : Nat} {e : TypeId} {size : Nat} {v : Value} {n : Nat} {xs : List Value} {row : Option Nat} (h : w.ownsRow base e size v n xs) (hg : w.grownBy w' row) (hne : ∀ j, row = some j → ∀ k, v.ownBlock = some k → j ≠ k) : w'.ownsRow base e size v n xs := by
  refine h.kept hg ?_
  cases hv : v.ownBlock with
  | none => exact .inl rfl
  | some k => exact .inr fun he => hne k he.symm k hv rfl
theorem div3 {a : Nat} (h : a % 3 = 0) : a = a / 3 * 3 := by omega

/-- the state of the loops: the nodes, the gates so far, apart -/
structure RS (w : World) (n i : Nat) (ys xs : List Int) (v1 v2 : Value) (wr : World) : Prop where
  ex : ∃ (l L : List Int), l.length = n ∧ Dist l ∧ (∀ j, j < l.length → 0 ≤ at3 l j ∧ at3 l j ≤ 4) ∧ L.length % 3 = 0 ∧ L.length ≤ i * 3 ∧ wr.ownsRow w.heap.size 3 1 v1 n (IL l) ∧ wr.ownsRow w.heap.size 98 3 v2 (L.length / 3) (IL L) ∧ L ++ rstL ys (n - i) i l = rstL ys n 0 xs
  far : ∀ j, v2.ownBlock = some j → ∀ k, v1.ownBlock = some k → j ≠ k
  ext : Ext w wr

theorem swp_rng {k t x : Int} (hk : 0 ≤ k ∧ k ≤ 4) (ht : 0 ≤ t ∧ t ≤ 4) (hx : 0 ≤ x ∧ x ≤ 4) : 0 ≤ swp k t x ∧ swp k t x ≤ 4 := by
  unfold swp
  split
  · exact ht
  · split
    · exact hk
    · exact hx
theorem nOk_rng {xs : List Int} {n i : Nat} (h : nOk xs n = true) (hi : i < n) : 0 ≤ at3 xs i ∧ at3 xs i ≤ 4 := by
  have h1 := allTo_at (f := fun i => Wn (at3 xs i) 0 4 && !(hasTo xs (at3 xs i) i)) h hi
  simp only [Bool.and_eq_true] at h1
  exact Wn_iff.1 h1.1

set_option maxRecDepth 20000 in
set_option maxHeartbeats 4000000 in
theorem s_restore_any {n m : Nat} {v1 v2 : Value} {xs ys : List Int} (hn : n ≤ 1048576) (hm : m ≤ 1048576) (w : World) (h1 : RV w 1 v1 n xs) (h2 : RV w 1 v2 m ys) :
    Calls Try.prog 19 #[v1, v2] w fun e w' => ∃ v, e = .returned (.tuple #[v, .bool (okRg xs ys n m)]) ∧ w'.ownsRow w.heap.size 98 3 v ((rgL xs ys n m).length / 3) (IL (rgL xs ys n m)) ∧ Ext w w' := by
  have H1 := Lib.hid (l31Nodes_any (by omega) w h1)
  have H2 := Lib.hid (l31Nodes_any (by omega) w h2)
  have HC := Lib.hid (l1OwnR_any (by omega) w h1)
  obtain ⟨hl1, a1, c1, rfl, _, _, _⟩ := h1
  obtain ⟨hl2, a2, c2, rfl, d1, d2, D⟩ := h2
  have HD := Lib.hid D
  have HL2 := Lib.hid hl2
  have HL := Lib.hid hl1
  clear D hl2 hl1
  by_cases hnm : n = m
  case neg =>
    have e1 : okRg xs ys n m = false := by unfold okRg; simp [hnm]
    have hnm' : ¬ ((n : Int) = m) := by omega
    rw [rgL_no e1, e1]
    clear H1 H2 HC
    go_enter Try.func19, Try.ntmps19
    go_wp2
    go_ret2
    exact ⟨_, rfl, own_nil _ _ _ _, Ext.refl _⟩
  subst hnm
  cases k1 : nOk xs n
  · have e1 : okRg xs ys n n = false := by unfold okRg; rw [k1]; simp
    rw [rgL_no e1, e1]
    rw [k1] at H1
    clear H2 HC
    go_enter Try.func19, Try.ntmps19
    go_wp2_with (go_at_call 68; ((with_reducible refine (H1.out).mono ?_); rintro e w' ⟨rfl, rfl⟩))
    go_ret2
    exact ⟨_, rfl, own_nil _ _ _ _, Ext.refl _⟩
  cases k2 : nOk ys n
  · have e1 : okRg xs ys n n = false := by unfold okRg; rw [k1, k2]; simp
    rw [rgL_no e1, e1]
    rw [k1] at H1
    rw [k2] at H2
    clear HC
    go_enter Try.func19, Try.ntmps19
    go_wp2_with fail
    refine H1.out.mono ?_
    rintro e w' ⟨rfl, rfl⟩
    go_wp2_with fail
    refine H2.out.mono ?_
    rintro e w' ⟨rfl, rfl⟩
    go_wp2
    go_ret2
    exact ⟨_, rfl, own_nil _ _ _ _, Ext.refl _⟩
  have e1 : okRg xs ys n n = true := by unfold okRg; rw [k1, k2]; simp
  have E2 : Hid (rgL xs ys n n = rstL ys n 0 xs) := by unfold Hid rgL; rw [e1]; rfl
  rw [e1]
  rw [k1] at H1
  rw [k2] at H2
  have HDX : Hid (Dist xs) := dist_of_nOk (by rw [HL.out, Nat.mul_one]; exact k1)
  have HRX : Hid (∀ i, i < n → 0 ≤ at3 xs i ∧ at3 xs i ≤ 4) := fun i hi => nOk_rng k1 hi
  have HRY : Hid (∀ i, i < n → 0 ≤ at3 ys i ∧ at3 ys i ≤ 4) := fun i hi => nOk_rng k2 hi
  clear k1 k2
  go_enter Try.func19, Try.ntmps19
  go_wp2_with fail
  refine H1.out.mono ?_
  rintro e w' ⟨rfl, rfl⟩
  go_wp2_with fail
  refine H2.out.mono ?_
  rintro e w' ⟨rfl, rfl⟩
  go_wp2_with fail
  refine HC.out.mono ?_
  rintro e w1 ⟨v', rfl, o1, hx1⟩
  have HRS0 : Hid (RS w n 0 ys xs v' (.slice none 0 0) w1) := ⟨⟨xs, [], by have := HL.out; omega, HDX.out, fun j hj => HRX.out j (by have := HL.out; omega), rfl, by simp, o1, own_nil _ _ _ _, rfl⟩, fun j hj => (by cases hj), hx1⟩
  clear H1 H2 HC HDX HRX hx1 o1
  go_wp2
  go_loopw [6, 7, 8, 9, 10, 30] (fun s6 s7 _ _ _ i wr => ∃ (j : Nat) (v v' : Value), j ≤ n ∧ i = .int .i64 j ∧ s7 = v ∧ s6 = v' ∧ Hid (RS w n j ys xs v v' wr)) (fun _ _ _ _ _ i _ => n - (intOf i).toNat)
  case atStart => exact ⟨0, _, _, by omega, rfl, rfl, rfl, HRS0.out⟩
  case round =>
    clear HRS0
    obtain ⟨j, v, v', hj, rfl, rfl, rfl, HR⟩ := hrel
    obtain ⟨l, L, q1, q2, q3, q4, q5, o1, o2, q6⟩ := HR.out.ex
    have QL := Lib.hid q1
    have QD := Lib.hid q2
    have QR := Lib.hid q3
    have QM := Lib.hid q4
    have QN := Lib.hid q5
    have QE := Lib.hid q6
    have O1 := Lib.hid o1
    have O2 := Lib.hid o2
    have HF := Lib.hid HR.out.far
    have HE := Lib.hid HR.out.ext
    obtain ⟨av, cv, rfl, _, _, hgv⟩ := own_shape o1
    obtain ⟨au, cu, rfl, _, _, _⟩ := own_shape o2
    clear q1 q2 q3 q4 q5 q6 o1 o2 HR
    by_cases hlt : j < n
    · have hlt' : (j : Int) < n := by omega
      obtain ⟨g, rfl, g1, g2, g3, _⟩ := hgv (by omega)
      obtain ⟨by', offy, rfl, hby, hcy⟩ := HD.out (by omega)
      have zy : wr.cell? ⟨by', offy + j, none⟩ = some (.int .i64 (at3 ys j)) := (HE.out.cells.1 _ _ hby).trans (hcy _ _ (at3_get (by have := HL2.out; omega)))
      have zl : wr.cell? ⟨g, j, none⟩ = some (.int .i64 (at3 l j)) := g3 _ _ (at3_get (by have := QL.out; omega))
      have ly : by' < wr.heap.size := by have := HE.out.size; omega
      clear hcy g3
      have HSE : Hid (at3 l j = at3 ys j → rstL ys (n - j) j l = rstL ys (n - (j + 1)) (j + 1) l) := fun h => by
        rw [show n - j = (n - (j + 1)) + 1 by omega]; exact rstL_step_eq h
      have HSN : Hid (¬ at3 l j = at3 ys j → rstL ys (n - j) j l = [11, at3 l j, at3 ys j] ++ rstL ys (n - (j + 1)) (j + 1) (swpL l (at3 l j) (at3 ys j))) := fun h => by
        rw [show n - j = (n - (j + 1)) + 1 by omega]; exact rstL_step_ne h
      have HSW := fun (w' : World) base v (h : w'.ownsRow base 3 1 v n (IL l)) => Lib.hid (l23Swap_any (at3 l j) (at3 ys j) (by have := QL.out; omega) (by omega) w' h)
      have r1 := QR.out j (by have := QL.out; omega)
      have r2 := HRY.out j hlt
      have HQR : Hid (∀ i, i < l.length → 0 ≤ at3 (swpL l (at3 l j) (at3 ys j)) i ∧ at3 (swpL l (at3 l j) (at3 ys j)) i ≤ 4) := fun i hi => by
        rw [swpL_at hi]; exact swp_rng r1 r2 (QR.out i hi)
      have HQD : Hid (Dist (swpL l (at3 l j) (at3 ys j))) := dist_swp _ _ QD.out
      clear r1 r2
      generalize at3 l j = x at *
      generalize at3 ys j = y at *
      by_cases hxy : x = y
      · have hb : (x == y) = true := by simpa using hxy
        have HS := Lib.hid (HSE.out hxy)
        clear hxy HSE HSN HSW HQR HQD
        go_wp2
        go_roundw
        case rel => exact ⟨j + 1, _, _, by omega, by go_num, rfl, rfl, ⟨l, L, QL.out, QD.out, QR.out, QM.out, by have := QN.out; omega, O1.out, O2.out, by rw [← HS.out]; exact QE.out⟩, HF.out, HE.out⟩
        case measure => simp [intOf]; omega
      · have hb : (x == y) = false := by simpa using hxy
        have HS := Lib.hid (HSN.out hxy)
        clear hxy HSE HSN
        have hO2 := Lib.hid (own_ext O2.out ((Ext.refl _).alloc (.cells #[.int .i64 11, .int .i64 x, .int .i64 y] 98 (0, 0))))
        have hM2 := Lib.hid (heap_alloc_new wr (.cells #[.int .i64 11, .int .i64 x, .int .i64 y] 98 (0, 0)))
        have hs2 := HE.out.size
        have hLn : L.length / 3 ≤ 1048576 := by have := QN.out; omega
        go_wp2_with (at_builtin; go_loud (refine wpList_append_rv rfl elt_gate rfl _ (L.length / 3) L rfl hO2.out _ 1 [11, x, y] rfl (rv_heap hM2.out rfl rfl (by omega) (by decide)) (by omega) (by simp; omega) ?_); intro v4 w4 hown4 hgrow4 hiff4; obtain ⟨a4, c4, rfl, _, _, _⟩ := own_shape hown4)
        have HE4 : Ext w w4 := ext_grownB (HE.out.alloc _) hgrow4 hO2.out (Nat.le_refl _)
        have O14 := own_grownF (own_ext O1.out ((Ext.refl _).alloc _)) hgrow4 HF.out
        have HO4 := Lib.hid hown4
        clear zy zl ly
        refine (HSW _ _ _ O14).out.mono ?_
        rintro e w5 ⟨v5, rfl, o5, hx5⟩
        have O5 := Lib.hid o5
        have hlo := Lib.hid (fun k hk => o5.lt k hk)
        obtain ⟨a5, c5, rfl, _, _, _⟩ := own_shape o5
        clear o5
        go_wp2
        go_roundw
        case rel =>
          refine ⟨j + 1, _, _, by omega, by go_num, rfl, rfl, ⟨swpL l x y, L ++ [11, x, y], by rw [swpL_length]; exact QL.out, HQD.out, fun i hi => HQR.out i (by rw [swpL_length] at hi; exact hi), ?_, ?_, own_base O5.out HE4.size, ?_, ?_⟩, ?_, HE4.trans hx5⟩
          · rw [List.length_append]; have := QM.out; simp; omega
          · rw [List.length_append]; have := QN.out; simp; omega
          · rw [List.length_append, show ([11, x, y] : List Int).length = 3 from rfl, show (L.length + 3) / 3 = L.length / 3 + 1 by omega]
            exact own_ext HO4.out hx5
          · rw [List.append_assoc, ← HS.out]; exact QE.out
          · intro k hk k2 hk2
            have h1 := hlo.out k2 hk2
            have h2 := HO4.out.lt k hk
            omega
        case measure => simp [intOf]; omega
    · obtain rfl : j = n := by omega
      have HQ : Hid (L = rstL ys j 0 xs) := by unfold Hid; rw [← QE.out, Nat.sub_self]; simp [rstL]
      go_wp2
      go_ret2
      rw [E2.out, ← HQ.out]
      exact ⟨_, rfl, O2.out, HE.out⟩

end Go.Proofs.Ytjeahopiejcopaa
