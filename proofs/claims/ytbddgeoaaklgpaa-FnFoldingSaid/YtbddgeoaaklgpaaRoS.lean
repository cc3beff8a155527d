/- Rotations that are folded: the reference's side. -/
import Derived.Test.YtbddgeoaaklgpaaFm
import Derived.Test.YtbddgeoaaklgpaaLs
import Derived.Deep.Cut
import Derived.Deep.CutRange
import Derived.Deep.CutBlock
import Derived.StillTailTactics
namespace Go.Proofs.Ytbddgeoaaklgpaa
open Go.RowKit Go.Lib
set_option linter.unusedVariables false
set_option linter.unusedSimpArgs false

theorem elt_V : Elt Try.prog 93 96 2 16 := elt_of (z := .agg #[.int .i64 0, .int .i64 0]) Try.underlying93 (by kernel_rfl) rfl (by decide) (by decide)
theorem elt_Gs : Elt Try.prog 97 99 4 32 := elt_of (z := .agg #[.int .i64 0, .int .i64 0, .int .i64 0, .int .i64 0]) Try.underlying97 (by kernel_rfl) rfl (by decide) (by decide)
theorem elt_Fd : Elt Try.prog 29 34 2 16 := elt_of (z := .agg #[.int .i64 0, .int .i64 0]) Try.underlying29 (by kernel_rfl) rfl (by decide) (by decide)
def iniV (i : Nat) : List (Nat × Bool) := (List.range i).map (fun i => (2 ^ i, false))
theorem iniV_len (i : Nat) : (iniV i).length = i := by simp [iniV]
theorem iniV_succ (i : Nat) : iniV (i + 1) = iniV i ++ [(2 ^ i, false)] := by simp [iniV, List.range_succ]
theorem row_farF {w W : World} {k : Nat} {o : Obj} (h : w.heap[k]? = some o) (hx : Ext w W) : W.heap[k]? = some o := (hx.heap (Array.getElem?_eq_some_iff.1 h).1).trans h

theorem info_bool : (Try.prog.info? 4).map (fun i => (i.zero, i.size, i.bytes)) = some (some (.bool false), 1, 1) := by kernel_rfl
/-- the marks of the gates that belong to a group -/
def mkB (xs : List Int) (n j : Nat) : List Value := (List.range n).map (fun i => .bool (decide (i < j) && decide (0 < cfK (at3 xs (i * 3)))))
theorem mkB_len (xs : List Int) (n j : Nat) : (mkB xs n j).length = n := by simp [mkB]
theorem made_false (n : Nat) (xs : List Int) : (madeCells (Value.bool false).cells (n * 1)).toList = mkB xs n 0 := by
  refine List.ext_getElem? fun q => ?_
  by_cases h : q < n
  · simp [madeCells, mkB, h, Nat.mod_one, Value.cells]
  · simp [madeCells, mkB, h]
theorem mkB_succ (xs : List Int) (n j : Nat) (hj : j < n) : mkB xs n (j + 1) = if 0 < cfK (at3 xs (j * 3)) then (mkB xs n j).set j (.bool true) else mkB xs n j := by
  refine List.ext_getElem? fun q => ?_
  by_cases h : q < n
  · split
    · rename_i h1
      rw [List.getElem?_set]
      by_cases e : j = q
      · subst e; simp [mkB, hj, h1]
      · simp only [e, if_false]
        simp [mkB, h, show q < j + 1 ↔ q < j by omega]
    · rename_i h1
      by_cases e : j = q
      · subst e; simp [mkB, hj, h1]
      · simp [mkB, h, show q < j + 1 ↔ q < j by omega]
  · rw [List.getElem?_eq_none (by rw [mkB_len]; omega), List.getElem?_eq_none (by split <;> simp [mkB_len] <;> omega)]

theorem results_tmp4 {fn : Func} {t u v x : Tmp} (h : fn.results = #[.tmp t, .tmp u, .tmp v, .tmp x]) (tmps : Array Value) (P : Program) (w : World) :
    (results fn tmps).run P w = .ok (.tuple #[tmps.getD t undef, tmps.getD u undef, tmps.getD v undef, tmps.getD x undef]) w := by
  simp [results, h]
theorem gOk_ne {q : Nat} {k a b : Int} (hg : gOk q k a b = true) (hk : k = 11) : a ≠ b := by
  subst hk
  unfold gOk at hg
  rw [if_neg (by rw [Wn_iff]; omega), if_pos (by rw [Wn_iff]; omega)] at hg
  simp only [Bool.and_eq_true, bne_iff_ne, ne_eq] at hg
  exact hg.2.2
theorem still_tail_at {id : Nat} {Q : Exit → Act → World → Prop} {a : Act} {w : World} {l : List Oper} (n : Nat) (hm : Try.prog.follows .mixedOrders = true) (hB : Region.lexTailB .any l.toArray n = true)
    (h : ∀ wD, wD = w.drew → wpStill Try.prog l.toArray wD (fun a' => wpList Try.prog l.toArray Q (l.drop n) a' wD) (l.take n) a) : (Code.region id l.toArray true).wp Try.prog Q a w :=
  wp_region_still_tail n hm hB (h _ rfl)
theorem gOk_ab {q : Nat} {k a b : Int} (hg : gOk q k a b = true) (hq : 1 ≤ q) : 1 ≤ k ∧ k ≤ 12 ∧ 0 ≤ a ∧ a < q ∧ 0 ≤ b ∧ b < q := by
  unfold gOk at hg
  by_cases h1 : Wn k 1 8 = true
  · rw [if_pos h1] at hg
    simp only [Bool.and_eq_true, beq_iff_eq] at hg
    have := Wn_iff.1 hg.1
    have := Wn_iff.1 h1
    omega
  · rw [if_neg h1] at hg
    by_cases h2 : Wn k 9 11 = true
    · rw [if_pos h2] at hg
      simp only [Bool.and_eq_true] at hg
      have := Wn_iff.1 hg.1
      have := Wn_iff.1 hg.2.1
      have := Wn_iff.1 h2
      omega
    · rw [if_neg h2] at hg
      simp only [Bool.and_eq_true, beq_iff_eq] at hg
      omega

/-- where the loop over the groups stands: the group with the value is changed once it is passed -/
def LG (G : List Gp) (v : Nat) (p2 : Bool) (c ph i p kk : Nat) (fb : Bool) (G' : List Gp) : Prop :=
  (i ≤ fdG G v ∧ p = ph ∧ kk = c ∧ fb = false ∧ G' = G) ∨
  (fdG G v < i ∧ fdG G v < G.length ∧ fb = true ∧ p = (if (p2 != (gAt G (fdG G v)).p) then ph + c else ph) ∧ kk = (if (p2 != (gAt G (fdG G v)).p) then 8 - c else c) ∧ G' = G.set (fdG G v) { gAt G (fdG G v) with c := ((gAt G (fdG G v)).c + kk) % 8 })
theorem LG_len {G G' : List Gp} {v c ph i p kk : Nat} {p2 fb : Bool} (h : LG G v p2 c ph i p kk fb G') : G'.length = G.length := by
  rcases h with ⟨_, _, _, _, rfl⟩ | ⟨_, _, _, _, _, rfl⟩
  · rfl
  · simp
theorem LG_cases {G G' : List Gp} {v c ph i p kk : Nat} {p2 fb : Bool} (hd : ∀ i i', i < G.length → i' < G.length → (gAt G i).v = (gAt G i').v → i = i') (hi : i < G.length) (h : LG G v p2 c ph i p kk fb G') :
    (i = fdG G v ∧ p = ph ∧ kk = c ∧ fb = false ∧ G' = G ∧ (gAt G' i).v = v) ∨ ((gAt G' i).v ≠ v ∧ LG G v p2 c ph (i + 1) p kk fb G') := by
  rcases h with ⟨h1, rfl, rfl, rfl, rfl⟩ | ⟨h1, h2, rfl, h4, h5, rfl⟩
  · by_cases e : i = fdG G' v
    · exact .inl ⟨e, rfl, rfl, rfl, rfl, by rw [e]; exact fdG_at (by omega)⟩
    · exact .inr ⟨fdG_no (by omega), .inl ⟨by omega, rfl, rfl, rfl, rfl⟩⟩
  · refine .inr ⟨?_, .inr ⟨by omega, h2, rfl, h4, h5, rfl⟩⟩
    rw [gAt_set h2, if_neg (by omega)]
    intro e
    have := hd i (fdG G v) hi h2 (by rw [e, fdG_at h2])
    omega
theorem LG_next {G : List Gp} {v c ph : Nat} {p2 d : Bool} (h2 : fdG G v < G.length) (hd : (p2 != (gAt G (fdG G v)).p) = d) : LG G v p2 c ph (fdG G v + 1) (if d then ph + c else ph) (if d then 8 - c else c) true (G.set (fdG G v) { gAt G (fdG G v) with c := ((gAt G (fdG G v)).c + (if d then 8 - c else c)) % 8 }) :=
  .inr ⟨by omega, h2, rfl, by rw [hd], by rw [hd], rfl⟩
theorem GC_congr {G : List Gp} {i : Nat} {x y : Gp} (h : gcC x = gcC y) : GC (G.set i x) = GC (G.set i y) := by
  unfold GC
  rw [List.flatMap_def, List.flatMap_def, List.map_set, List.map_set, h]
/-- the loop's end: found or not -/
theorem LG_end {σ : Fs} {G' : List Gp} {a j c ph p kk : Nat} {fb x2 : Bool} {x1 : Nat} (hx : vAt σ.V a = (x1, x2)) (hc : c < 8) (hs : ph % 8 = σ.s) (h : LG σ.G x1 x2 c ph σ.G.length p kk fb G') :
    (fb = true ∧ p % 8 = (rotG σ j a c).s ∧ p ≤ ph + c ∧ (rotG σ j a c).G.length = σ.G.length ∧ GC (rotG σ j a c).G = GC G') ∨
    (fb = false ∧ p % 8 = (rotG σ j a c).s ∧ p = ph ∧ kk = c ∧ G' = σ.G ∧ (rotG σ j a c).G.length = σ.G.length + 1 ∧ GC (rotG σ j a c).G = GC σ.G ++ [(x1 : Int), b2 x2, (j : Int), (c : Int)]) := by
  rw [rotG_eq, hx]
  simp only
  have hle := fdG_le σ.G x1
  rcases h with ⟨h1, rfl, rfl, rfl, rfl⟩ | ⟨h1, h2, rfl, h4, h5, rfl⟩
  · have e : fdG σ.G x1 = σ.G.length := by omega
    have ha : adG σ.G j x1 x2 = σ.G ++ [(⟨j, 0, x1, x2, []⟩ : Gp)] := by unfold adG; rw [if_neg (by omega)]
    refine .inr ⟨rfl, ?_, rfl, rfl, rfl, ?_, ?_⟩
    · rw [ha, e, gAt_new]
      simp [hs]
    · rw [ha]; simp
    · rw [ha, e, gAt_new]
      have e2 : (σ.G ++ [(⟨j, 0, x1, x2, []⟩ : Gp)]).set σ.G.length (moG ⟨j, 0, x1, x2, []⟩ (x2 != x2) j kk) = σ.G ++ [(⟨j, kk, x1, x2, [j]⟩ : Gp)] := by
        simp [moG, Nat.mod_eq_of_lt hc]
      rw [e2]
      unfold GC
      rw [fm_append]
      rfl
  · have ha : adG σ.G j x1 x2 = σ.G := by unfold adG; rw [if_pos h2]
    rw [ha]
    refine .inl ⟨rfl, ?_, ?_, by simp, ?_⟩
    · rw [h4]
      split
      · rw [← hs]; omega
      · exact hs
    · rw [h4]; split <;> omega
    · rw [h5]
      exact GC_congr rfl

theorem own_setn {w : World} {base : Nat} {e : TypeId} {size : Nat} {v : Value} {n : Nat} {xs : List Value} (h : w.ownsRow base e size v n xs) {p : Addr} (hp : ∀ k, v.ownBlock = some k → k ≠ p.block) (u : Value) : (w.setCell p u).ownsRow base e size v n xs := by
  refine ⟨h.1, ?_⟩
  rcases h.2 with hn | ⟨g, cap, cur, hv, hb, hg, r⟩
  · exact .inl hn
  · have : g ≠ p.block := hp g (by rw [hv]; rfl)
    exact .inr ⟨g, cap, cur, hv, hb, by rw [Below.heap_setCell _ _ _ _ this]; exact hg, r⟩

set_option maxRecDepth 20000 in
set_option maxHeartbeats 1000000 in
theorem l13Coef_any (k : Int) (w : World) : Calls Try.prog 55 #[.int .i64 k] w fun e w' => e = .returned (.int .i64 (cfK k)) ∧ w' = w := by
  have h4 : Hid (cfK k = if k = 4 then 4 else if k = 5 then 2 else if k = 6 then 6 else if k = 7 then 1 else if k = 8 then 7 else 0) := rfl
  go_enter Try.func55, Try.ntmps55
  go_wp2
  all_goals (go_ret; refine ⟨?_, rfl⟩; rw [h4.out]; clear h4; simp_all)

/-- what l13Folds returns -/
def FOut (Q n : Nat) (xs : List Int) (w : World) (e : Ending) (w' : World) : Prop :=
  ∃ vo vi, e = .returned (.tuple #[vo, .int .i64 (if fsK Q xs n then ((fsS Q xs n).s : Int) else 0), vi, .bool (fsK Q xs n)]) ∧ (fsK Q xs n = true → w'.ownsRow w.heap.size 34 2 vo (fsS Q xs n).G.length (IL (FC (fsS Q xs n).G)) ∧ w'.ownsRow w.heap.size 4 1 vi n (mkB xs n n)) ∧ (fsK Q xs n = false → vo = .slice none 0 0) ∧ Ext w w'

set_option maxRecDepth 20000 in
set_option maxHeartbeats 8000000 in
theorem l13Folds_any (Q : Nat) {v : Value} {n : Nat} {xs : List Int} (hc : cOk Q xs n = true) (w : World) (h : RV w 3 v n xs) :
    Calls Try.prog 29 #[.agg #[.int .i64 Q, v]] w fun e w' => FOut Q n xs w e w' := by
  have hc0 := hc
  unfold cOk at hc0
  simp only [Bool.and_eq_true, decide_eq_true_eq] at hc0
  have hq0 := Wn_iff.1 hc0.1
  have hQ : 1 ≤ Q ∧ Q ≤ 5 := by omega
  have hn : n ≤ 400 := hc0.2.1
  have HINV := Lib.hid (fun j hj hk => fs_inv hc j hj hk)
  have HG := Lib.hid (fun j (hj : j < n) => (allTo_at (f := fun j => gOk Q (at3 xs (j * 3)) (at3 xs (j * 3 + 1)) (at3 xs (j * 3 + 2))) hc0.2.2 hj : gOk Q (at3 xs (j * 3)) (at3 xs (j * 3 + 1)) (at3 xs (j * 3 + 2)) = true))
  clear hc0 hc hq0
  have HV0 := Lib.hid h
  obtain ⟨hl, a1, cap, rfl, p1, p2, hh⟩ := h
  have HH := Lib.hid hh
  have HL := Lib.hid hl
  clear hh hl
  obtain ⟨w1, hw1⟩ : ∃ w1, w1 = w.alloc (.cells #[.int .i64 Q, .slice a1 n cap] 25 (0, 0)) := ⟨_, rfl⟩
  have HA1 : Hid (w1.heap[w.heap.size]? = some (.cells #[.int .i64 Q, .slice a1 n cap] 25 (0, 0))) := by rw [hw1]; exact heap_alloc_new _ _
  have HE1 : Hid (Ext w w1) := by rw [hw1]; exact (Ext.refl w).alloc _
  have hs1 : w.heap.size + 1 = w1.heap.size := by rw [hw1]; simp
  have zA1 := fun k => cell_of_row _ _ k _ _ _ HA1.out
  have lA1 := (Array.getElem?_eq_some_iff.1 HA1.out).1
  go_enter Try.func29, Try.ntmps29
  go_upto_region 1 with fail
  rw [← hw1]
  clear hw1
  go_wp2
  go_loopw [6, 7] (fun u6 u7 wr => ∃ (i : Nat) (va : Value), i ≤ Q ∧ u6 = va ∧ u7 = .int .i64 i ∧ Hid (wr.ownsRow w1.heap.size 96 2 va i (IL (VC (iniV i)))) ∧ Ext w1 wr) (fun _ u7 _ => Q - (intOf u7).toNat)
  case atStart => exact ⟨0, _, by omega, rfl, rfl, own_nil _ _ _ _, Ext.refl _⟩
  case round =>
    obtain ⟨i, va, hi, rfl, rfl, HW, hE⟩ := hrel
    have HE := Lib.hid hE
    have hA := row_farF HA1.out hE
    have zA := fun k => cell_of_row _ _ k _ _ _ hA
    have lA := (Array.getElem?_eq_some_iff.1 hA).1
    have hsr := hE.size
    obtain ⟨av, cv, rfl, hv1, hv2, hv3⟩ := own_shape HW.out
    clear hA hE
    by_cases hlt : i < Q
    · have hlt' : (i : Int) < Q := by omega
      have hi4 : i ≤ 4 := by omega
      obtain ⟨p, hp⟩ : ∃ p : Nat, p = 2 ^ i := ⟨_, rfl⟩
      have hW0 := HW.out
      have HN : Hid (iniV (i + 1) = iniV i ++ [(p, false)]) := by rw [hp]; exact iniV_succ i
      generalize hLx : iniV (i + 1) = Lx at HN
      generalize hLy : iniV i = Ly at HN hW0
      have hci : (∃ m : Nat, m = i) := ⟨i, rfl⟩
      obtain ⟨m, hm⟩ := hci
      have hcs : i = 0 ∨ i = 1 ∨ i = 2 ∨ i = 3 ∨ i = 4 := by omega
      clear HW
      rcases hcs with rfl | rfl | rfl | rfl | rfl
      · have HOw := Lib.hid (own_ext hW0 ((Ext.refl wr).alloc (.cells #[.int .i64 1, .int .i64 0] 96 (0, 0))))
        have M5 := Lib.hid (heap_alloc_new wr (.cells #[.int .i64 1, .int .i64 0] 96 (0, 0)))
        go_upto_region 4 with (at_builtin; go_loud (refine wpList_append_rvt (base := w1.heap.size) rfl elt_V rfl (.slice av 0 cv) 0 (VC Ly) rfl HOw.out _ 1 [1, 0] rfl (rv_heap M5.out rfl rfl (by omega) (by decide)) (by omega) (by simp; omega) ?_); intro v5 w5 hown5 hgrow5 hiff5 hloc5)
        have hx5 : Ext w1 w5 := ext_grownB (HE.out.alloc _) hgrow5 HOw.out (Nat.le_refl _)
        have HO5 : Hid (w5.ownsRow w1.heap.size 96 2 v5 1 (IL (VC Lx))) := by
          rw [HN.out, VC_snoc, hp]
          have h5 := hown5
          rw [il_append] at h5
          exact h5
        have HX5 := Lib.hid hx5
        clear hown5 hgrow5 hiff5 hloc5 hx5
        go_wp2
        go_roundw
        case rel => exact ⟨1, _, by omega, rfl, rfl, by rw [hLx]; exact HO5.out, HX5.out⟩
        case measure => simp [intOf]; omega
      · have HOw := Lib.hid (own_ext hW0 ((Ext.refl wr).alloc (.cells #[.int .i64 2, .int .i64 0] 96 (0, 0))))
        have M5 := Lib.hid (heap_alloc_new wr (.cells #[.int .i64 2, .int .i64 0] 96 (0, 0)))
        go_upto_region 4 with (at_builtin; go_loud (refine wpList_append_rvt (base := w1.heap.size) rfl elt_V rfl (.slice av 1 cv) 1 (VC Ly) rfl HOw.out _ 1 [2, 0] rfl (rv_heap M5.out rfl rfl (by omega) (by decide)) (by omega) (by simp; omega) ?_); intro v5 w5 hown5 hgrow5 hiff5 hloc5)
        have hx5 : Ext w1 w5 := ext_grownB (HE.out.alloc _) hgrow5 HOw.out (Nat.le_refl _)
        have HO5 : Hid (w5.ownsRow w1.heap.size 96 2 v5 2 (IL (VC Lx))) := by
          rw [HN.out, VC_snoc, hp]
          have h5 := hown5
          rw [il_append] at h5
          exact h5
        have HX5 := Lib.hid hx5
        clear hown5 hgrow5 hiff5 hloc5 hx5
        go_wp2
        go_roundw
        case rel => exact ⟨2, _, by omega, rfl, rfl, by rw [hLx]; exact HO5.out, HX5.out⟩
        case measure => simp [intOf]; omega
      · have HOw := Lib.hid (own_ext hW0 ((Ext.refl wr).alloc (.cells #[.int .i64 4, .int .i64 0] 96 (0, 0))))
        have M5 := Lib.hid (heap_alloc_new wr (.cells #[.int .i64 4, .int .i64 0] 96 (0, 0)))
        go_upto_region 4 with (at_builtin; go_loud (refine wpList_append_rvt (base := w1.heap.size) rfl elt_V rfl (.slice av 2 cv) 2 (VC Ly) rfl HOw.out _ 1 [4, 0] rfl (rv_heap M5.out rfl rfl (by omega) (by decide)) (by omega) (by simp; omega) ?_); intro v5 w5 hown5 hgrow5 hiff5 hloc5)
        have hx5 : Ext w1 w5 := ext_grownB (HE.out.alloc _) hgrow5 HOw.out (Nat.le_refl _)
        have HO5 : Hid (w5.ownsRow w1.heap.size 96 2 v5 3 (IL (VC Lx))) := by
          rw [HN.out, VC_snoc, hp]
          have h5 := hown5
          rw [il_append] at h5
          exact h5
        have HX5 := Lib.hid hx5
        clear hown5 hgrow5 hiff5 hloc5 hx5
        go_wp2
        go_roundw
        case rel => exact ⟨3, _, by omega, rfl, rfl, by rw [hLx]; exact HO5.out, HX5.out⟩
        case measure => simp [intOf]; omega
      · have HOw := Lib.hid (own_ext hW0 ((Ext.refl wr).alloc (.cells #[.int .i64 8, .int .i64 0] 96 (0, 0))))
        have M5 := Lib.hid (heap_alloc_new wr (.cells #[.int .i64 8, .int .i64 0] 96 (0, 0)))
        go_upto_region 4 with (at_builtin; go_loud (refine wpList_append_rvt (base := w1.heap.size) rfl elt_V rfl (.slice av 3 cv) 3 (VC Ly) rfl HOw.out _ 1 [8, 0] rfl (rv_heap M5.out rfl rfl (by omega) (by decide)) (by omega) (by simp; omega) ?_); intro v5 w5 hown5 hgrow5 hiff5 hloc5)
        have hx5 : Ext w1 w5 := ext_grownB (HE.out.alloc _) hgrow5 HOw.out (Nat.le_refl _)
        have HO5 : Hid (w5.ownsRow w1.heap.size 96 2 v5 4 (IL (VC Lx))) := by
          rw [HN.out, VC_snoc, hp]
          have h5 := hown5
          rw [il_append] at h5
          exact h5
        have HX5 := Lib.hid hx5
        clear hown5 hgrow5 hiff5 hloc5 hx5
        go_wp2
        go_roundw
        case rel => exact ⟨4, _, by omega, rfl, rfl, by rw [hLx]; exact HO5.out, HX5.out⟩
        case measure => simp [intOf]; omega
      · have HOw := Lib.hid (own_ext hW0 ((Ext.refl wr).alloc (.cells #[.int .i64 16, .int .i64 0] 96 (0, 0))))
        have M5 := Lib.hid (heap_alloc_new wr (.cells #[.int .i64 16, .int .i64 0] 96 (0, 0)))
        go_upto_region 4 with (at_builtin; go_loud (refine wpList_append_rvt (base := w1.heap.size) rfl elt_V rfl (.slice av 4 cv) 4 (VC Ly) rfl HOw.out _ 1 [16, 0] rfl (rv_heap M5.out rfl rfl (by omega) (by decide)) (by omega) (by simp; omega) ?_); intro v5 w5 hown5 hgrow5 hiff5 hloc5)
        have hx5 : Ext w1 w5 := ext_grownB (HE.out.alloc _) hgrow5 HOw.out (Nat.le_refl _)
        have HO5 : Hid (w5.ownsRow w1.heap.size 96 2 v5 5 (IL (VC Lx))) := by
          rw [HN.out, VC_snoc, hp]
          have h5 := hown5
          rw [il_append] at h5
          exact h5
        have HX5 := Lib.hid hx5
        clear hown5 hgrow5 hiff5 hloc5 hx5
        go_wp2
        go_roundw
        case rel => exact ⟨5, _, by omega, rfl, rfl, by rw [hLx]; exact HO5.out, HX5.out⟩
        case measure => simp [intOf]; omega
    · have hiQ : Q = i := by omega
      subst hiQ
      obtain ⟨wA, hwA⟩ : ∃ x, x = wr := ⟨_, rfl⟩
      subst hwA
      obtain ⟨Bt, rfl, hB1, hB2, _, _⟩ := hv3 (by omega)
      obtain ⟨i0, hi0, iz0, iz1, iz2⟩ := info_parts info_bool
      have HB0 := Lib.hid (made_false n xs)
      go_upto_region 10 with (at_make; refine wpList_make_full _ rfl _ _ _ rfl wA.heap.size 4 i0 (.bool false) 1 Try.underlying65 hi0 iz0 iz1 .i64 .i64 _ _ n rfl rfl rfl rfl (by rw [iz2]; omega) (by simp only [maxLen]; omega) (Nat.le_refl _) ?_; intro w0 own0 hg0; rw [HB0.out] at own0; have HO := Lib.hid own0; clear own0)
      have hr0 : Ext wA w0 := Ext.grown (Ext.refl wA) hg0 (fun k hk => by cases hk)
      have HEW : Hid (Ext w1 w0) := HE.out.trans hr0
      have hs0 : wA.heap.size < w0.heap.size := (HO.out.lt _ rfl).2
      have HW0 := Lib.hid (own_ext HW.out hr0)
      have hA0 := row_farF HA1.out HEW.out
      have zA0 := fun k => cell_of_row _ _ k _ _ _ hA0
      have lA0 := (Array.getElem?_eq_some_iff.1 hA0).1
      clear hr0 hA0 hg0 HB0
      go_wp2
      go_loopw [8, 9, 10, 44] (fun u8 u9 u10 u44 wr => ∃ (j ph : Nat), j ≤ n ∧ fsK Q xs j = true ∧ u8 = .int .i64 ((fsS Q xs j).u : Nat) ∧ u10 = .int .i64 ph ∧ u44 = .int .i64 j ∧ ph % 8 = (fsS Q xs j).s ∧ ph ≤ 8 * j ∧ Hid (wr.ownsRow w1.heap.size 96 2 (.slice (some ⟨Bt, 0, none⟩) Q cv) Q (IL (VC (fsS Q xs j).V))) ∧ Hid (wr.ownsRow wA.heap.size 4 1 (.slice (some ⟨wA.heap.size, 0, none⟩) n n) n (mkB xs n j)) ∧ Hid (wr.ownsRow (wA.heap.size + 1) 99 4 u9 (fsS Q xs j).G.length (IL (GC (fsS Q xs j).G))) ∧ Ext w1 wr) (fun _ _ _ u44 _ => n - (intOf u44).toNat)
      case atStart => exact ⟨0, 0, by omega, rfl, rfl, rfl, rfl, rfl, by omega, HW0, HO, Lib.hid (own_nil _ _ _ _), HEW.out⟩
      case round =>
        obtain ⟨j, ph, hj, hk, rfl, rfl, rfl, hph, hph2, OV, OM, OG, hE⟩ := hrel
        have HEs := Lib.hid hE
        have HI := Lib.hid (HINV.out j hj hk)
        by_cases hlt : j < n
        · have hlt' : (j : Int) < n := by omega
          have hE1 := HE1.out.trans hE
          obtain ⟨b, off, rfl, hbk, hcell⟩ := HH.out (by omega)
          have hbr : b < wr.heap.size := by have := hE1.size; omega
          have z0 : wr.cell? ⟨b, off + j * 3, none⟩ = some (.int .i64 (at3 xs (j * 3))) := (hE1.cells.1 b (off + (j * 3)) hbk).trans (hcell _ _ (at3_get (by have := HL.out; omega)))
          have z1 : wr.cell? ⟨b, off + j * 3 + 1, none⟩ = some (.int .i64 (at3 xs (j * 3 + 1))) := (hE1.cells.1 b (off + (j * 3 + 1)) hbk).trans (hcell _ _ (at3_get (by have := HL.out; omega)))
          have z2 : wr.cell? ⟨b, off + j * 3 + 2, none⟩ = some (.int .i64 (at3 xs (j * 3 + 2))) := (hE1.cells.1 b (off + (j * 3 + 2)) hbk).trans (hcell _ _ (at3_get (by have := HL.out; omega)))
          clear hcell
          have HS : Hid (fsS Q xs (j + 1) = stepF (fsS Q xs j) j (at3 xs (j * 3)) (at3 xs (j * 3 + 1)) (at3 xs (j * 3 + 2))) := rfl
          have HK : Hid (fsK Q xs (j + 1) = (fsK Q xs j && !(at3 xs (j * 3) == 1 && (fsS Q xs j).u == 60))) := rfl
          have HM := Lib.hid (mkB_succ xs n j hlt)
          have hab := gOk_ab (HG.out j hlt) hQ.1
          have hne0 := Lib.hid (gOk_ne (HG.out j hlt))
          have hstep := Lib.hid (HI.out.step (HG.out j hlt) hQ.1)
          generalize at3 xs (j * 3) = k0 at *
          generalize at3 xs (j * 3 + 1) = a0 at *
          generalize at3 xs (j * 3 + 2) = b0 at *
          generalize fsS Q xs j = σ at *
          obtain ⟨hk1, hk2, ha1, ha2, hb1, hb2⟩ := hab
          obtain ⟨a, rfl⟩ : ∃ a : Nat, a0 = a := ⟨a0.toNat, by omega⟩
          obtain ⟨b, rfl⟩ : ∃ b : Nat, b0 = b := ⟨b0.toNat, by omega⟩
          have haQ : a < Q := by omega
          have hbQ : b < Q := by omega
          have hVl : σ.V.length = Q := HI.out.vl
          have zV0 : wr.cell? ⟨Bt, a * 2, none⟩ = some (.int .i64 ((vAt σ.V a).1 : Nat)) := (OV.out.cellAt (a * 2) (by omega)).trans (VC_at (by omega)).1
          have zV1 : wr.cell? ⟨Bt, a * 2 + 1, none⟩ = some (.int .i64 (b2 (vAt σ.V a).2)) := (OV.out.cellAt (a * 2 + 1) (by omega)).trans (VC_at (by omega)).2
          have zW0 : wr.cell? ⟨Bt, b * 2, none⟩ = some (.int .i64 ((vAt σ.V b).1 : Nat)) := (OV.out.cellAt (b * 2) (by omega)).trans (VC_at (by omega)).1
          have zW1 : wr.cell? ⟨Bt, b * 2 + 1, none⟩ = some (.int .i64 (b2 (vAt σ.V b).2)) := (OV.out.cellAt (b * 2 + 1) (by omega)).trans (VC_at (by omega)).2
          have fV : ∀ k, wr.frozen? ⟨Bt, k, none⟩ = false := fun k => OV.out.frozenAt k
          have lV : Bt < wr.heap.size := (OV.out.lt _ rfl).2
          have fM : ∀ k, wr.frozen? ⟨wA.heap.size, k, none⟩ = false := fun k => OM.out.frozenAt k
          have lM : wA.heap.size < wr.heap.size := (OM.out.lt _ rfl).2
          have hBM : Bt ≠ wA.heap.size := by omega
          have hMB : wA.heap.size ≠ Bt := by omega
          have haQ' : (a : Int) < Q := by omega
          have hbQ' : (b : Int) < Q := by omega
          rcases hxa : vAt σ.V a with ⟨x1, x2⟩
          rcases hxb : vAt σ.V b with ⟨y1, y2⟩
          rw [hxa] at zV0 zV1
          rw [hxb] at zW0 zW1
          simp only at zV0 zV1 zW0 zW1
          clear hE hE1 HINV HG
          go_upto_region 14 with fail
          have hcs : k0 = 1 ∨ (k0 = 2 ∨ k0 = 3) ∨ k0 = 9 ∨ k0 = 11 ∨ (k0 = 10 ∨ k0 = 12) ∨ (4 ≤ k0 ∧ k0 ≤ 8) := by omega
          rcases hcs with rfl | hk0 | rfl | rfl | hk0 | hk0
          · have hcf : cfK 1 = 0 := rfl
            have hub := HI.out.ub
            obtain ⟨p, hp⟩ : ∃ p : Nat, p = 2 ^ σ.u := ⟨_, rfl⟩
            have hp2 : (2 : Int) ^ σ.u = (p : Int) := by rw [hp]; simp
            have hp3 : p ≤ 1152921504606846976 := by rw [hp]; exact Nat.le_trans (Nat.pow_le_pow_right (by decide) hub) (by decide)
            have hst : stepF σ j 1 a b = ⟨σ.V.set a (p, false), σ.u + 1, σ.G, σ.s⟩ := by rw [hp]; simp [stepF]
            have HVS : Hid (IL (VC (σ.V.set a (p, false))) = ((IL (VC σ.V)).set (a * 2) (.int .i64 (p : Int))).set (a * 2 + 1) (.int .i64 0)) := VC_set (by omega)
            have hlo : Bt < wA.heap.size := hB2
            have hlo0 : Bt < wA.heap.size + 1 := by omega
            clear hp
            go_wp2_with fail
            · have hnk : fsK Q xs n = false := by
                refine Bool.eq_false_iff.2 (fun h => ?_)
                have h1 := fsK_le h (show j + 1 ≤ n by omega)
                rw [HK.out] at h1
                have hu : σ.u = 60 := by omega
                rw [hu] at h1
                simp at h1
              (try simp only [Exit.inBlock, Exit.then])
              refine bodyPost_ret (results_tmp4 rfl _ _ _) rfl ?_
              refine ⟨.slice none 0 0, .slice none 0 0, ?_, ?_, fun _ => rfl, ?_⟩
              · rw [hnk]; rfl
              · intro h; rw [hnk] at h; cases h
              · exact HE1.out.trans ((((HEs.out.setCell hB1 _).setCell hB1 _).alloc _).alloc _)
            · have hnu : σ.u ≠ 60 := by omega
              have hnb : (σ.u == 60) = false := by simpa using hnu
              refine (l13Coef_any _ _).mono ?_
              rintro e w9 ⟨rfl, rfl⟩
              rw [hcf]
              go_wp2
              go_roundw
              case measure => simp [intOf]; omega
              case rel =>
                refine ⟨j + 1, ph, by omega, by rw [HK.out, hk, hnb]; rfl, by rw [HS.out, hst]; go_num, rfl, by go_num, by rw [HS.out, hst]; exact hph, by omega, ?_, ?_, ?_, (((HEs.out.setCell hB1 _).setCell hB1 _).alloc _).alloc _⟩
                · rw [HS.out, hst]; refine Lib.hid ?_; rw [HVS.out]; exact (((OV.out.stored (a * 2) _).1.stored (a * 2 + 1) _).1.alloc _).alloc _
                · rw [HM.out, hcf]; exact Lib.hid (((own_set (own_set OM.out hlo _) hlo _).alloc _).alloc _)
                · rw [HS.out, hst]; exact Lib.hid (((own_set (own_set OG.out hlo0 _) hlo0 _).alloc _).alloc _)
          · have hcf : cfK k0 = 0 := by rcases hk0 with rfl | rfl <;> rfl
            have hk9 : (k0 == 1) = false := by rcases hk0 with rfl | rfl <;> rfl
            have hst : stepF σ j k0 a b = { σ with V := σ.V.set a (x1, !x2) } := by rcases hk0 with rfl | rfl <;> simp [stepF, hxa, hxb]
            obtain ⟨t2, ht2⟩ : ∃ t, t = b2 (!x2) := ⟨_, rfl⟩
            have hb2 : (1 : Int) - b2 x2 = t2 := by rw [ht2]; cases x2 <;> rfl
            have ht0 : 0 ≤ t2 ∧ t2 ≤ 1 := by rw [ht2]; cases x2 <;> decide
            have HVS : Hid (IL (VC (σ.V.set a (x1, !x2))) = ((IL (VC σ.V)).set (a * 2) (.int .i64 (x1 : Int))).set (a * 2 + 1) (.int .i64 t2)) := by rw [ht2]; exact VC_set (by omega)
            have hlo : Bt < wA.heap.size := hB2
            have hlo0 : Bt < wA.heap.size + 1 := by omega
            clear ht2
            go_wp2_with fail
            all_goals refine (l13Coef_any _ _).mono ?_
            all_goals rintro e w9 ⟨rfl, rfl⟩
            all_goals rw [hcf]
            all_goals
              go_wp2
              go_roundw
              case measure => simp [intOf]; omega
              case rel =>
                refine ⟨j + 1, ph, by omega, by rw [HK.out, hk, hk9]; rfl, by rw [HS.out, hst], rfl, by go_num, by rw [HS.out, hst]; exact hph, by omega, ?_, ?_, ?_, (((HEs.out.setCell hB1 _).setCell hB1 _).alloc _).alloc _⟩
                · rw [HS.out, hst]; refine Lib.hid ?_; rw [HVS.out]; exact (((OV.out.stored (a * 2) _).1.stored (a * 2 + 1) _).1.alloc _).alloc _
                · rw [HM.out, hcf]; exact Lib.hid (((own_set (own_set OM.out hlo _) hlo _).alloc _).alloc _)
                · rw [HS.out, hst]; exact Lib.hid (((own_set (own_set OG.out hlo0 _) hlo0 _).alloc _).alloc _)
          · have hcf : cfK 9 = 0 := rfl
            obtain ⟨x9, hx9⟩ : ∃ t, t = x1 ^^^ y1 := ⟨_, rfl⟩
            obtain ⟨p9, hp9⟩ : ∃ t, t = b2 (x2 != y2) := ⟨_, rfl⟩
            have hxl : x1 < 2 ^ 60 := by have h1 := HI.out.vb a haQ; rw [hxa] at h1; exact Nat.lt_of_lt_of_le h1 (Nat.pow_le_pow_right (by decide) HI.out.ub)
            have hyl : y1 < 2 ^ 60 := by have h1 := HI.out.vb b hbQ; rw [hxb] at h1; exact Nat.lt_of_lt_of_le h1 (Nat.pow_le_pow_right (by decide) HI.out.ub)
            have hw1 : bits .xor .i64 (x1 : Int) (y1 : Int) = (x9 : Int) := by rw [hx9]; exact bits_xor_i64 x1 y1 hxl hyl
            have hw2 : bits .xor .i64 (b2 x2) (b2 y2) = p9 := by rw [hp9]; exact b2_xor x2 y2
            go_wp2_with fail
            refine still_tail_at 22 (by kernel_rfl) (by kernel_rfl) (fun wD hD => ?_)
            simp only [List.take_succ_cons, List.take_zero, List.drop_succ_cons, List.drop_zero]
            have HXD : Hid (Ext wr wD) := by rw [hD]; exact Ext.drew (((Ext.refl wr).alloc _).alloc _)
            have sD : wD.heap.size = wr.heap.size + 1 + 1 := by rw [hD]; show ((wr.alloc _).alloc _).heap.size = _; simp
            have r1 : wD.heap[wr.heap.size]? = some (.cells #[.int .i64 9, .int .i64 a, .int .i64 b] 47 (0, 0)) := by rw [hD]; exact row_farF (heap_alloc_new wr _) (((Ext.refl _).alloc _).drew)
            have r2 : wD.heap[wr.heap.size + 1]? = some (.cells #[.int .i64 x1, .int .i64 (b2 x2)] 96 (0, 0)) := by
              rw [hD]
              have h := heap_alloc_new (wr.alloc (.cells #[.int .i64 9, .int .i64 a, .int .i64 b] 47 (0, 0))) (.cells #[.int .i64 x1, .int .i64 (b2 x2)] 96 (0, 0))
              have e : (wr.alloc (.cells #[.int .i64 9, .int .i64 a, .int .i64 b] 47 (0, 0))).heap.size = wr.heap.size + 1 := by simp
              rw [e] at h
              exact h
            have q1 := fun k => cell_of_row _ _ k _ _ _ r1
            have q2 := fun k => cell_of_row _ _ k _ _ _ r2
            have OVD := Lib.hid (own_ext OV.out HXD.out)
            have OMD := Lib.hid (own_ext OM.out HXD.out)
            have OGD := Lib.hid (own_ext OG.out HXD.out)
            have zD0 := (HXD.out.cells.1 Bt _ lV).trans zV0
            have zD1 := (HXD.out.cells.1 Bt _ lV).trans zV1
            have zE0 := (HXD.out.cells.1 Bt _ lV).trans zW0
            have zE1 := (HXD.out.cells.1 Bt _ lV).trans zW1
            have fD : ∀ k, wD.frozen? ⟨Bt, k, none⟩ = false := fun k => OVD.out.frozenAt k
            have HED : Hid (Ext w1 wD) := HEs.out.trans HXD.out
            clear hD zV0 zV1 zW0 zW1 fV r1 r2
            repeat still_step
            refine wpStill_nil ?_
            have hst : stepF σ j 9 a b = { σ with V := σ.V.set b (x1 ^^^ y1, x2 != y2) } := by
              have e1 : y1 ^^^ x1 = x1 ^^^ y1 := Nat.xor_comm _ _
              have e2 : (y2 != x2) = (x2 != y2) := by cases x2 <;> cases y2 <;> rfl
              simp [stepF, hxa, hxb, e1, e2]
            have HVS : Hid (IL (VC (σ.V.set b (x1 ^^^ y1, x2 != y2))) = ((IL (VC σ.V)).set (b * 2) (.int .i64 ((x1 ^^^ y1 : Nat) : Int))).set (b * 2 + 1) (.int .i64 (b2 (x2 != y2)))) := VC_set (by omega)
            have hlo : Bt < wA.heap.size := hB2
            have hlo0 : Bt < wA.heap.size + 1 := by omega
            go_wp2_with fail
            refine (l13Coef_any _ _).mono ?_
            rintro e w9 ⟨rfl, rfl⟩
            rw [hcf]
            go_wp2
            go_roundw
            case measure => simp [intOf]; omega
            case rel =>
              refine ⟨j + 1, ph, by omega, by rw [HK.out, hk]; rfl, by rw [HS.out, hst], rfl, by go_num, by rw [HS.out, hst]; exact hph, by omega, ?_, ?_, ?_, (HED.out.setCell hB1 _).setCell hB1 _⟩
              · rw [HS.out, hst]; refine Lib.hid ?_; rw [HVS.out]; exact ((OVD.out.stored (b * 2) _).1.stored (b * 2 + 1) _).1
              · rw [HM.out, hcf]; exact Lib.hid (own_set (own_set OMD.out hlo _) hlo _)
              · rw [HS.out, hst]; exact Lib.hid (own_set (own_set OGD.out hlo0 _) hlo0 _)
          · have hcf : cfK 11 = 0 := rfl
            have hab := hne0.out rfl
            have hab1 : a ≠ b := fun e => hab (by rw [e])
            have hab2 : b ≠ a := fun e => hab1 e.symm
            have hst : stepF σ j 11 a b = { σ with V := (σ.V.set a (y1, y2)).set b (x1, x2) } := by simp [stepF, hxa, hxb]
            have HVS : Hid (IL (VC ((σ.V.set a (y1, y2)).set b (x1, x2))) = ((((IL (VC σ.V)).set (a * 2) (.int .i64 (y1 : Int))).set (a * 2 + 1) (.int .i64 (b2 y2))).set (b * 2) (.int .i64 (x1 : Int))).set (b * 2 + 1) (.int .i64 (b2 x2))) := by rw [VC_set (by simp only [List.length_set]; omega), VC_set (by omega)]; rfl
            have hlo : Bt < wA.heap.size := hB2
            have hlo0 : Bt < wA.heap.size + 1 := by omega
            go_wp2_with fail
            refine still_tail_at 8 (by kernel_rfl) (by kernel_rfl) (fun wD hD => ?_)
            simp only [List.take_succ_cons, List.take_zero, List.drop_succ_cons, List.drop_zero]
            have HXD : Hid (Ext wr wD) := by rw [hD]; exact Ext.drew (((Ext.refl wr).alloc _).alloc _)
            have sD : wD.heap.size = wr.heap.size + 1 + 1 := by rw [hD]; show ((wr.alloc _).alloc _).heap.size = _; simp
            have r1 : wD.heap[wr.heap.size]? = some (.cells #[.int .i64 11, .int .i64 a, .int .i64 b] 47 (0, 0)) := by rw [hD]; exact row_farF (heap_alloc_new wr _) (((Ext.refl _).alloc _).drew)
            have r2 : wD.heap[wr.heap.size + 1]? = some (.cells #[.int .i64 x1, .int .i64 (b2 x2)] 96 (0, 0)) := by
              rw [hD]
              have h := heap_alloc_new (wr.alloc (.cells #[.int .i64 11, .int .i64 a, .int .i64 b] 47 (0, 0))) (.cells #[.int .i64 x1, .int .i64 (b2 x2)] 96 (0, 0))
              have e : (wr.alloc (.cells #[.int .i64 11, .int .i64 a, .int .i64 b] 47 (0, 0))).heap.size = wr.heap.size + 1 := by simp
              rw [e] at h
              exact h
            have q1 := fun k => cell_of_row _ _ k _ _ _ r1
            have q2 := fun k => cell_of_row _ _ k _ _ _ r2
            have OVD := Lib.hid (own_ext OV.out HXD.out)
            have OMD := Lib.hid (own_ext OM.out HXD.out)
            have OGD := Lib.hid (own_ext OG.out HXD.out)
            have zD0 := (HXD.out.cells.1 Bt _ lV).trans zV0
            have zD1 := (HXD.out.cells.1 Bt _ lV).trans zV1
            have zE0 := (HXD.out.cells.1 Bt _ lV).trans zW0
            have zE1 := (HXD.out.cells.1 Bt _ lV).trans zW1
            have fD : ∀ k, wD.frozen? ⟨Bt, k, none⟩ = false := fun k => OVD.out.frozenAt k
            have HED : Hid (Ext w1 wD) := HEs.out.trans HXD.out
            clear hD zV0 zV1 zW0 zW1 fV r1 r2
            repeat still_step
            refine wpStill_nil ?_
            have hBr : Bt ≠ wr.heap.size + 1 := by omega
            have hBs : Bt ≠ wr.heap.size := by omega
            have lD : wr.heap.size + 1 < wD.heap.size := by omega
            go_wp2_with fail
            refine (l13Coef_any _ _).mono ?_
            rintro e w9 ⟨rfl, rfl⟩
            rw [hcf]
            go_wp2
            go_roundw
            case measure => simp [intOf]; omega
            case rel =>
              refine ⟨j + 1, ph, by omega, by rw [HK.out, hk]; rfl, by rw [HS.out, hst], rfl, by go_num, by rw [HS.out, hst]; exact hph, by omega, ?_, ?_, ?_, (((HED.out.setCell hB1 _).setCell hB1 _).setCell hB1 _).setCell hB1 _⟩
              · rw [HS.out, hst]; refine Lib.hid ?_; rw [HVS.out]; exact ((((OVD.out.stored (a * 2) _).1.stored (a * 2 + 1) _).1.stored (b * 2) _).1.stored (b * 2 + 1) _).1
              · rw [HM.out, hcf]; exact Lib.hid (own_set (own_set (own_set (own_set OMD.out hlo _) hlo _) hlo _) hlo _)
              · rw [HS.out, hst]; exact Lib.hid (own_set (own_set (own_set (own_set OGD.out hlo0 _) hlo0 _) hlo0 _) hlo0 _)
          · have hcf : cfK k0 = 0 := by rcases hk0 with rfl | rfl <;> rfl
            have hst : stepF σ j k0 a b = σ := by rcases hk0 with rfl | rfl <;> rfl
            have hk9 : (k0 == 1) = false := by rcases hk0 with rfl | rfl <;> rfl
            go_wp2_with fail
            refine (l13Coef_any _ _).mono ?_
            rintro e w9 ⟨rfl, rfl⟩
            rw [hcf]
            have hx9 : Ext wr ((wr.alloc (.cells #[.int .i64 k0, .int .i64 a, .int .i64 b] 47 (0, 0))).alloc (.cells #[.int .i64 x1, .int .i64 (b2 x2)] 96 (0, 0))) := ((Ext.refl wr).alloc _).alloc _
            go_wp2
            go_roundw
            case rel =>
              refine ⟨j + 1, ph, by omega, by rw [HK.out, hk, hk9]; rfl, by rw [HS.out, hst], rfl, by go_num, by rw [HS.out, hst]; exact hph, by omega, ?_, ?_, ?_, HEs.out.trans hx9⟩
              · rw [HS.out, hst]; exact Lib.hid (own_ext OV.out hx9)
              · rw [HM.out, hcf]; exact Lib.hid (own_ext OM.out hx9)
              · rw [HS.out, hst]; exact Lib.hid (own_ext OG.out hx9)
            case measure => simp [intOf]; omega
          · obtain ⟨c, hcf⟩ : ∃ c, cfK k0 = c := ⟨_, rfl⟩
            have hc1 : 1 ≤ c ∧ c ≤ 7 := by
              have h : k0 = 4 ∨ k0 = 5 ∨ k0 = 6 ∨ k0 = 7 ∨ k0 = 8 := by omega
              rcases h with rfl | rfl | rfl | rfl | rfl <;> (subst hcf; decide)
            have hst : stepF σ j k0 a b = rotG σ j a c := by
              unfold stepF
              rw [if_neg (by omega), if_neg (by omega), if_neg (by omega), if_neg (by omega), if_pos (by omega), hcf]
              rfl
            have hk9 : (k0 == 1) = false := by simp; omega
            obtain ⟨wO, hwO⟩ : ∃ x, x = wr := ⟨_, rfl⟩
            subst hwO
            obtain ⟨ag, cg, rfl, hg1, hg2, hg3⟩ := own_shape OG.out
            have zM : wO.cell? ⟨wA.heap.size, j, none⟩ = some (.bool false) := (OM.out.cellAt j (by rw [Nat.mul_one]; exact hlt)).trans (by simp [mkB, hlt])
            have HG4 : Hid (∀ g, ag = some ⟨g, 0, none⟩ → 0 < σ.G.length → g < wO.heap.size) := Lib.hid (fun g e h => by
              obtain ⟨g2, e2, _, h2, _⟩ := hg3 h
              rw [e] at e2
              cases e2
              exact h2)
            have HG1 := Lib.hid hg1
            clear hg3 hg2 hg1
            go_wp2_with fail
            refine (l13Coef_any _ _).mono ?_
            rintro e w9 ⟨rfl, rfl⟩
            rw [hcf]
            have hnc : ((c : Int) == 0) = false := by simp; omega
            obtain ⟨wL, hwL⟩ : ∃ x, x = ((wO.setCell ⟨wA.heap.size, j, none⟩ (.bool true)).alloc (.cells #[.int .i64 k0, .int .i64 a, .int .i64 b] 47 (0, 0))).alloc (.cells #[.int .i64 x1, .int .i64 (b2 x2)] 96 (0, 0)) := ⟨_, rfl⟩
            have HLV : Hid (wL.ownsRow w1.heap.size 96 2 (.slice (some ⟨Bt, 0, none⟩) Q cv) Q (IL (VC σ.V))) := by
              rw [hwL]
              exact Lib.hid (((own_setn OV.out (fun k hk => by cases hk; exact hBM) _).alloc _).alloc _)
            have HLM : Hid (wL.ownsRow wA.heap.size 4 1 (.slice (some ⟨wA.heap.size, 0, none⟩) n n) n (mkB xs n (j + 1))) := by
              rw [hwL, HM.out, hcf, if_pos (by omega)]
              exact Lib.hid (((OM.out.stored j _).1.alloc _).alloc _)
            have HLG : Hid (wL.ownsRow (wA.heap.size + 1) 99 4 (.slice ag σ.G.length cg) σ.G.length (IL (GC σ.G))) := by
              rw [hwL]
              exact Lib.hid (((own_set OG.out (by show wA.heap.size < wA.heap.size + 1; omega) _).alloc _).alloc _)
            have HLE : Hid (Ext w1 wL) := by rw [hwL]; exact Lib.hid (((HEs.out.setCell (by show w1.heap.size ≤ wA.heap.size; exact HE.out.size) _).alloc _).alloc _)
            have HLH : Hid (wL.heap[wO.heap.size + 1]? = some (.cells #[.int .i64 x1, .int .i64 (b2 x2)] 96 (0, 0))) := by
              rw [hwL]
              have h := heap_alloc_new ((wO.setCell ⟨wA.heap.size, j, none⟩ (.bool true)).alloc (.cells #[.int .i64 k0, .int .i64 a, .int .i64 b] 47 (0, 0))) (.cells #[.int .i64 x1, .int .i64 (b2 x2)] 96 (0, 0))
              have e : ((wO.setCell ⟨wA.heap.size, j, none⟩ (.bool true)).alloc (.cells #[.int .i64 k0, .int .i64 a, .int .i64 b] 47 (0, 0))).heap.size = wO.heap.size + 1 := by simp
              rw [e] at h
              exact Lib.hid h
            go_wp2
            rw [← hwL]
            clear hwL zV0 zV1 zW0 zW1 z0 z1 z2 zM
            go_loopw [10, 15, 16, 134] (fun u10 u15 u16 u134 wx => ∃ (i p kk : Nat) (fb : Bool) (G' : List Gp), i ≤ σ.G.length ∧ u10 = .int .i64 p ∧ u15 = .int .i64 kk ∧ u16 = .bool fb ∧ u134 = .int .i64 i ∧ Hid (LG σ.G x1 x2 c ph i p kk fb G') ∧ Hid (wx.ownsRow w1.heap.size 96 2 (.slice (some ⟨Bt, 0, none⟩) Q cv) Q (IL (VC σ.V))) ∧ Hid (wx.ownsRow wA.heap.size 4 1 (.slice (some ⟨wA.heap.size, 0, none⟩) n n) n (mkB xs n (j + 1))) ∧ Hid (wx.ownsRow (wA.heap.size + 1) 99 4 (.slice ag σ.G.length cg) σ.G.length (IL (GC G'))) ∧ Hid (wx.heap[wO.heap.size + 1]? = some (.cells #[.int .i64 x1, .int .i64 (b2 x2)] 96 (0, 0))) ∧ Ext w1 wx) (fun _ _ _ u134 _ => σ.G.length - (intOf u134).toNat)
            case atStart => exact ⟨0, ph, c, false, σ.G, by omega, rfl, rfl, rfl, rfl, Lib.hid (.inl ⟨by omega, rfl, rfl, rfl, rfl⟩), HLV, HLM, HLG, HLH, HLE.out⟩
            case round =>
              clear HLV HLM HLG HLH HLE
              obtain ⟨i, p, kk, fb, G', hi, rfl, rfl, rfl, rfl, HLL, XV, XM, XG, XH, hX⟩ := hrel
              have HX := Lib.hid hX
              have HGl := LG_len HLL.out
              have hgl4 : σ.G.length ≤ 400 := by have := HI.out.gl; omega
              have q2 := fun k => cell_of_row _ _ k _ _ _ XH.out
              have lH := (Array.getElem?_eq_some_iff.1 XH.out).1
              clear hX
              by_cases hi2 : i < σ.G.length
              · have hi3 : (i : Int) < σ.G.length := by omega
                obtain ⟨ag2, cg2, e2, hg1, hg2, hg3⟩ := own_shape XG.out
                injection e2 with e2 _ e3
                subst e2 e3
                obtain ⟨Bg, rfl, hb1, hb2, hb3, hb4⟩ := hg3 (by omega)
                have HGA := GC_at (G := G') (i := i) (by omega)
                have y0 := hb3 _ _ HGA.1
                have y1' := hb3 _ _ HGA.2.1
                have y2' := hb3 _ _ HGA.2.2.1
                have y3 := hb3 _ _ HGA.2.2.2
                clear HGA hb3
                have hgc : (gAt G' i).c < 8 := by
                  rcases HLL.out with ⟨_, _, _, _, e⟩ | ⟨_, h2, _, _, _, e⟩
                  · rw [e]; exact (HI.out.gt i hi2).2.1
                  · rw [e, gAt_set h2]
                    split
                    · exact Nat.mod_lt _ (by decide)
                    · exact (HI.out.gt i hi2).2.1
                rcases LG_cases HI.out.gd hi2 HLL.out with ⟨hif, hpp0, hkk0, rfl, rfl, hv⟩ | ⟨hv, HL2⟩
                · subst p kk
                  have hfl : fdG σ.G x1 < σ.G.length := by omega
                  have HN := Lib.hid (fun d hd => LG_next (G := σ.G) (v := x1) (c := c) (ph := ph) (p2 := x2) (d := d) hfl hd)
                  have HGS := Lib.hid (fun cc => GC_set (G := σ.G) (i := i) (c := cc) hi2)
                  have hbo := HG4.out Bg rfl (by omega)
                  have hbn : wO.heap.size + 1 ≠ Bg := by omega
                  have hlb : Bt < wA.heap.size := hB2
                  have hBg1 : Bt ≠ Bg := by omega
                  have hBg2 : wA.heap.size ≠ Bg := by omega
                  have hBg3 : w1.heap.size ≤ Bg := by have := HE.out.size; omega
                  rw [← hif] at HN
                  rw [hv] at y0
                  clear hv hif hfl
                  generalize hgg : gAt σ.G i = gg at *
                  have hd := HN.out _ rfl
                  cases hdd : (x2 != gg.p)
                  · have hpp : x2 = gg.p := by simpa using hdd
                    rw [hdd] at hd
                    have Hd := Lib.hid hd
                    have HGS2 := Lib.hid (HGS.out ((gg.c + c) % 8))
                    clear hd HN HGS hdd
                    rw [← hpp] at y1'
                    clear hpp
                    go_wp2_with fail
                    refine ⟨⟨i + 1, ph, c, true, _, by omega, rfl, rfl, rfl, by go_num, Hd, ?_, ?_, ?_, ?_, ?_⟩, ?_⟩
                    · exact Lib.hid ((own_setn XV.out (fun k hk => by cases hk; exact hBg1) _).alloc _)
                    · exact Lib.hid ((own_setn XM.out (fun k hk => by cases hk; exact hBg2) _).alloc _)
                    · refine Lib.hid ?_
                      have h9 := ((XG.out.stored (i * 4 + 3) (.int .i64 (((gg.c + c) % 8 : Nat) : Int))).1.alloc (.cells #[.int .i64 x1, .int .i64 (b2 x2), .int .i64 gg.t, .int .i64 gg.c] 99 (0, 0)))
                      rw [← HGS2.out] at h9
                      exact h9
                    · exact Lib.hid (row_farF ((Below.heap_setCell _ _ _ _ hbn).trans XH.out) ((Ext.refl _).alloc _))
                    · exact (HX.out.setCell hBg3 _).alloc _
                    · simp [intOf]; omega
                  · have hpp : x2 ≠ gg.p := by simpa using hdd
                    have hp1 : (b2 gg.p == b2 x2) = false := by revert hpp; cases x2 <;> cases gg.p <;> decide
                    have hp2 : b2 gg.p ≠ b2 x2 := by simpa using hp1
                    rw [hdd] at hd
                    have Hd := Lib.hid hd
                    have HGS2 := Lib.hid (HGS.out ((gg.c + (8 - c)) % 8))
                    have hc8 : (8 : Int) - c = ((8 - c : Nat) : Int) := by omega
                    clear hd HN HGS hdd hpp
                    go_wp2_with fail
                    refine ⟨⟨i + 1, ph + c, 8 - c, true, _, by omega, by go_num, by go_num, rfl, by go_num, Hd, ?_, ?_, ?_, ?_, ?_⟩, ?_⟩
                    · exact Lib.hid ((own_setn XV.out (fun k hk => by cases hk; exact hBg1) _).alloc _)
                    · exact Lib.hid ((own_setn XM.out (fun k hk => by cases hk; exact hBg2) _).alloc _)
                    · refine Lib.hid ?_
                      have h9 := ((XG.out.stored (i * 4 + 3) (.int .i64 (((gg.c + (8 - c)) % 8 : Nat) : Int))).1.alloc (.cells #[.int .i64 x1, .int .i64 (b2 gg.p), .int .i64 gg.t, .int .i64 gg.c] 99 (0, 0)))
                      rw [← HGS2.out] at h9
                      exact h9
                    · exact Lib.hid (row_farF ((Below.heap_setCell _ _ _ _ hbn).trans XH.out) ((Ext.refl _).alloc _))
                    · exact (HX.out.setCell hBg3 _).alloc _
                    · simp [intOf]; omega
                · have hL2 := Lib.hid HL2
                  generalize gAt G' i = gg at *
                  have hv1 : ((gg.v : Int) == x1) = false := by simp; omega
                  have hv2 : (gg.v : Int) ≠ x1 := by omega
                  clear HL2 hv
                  go_wp2_with fail
                  go_roundw
                  case rel =>
                    have hxx := (Ext.refl wr).alloc (.cells #[.int .i64 gg.v, .int .i64 (b2 gg.p), .int .i64 gg.t, .int .i64 gg.c] 99 (0, 0))
                    exact ⟨i + 1, p, kk, fb, G', by omega, rfl, rfl, rfl, by go_num, hL2, Lib.hid (own_ext XV.out hxx), Lib.hid (own_ext XM.out hxx), Lib.hid (own_ext XG.out hxx), Lib.hid (row_farF XH.out hxx), HX.out.trans hxx⟩
                  case measure => simp [intOf]; omega
              · obtain rfl : i = σ.G.length := by omega
                rcases LG_end (j := j) hxa (by omega) hph HLL.out with ⟨rfl, h1, h2, h3, h4⟩ | ⟨rfl, h1, rfl, rfl, rfl, h3, h4⟩
                · have H1 := Lib.hid h1
                  have H3 := Lib.hid h3
                  have H4 := Lib.hid h4
                  clear h1 h3 h4
                  go_wp2_with fail
                  go_roundw
                  case rel =>
                    refine ⟨j + 1, p, by omega, by rw [HK.out, hk, hk9]; rfl, by rw [HS.out, hst]; rfl, rfl, by go_num, by rw [HS.out, hst]; exact H1.out, by omega, ?_, XM, ?_, HX.out⟩
                    · rw [HS.out, hst]; exact XV
                    · rw [HS.out, hst, H3.out, H4.out]; exact XG
                  case measure => simp [intOf]; omega
                · have H1 := Lib.hid h1
                  have H3 := Lib.hid h3
                  have H4 := Lib.hid h4
                  clear h1 h3 h4
                  have hxx := (Ext.refl wr).alloc (.cells #[.int .i64 x1, .int .i64 (b2 x2), .int .i64 j, .int .i64 kk] 99 (0, 0))
                  have HXX := Lib.hid hxx
                  have HO3 := Lib.hid (own_ext XG.out hxx)
                  have HM3 := Lib.hid (heap_alloc_new wr (.cells #[.int .i64 x1, .int .i64 (b2 x2), .int .i64 j, .int .i64 kk] 99 (0, 0)))
                  have hb0 : wA.heap.size + 1 ≤ (wr.alloc (.cells #[.int .i64 x1, .int .i64 (b2 x2), .int .i64 j, .int .i64 kk] 99 (0, 0))).heap.size := by
                    have h1 := HXX.out.size
                    omega
                  clear hxx
                  go_upto_region 44 with (at_builtin; go_loud (refine wpList_append_rvt (base := wA.heap.size + 1) rfl elt_Gs rfl (.slice ag σ.G.length cg) σ.G.length (GC σ.G) rfl HO3.out _ 1 [(x1 : Int), b2 x2, (j : Int), (kk : Int)] rfl (rv_heap HM3.out rfl rfl (by omega) (by decide)) (by omega) hb0 ?_); intro v5 w5 hown5 hgrow5 hiff5 hloc5)
                  have hlt5 : ∀ k, (Value.slice ag σ.G.length cg).ownBlock = some k → wA.heap.size + 1 ≤ k := fun k e => (HO3.out.lt k e).1
                  have HE5 := Lib.hid (Ext.grown (HX.out.trans HXX.out) hgrow5 (fun k e => by have h1 := hlt5 k e; have h2 := HE.out.size; omega))
                  have HV5 := Lib.hid (own_grown (own_ext XV.out HXX.out) hgrow5 hlt5 (fun k e => by cases e; exact Nat.lt_succ_of_lt hB2))
                  have HM5 := Lib.hid (own_grown (own_ext XM.out HXX.out) hgrow5 hlt5 (fun k e => by cases e; exact Nat.lt_succ_self _))
                  rw [il_append] at hown5
                  have HG5 := Lib.hid hown5
                  clear hown5 hgrow5 hiff5 hloc5 hlt5
                  go_wp2
                  go_roundw
                  case rel =>
                    refine ⟨j + 1, p, by omega, by rw [HK.out, hk, hk9]; rfl, by rw [HS.out, hst]; rfl, rfl, by go_num, by rw [HS.out, hst]; exact H1.out, by omega, ?_, HM5, ?_, HE5.out⟩
                    · rw [HS.out, hst]; exact HV5
                    · rw [HS.out, hst, H3.out, H4.out, il_append]; exact HG5
                  case measure => simp [intOf]; omega
        · obtain rfl : j = n := by omega
          obtain ⟨ag, cg, rfl, hg1, hg2, hg3⟩ := own_shape OG.out
          have hgl := HI.out.gl
          generalize hσ : fsS Q xs j = σ at *
          obtain ⟨wB, hwB⟩ : ∃ x, x = wr := ⟨_, rfl⟩
          subst hwB
          go_wp2_with fail
          go_loopw [19, 181] (fun u19 u181 wr => ∃ i : Nat, i ≤ σ.G.length ∧ u181 = .int .i64 i ∧ Hid (wr.ownsRow wB.heap.size 34 2 u19 i (IL (FC (σ.G.take i)))) ∧ Ext wB wr) (fun _ u181 _ => σ.G.length - (intOf u181).toNat)
          case atStart => exact ⟨0, by omega, rfl, Lib.hid (own_nil _ _ _ _), Ext.refl _⟩
          case round =>
            obtain ⟨i, hi2, rfl, HO2, hE2⟩ := hrel
            have HE2 := Lib.hid hE2
            obtain ⟨av2, cv2, rfl, _, _, _⟩ := own_shape HO2.out
            by_cases hlt2 : i < σ.G.length
            · obtain ⟨Bg, rfl, hb1, hb2, hb3, _⟩ := hg3 (by omega)
              have HGA := GC_at hlt2
              have z0 := (hE2.cells.1 Bg _ hb2).trans (hb3 _ _ HGA.1)
              have z1 := (hE2.cells.1 Bg _ hb2).trans (hb3 _ _ HGA.2.1)
              have z2 := (hE2.cells.1 Bg _ hb2).trans (hb3 _ _ HGA.2.2.1)
              have z3 := (hE2.cells.1 Bg _ hb2).trans (hb3 _ _ HGA.2.2.2)
              have lg : Bg < wr.heap.size := by have := hE2.size; omega
              have hlt3 : (i : Int) < σ.G.length := by omega
              have HT : Hid (IL (FC (σ.G.take (i + 1))) = IL (FC (σ.G.take i)) ++ IL (fcC (gAt σ.G i))) := by rw [List.take_add_one, List.getElem?_eq_getElem hlt2, gAt_get hlt2]; exact FC_snoc _ _
              clear HGA hb3 hE2
              generalize gAt σ.G i = gg at *
              have hxx : Ext wr ((wr.alloc (.cells #[.int .i64 gg.v, .int .i64 (b2 gg.p), .int .i64 gg.t, .int .i64 gg.c] 99 (0, 0))).alloc (.cells #[.int .i64 gg.t, .int .i64 gg.c] 34 (0, 0))) := (((Ext.refl wr).alloc _).alloc _)
              have HO3 := Lib.hid (own_ext HO2.out hxx)
              have M3 : ((wr.alloc (.cells #[.int .i64 gg.v, .int .i64 (b2 gg.p), .int .i64 gg.t, .int .i64 gg.c] 99 (0, 0))).alloc (.cells #[.int .i64 gg.t, .int .i64 gg.c] 34 (0, 0))).heap[wr.heap.size + 1]? = some (.cells #[.int .i64 gg.t, .int .i64 gg.c] 34 (0, 0)) := by
                have h := heap_alloc_new (wr.alloc (.cells #[.int .i64 gg.v, .int .i64 (b2 gg.p), .int .i64 gg.t, .int .i64 gg.c] 99 (0, 0))) (.cells #[.int .i64 gg.t, .int .i64 gg.c] 34 (0, 0))
                have e : (wr.alloc (.cells #[.int .i64 gg.v, .int .i64 (b2 gg.p), .int .i64 gg.t, .int .i64 gg.c] 99 (0, 0))).heap.size = wr.heap.size + 1 := by simp
                rw [e] at h
                exact h
              have HM3 := Lib.hid M3
              have hsz3 : wB.heap.size ≤ ((wr.alloc (.cells #[.int .i64 gg.v, .int .i64 (b2 gg.p), .int .i64 gg.t, .int .i64 gg.c] 99 (0, 0))).alloc (.cells #[.int .i64 gg.t, .int .i64 gg.c] 34 (0, 0))).heap.size := Nat.le_trans HE2.out.size hxx.size
              have HXX := Lib.hid hxx
              clear M3 hxx
              go_upto_region 50 with (at_builtin; go_loud (refine wpList_append_rvt (base := wB.heap.size) rfl elt_Fd rfl (.slice av2 i cv2) i (FC (σ.G.take i)) rfl HO3.out _ 1 [gg.t, gg.c] rfl (rv_heap HM3.out rfl rfl (by omega) (by decide)) (by omega) hsz3 ?_); intro v5 w5 hown5 hgrow5 hiff5 hloc5)
              have hx5 : Ext wB w5 := ext_grownB (HE2.out.trans HXX.out) hgrow5 HO3.out (Nat.le_refl _)
              have HO5 : Hid (w5.ownsRow wB.heap.size 34 2 v5 (i + 1) (IL (FC (σ.G.take (i + 1))))) := by
                rw [HT.out]
                have h5 := hown5
                rw [il_append] at h5
                exact h5
              have HX5 := Lib.hid hx5
              clear hown5 hgrow5 hiff5 hloc5 hx5
              go_wp2
              go_roundw
              case rel => exact ⟨i + 1, by omega, by go_num, HO5, HX5.out⟩
              case measure => simp [intOf]; omega
            · obtain rfl : σ.G.length = i := by omega
              go_wp2_with fail
              (try simp only [Exit.inBlock, Exit.then])
              refine bodyPost_ret (results_tmp4 rfl _ _ _) rfl ?_
              refine ⟨.slice av2 σ.G.length cv2, .slice (some ⟨wA.heap.size, 0, none⟩) j j, ?_, ?_, fun h => (by rw [hk] at h; cases h), ?_⟩
              · rw [hk, hσ, if_pos rfl, ← hph]
                simp only [Int.natCast_emod]
                rfl
              · intro _
                rw [hσ]
                have h1 := own_base HO2.out (base' := w.heap.size) (by have := HEs.out.size; omega)
                have h2 := own_base (own_ext OM.out HE2.out) (base' := w.heap.size) (by omega)
                rw [List.take_length] at h1
                exact ⟨h1, h2⟩
              · exact HE1.out.trans (HEs.out.trans HE2.out)

end Go.Proofs.Ytbddgeoaaklgpaa
