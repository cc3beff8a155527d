/- Regions that draw and write: blocks that they do not write. -/
import Derived.Test.YtamiploliebplaaDoorWr
namespace Go.Proofs.YtamiploliebplaaDoor
open Go.RowKit

/-- a block that was there and is not written -/
theorem Wr.ww_old {P : Program} {ops : Array Oper} {kl : List Wr.K} {W0 : World} {Ss : List Wr.Slot} {Q : Exit → Act → World → Prop} {l : List Oper} {a : Act} (B : Nat) (hl : B < W0.heap.size) (hn : B ∉ Ss.map (·.B))
    (h : (∀ (x : Wr.Xf (Ss.map (·.B)) W0 (fun _ => True)) (k : Nat), x.w.cell? ⟨B, k, none⟩ = W0.cell? ⟨B, k, none⟩) → Wr.WW P ops Ss W0 Q l kl a) : Wr.WW P ops Ss W0 Q l kl a :=
  h fun x k => x.2.1.cell B k hl hn
theorem GX.same {S : List Nat} {a b : World} {k : Nat} (h : GX (k :: S) a b) (hk : b.heap[k]? = a.heap[k]?) : GX S a b :=
  ⟨h.os, h.tape, h.output, h.size, fun i hi hn => by
    by_cases e : i = k
    · subst e; exact hk
    · exact h.block i hi (by simp; exact ⟨e, hn⟩)⟩
theorem own_gx {S : List Nat} {w w' : World} {base : Nat} {e : TypeId} {size : Nat} {v : Value} {n : Nat} {xs : List Value} (h : w.ownsRow base e size v n xs) (hg : GX S w w') (hS : ∀ k, k ∈ S → k < base) : w'.ownsRow base e size v n xs := by
  refine ⟨h.1, ?_⟩
  rcases h.2 with hn | ⟨g, cap, cur, hv, hb, hh, r⟩
  · exact .inl hn
  · exact .inr ⟨g, cap, cur, hv, hb, (hg.heap (Array.getElem?_eq_some_iff.1 hh).1 (fun hm => by have := hS g hm; omega)).trans hh, r⟩


open Go.RowKit
set_option linter.unusedVariables false
set_option linter.unusedSimpArgs false
namespace Wr

/-- the kinds, the maker's among them -/
def kx (kl : List K) (e : Nat) (v : Value) : List K := kl ++ List.replicate (e - kl.length) (.quiet undef []) ++ [.quiet v []]
theorem kx_lt {kl : List K} {e i : Nat} {v : Value} (h : i < kl.length) : K.at (kx kl e v) i = K.at kl i := by
  unfold K.at kx
  simp only [List.getD_eq_getElem?_getD, List.append_assoc]
  rw [List.getElem?_append_left h]
theorem kx_e {kl : List K} {e : Nat} {v : Value} (h : kl.length ≤ e) : K.at (kx kl e v) e = .quiet v [] := by
  unfold K.at kx
  simp only [List.getD_eq_getElem?_getD]
  rw [List.getElem?_append_right (by simp; omega)]
  have : e - (kl ++ List.replicate (e - kl.length) (K.quiet undef [])).length = 0 := by simp; omega
  rw [this]
  rfl
theorem kx_far {kl : List K} {e j : Nat} {v : Value} (hle : kl.length ≤ e) (h : kl.length ≤ j) (hne : j ≠ e) : K.at (kx kl e v) j = .quiet undef [] := by
  unfold K.at kx
  simp only [List.getD_eq_getElem?_getD, List.append_assoc]
  rw [List.getElem?_append_right h]
  by_cases h1 : j < e
  · rw [List.getElem?_append_left (by simp; omega)]
    rw [List.getElem?_replicate]
    split <;> rfl
  · rw [List.getElem?_eq_none (by simp; omega)]
    rfl

theorem act_ext {a b : Act} (h1 : a.tmps = b.tmps) (h2 : a.defers = b.defers) : a = b := by
  cases a
  cases b
  simp only at h1 h2
  rw [h1, h2]

section
variable {P : Program} {ops : Array Oper} {kl : List K} {a0 : Act} {W0 : World} {Ss : List Slot}

theorem contL_same {kl' : List K} {L : Nat → Bool} {s : Nat} (h : ∀ j b acc, upd b (K.at kl j) s acc = upd b (K.at kl' j) s acc) : ∀ n, contL Ss kl L s n = contL Ss kl' L s n
  | 0 => rfl
  | n + 1 => by unfold contL; rw [contL_same h n, h]
theorem Inv.other {e : Nat} {v v' : Value} {L : Array Bool} {a : Act} {W : World} (h : Inv ops (kx kl e v) a0 Ss W0 L a W) (hle : kl.length ≤ e) (hun : L.getD e false = false) : Inv ops (kx kl e v') a0 Ss W0 L a W := by
  have hk : ∀ j, j ≠ e → K.at (kx kl e v) j = K.at (kx kl e v') j := by
    intro j hj
    rcases Nat.lt_or_ge j kl.length with h2 | h2
    · rw [kx_lt h2, kx_lt h2]
    · rw [kx_far hle h2 hj, kx_far hle h2 hj]
  refine ⟨h.lsize, h.closed, h.defers, h.size, fun i d hi hl hd => ?_, h.off, h.gx, fun s hs' => ?_⟩
  · have hie : i ≠ e := by intro e2; rw [e2, hun] at hl; cases hl
    rw [← hk i hie]
    exact h.on i d hi hl hd
  · rw [← contL_same (kl := kx kl e v) (fun j b acc => ?_)]
    · exact h.cont s hs'
    · by_cases e2 : j = e
      · subst e2
        rw [kx_e hle, kx_e hle]
        rfl
      · rw [hk j e2]

theorem any_wra {m e : Nat} {mk : Nat → Value} {te : TypeId} {obj : Array Value} {Q : Exit → Act → World → Prop} {l : List Oper} (hops : ops = l.toArray) (hs : Ssa ops m) (hm : a0.tmps.size = m) (hn : (Ss.map (·.B)).Nodup) (hw : ∀ v, wrB ops (kx kl e v) = true) (ht : tailB ops (e + 1) = true) (hkl : kl.length = e)
    (hob : ∀ (i : Nat) (o : Oper), i < e → ops[i]? = some o → Ob P ops Ss (kl.take i) W0 o (K.at kl i) (finN ops kl a0 i))
    (hmaker : ∃ oe, ops[e]? = some oe ∧ Region.wanted oe (yielded ops (finN ops kl a0 e).tmps) = true ∧ ∀ W, GX (Ss.map (·.B)) W0 W → (execOp (finN ops kl a0 e).eval oe).run P W = .ok (.value (mk W.heap.size)) (W.alloc (.cells obj te)))
    (hfin : ∀ W B, GX (Ss.map (·.B)) W0 W → (∀ s, s < Ss.length → holdsAt W Ss s (cur Ss kl s)) → W0.heap.size ≤ B → W.heap[B]? = some (.cells obj te (0, 0)) → wpList P ops Q (l.drop (e + 1)) ((finN ops kl a0 e).put (dstOf ops e) (mk B)) W) :
    ∀ (fuel : Nat) (L : Array Bool) (a : Act) (W : World) (ve : Value), Inv ops (kx kl e ve) a0 Ss W0 L a W →
      (L.getD e false = true → ∃ B, W0.heap.size ≤ B ∧ (∀ s, s < Ss.length → slotB Ss s ≠ B) ∧ ve = mk B ∧ W.heap[B]? = some (.cells obj te (0, 0))) →
      (∀ t, e + 1 ≤ t → L.getD t false = false) → unl L (e + 1) = fuel → wpAny P .any ops Q (fuel + (ops.size - (e + 1))) L a W := by
  unfold tailB at ht
  simp only [Bool.and_eq_true, decide_eq_true_eq] at ht
  obtain ⟨⟨hnle, ht1⟩, ht2⟩ := ht
  have hopl : ops.size = l.length := by rw [hops]; simp
  have hfarW : ∀ ve j s, e ≤ j → (K.at (kx kl e ve) j).writes s = false := by
    intro ve j s hj
    by_cases e2 : j = e
    · subst e2; rw [kx_e (by omega)]; rfl
    · rw [kx_far (by omega) (by omega) e2]; rfl
  have hfinN : ∀ ve i, i ≤ e → finN ops (kx kl e ve) a0 i = finN ops kl a0 i := by
    intro ve i hi
    unfold kx
    rw [List.append_assoc]
    exact finN_append _ i (by omega)
  have hcur : ∀ ve i s, i ≤ e → contL Ss (kx kl e ve) (fun _ => true) s i = cur Ss (kl.take i) s := by
    intro ve i s hi
    unfold cur
    have h1 : (kl.take i).length = i := by simp; omega
    rw [h1]
    have := contL_append (Ss := Ss) (kl := kl.take i) s (kl.drop i ++ (List.replicate (e - kl.length) (.quiet undef []) ++ [.quiet ve []])) i (by omega)
    rw [← List.append_assoc, List.take_append_drop, ← List.append_assoc] at this
    exact this
  intro fuel
  induction fuel with
  | zero =>
    intro L a W ve h hB hoff hu
    have hall := unl_zero (e + 1) hu
    obtain ⟨B, b1, b2, rfl, b4⟩ := hB (hall e (by omega))
    have hLe : L = ((List.range ops.size).map fun i => decide (i < e + 1)).toArray := by
      apply Array.ext
      · simp [h.lsize]
      · intro i h1 h2
        have h3 : L.getD i false = L[i] := by simp [h1]
        have h4 : L.getD i false = decide (i < e + 1) := by
          by_cases e1 : i < e + 1
          · rw [hall i e1]; simp [e1]
          · rw [hoff i (by omega)]; simp [e1]
        rw [← h3, h4]
        simp
    have hdl : ops.size - (e + 1) = (l.drop (e + 1)).length := by rw [hopl]; simp
    rw [Nat.zero_add, hdl]
    refine wpAny_of_seq (l.drop (e + 1)) (e + 1) L a W (fun j => by rw [hops]; simp [List.getElem?_drop]) (by rw [← hdl, hLe]; exact ht2) ?_
    have hae : a = (finN ops kl a0 e).put (dstOf ops e) (mk B) := by
      obtain ⟨f1, f2, f3, f4⟩ := finN_get (kl := kl) hs hm e (by omega)
      have hlt : ∀ j, L.getD j false = true → j < e ∨ j = e := fun j hl => by
        rcases Nat.lt_or_ge j (e + 1) with h2 | h2
        · omega
        · rw [hoff j h2] at hl; cases hl
      have hLe1 := hall e (by omega)
      have htm : a.tmps = ((finN ops kl a0 e).put (dstOf ops e) (mk B)).tmps := by
        apply Array.ext_getElem?
        intro t
        by_cases hte : dstOf ops e = some t
        · rw [h.on e t (by omega) hLe1 hte, kx_e (by omega), hte]
          have hb := hs.bd e t (by omega) hte
          simp [Act.put, f2, hm, hb, K.val]
        · have hput : ((finN ops kl a0 e).put (dstOf ops e) (mk B)).tmps[t]? = (finN ops kl a0 e).tmps[t]? := by
            cases hd : dstOf ops e with
            | none => rfl
            | some d0 =>
              have hne2 : d0 ≠ t := fun e2 => hte (by rw [hd, e2])
              simp only [Act.put]
              rw [Array.getElem?_setIfInBounds_ne hne2]
          rw [hput]
          by_cases hex : ∃ j, j < e ∧ dstOf ops j = some t
          · obtain ⟨j, hj, hd⟩ := hex
            rw [h.on j t (by omega) (hall j (by omega)) hd, f3 j t hj hd, kx_lt (by omega)]
          · rw [h.off t fun j hj hl hd => (hlt j hl).elim (fun h2 => hex ⟨j, h2, hd⟩) (fun h2 => hte (by rw [← h2]; exact hd)), f4 t fun j hj hd => hex ⟨j, hj, hd⟩]
      have hd : a.defers = ((finN ops kl a0 e).put (dstOf ops e) (mk B)).defers := by
        have : ((finN ops kl a0 e).put (dstOf ops e) (mk B)).defers = (finN ops kl a0 e).defers := by cases dstOf ops e <;> rfl
        rw [this]
        exact h.defers.trans f1.symm
      exact act_ext htm hd
    rw [hae]
    refine hfin W B h.gx (fun s hs' => ?_) b1 b4
    have h1 := h.cont s hs'
    rw [contL_none (i := e) ops.size (by omega) fun j hj _ hw => by rw [hfarW _ j s hj] at hw; cases hw] at h1
    rw [contL_all e fun j hj _ => hall j (by omega), hcur _ e s (Nat.le_refl _)] at h1
    rw [List.take_of_length_le (by omega)] at h1
    exact h1
  | succ fuel ih =>
    intro L a W ve h hB hoff hu
    rw [show fuel + 1 + (ops.size - (e + 1)) = (fuel + (ops.size - (e + 1))) + 1 by omega]
    have hsome : ∃ i, i < e + 1 ∧ L.getD i false = false := by
      apply Classical.byContradiction
      intro hno
      have hall : ∀ i, i < e + 1 → L.getD i false = true := by
        intro i hi
        cases hg : L.getD i false with
        | true => rfl
        | false => exact absurd ⟨i, hi, hg⟩ hno
      have : ∀ k, k ≤ e + 1 → unl L k = 0 := by
        intro k
        induction k with
        | zero => intro _; rfl
        | succ k ihk =>
          intro hk
          unfold unl
          rw [ihk (by omega), hall k (by omega)]
          simp
      rw [this (e + 1) (Nat.le_refl _)] at hu
      omega
    refine ⟨fun hr => ?_, fun i hi => ?_⟩
    · exfalso
      obtain ⟨i, hin, hiun⟩ := hsome
      have := all_listed hs h.lsize hr i (by omega)
      rw [hiun] at this
      cases this
    obtain ⟨hun0, o, ho, hall⟩ := mem_ready.1 hi
    have hilt : i < ops.size := (Array.getElem?_eq_some_iff.1 ho).1
    have hil : i < L.size := by rw [h.lsize]; exact hilt
    have hun : L.getD i false = false := by simp [hil] at hun0 ⊢; exact hun0
    have hin : i < e + 1 := by
      rcases Nat.lt_or_ge i (e + 1) with h2 | h2
      · exact h2
      · exfalso
        obtain ⟨j, hjn, hjun⟩ := hsome
        rw [List.all_eq_true] at ht1
        have h3 := ht1 i (List.mem_range.2 hilt)
        simp only [Bool.or_eq_true, decide_eq_true_eq] at h3
        rcases h3 with h3 | h3
        · omega
        · rw [List.all_eq_true] at h3
          have := wt_ready h.closed ho hall _ _ (h3 j (List.mem_range.2 hjn))
          rw [hjun] at this
          cases this
    have hu' : unl (L.setIfInBounds i true) (e + 1) = fuel := by
      have := unl_set hil hun (e + 1) hin
      omega
    have hoff' : ∀ t, e + 1 ≤ t → (L.setIfInBounds i true).getD t false = false := by
      intro t ht
      rw [getD_set hil, if_neg (by omega)]
      exact hoff t ht
    obtain ⟨hx, hwt⟩ := h.sees hs hm hi ho
    by_cases hie : i = e
    · subst hie
      rw [hfinN ve i (Nat.le_refl _)] at hx hwt
      obtain ⟨oe, hoe, hwe, hmk⟩ := hmaker
      obtain rfl : oe = o := Option.some.inj (hoe.symm.trans ho)
      have h' : Inv ops (kx kl i (mk W.heap.size)) a0 Ss W0 L a W := h.other (by omega) hun
      have hlt : ∀ s, s < Ss.length → slotB Ss s < W.heap.size := fun s hs' => by
        have := h.cont s hs'
        unfold holdsAt at this
        exact (Array.getElem?_eq_some_iff.1 this).1
      unfold wpOp
      simp only [ho]
      rw [← hwt] at hwe
      rw [if_pos hwe]
      refine .inl ?_
      unfold Oper.wp
      rw [hx, hmk W h.gx]
      simp only [Oper.upon]
      refine ih _ _ _ _ (h'.quiet hs hm hi ho (kx_e (by omega)) ((Ext.refl W).alloc (.cells obj te))) (fun _ => ⟨W.heap.size, h.gx.size, fun s hs' => by have := hlt s hs'; omega, rfl, heap_alloc_new _ _⟩) hoff' hu'
    rw [hfinN ve i (by omega)] at hx hwt
    have hin' : i < e := by omega
    have hbx : ∀ (W' : World), Ext W W' → ((L.setIfInBounds i true).getD e false = true → ∃ B, W0.heap.size ≤ B ∧ (∀ s, s < Ss.length → slotB Ss s ≠ B) ∧ ve = mk B ∧ W'.heap[B]? = some (.cells obj te (0, 0))) := fun W' hxx hl => by
      rw [getD_set hil, if_neg (fun e2 => hie e2.symm)] at hl
      obtain ⟨B, k1, k2, k3, k4⟩ := hB hl
      exact ⟨B, k1, k2, k3, (hxx.heap (Array.getElem?_eq_some_iff.1 k4).1).trans k4⟩
    have hbg : ∀ (W' : World) (s : Nat), s < Ss.length → W.grownBy W' (some (slotB Ss s)) → ((L.setIfInBounds i true).getD e false = true → ∃ B, W0.heap.size ≤ B ∧ (∀ s, s < Ss.length → slotB Ss s ≠ B) ∧ ve = mk B ∧ W'.heap[B]? = some (.cells obj te (0, 0))) := fun W' s hs' hgg hl => by
      rw [getD_set hil, if_neg (fun e2 => hie e2.symm)] at hl
      obtain ⟨B, k1, k2, k3, k4⟩ := hB hl
      exact ⟨B, k1, k2, k3, (hgg.block B (Array.getElem?_eq_some_iff.1 k4).1 (fun e2 => k2 s hs' (by injection e2 with e3; exact e3.symm))).trans k4⟩
    have hobi := hob i o hin' ho
    have hw' := hw ve
    unfold wrB at hw'
    rw [List.all_eq_true] at hw'
    have hwi := hw' i (List.mem_range.2 hilt)
    rw [kx_lt (show i < kl.length by omega)] at hwi
    unfold wpOp
    simp only [ho]
    cases hk : K.at kl i with
    | quiet u0 rs =>
      have hk' : K.at (kx kl e ve) i = .quiet u0 rs := (kx_lt (by omega)).trans hk
      rw [hk] at hobi hwi
      simp only [Ob] at hobi
      rw [← hx, ← hwt] at hobi
      split
      · rename_i hwt'
        rw [if_pos hwt'] at hobi
        refine .inl ?_
        have h3 := hobi.2 W h.gx fun s hs' => by
          rw [List.all_eq_true] at hwi
          obtain ⟨k1, k2⟩ := h.slot hs hi ho (hwi s hs')
          have h4 := h.cont s (hobi.1 s hs')
          rw [contL_none (i := i) ops.size (by omega) fun j hj hj2 hw => k2 j hj hj2 hw, contL_all i fun j hj hw => k1 j hj hw, hcur ve i s (by omega)] at h4
          exact h4
        unfold Oper.wp
        generalize (execOp a.eval o).run P W = r at *
        cases r with
        | ok nx w' =>
          cases nx <;> simp only [Oper.quietUpon] at h3 <;> simp only [Oper.upon]
          case value u =>
            obtain ⟨rfl, rfl⟩ := h3
            exact ih _ _ _ _ (h.quiet hs hm hi ho hk' (Ext.refl _)) (hbx _ (Ext.refl _)) hoff' hu'
          case skip =>
            obtain ⟨rfl, rfl⟩ := h3
            exact ih _ _ _ _ (h.quiet hs hm hi ho hk' (Ext.refl _)) (hbx _ (Ext.refl _)) hoff' hu'
          case enter f args =>
            obtain ⟨rfl, hc⟩ := h3
            exact hc.mono fun e w'' ⟨he, hx''⟩ => by
              subst he
              exact ih _ _ _ _ (h.quiet hs hm hi ho hk' hx'') (hbx _ hx'') hoff' hu'
        | halt x w' => simp only [Oper.quietUpon] at h3
      · rename_i hwt'
        rw [if_neg hwt'] at hobi
        subst hobi
        exact ih _ _ _ _ (h.quiet hs hm hi ho hk' (Ext.refl _)) (hbx _ (Ext.refl _)) hoff' hu'
    | write u0 s c1 =>
      have hk' : K.at (kx kl e ve) i = .write u0 s c1 := (kx_lt (by omega)).trans hk
      rw [hk] at hobi hwi
      simp only [Ob] at hobi
      simp only at hwi
      rw [← hx, ← hwt] at hobi
      obtain ⟨hwt', hlt, hrun⟩ := hobi
      rw [if_pos hwt']
      refine .inl ?_
      obtain ⟨k1, k2⟩ := h.slot hs hi ho hwi
      have h4 := h.cont s hlt
      rw [contL_none (i := i) ops.size (by omega) fun j hj hj2 hw => k2 j hj hj2 hw, contL_all i fun j hj hw => k1 j hj hw, hcur ve i s (by omega)] at h4
      have h3 := hrun W h.gx h4
      unfold Oper.wp
      generalize (execOp a.eval o).run P W = r at *
      cases r with
      | ok nx w' =>
        cases nx <;> simp only [writeUpon] at h3 <;> simp only [Oper.upon]
        case value u =>
          obtain ⟨rfl, hg, hc⟩ := h3
          exact ih _ _ _ _ (h.write hs hm hn hi ho hk' hlt hwi hg hc) (hbg _ _ hlt hg) hoff' hu'
        case skip =>
          obtain ⟨rfl, hg, hc⟩ := h3
          exact ih _ _ _ _ (h.write hs hm hn hi ho hk' hlt hwi hg hc) (hbg _ _ hlt hg) hoff' hu'
        case enter f args =>
          exact h3.mono fun e w'' ⟨he, hg, hc⟩ => by
            subst he
            exact ih _ _ _ _ (h.write hs hm hn hi ho hk' hlt hwi hg hc) (hbg _ _ hlt hg) hoff' hu'
      | halt x w' => simp only [writeUpon] at h3

def StopA (P : Program) (ops : Array Oper) (Ss : List Slot) (W0 : World) (Q : Exit → Act → World → Prop) (mk : Nat → Value) (te : TypeId) (obj : Array Value) (o : Oper) (rest : List Oper) (kl : List K) (a : Act) : Prop :=
  (∀ v, wrB ops (kx kl kl.length v) = true) ∧ tailB ops (kl.length + 1) = true ∧ Region.wanted o (yielded ops a.tmps) = true ∧ (∀ W, GX (Ss.map (·.B)) W0 W → (execOp a.eval o).run P W = .ok (.value (mk W.heap.size)) (W.alloc (.cells obj te))) ∧
    ∀ W B, GX (Ss.map (·.B)) W0 W → (∀ s, s < Ss.length → holdsAt W Ss s (cur Ss kl s)) → W0.heap.size ≤ B → W.heap[B]? = some (.cells obj te (0, 0)) → wpList P ops Q rest (a.put o.dst (mk B)) W
def WWA (P : Program) (ops : Array Oper) (Ss : List Slot) (W0 : World) (Q : Exit → Act → World → Prop) (mk : Nat → Value) (te : TypeId) (obj : Array Value) : List Oper → List K → Act → Prop
  | [], _, _ => False
  | o :: rest, kl, a => StopA P ops Ss W0 Q mk te obj o rest kl a ∨ ∃ k : K, Ob P ops Ss kl W0 o k a ∧ WWA P ops Ss W0 Q mk te obj rest (kl ++ [k]) (a.put o.dst k.val)

theorem wa_sound {Q : Exit → Act → World → Prop} {mk : Nat → Value} {te : TypeId} {obj : Array Value} {full : List Oper} (hf : ops = full.toArray) : ∀ (l : List Oper) (kl : List K) (A : Act), l = full.drop kl.length → A = finN ops kl a0 kl.length → WWA P ops Ss W0 Q mk te obj l kl A →
    ∃ kl' : List K, (∃ more, kl' = kl ++ more) ∧ (∀ (i : Nat) (o : Oper), kl.length ≤ i → i < kl'.length → ops[i]? = some o → Ob P ops Ss (kl'.take i) W0 o (K.at kl' i) (finN ops kl' a0 i)) ∧
      ∃ o, ops[kl'.length]? = some o ∧ StopA P ops Ss W0 Q mk te obj o (full.drop (kl'.length + 1)) kl' (finN ops kl' a0 kl'.length) := by
  intro l
  induction l with
  | nil => intro kl A hl hA h; exact h.elim
  | cons o rest ih =>
    intro kl A hl hA h
    have h0 : ops[kl.length]? = some o := by
      rw [hf]
      have : (full.drop kl.length)[0]? = some o := by rw [← hl]; rfl
      simpa using this
    have hrest0 : rest = full.drop (kl.length + 1) := by
      rw [← List.drop_drop, ← hl]
      rfl
    rcases h with h | ⟨k, hk, hr⟩
    · refine ⟨kl, ⟨[], by simp⟩, fun i o hi hi2 _ => by omega, o, h0, ?_⟩
      rw [← hA, ← hrest0]
      exact h
    have hrest : rest = full.drop (kl ++ [k]).length := by
      simp only [List.length_append, List.length_cons, List.length_nil, Nat.zero_add]
      exact hrest0
    have hA' : A.put o.dst k.val = finN ops (kl ++ [k]) a0 (kl ++ [k]).length := by
      simp only [List.length_append, List.length_cons, List.length_nil, Nat.zero_add]
      unfold finN
      rw [finN_append [k] kl.length (Nat.le_refl _), hA]
      have e1 : dstOf ops kl.length = o.dst := by simp [dstOf, h0]
      have e2 : K.at (kl ++ [k]) kl.length = k := by simp [K.at]
      rw [e1, e2]
    obtain ⟨kl', ⟨more, rfl⟩, h2, h3⟩ := ih (kl ++ [k]) _ hrest hA' hr
    refine ⟨kl ++ [k] ++ more, ⟨k :: more, by simp⟩, ?_, h3⟩
    intro i o' hi hi2 ho'
    by_cases hik : i = kl.length
    · subst hik
      obtain rfl : o' = o := Option.some.inj (ho'.symm.trans h0)
      have e1 : K.at (kl ++ [k] ++ more) kl.length = k := by simp [K.at]
      rw [e1, List.append_assoc, finN_append _ kl.length (Nat.le_refl _), ← hA, List.take_append_of_le_length (Nat.le_refl _), List.take_length]
      exact hk
    · exact h2 i o' (by simp; omega) hi2 ho'

/-- one walk serves every order -/
theorem wp_region_wra {id m : Nat} {Q : Exit → Act → World → Prop} {l : List Oper} (mk : Nat → Value) (te : TypeId) (obj : Array Value) (Ss : List Slot) (hm : P.follows .mixedOrders = true) (hB : ssaB l.toArray m = true) (hsz : a0.tmps.size = m) (hn : (Ss.map (·.B)).Nodup)
    (h0 : ∀ s, s < Ss.length → holdsAt W0 Ss s (slotC Ss s)) (h : WWA P l.toArray Ss W0 Q mk te obj l [] a0) : (Code.region id l.toArray true).wp P Q a0 W0 := by
  have hs := ssa_of hB
  obtain ⟨kl, -, h2, o, ho, h1, hT, hwt, hmk, h4⟩ := wa_sound (ops := l.toArray) (a0 := a0) (full := l) rfl l [] a0 rfl rfl h
  refine wp_region_any hm ?_
  have hno : ∀ i, (Array.replicate l.toArray.size false).getD i false = false := by
    intro i
    rw [Array.getD_eq_getD_getElem?, Array.getElem?_replicate]
    split <;> rfl
  have hdst : dstOf l.toArray kl.length = o.dst := by simp only [dstOf, ho]; rfl
  have H := any_wra (P := P) (kl := kl) (a0 := a0) (W0 := W0) (Ss := Ss) (Q := Q) (mk := mk) (te := te) (obj := obj) rfl hs hsz hn h1 hT rfl (fun i o hi ho => h2 i o (by simp) hi ho) ⟨o, ho, hwt, hmk⟩ (fun W B => by rw [hdst]; exact h4 W B)
    (kl.length + 1) (Array.replicate l.toArray.size false) a0 { W0 with drawn := W0.drawn + 1 } undef ?_ (fun hl => by rw [hno] at hl; cases hl) (fun t _ => hno t) (unl_none _ fun i _ => hno i)
  · have hnle : kl.length + 1 ≤ l.toArray.size := by
      unfold tailB at hT
      simp only [Bool.and_eq_true, decide_eq_true_eq] at hT
      exact hT.1.1
    have : kl.length + 1 + (l.toArray.size - (kl.length + 1)) = l.toArray.size := by omega
    rw [this] at H
    exact H
  · refine ⟨by simp, ?_, rfl, rfl, ?_, fun _ _ => rfl, (GX.refl _ W0).drew, ?_⟩
    · intro i o _ hl; rw [hno] at hl; cases hl
    · intro i d _ hl; rw [hno] at hl; cases hl
    · intro s hs'
      rw [contL_none (i := 0) l.toArray.size (by omega) fun j _ _ _ => hno j]
      exact h0 s hs'

/-! ### Steps for the walk -/
variable {Q : Exit → Act → World → Prop} {o : Oper} {rest : List Oper} {a : Act} {mk : Nat → Value} {te : TypeId} {obj : Array Value}
theorem wa_quiet (rs : List Nat) (F : World → Prop) (hr : (rs.all fun s => decide (s < Ss.length)) = true) (hF : ∀ W, (∀ s ∈ rs, holdsAt W Ss s (cur Ss kl s)) → F W)
    (h : ∃ v : Value, (if Region.wanted o (yielded ops a.tmps) then ∀ x : Xf (Ss.map (·.B)) W0 F, Oper.quietUpon P (fun w'' => Ext x.w w'') x.w v ((execOp a.eval o).run P x.w) else v = undef) ∧ WWA P ops Ss W0 Q mk te obj rest (kl ++ [.quiet v rs]) (a.put o.dst v)) :
    WWA P ops Ss W0 Q mk te obj (o :: rest) kl a := by
  obtain ⟨v, h1, h2⟩ := h
  refine .inr ⟨.quiet v rs, ?_, h2⟩
  simp only [Ob]
  split
  · rename_i hw
    rw [if_pos hw] at h1
    rw [List.all_eq_true] at hr
    exact ⟨fun s hs => of_decide_eq_true (hr s hs), fun W hg hs => h1 ⟨W, hg, hF W hs⟩⟩
  · rename_i hw
    rw [if_neg hw] at h1
    exact h1
theorem wa_store (s B : Nat) (t : TypeId) (c0 c1 : Array Value) (hw : Region.wanted o (yielded ops a.tmps) = true) (hs : s < Ss.length) (hB : slotB Ss s = B) (ht : slotT Ss s = t) (hc : cur Ss kl s = c0)
    (h1 : ∀ x : Xf (Ss.map (·.B)) W0 (fun W => W.heap[B]? = some (.cells c0 t (0, 0))), ∃ W', (execOp a.eval o).run P x.w = .ok .skip W' ∧ Fill x.w B t c1 W')
    (h2 : WWA P ops Ss W0 Q mk te obj rest (kl ++ [.write undef s c1]) (a.put o.dst undef)) : WWA P ops Ss W0 Q mk te obj (o :: rest) kl a := by
  refine .inr ⟨.write undef s c1, ⟨hw, hs, fun W hg hh => ?_⟩, h2⟩
  unfold holdsAt at hh ⊢
  rw [hc, hB, ht] at hh
  rw [hB, ht]
  obtain ⟨W', hr, hf⟩ := h1 ⟨W, hg, hh⟩
  simp only [Xf.w] at hr hf
  rw [hr]
  exact ⟨rfl, hf.grown, hf.blk⟩
theorem wa_call (v : Value) (s B : Nat) (t : TypeId) (c0 c1 : Array Value) (hw : Region.wanted o (yielded ops a.tmps) = true) (hs : s < Ss.length) (hB : slotB Ss s = B) (ht : slotT Ss s = t) (hc : cur Ss kl s = c0)
    (h1 : ∀ x : Xf (Ss.map (·.B)) W0 (fun W => W.heap[B]? = some (.cells c0 t (0, 0))), ∃ f args, (execOp a.eval o).run P x.w = .ok (.enter f args) x.w ∧
      Calls P f args x.w fun e w'' => e = .returned v ∧ x.w.grownBy w'' (some B) ∧ w''.heap[B]? = some (.cells c1 t (0, 0)))
    (h2 : WWA P ops Ss W0 Q mk te obj rest (kl ++ [.write v s c1]) (a.put o.dst v)) : WWA P ops Ss W0 Q mk te obj (o :: rest) kl a := by
  refine .inr ⟨.write v s c1, ⟨hw, hs, fun W hg hh => ?_⟩, h2⟩
  unfold holdsAt at hh ⊢
  rw [hc, hB, ht] at hh
  rw [hB, ht]
  obtain ⟨f, args, hr, hf⟩ := h1 ⟨W, hg, hh⟩
  simp only [Xf.w] at hr hf
  rw [hr]
  exact hf
theorem wa_read (s B : Nat) (t : TypeId) (c : Array Value) (hs : s < Ss.length) (hB : slotB Ss s = B) (ht : slotT Ss s = t) (hc : cur Ss kl s = c)
    (h : (∀ (x : Xf (Ss.map (·.B)) W0 (fun W => W.heap[B]? = some (.cells c t (0, 0)))) (k : Nat), x.w.cell? ⟨B, k, none⟩ = c[k]?) →
      ∃ v : Value, (if Region.wanted o (yielded ops a.tmps) then ∀ x : Xf (Ss.map (·.B)) W0 (fun W => W.heap[B]? = some (.cells c t (0, 0))), Oper.quietUpon P (fun w'' => Ext x.w w'') x.w v ((execOp a.eval o).run P x.w) else v = undef) ∧ WWA P ops Ss W0 Q mk te obj rest (kl ++ [.quiet v [s]]) (a.put o.dst v)) :
    WWA P ops Ss W0 Q mk te obj (o :: rest) kl a := by
  subst hB
  subst ht
  subst hc
  refine wa_quiet [s] _ (by simpa using hs) (fun W hh => hh s (by simp)) (h fun x k => cell_of_row _ _ _ _ _ _ x.2.2)
theorem wa_plain
    (h : ∃ v : Value, (if Region.wanted o (yielded ops a.tmps) then ∀ x : Xf (Ss.map (·.B)) W0 (fun _ => True), Oper.quietUpon P (fun w'' => Ext x.w w'') x.w v ((execOp a.eval o).run P x.w) else v = undef) ∧ WWA P ops Ss W0 Q mk te obj rest (kl ++ [.quiet v []]) (a.put o.dst v)) :
    WWA P ops Ss W0 Q mk te obj (o :: rest) kl a := wa_quiet [] _ rfl (fun _ _ => trivial) h
theorem wa_old {l : List Oper} (B : Nat) (hl : B < W0.heap.size) (hn : B ∉ Ss.map (·.B))
    (h : (∀ (x : Xf (Ss.map (·.B)) W0 (fun _ => True)) (k : Nat), x.w.cell? ⟨B, k, none⟩ = W0.cell? ⟨B, k, none⟩) → WWA P ops Ss W0 Q mk te obj l kl a) : WWA P ops Ss W0 Q mk te obj l kl a :=
  h fun x k => x.2.1.cell B k hl hn
theorem wa_stop (h1 : ∀ v, wrB ops (kx kl kl.length v) = true) (h2 : tailB ops (kl.length + 1) = true) (hw : Region.wanted o (yielded ops a.tmps) = true)
    (hm : ∀ W, GX (Ss.map (·.B)) W0 W → (execOp a.eval o).run P W = .ok (.value (mk W.heap.size)) (W.alloc (.cells obj te)))
    (h3 : ∀ W B, GX (Ss.map (·.B)) W0 W → (∀ s, s < Ss.length → W.heap[slotB Ss s]? = some (.cells (cur Ss kl s) (slotT Ss s) (0, 0))) → W0.heap.size ≤ B → W.heap[B]? = some (.cells obj te (0, 0)) → wpList P ops Q rest (a.put o.dst (mk B)) W) :
    WWA P ops Ss W0 Q mk te obj (o :: rest) kl a := .inl ⟨h1, h2, hw, hm, h3⟩
end
end Wr
end Go.Proofs.YtamiploliebplaaDoor
