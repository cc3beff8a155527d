/- From a walk that ends in 'true, and all that was there is as it was' to the row's formula; how the values of the parameters are shaped. -/
import Derived.Test.YtamiploliebplaaDoorRows
import Derived.Test.YtamiploliebplaaDoorBase
import Derived.ProofKit
import Derived.OpenShut
namespace Go.Proofs.YtamiploliebplaaDoor
open Go.ChangeShapes Go.WideShapes Go.ChangeAt Go.RowKit

section
variable {H : Type} {enc : TypeId × Value → H} {P : Program}

theorem trodAll_ext (hl : laidOutB P = true) {W W' : World} (hb : Ext W W') :
    ∀ (ts : List TypeId) (vs : List Value) (ds : List (DataW H)) (ps : List MemPlace), (∀ t ∈ ts, P.readableRec t = true ∧ t < P.types.size) →
      DataW.TrodAll enc P W 0 (fun _ => true) true ts vs ds ps → (∀ x ∈ ps, x.block < W.heap.size) → DataW.TrodAll enc P W' 0 (fun b => decide (b < W.heap.size)) true ts vs ds ps := by
  intro ts
  induction ts with
  | nil =>
    intro vs ds ps _ h _
    obtain ⟨rfl, rfl, rfl⟩ := trodAll_nil h
    exact trodAll_mk0
  | cons t ts ih =>
    intro vs ds ps hr h hlt
    obtain ⟨v, vs', d, ds', p, q, rfl, rfl, rfl, h0, h1⟩ := trodAll_cons h
    exact trodAll_cons_mk (Below.trod hl (hr t (by simp)).1 (hr t (by simp)).2 h0 hb (fun x hx => hlt x (by simp [hx])))
      (ih vs' ds' q (fun u hu => hr u (by simp [hu])) h1 (fun x hx => hlt x (by simp [hx])))

theorem post_of_ext {f : Func} {s : ChangeSpec} {W W' : World} {args : Array Value} {ds gs : List (DataW H)} {before : List MemPlace} {t : TypeId}
    (hl : laidOutB P = true) (hr : f.params.all (fun t => P.readableRec t && decide (t < P.types.size)) = true) (hrt : f.resultTypes = #[t]) (ht : P.underlying t = some .bool)
    (hW : DataW.Whole enc P f.params.toList s.vars false W args.toList ds gs before) (hv : s.vars = [])
    (hs : s.fn H (ds ++ gs) = { results := [.lit (.bool true)], args := ds }) (hb : Ext W W') :
    s.post enc P f false true false false W args (.bool true) W' := by
  have hlt : ∀ p ∈ before, p.block < W.heap.size := fun p hp => hW.lt p hp
  have hW0 := hW
  obtain ⟨p, q, hA, hV, rfl, _, _⟩ := hW
  rw [hv] at hV
  obtain ⟨rfl, rfl⟩ := trodVars_none hV
  have hr' : ∀ t ∈ f.params.toList, P.readableRec t = true ∧ t < P.types.size := by
    intro u hu
    have := Array.all_eq_true'.1 hr u (by simpa using hu)
    simpa using this
  refine ⟨ds, [], p ++ [], [], p, [], hW0, ?_, ?_, ?_, Below.frame hb _, fun h => by cases h⟩
  · rw [hrt, hs]
    exact trodAll_cons_mk (shut_bool ht _) trodAll_mk0
  · rw [hs]
    exact trodAll_ext hl hb _ _ _ _ hr' hA (fun x hx => hlt x (by simp [hx]))
  · rw [hv, hs]
    rfl

/-- WHAT VALUES A TYPE HAS that can be read as data (the kinds that are met here). -/
def Shape (P : Program) (w : World) : Nat → TypeId → List Value → Prop
  | 0, _, _ => False
  | n + 1, t, cs => match P.underlying t with
    | some .bool => ∃ b : Bool, cs = [.bool b]
    | some (.int k) => ∃ a : Int, cs = [.int k a] ∧ (Lit.int k a).wf = true
    | some .string => ∃ s : ByteArray, cs = [.string s] ∧ s.size ≤ maxLen
    | some (.slice e) => cs = [.slice none 0 0] ∨ ∃ (a : Addr) (len cap : Nat), cs = [.slice (some a) len cap] ∧ len ≤ cap ∧ cap ≤ maxLen ∧
        ∀ i, i < len → ∃ ecs, w.cells? 0 (a.add (i * P.cellsOf e)) (P.cellsOf e) = some ecs ∧ Shape P w n e ecs
    | some (.struct fs) => cs.length = P.cellsOf t ∧ ∀ (i : Nat) (f : Field), fs[i]? = some f → Shape P w n f.type ((cs.drop f.offset).take (P.cellsOf f.type))
    | _ => True

theorem Shape.of {w : World} {spare : Nat → Bool} {held : Bool} : ∀ (n : Nat) (t : TypeId) (cs : List Value) (x : DataW H × List MemPlace),
    DataW.trod enc P w 0 spare held n t cs = some x → Shape P w n t cs := by
  intro n
  induction n with
  | zero => intro t cs x h; simp [DataW.trod] at h
  | succ n ih =>
    intro t cs x h
    unfold Shape
    split
    · rename_i ht
      obtain ⟨b, hb, _⟩ := DataW.trod_bool ht h
      exact ⟨b, hb⟩
    · rename_i ht
      obtain ⟨b, hb, _, hw⟩ := DataW.trod_int ht h
      exact ⟨b, hb, hw⟩
    · rename_i ht
      obtain ⟨b, hb, _, hw⟩ := DataW.trod_string ht h
      exact ⟨b, hb, hw⟩
    · rename_i e ht
      rcases DataW.trod_slice ht h with ⟨h0, _⟩ | ⟨a, len, cap, elems, rest, m, hm, hcs, _, _, hl, hmm, hlen, hel, _, _⟩
      · exact .inl h0
      · refine .inr ⟨a, len, cap, hcs, hl, hmm, fun i hi => ?_⟩
        obtain rfl : n = m := by omega
        have h1 := hel i hi
        rw [List.getElem?_eq_getElem (by omega)] at h1
        obtain ⟨ecs, h2, h3⟩ := Option.bind_eq_some_iff.1 h1
        exact ⟨ecs, h2, ih _ _ _ h3⟩
    · rename_i fs ht
      obtain ⟨xs, m, hm, _, hlen, hxl, hg⟩ := DataW.trod_struct ht h
      obtain rfl : n = m := by omega
      refine ⟨hlen, fun i f hf => ?_⟩
      have hi : i < xs.length := by rw [hxl]; exact (Array.getElem?_eq_some_iff.1 hf).1
      have := hg i f hf
      rw [List.getElem?_eq_getElem hi] at this
      exact ih _ _ _ this
    · trivial

/-- every cell of the type is an int -/
def allInt (P : Program) : Nat → TypeId → Bool
  | 0, _ => false
  | n + 1, t => match P.underlying t with
    | some (.int .i64) => P.cellsOf t == 1
    | some (.struct fs) => (List.range (P.cellsOf t)).all fun j => fs.toList.any fun f => decide (f.offset ≤ j) && decide (j < f.offset + P.cellsOf f.type) && allInt P n f.type
    | _ => false
def Wi (n : Int) : Prop := -9223372036854775808 ≤ n ∧ n ≤ 9223372036854775807
def I64 (l : List Int) : Prop := ∀ x ∈ l, Wi x
theorem wi_of {a : Int} (h : (Lit.int .i64 a).wf = true) : Wi a := by
  simpa [Wi, Lit.wf, IntKind.min, IntKind.max, IntKind.signed, IntKind.bits] using h
theorem ints_list : ∀ (n : Nat) (cs : List Value), cs.length = n → (∀ j, j < n → ∃ a : Int, cs[j]? = some (.int .i64 a) ∧ Wi a) → ∃ ns : List Int, ns.length = n ∧ cs = ns.map (.int .i64) ∧ I64 ns := by
  intro n
  induction n with
  | zero =>
    intro cs hl _
    obtain rfl := List.eq_nil_of_length_eq_zero hl
    exact ⟨[], rfl, rfl, by simp [I64]⟩
  | succ n ih =>
    intro cs hl h
    match cs, hl with
    | c :: cs, hl =>
      obtain ⟨ns, h1, rfl, h3⟩ := ih cs (by simpa using hl) (fun j hj => by simpa using h (j + 1) (by omega))
      obtain ⟨a, ha, hw⟩ := h 0 (by omega)
      simp at ha
      subst ha
      refine ⟨a :: ns, by simp [h1], by simp, ?_⟩
      intro x hx
      rcases List.mem_cons.1 hx with rfl | hx
      · exact hw
      · exact h3 x hx
theorem Shape.cell {w : World} : ∀ (m n : Nat) (t : TypeId) (cs : List Value), allInt P m t = true → Shape P w n t cs →
    cs.length = P.cellsOf t ∧ ∀ j, j < P.cellsOf t → ∃ a : Int, cs[j]? = some (.int .i64 a) ∧ Wi a := by
  intro m
  induction m with
  | zero => intro n t cs h; simp [allInt] at h
  | succ m ih =>
    intro n t cs h hs
    cases n with
    | zero => exact hs.elim
    | succ n =>
      unfold allInt at h
      unfold Shape at hs
      split at h
      · rename_i ht
        rw [ht] at hs
        obtain ⟨a, rfl, hw⟩ := hs
        simp only [beq_iff_eq] at h
        refine ⟨by simp [h], fun j hj => ?_⟩
        obtain rfl : j = 0 := by omega
        exact ⟨a, rfl, wi_of hw⟩
      · rename_i fs ht
        rw [ht] at hs
        obtain ⟨hl, hf⟩ := hs
        refine ⟨hl, fun j hj => ?_⟩
        rw [List.all_eq_true] at h
        have h1 := h j (by simpa using hj)
        rw [List.any_eq_true] at h1
        obtain ⟨f, hmem, h2⟩ := h1
        simp only [Bool.and_eq_true, decide_eq_true_eq] at h2
        obtain ⟨i, hi, hif⟩ := List.getElem_of_mem hmem
        have hfi : fs[i]? = some f := by
          rw [Array.getElem?_eq_some_iff]
          exact ⟨by simpa using hi, by simpa using hif⟩
        obtain ⟨hlen, hc⟩ := ih n f.type _ h2.2 (hf i f hfi)
        obtain ⟨a, ha, hw⟩ := hc (j - f.offset) (by omega)
        refine ⟨a, ?_, hw⟩
        rw [List.getElem?_take_of_lt (by omega), List.getElem?_drop] at ha
        rw [← ha]
        congr 1
        omega
      · cases h
theorem Shape.ints {w : World} {m n : Nat} {t : TypeId} {cs : List Value} (h : allInt P m t = true) (hs : Shape P w n t cs) :
    ∃ ns : List Int, ns.length = P.cellsOf t ∧ cs = ns.map (.int .i64) ∧ I64 ns := by
  obtain ⟨h1, h2⟩ := Shape.cell m n t cs h hs
  exact ints_list _ cs h1 h2
theorem Shape.ofT {w : World} {spare : Nat → Bool} {held : Bool} {t : TypeId} {v : Value} {d : DataW H} {ps : List MemPlace} (h : DataW.Trod enc P w 0 spare held t v d ps) : ∃ n, Shape P w n t v.cells.toList := by
  obtain ⟨n, h⟩ := h
  exact ⟨n, Shape.of n t _ _ h⟩
/-- a struct of ints by value -/
theorem ints_arg {w : World} {b0 m k : Nat} {fs : Array Field} {r : Reach} {spare : Nat → Bool} {held : Bool} {t : TypeId} {v : Value} {d : DataW H} {ps : List MemPlace} (ht : P.underlying t = some (.struct fs)) (hi : allInt P m t = true) (hk : P.cellsOf t = k)
    (hv : Value.okWide P w r b0 t v) (h : DataW.Trod enc P w 0 spare held t v d ps) : ∃ ns : List Int, v = .agg (ns.map (Value.int .i64)).toArray ∧ ns.length = k ∧ I64 ns := by
  obtain ⟨cs, rfl, _⟩ := okWide_struct ht hv
  obtain ⟨n, hs⟩ := Shape.ofT h
  obtain ⟨ns, h1, h2, h3⟩ := hs.ints hi
  refine ⟨ns, ?_, by omega, h3⟩
  have : cs = (ns.map (Value.int .i64)).toArray := by
    rw [← h2]
    simp [Value.cells]
  rw [this]
/-- an int -/
theorem int_arg {w : World} {b0 : Nat} {r : Reach} {spare : Nat → Bool} {held : Bool} {t : TypeId} {v : Value} {d : DataW H} {ps : List MemPlace} (ht : P.underlying t = some (.int .i64))
    (hv : Value.okWide P w r b0 t v) (h : DataW.Trod enc P w 0 spare held t v d ps) : ∃ a : Int, v = .int .i64 a ∧ I64 [a] := by
  obtain ⟨a, rfl, _, _, hw⟩ := open_int ht hv h
  refine ⟨a, rfl, ?_⟩
  intro x hx
  rw [List.mem_singleton] at hx
  subst hx
  exact wi_of hw
theorem list1 {l : List Int} (h : l.length = 1) : ∃ a, l = [a] := by match l, h with | [a], _ => exact ⟨a, rfl⟩
theorem list2 {l : List Int} (h : l.length = 2) : ∃ a b, l = [a, b] := by match l, h with | [a, b], _ => exact ⟨a, b, rfl⟩
theorem list3 {l : List Int} (h : l.length = 3) : ∃ a b c, l = [a, b, c] := by match l, h with | [a, b, c], _ => exact ⟨a, b, c, rfl⟩
theorem list4 {l : List Int} (h : l.length = 4) : ∃ a b c d, l = [a, b, c, d] := by match l, h with | [a, b, c, d], _ => exact ⟨a, b, c, d, rfl⟩
theorem list5 {l : List Int} (h : l.length = 5) : ∃ a b c d e, l = [a, b, c, d, e] := by match l, h with | [a, b, c, d, e], _ => exact ⟨a, b, c, d, e, rfl⟩
theorem list9 {l : List Int} (h : l.length = 9) : ∃ a b c d e f g i j, l = [a, b, c, d, e, f, g, i, j] := by match l, h with | [a, b, c, d, e, f, g, i, j], _ => exact ⟨a, b, c, d, e, f, g, i, j, rfl⟩
end

theorem own : ownKnob Tryd.prog.godebug = none := by kernel_rfl
theorem laid : laidOutB Tryd.prog = true := by kernel_rfl
end Go.Proofs.YtamiploliebplaaDoor
