/- From a walk that ends in 'true, and all that was there is as it was' to the row's formula; how the values of the parameters are shaped. -/
import Derived.Test.YtbddgeoaaklgpaaRows
import Derived.Test.YtbddgeoaaklgpaaBase
import Derived.ProofKit
import Derived.OpenShut
import Derived.Deep.Slices
namespace Go.Proofs.Ytbddgeoaaklgpaa
open Go.ChangeShapes Go.WideShapes Go.ChangeAt Go.RowKit

section
variable {H : Type} {enc : TypeId × Value → H} {P : Program}

theorem trodAll_ext (hl : laidOutB P = true) {W W' : World} (hb : Ext W W') :
    ∀ (ts : List TypeId) (vs : List Value) (ds : List (DataW H)) (ps : List MemPlace), (∀ t ∈ ts, P.readableRec t = true ∧ t < P.types.size) →
      DataW.TrodAll enc P W 0 (fun _ => true) true ts vs ds ps → (∀ x ∈ ps, x.block < W.heap.size) → DataW.TrodAll enc P W' 0 (fun b => decide (b < W.heap.size)) true ts vs ds ps := by
  intro ts
  induction ts with
  | nil =>
    intro vs ds ps _ h _
    obtain ⟨rfl, rfl, rfl⟩ := trodAll_nil h
    exact trodAll_mk0
  | cons t ts ih =>
    intro vs ds ps hr h hlt
    obtain ⟨v, vs', d, ds', p, q, rfl, rfl, rfl, h0, h1⟩ := trodAll_cons h
    exact trodAll_cons_mk (Below.trod hl (hr t (by simp)).1 (hr t (by simp)).2 h0 hb (fun x hx => hlt x (by simp [hx])))
      (ih vs' ds' q (fun u hu => hr u (by simp [hu])) h1 (fun x hx => hlt x (by simp [hx])))

theorem post_of_ext {f : Func} {s : ChangeSpec} {W W' : World} {args : Array Value} {ds gs : List (DataW H)} {before : List MemPlace} {t : TypeId}
    (hl : laidOutB P = true) (hr : f.params.all (fun t => P.readableRec t && decide (t < P.types.size)) = true) (hrt : f.resultTypes = #[t]) (ht : P.underlying t = some .bool)
    (hW : DataW.Whole enc P f.params.toList s.vars false W args.toList ds gs before) (hv : s.vars = [])
    (hs : s.fn H (ds ++ gs) = { results := [.lit (.bool true)], args := ds }) (hb : Ext W W') :
    s.post enc P f false true false false W args (.bool true) W' := by
  have hlt : ∀ p ∈ before, p.block < W.heap.size := fun p hp => hW.lt p hp
  have hW0 := hW
  obtain ⟨p, q, hA, hV, rfl, _, _⟩ := hW
  rw [hv] at hV
  obtain ⟨rfl, rfl⟩ := trodVars_none hV
  have hr' : ∀ t ∈ f.params.toList, P.readableRec t = true ∧ t < P.types.size := by
    intro u hu
    have := Array.all_eq_true'.1 hr u (by simpa using hu)
    simpa using this
  refine ⟨ds, [], p ++ [], [], p, [], hW0, ?_, ?_, ?_, Below.frame hb _, fun h => by cases h⟩
  · rw [hrt, hs]
    exact trodAll_cons_mk (shut_bool ht _) trodAll_mk0
  · rw [hs]
    exact trodAll_ext hl hb _ _ _ _ hr' hA (fun x hx => hlt x (by simp [hx]))
  · rw [hv, hs]
    rfl

/-- WHAT VALUES A TYPE HAS that can be read as data (the kinds that are met here). -/
def Shape (P : Program) (w : World) : Nat → TypeId → List Value → Prop
  | 0, _, _ => False
  | n + 1, t, cs => match P.underlying t with
    | some .bool => ∃ b : Bool, cs = [.bool b]
    | some (.int k) => ∃ a : Int, cs = [.int k a] ∧ (Lit.int k a).wf = true
    | some .string => ∃ s : ByteArray, cs = [.string s] ∧ s.size ≤ maxLen
    | some (.slice e) => cs = [.slice none 0 0] ∨ ∃ (a : Addr) (len cap : Nat), cs = [.slice (some a) len cap] ∧ len ≤ cap ∧ cap ≤ maxLen ∧
        ∀ i, i < len → ∃ ecs, w.cells? 0 (a.add (i * P.cellsOf e)) (P.cellsOf e) = some ecs ∧ Shape P w n e ecs
    | some (.struct fs) => cs.length = P.cellsOf t ∧ ∀ (i : Nat) (f : Field), fs[i]? = some f → Shape P w n f.type ((cs.drop f.offset).take (P.cellsOf f.type))
    | _ => True

theorem Shape.of {w : World} {spare : Nat → Bool} {held : Bool} : ∀ (n : Nat) (t : TypeId) (cs : List Value) (x : DataW H × List MemPlace),
    DataW.trod enc P w 0 spare held n t cs = some x → Shape P w n t cs := by
  intro n
  induction n with
  | zero => intro t cs x h; simp [DataW.trod] at h
  | succ n ih =>
    intro t cs x h
    unfold Shape
    split
    · rename_i ht
      obtain ⟨b, hb, _⟩ := DataW.trod_bool ht h
      exact ⟨b, hb⟩
    · rename_i ht
      obtain ⟨b, hb, _, hw⟩ := DataW.trod_int ht h
      exact ⟨b, hb, hw⟩
    · rename_i ht
      obtain ⟨b, hb, _, hw⟩ := DataW.trod_string ht h
      exact ⟨b, hb, hw⟩
    · rename_i e ht
      rcases DataW.trod_slice ht h with ⟨h0, _⟩ | ⟨a, len, cap, elems, rest, m, hm, hcs, _, _, hl, hmm, hlen, hel, _, _⟩
      · exact .inl h0
      · refine .inr ⟨a, len, cap, hcs, hl, hmm, fun i hi => ?_⟩
        obtain rfl : n = m := by omega
        have h1 := hel i hi
        rw [List.getElem?_eq_getElem (by omega)] at h1
        obtain ⟨ecs, h2, h3⟩ := Option.bind_eq_some_iff.1 h1
        exact ⟨ecs, h2, ih _ _ _ h3⟩
    · rename_i fs ht
      obtain ⟨xs, m, hm, _, hlen, hxl, hg⟩ := DataW.trod_struct ht h
      obtain rfl : n = m := by omega
      refine ⟨hlen, fun i f hf => ?_⟩
      have hi : i < xs.length := by rw [hxl]; exact (Array.getElem?_eq_some_iff.1 hf).1
      have := hg i f hf
      rw [List.getElem?_eq_getElem hi] at this
      exact ih _ _ _ this
    · trivial

/-- every cell of the type is an int -/
def allInt (P : Program) : Nat → TypeId → Bool
  | 0, _ => false
  | n + 1, t => match P.underlying t with
    | some (.int .i64) => P.cellsOf t == 1
    | some (.struct fs) => (List.range (P.cellsOf t)).all fun j => fs.toList.any fun f => decide (f.offset ≤ j) && decide (j < f.offset + P.cellsOf f.type) && allInt P n f.type
    | _ => false
def Wi (n : Int) : Prop := -9223372036854775808 ≤ n ∧ n ≤ 9223372036854775807
def I64 (l : List Int) : Prop := ∀ x ∈ l, Wi x
theorem wi_of {a : Int} (h : (Lit.int .i64 a).wf = true) : Wi a := by
  simpa [Wi, Lit.wf, IntKind.min, IntKind.max, IntKind.signed, IntKind.bits] using h
theorem ints_list : ∀ (n : Nat) (cs : List Value), cs.length = n → (∀ j, j < n → ∃ a : Int, cs[j]? = some (.int .i64 a) ∧ Wi a) → ∃ ns : List Int, ns.length = n ∧ cs = ns.map (.int .i64) ∧ I64 ns := by
  intro n
  induction n with
  | zero =>
    intro cs hl _
    obtain rfl := List.eq_nil_of_length_eq_zero hl
    exact ⟨[], rfl, rfl, by simp [I64]⟩
  | succ n ih =>
    intro cs hl h
    match cs, hl with
    | c :: cs, hl =>
      obtain ⟨ns, h1, rfl, h3⟩ := ih cs (by simpa using hl) (fun j hj => by simpa using h (j + 1) (by omega))
      obtain ⟨a, ha, hw⟩ := h 0 (by omega)
      simp at ha
      subst ha
      refine ⟨a :: ns, by simp [h1], by simp, ?_⟩
      intro x hx
      rcases List.mem_cons.1 hx with rfl | hx
      · exact hw
      · exact h3 x hx
theorem Shape.cell {w : World} : ∀ (m n : Nat) (t : TypeId) (cs : List Value), allInt P m t = true → Shape P w n t cs →
    cs.length = P.cellsOf t ∧ ∀ j, j < P.cellsOf t → ∃ a : Int, cs[j]? = some (.int .i64 a) ∧ Wi a := by
  intro m
  induction m with
  | zero => intro n t cs h; simp [allInt] at h
  | succ m ih =>
    intro n t cs h hs
    cases n with
    | zero => exact hs.elim
    | succ n =>
      unfold allInt at h
      unfold Shape at hs
      split at h
      · rename_i ht
        rw [ht] at hs
        obtain ⟨a, rfl, hw⟩ := hs
        simp only [beq_iff_eq] at h
        refine ⟨by simp [h], fun j hj => ?_⟩
        obtain rfl : j = 0 := by omega
        exact ⟨a, rfl, wi_of hw⟩
      · rename_i fs ht
        rw [ht] at hs
        obtain ⟨hl, hf⟩ := hs
        refine ⟨hl, fun j hj => ?_⟩
        rw [List.all_eq_true] at h
        have h1 := h j (by simpa using hj)
        rw [List.any_eq_true] at h1
        obtain ⟨f, hmem, h2⟩ := h1
        simp only [Bool.and_eq_true, decide_eq_true_eq] at h2
        obtain ⟨i, hi, hif⟩ := List.getElem_of_mem hmem
        have hfi : fs[i]? = some f := by
          rw [Array.getElem?_eq_some_iff]
          exact ⟨by simpa using hi, by simpa using hif⟩
        obtain ⟨hlen, hc⟩ := ih n f.type _ h2.2 (hf i f hfi)
        obtain ⟨a, ha, hw⟩ := hc (j - f.offset) (by omega)
        refine ⟨a, ?_, hw⟩
        rw [List.getElem?_take_of_lt (by omega), List.getElem?_drop] at ha
        rw [← ha]
        congr 1
        omega
      · cases h
theorem Shape.ints {w : World} {m n : Nat} {t : TypeId} {cs : List Value} (h : allInt P m t = true) (hs : Shape P w n t cs) :
    ∃ ns : List Int, ns.length = P.cellsOf t ∧ cs = ns.map (.int .i64) ∧ I64 ns := by
  obtain ⟨h1, h2⟩ := Shape.cell m n t cs h hs
  exact ints_list _ cs h1 h2
theorem Shape.ofT {w : World} {spare : Nat → Bool} {held : Bool} {t : TypeId} {v : Value} {d : DataW H} {ps : List MemPlace} (h : DataW.Trod enc P w 0 spare held t v d ps) : ∃ n, Shape P w n t v.cells.toList := by
  obtain ⟨n, h⟩ := h
  exact ⟨n, Shape.of n t _ _ h⟩
/-- a struct of ints by value -/
theorem ints_arg {w : World} {b0 m k : Nat} {fs : Array Field} {r : Reach} {spare : Nat → Bool} {held : Bool} {t : TypeId} {v : Value} {d : DataW H} {ps : List MemPlace} (ht : P.underlying t = some (.struct fs)) (hi : allInt P m t = true) (hk : P.cellsOf t = k)
    (hv : Value.okWide P w r b0 t v) (h : DataW.Trod enc P w 0 spare held t v d ps) : ∃ ns : List Int, v = .agg (ns.map (Value.int .i64)).toArray ∧ ns.length = k ∧ I64 ns := by
  obtain ⟨cs, rfl, _⟩ := okWide_struct ht hv
  obtain ⟨n, hs⟩ := Shape.ofT h
  obtain ⟨ns, h1, h2, h3⟩ := hs.ints hi
  refine ⟨ns, ?_, by omega, h3⟩
  have : cs = (ns.map (Value.int .i64)).toArray := by
    rw [← h2]
    simp [Value.cells]
  rw [this]
/-- an int -/
theorem int_arg {w : World} {b0 : Nat} {r : Reach} {spare : Nat → Bool} {held : Bool} {t : TypeId} {v : Value} {d : DataW H} {ps : List MemPlace} (ht : P.underlying t = some (.int .i64))
    (hv : Value.okWide P w r b0 t v) (h : DataW.Trod enc P w 0 spare held t v d ps) : ∃ a : Int, v = .int .i64 a ∧ I64 [a] := by
  obtain ⟨a, rfl, _, _, hw⟩ := open_int ht hv h
  refine ⟨a, rfl, ?_⟩
  intro x hx
  rw [List.mem_singleton] at hx
  subst hx
  exact wi_of hw
theorem list1 {l : List Int} (h : l.length = 1) : ∃ a, l = [a] := by match l, h with | [a], _ => exact ⟨a, rfl⟩
theorem list2 {l : List Int} (h : l.length = 2) : ∃ a b, l = [a, b] := by match l, h with | [a, b], _ => exact ⟨a, b, rfl⟩
theorem list3 {l : List Int} (h : l.length = 3) : ∃ a b c, l = [a, b, c] := by match l, h with | [a, b, c], _ => exact ⟨a, b, c, rfl⟩
theorem list4 {l : List Int} (h : l.length = 4) : ∃ a b c d, l = [a, b, c, d] := by match l, h with | [a, b, c, d], _ => exact ⟨a, b, c, d, rfl⟩
theorem list5 {l : List Int} (h : l.length = 5) : ∃ a b c d e, l = [a, b, c, d, e] := by match l, h with | [a, b, c, d, e], _ => exact ⟨a, b, c, d, e, rfl⟩
theorem list9 {l : List Int} (h : l.length = 9) : ∃ a b c d e f g i j, l = [a, b, c, d, e, f, g, i, j] := by match l, h with | [a, b, c, d, e, f, g, i, j], _ => exact ⟨a, b, c, d, e, f, g, i, j, rfl⟩
end

theorem own : ownKnob Try.prog.godebug = none := by kernel_rfl
theorem laid : laidOutB Try.prog = true := by kernel_rfl

open Go.RowKit Go.Deep

/-- v is a slice of n elements of k cells, which hold xs -/
def RV (w : World) (k : Nat) (v : Value) (n : Nat) (xs : List Int) : Prop :=
  xs.length = n * k ∧ ∃ (a : Option Addr) (cap : Nat), v = .slice a n cap ∧ n ≤ cap ∧ cap ≤ maxLen ∧
    (0 < n → ∃ b off, a = some ⟨b, off, none⟩ ∧ b < w.heap.size ∧ ∀ j u, (IL xs)[j]? = some u → w.cell? ⟨b, off + j, none⟩ = some u)
theorem RV.ext {w w' : World} {k : Nat} {v : Value} {n : Nat} {xs : List Int} (h : RV w k v n xs) (hx : Ext w w') : RV w' k v n xs := by
  obtain ⟨h1, a, cap, h2, h3, h4, h5⟩ := h
  refine ⟨h1, a, cap, h2, h3, h4, fun hp => ?_⟩
  obtain ⟨b, off, e1, e2, e3⟩ := h5 hp
  exact ⟨b, off, e1, by have := hx.size; omega, fun j u hu => (hx.cells.1 b (off + j) e2).trans (e3 j u hu)⟩
theorem RV.own {w : World} {base : Nat} {e : TypeId} {k : Nat} {v : Value} {n : Nat} {xs : List Int} (h : w.ownsRow base e k v n (IL xs)) (hl : xs.length = n * k) : RV w k v n xs := by
  obtain ⟨a, cap, h1, h2, h3, h4⟩ := own_shape h
  refine ⟨hl, a, cap, h1, h2, h3, fun hp => ?_⟩
  obtain ⟨g, e1, _, e2, e3, _⟩ := h4 hp
  exact ⟨g, 0, e1, e2, fun j u hu => by rw [Nat.zero_add]; exact e3 j u hu⟩
/-- a part of it -/
theorem RV.part {w : World} {k : Nat} {n : Nat} {xs : List Int} {b off cap : Nat} (h : RV w k (.slice (some ⟨b, off, none⟩) n cap) n xs) (i m c : Nat) (him : i + m ≤ n) (hc : m ≤ c) (hm : c ≤ maxLen) :
    RV w k (.slice (some ⟨b, off + i * k, none⟩) m c) m ((xs.drop (i * k)).take (m * k)) := by
  obtain ⟨h1, a, cap, h2, h3, h4, h5⟩ := h
  have hik : i * k + m * k ≤ n * k := by rw [← Nat.add_mul]; exact Nat.mul_le_mul_right k him
  refine ⟨by simp; omega, _, c, rfl, hc, hm, fun hp => ?_⟩
  obtain ⟨b', off', e1, e2, e3⟩ := h5 (by omega)
  rw [e1] at h2
  simp only [Value.slice.injEq, Option.some.injEq, Addr.mk.injEq, and_true, true_and] at h2
  obtain ⟨⟨rfl, rfl⟩, rfl⟩ := h2
  refine ⟨b, off + i * k, rfl, e2, fun j u hu => ?_⟩
  have : (IL xs)[i * k + j]? = some u := by
    simp only [IL, List.map_take, List.map_drop] at hu ⊢
    rw [List.getElem?_take] at hu
    split at hu
    · rw [List.getElem?_drop] at hu; exact hu
    · cases hu
  have := e3 _ _ this
  rwa [← Nat.add_assoc] at this

section
variable {P : Program}
theorem rv_of_shape {w : World} {m n : Nat} {t e : TypeId} {k : Nat} {c : Value} (ht : P.underlying t = some (.slice e)) (he : allInt P m e = true) (hk : P.cellsOf e = k) (hk0 : 0 < k) (hs : Shape P w n t [c]) :
    ∃ (l : Nat) (xs : List Int), RV w k c l xs := by
  cases n with
  | zero => exact hs.elim
  | succ n =>
    unfold Shape at hs
    rw [ht] at hs
    rcases hs with h | ⟨a, len, cap, h, h1, h2, h3⟩
    · injection h with h _
      subst h
      exact ⟨0, [], by simp, none, 0, rfl, Nat.le_refl _, Nat.zero_le _, fun h => absurd h (by omega)⟩
    · injection h with h _
      subst h
      rw [hk] at h3
      have hcell : ∀ j, j < len * k → ∃ x : Int, w.cell? (a.add j) = some (.int .i64 x) := by
        intro j hj
        have hi : j / k < len := Nat.div_lt_of_lt_mul (by rwa [Nat.mul_comm])
        obtain ⟨ecs, e1, e2⟩ := h3 (j / k) hi
        obtain ⟨_, _, e3⟩ := World.cells?_some e1
        obtain ⟨f1, f2⟩ := Shape.cell m n e ecs he e2
        have hr : j % k < k := Nat.mod_lt _ hk0
        obtain ⟨x, hx, _⟩ := f2 (j % k) (by rw [hk]; exact hr)
        refine ⟨x, ?_⟩
        rw [← hx, ← e3 _ hr]
        congr 1
        have hd := Nat.div_add_mod j k
        rw [Nat.mul_comm] at hd
        generalize j / k * k = q at *
        generalize j % k = r at *
        subst hd
        unfold Addr.add
        by_cases h0 : q = 0 <;> by_cases hr0 : r = 0 <;> simp_all [Nat.add_assoc]
      obtain ⟨X, hX⟩ := choose_lt hcell
      refine ⟨len, (List.range (len * k)).map X, by simp, some a, cap, rfl, h1, h2, fun hp => ?_⟩
      have h0 := hX 0 (Nat.mul_pos hp hk0)
      have hadd0 : a.add 0 = a := by unfold Addr.add; simp
      rw [hadd0] at h0
      have hsp : a.spot = none := by
        unfold World.cell? at h0
        split at h0
        · split at h0
          · cases h0
          · rename_i hn; simpa using hn
        · cases h0
      obtain ⟨b, off, sp⟩ := a
      simp only at hsp
      subst hsp
      refine ⟨b, off, rfl, lt_of_cell h0, fun j u hu => ?_⟩
      simp only [IL, List.getElem?_map, Option.map_eq_some_iff] at hu
      obtain ⟨x, ⟨y, hy, rfl⟩, rfl⟩ := hu
      obtain ⟨hj, rfl⟩ := List.getElem?_eq_some_iff.1 hy
      rw [List.length_range] at hj
      rw [List.getElem_range]
      have := hX j hj
      rwa [show (⟨b, off, none⟩ : Addr).add j = ⟨b, off + j, none⟩ by unfold Addr.add; split <;> simp_all] at this
end

open Go.RowKit

section
variable {P : Program}
theorem list_three' {α : Type} {l : List α} (h : l.length = 3) : ∃ a b c, l = [a, b, c] := by match l, h with | [a, b, c], _ => exact ⟨a, b, c, rfl⟩
theorem int_of_shape' {w : World} {n : Nat} {t : TypeId} {c : Value} (ht : P.underlying t = some (.int .i64)) (hs : Shape P w n t [c]) : ∃ a : Int, c = .int .i64 a ∧ Wi a := by
  cases n with
  | zero => exact hs.elim
  | succ n =>
    unfold Shape at hs
    rw [ht] at hs
    obtain ⟨a, h, hw⟩ := hs
    injection h with h _
    exact ⟨a, h, wi_of hw⟩
/-- two ints and a slice of structs of ints -/
theorem mat_of_shape {w : World} {m n : Nat} {t e : TypeId} {k : Nat} {cs : Array Value} {f0 f1 f2 : Field} (ht : P.underlying t = some (.struct #[f0, f1, f2])) (hc : P.cellsOf t = 3) (o0 : f0.offset = 0) (o1 : f1.offset = 1) (o2 : f2.offset = 2) (c0 : P.cellsOf f0.type = 1) (c1 : P.cellsOf f1.type = 1) (c2 : P.cellsOf f2.type = 1)
    (h0 : P.underlying f0.type = some (.int .i64)) (h1 : P.underlying f1.type = some (.int .i64)) (h2 : P.underlying f2.type = some (.slice e)) (he : allInt P m e = true) (hk : P.cellsOf e = k) (hk0 : 0 < k) (hs : Shape P w n t (Value.agg cs).cells.toList) :
    ∃ (r c : Int) (v : Value) (l : Nat) (xs : List Int), cs = #[.int .i64 r, .int .i64 c, v] ∧ RV w k v l xs ∧ Wi r ∧ Wi c := by
  cases n with
  | zero => exact hs.elim
  | succ n =>
    unfold Shape at hs
    rw [ht] at hs
    obtain ⟨hl, hf⟩ := hs
    rw [hc] at hl
    have e0 : (Value.agg cs).cells = cs := rfl
    rw [e0] at hl hf
    obtain ⟨a, b, c, hab⟩ := list_three' hl
    have g0 := hf 0 f0 rfl
    have g1 := hf 1 f1 rfl
    have g2 := hf 2 f2 rfl
    rw [hab, o0, c0] at g0
    rw [hab, o1, c1] at g1
    rw [hab, o2, c2] at g2
    obtain ⟨q, rfl, hq⟩ := int_of_shape' h0 g0
    obtain ⟨p, rfl, hp⟩ := int_of_shape' h1 g1
    obtain ⟨l, xs, hr⟩ := rv_of_shape h2 he hk hk0 g2
    exact ⟨q, p, c, l, xs, by rw [← hab], hr, hq, hp⟩
end


open Go.RowKit

def allTo (f : Nat → Bool) : Nat → Bool
  | 0 => true
  | n + 1 => allTo f n && f n
theorem allTo_succ (f : Nat → Bool) (n : Nat) : allTo f (n + 1) = (allTo f n && f n) := rfl
theorem allTo_false {f : Nat → Bool} {k : Nat} (h : f k = false) : ∀ {n : Nat}, k < n → allTo f n = false := by
  intro n
  induction n with
  | zero => intro h; omega
  | succ n ih =>
    intro hk
    rw [allTo_succ]
    by_cases e : k = n
    · subst e; rw [h, Bool.and_false]
    · rw [ih (by omega)]; rfl
theorem allTo_at {f : Nat → Bool} {n k : Nat} (h : allTo f n = true) (hk : k < n) : f k = true := by
  cases hf : f k with
  | true => rfl
  | false => rw [allTo_false hf hk] at h; cases h
theorem allTo_congr {f g : Nat → Bool} : ∀ {n : Nat}, (∀ k, k < n → f k = g k) → allTo f n = allTo g n := by
  intro n
  induction n with
  | zero => intro _; rfl
  | succ n ih =>
    intro h
    rw [allTo_succ, allTo_succ, ih (fun k hk => h k (by omega)), h n (by omega)]
def cntTo (f : Nat → Bool) : Nat → Int
  | 0 => 0
  | n + 1 => cntTo f n + (if f n then 1 else 0)
theorem cntTo_succ (f : Nat → Bool) (n : Nat) : cntTo f (n + 1) = cntTo f n + (if f n then 1 else 0) := rfl
theorem cntTo_bd (f : Nat → Bool) : ∀ n : Nat, 0 ≤ cntTo f n ∧ cntTo f n ≤ n := by
  intro n
  induction n with
  | zero => exact ⟨Int.le_refl _, Int.le_refl _⟩
  | succ n ih =>
    rw [cntTo_succ]
    split <;> omega

/-- the cells of an element -/
def at3 (xs : List Int) (j : Nat) : Int := xs.getD j 0
theorem at3_get {xs : List Int} {j : Nat} (h : j < xs.length) : (IL xs)[j]? = some (.int .i64 (at3 xs j)) := by
  rw [il_get h]
  simp [at3, h]
/-- is a gate valid for n qubits (n is one of 1 .. 5) -/
def gOk (n k a b : Int) : Bool :=
  if Wn k 1 8 then Wn a 0 (n - 1) && (b == 0) else if Wn k 9 11 then Wn a 0 (n - 1) && (Wn b 0 (n - 1) && (a != b)) else k == 12 && (a == 0 && b == 0)
def gAll (n : Int) (xs : List Int) (m : Nat) : Bool := allTo (fun j => gOk n (at3 xs (j * 3)) (at3 xs (j * 3 + 1)) (at3 xs (j * 3 + 2))) m
def kAny (lo hi : Int) (xs : List Int) : Nat → Bool := fun j => Wn (at3 xs (j * 3)) lo hi
/-- a circuit is valid -/
def cOk (q : Int) (xs : List Int) (m : Nat) : Bool := Wn q 1 5 && (decide (m ≤ 400) && gAll q xs m)

end Go.Proofs.Ytbddgeoaaklgpaa
