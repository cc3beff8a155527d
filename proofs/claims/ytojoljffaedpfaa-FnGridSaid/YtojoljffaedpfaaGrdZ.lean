/- Numbers p + q sqrt 2 sorted: slices.SortFunc with compareRoot2. -/
import Derived.Test.YtojoljffaedpfaaGrdY
import Derived.Test.YtojoljffaedpfaaGrdL
import Derived.Test.YtojoljffaedpfaaOwn
import Derived.Test.YtojoljffaedpfaaSl
namespace Go.Proofs.Ytojoljffaedpfaa
open Go.RowKit Go.Lib Go.Sort Go.Proofs
set_option linter.unusedVariables false
set_option linter.unusedSimpArgs false

/-- numbers whose parts are not too great -/
def Bd2 : Type := { x : Int × Int // -10000000 ≤ x.1 ∧ x.1 ≤ 10000000 ∧ -10000000 ≤ x.2 ∧ x.2 ≤ 10000000 }
instance : Inhabited Bd2 := ⟨⟨(0, 0), by decide⟩⟩
def enc2 (x : Bd2) : List Value := [.int .i64 x.1.1, .int .i64 x.1.2]
def cf2 (x y : Bd2) : Int := S2 (x.1.1 - y.1.1) (x.1.2 - y.1.2)
theorem cf2_ky (x y : Bd2) : cf2 x y = sg (ky x.1.1 x.1.2 - ky y.1.1 y.1.2) := by
  unfold cf2
  have hx := x.2
  have hy := y.2
  rw [S2_ky (Cf_mk (by omega)) (Cf_mk (by omega)), ky_sub]
theorem sg_lt (n : Int) : sg n < 0 ↔ n < 0 := by
  unfold sg
  split
  · omega
  · split <;> omega
theorem lt2 (x y : Bd2) : ltOf cf2 x y = decide (ky x.1.1 x.1.2 < ky y.1.1 y.1.2) := by
  unfold ltOf
  rw [cf2_ky, Bool.eq_iff_iff]
  simp only [decide_eq_true_eq, sg_lt]
  omega
theorem swo2 : SWO (ltOf cf2) where
  irrefl x := by rw [lt2]; simp
  trans x y z h1 h2 := by rw [lt2, decide_eq_true_eq] at *; omega
  ntrans x y z h1 h2 := by rw [lt2, decide_eq_false_iff_not] at *; omega

theorem cmp2 (x y : Bd2) (W : World) : Calls Try.prog 42 #[.agg #[.int .i64 x.1.1, .int .i64 x.1.2], .agg #[.int .i64 y.1.1, .int .i64 y.1.2]] W fun e w' => e = .returned (.int .i64 (cf2 x y)) ∧ ∃ q os', w' = grow (W.drewN q) os' := by
  obtain ⟨⟨p, q⟩, h1, h2, h3, h4⟩ := x
  obtain ⟨⟨r, s⟩, h5, h6, h7, h8⟩ := y
  simp only at h1 h2 h3 h4 h5 h6 h7 h8
  have HC : Hid (cf2 ⟨(p, q), ⟨h1, h2, h3, h4⟩⟩ ⟨(r, s), ⟨h5, h6, h7, h8⟩⟩ = S2 (p - r) (q - s)) := rfl
  have HS : Hid (rsV (p - r) (q - s) = S2 (p - r) (q - s)) := by unfold Hid rsV; rw [Cf_mk (by omega), Cf_mk (by omega)]; rfl
  generalize cf2 ⟨(p, q), ⟨h1, h2, h3, h4⟩⟩ ⟨(r, s), ⟨h5, h6, h7, h8⟩⟩ = c at *
  go_enter Try.func42, Try.ntmps42
  go_wp2_with (go_at_call 72; ((with_reducible refine (realSign_any _ _ _).mono ?_); rintro e w' ⟨rfl, rfl⟩))
  go_ret
  exact ⟨ret_int (HS.out.trans HC.out.symm), 0, _, by rw [alloc_eq_grow, alloc_eq_grow, grow_grow]; rfl⟩

theorem sw_heap {w : World} {g m : Nat} {d : Array Bd2} {os : Array Obj} {cur : Array Value} {e : TypeId} {fr : Nat × Nat} (hg : w.heap[g]? = some (.cells cur e fr)) :
    (sortWorldK enc2 2 w g 0 m d os).heap[g]? = some (.cells (putCells id 0 (flatK enc2 2 d) cur) e fr) := by
  have hl := (Array.getElem?_eq_some_iff.1 hg).1
  unfold sortWorldK
  rw [heap_grow_old _ _ (by simpa [putRowK] using hl)]
  unfold putRowK putRow mapBlock
  simp only [Array.getElem?_modify, if_pos]
  show Option.map _ (w.heap[g]?) = _
  rw [hg]
  rfl
theorem sw_other {w : World} {g m k : Nat} {d : Array Bd2} {os : Array Obj} (hk : k < w.heap.size) (hne : k ≠ g) : (sortWorldK enc2 2 w g 0 m d os).heap[k]? = w.heap[k]? := by
  unfold sortWorldK
  rw [heap_grow_old _ _ (by simpa [putRowK] using hk)]
  unfold putRowK putRow mapBlock
  simp only [Array.getElem?_modify]
  rw [if_neg (fun h => hne h.symm)]
  rfl

def vals (d : Array Bd2) : List (Int × Int) := d.toList.map (fun x => x.1)
theorem vals_len (d : Array Bd2) : (vals d).length = d.size := by simp [vals]
theorem flat_at (d : Array Bd2) (j : Nat) (h : j < d.size * 2) : (IL (fl2 (vals d)))[j]? = some (enc2 d[j / 2]!)[j % 2]! := by
  have hi : j / 2 < d.size := by omega
  have hl : j / 2 < (vals d).length := by rw [vals_len]; exact hi
  have hg := fl2_get (vals d) (j / 2) hl
  have hv : (vals d)[j / 2] = (d[j / 2]!).1 := by
    rw [getElem!_pos d _ hi]
    simp [vals]
  rw [hv] at hg
  unfold IL
  rw [List.getElem?_map]
  rcases Nat.mod_two_eq_zero_or_one j with e | e
  · have e2 : (fl2 (vals d))[j]? = (fl2 (vals d))[j / 2 * 2]? := congrArg (fun k => (fl2 (vals d))[k]?) (by omega)
    rw [e2, hg.1, e]
    rfl
  · have e2 : (fl2 (vals d))[j]? = (fl2 (vals d))[j / 2 * 2 + 1]? := congrArg (fun k => (fl2 (vals d))[k]?) (by omega)
    rw [e2, hg.2, e]
    rfl
theorem holds_of {w : World} {base : Nat} {e : TypeId} {g n cap : Nat} {d : Array Bd2} (hn : d.size = n) (h : w.ownsRow base e 2 (.slice (some ⟨g, 0, none⟩) n cap) n (IL (fl2 (vals d)))) : HoldsK enc2 2 w g 0 d := by
  intro j hj
  rw [size_flatK] at hj
  obtain ⟨a, c, hv, _, _, h3⟩ := own_shape h
  obtain ⟨g', ha, _, _, hc, hf⟩ := h3 (by omega)
  simp only [Value.slice.injEq] at hv
  obtain ⟨hv, -, -⟩ := hv
  rw [ha] at hv
  simp only [Option.some.injEq, Addr.mk.injEq, and_true] at hv
  subst hv
  rw [get_flatK _ _ _ _ hj, Nat.zero_add]
  exact ⟨hc j _ (flat_at d j hj), hf j⟩
theorem own_sorted {w : World} {base : Nat} {e : TypeId} {g n cap m : Nat} {d d' : Array Bd2} {os : Array Obj} (hn : d.size = n) (hn' : d'.size = n) (h : w.ownsRow base e 2 (.slice (some ⟨g, 0, none⟩) n cap) n (IL (fl2 (vals d)))) :
    (sortWorldK enc2 2 w g 0 m d' os).ownsRow base e 2 (.slice (some ⟨g, 0, none⟩) n cap) n (IL (fl2 (vals d'))) := by
  refine ⟨by rw [il_length, fl2_len, vals_len, hn'], ?_⟩
  rcases h.2 with ⟨h1, -⟩ | ⟨g', cap', cur, hv, hb, hg, h1, h2, h3, h4⟩
  · cases h1
  · simp only [Value.slice.injEq, Option.some.injEq, Addr.mk.injEq, and_true, true_and] at hv
    obtain ⟨hv, hc⟩ := hv
    subst hv
    subst hc
    refine .inr ⟨g, cap, _, rfl, hb, sw_heap hg, h1, h2, by simp [putCells, h3], ?_⟩
    have h5 : n * 2 ≤ cur.size := by rw [h3]; exact Nat.mul_le_mul_right 2 h1
    apply List.ext_getElem?
    intro j
    rw [List.getElem?_take]
    split
    · rename_i hj
      rw [flat_at d' j (by omega)]
      have hjc : j < cur.size := by omega
      simp only [putCells, Array.getElem?_toList, Array.getElem?_mapIdx]
      rw [Array.getElem?_eq_getElem hjc, Option.map_some, if_pos ⟨Nat.zero_le _, by rw [size_flatK]; omega⟩, Nat.sub_zero, get_flatK _ _ _ _ (by omega)]
      rfl
    · rw [List.getElem?_eq_none (by rw [il_length, fl2_len, vals_len]; omega)]

/-- the sort of a row of the call's own -/
theorem sort2_any {w : World} {base g n cap : Nat} {d : Array Bd2} (hn : d.size = n) (hn2 : n ≤ 2000000) (h : w.ownsRow base 34 2 (.slice (some ⟨g, 0, none⟩) n cap) n (IL (fl2 (vals d)))) :
    Calls Try.prog 41 #[.slice (some ⟨g, 0, none⟩) n cap, .func (.func 42) #[] #[]] w fun e w' => e = .returned (.tuple #[]) ∧
      ∃ d' : Array Bd2, d'.size = n ∧ d'.toList.Perm d.toList ∧ d'.toList.Pairwise (fun x y => ¬ ky y.1.1 y.1.2 < ky x.1.1 x.1.2) ∧ w'.ownsRow base 34 2 (.slice (some ⟨g, 0, none⟩) n cap) n (IL (fl2 (vals d'))) ∧ (∀ w0, Ext w0 w → w0.heap.size ≤ g → Ext w0 w') := by
  subst hn
  have eg : ∀ args w, (callFunc 42 args).run Try.prog w = .ok (.enter 42 args) w := enters_of Try.func42 (by kernel_rfl) rfl
  have hblk : g < w.heap.size := by
    have := h.lt g rfl
    exact this.2
  have hc : CmpLays Try.prog 42 #[] enc2 2 cf2 g 0 d.size w := fun m os dk hs x y => cmp2 x y _
  have hcon := AnyQ.slices_SortFunc layR2 2 Try.isAgg34 Try.sizeOf34 enc2 (fun _ => rfl) (fun x v hv => by simp [enc2] at hv; rcases hv with rfl | rfl <;> rfl) cf2 swo2 42 #[] g 0 cap d w eg hc (holds_of rfl h) hblk (by omega)
  refine hcon.mono ?_
  rintro e w' ⟨rfl, d', m, os, hp, hs, rfl⟩
  obtain ⟨hp1, -, hp3⟩ := hp
  refine ⟨rfl, d', hp1, ?_, ?_, own_sorted rfl hp1 h, ?_⟩
  · have e1 : (d'.extract 0 d.size).toList = d'.toList := by rw [← hp1]; simp
    have e2 : (d.extract 0 d.size).toList = d.toList := by simp
    rw [e1, e2] at hp3
    exact hp3
  · rw [List.pairwise_iff_getElem]
    intro i j hi hj hij
    have hi' : i < d'.size := by simpa using hi
    have hj' : j < d'.size := by simpa using hj
    have := hs i j (Nat.zero_le _) hij (by omega)
    rw [lt2, decide_eq_false_iff_not, getElem!_pos d' _ hj', getElem!_pos d' _ hi'] at this
    exact this
  · intro w0 hx hg
    have hx' : Below w0.heap.size w0 w := hx
    refine ⟨hx'.os, hx'.tape, hx'.output, ?_, fun k hk => ?_⟩
    · have := size_sortWorldK_c enc2 2 w g 0 m d' os
      have := hx.size
      omega
    · rw [sw_other (by have := hx.size; omega) (by omega)]
      exact hx'.block k hk

end Go.Proofs.Ytojoljffaedpfaa
