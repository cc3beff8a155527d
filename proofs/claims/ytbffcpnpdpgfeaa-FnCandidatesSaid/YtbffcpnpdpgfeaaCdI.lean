/- impl.CandidatesFor. -/
import Derived.Test.YtbffcpnpdpgfeaaCdR
namespace Go.Proofs.Ytbffcpnpdpgfeaa
open Go.RowKit
set_option linter.unusedVariables false
set_option linter.unusedSimpArgs false

def cdC (x y n k : Int) : Cx := ⟨0, 0, x, y, n, k⟩
/-- the arguments are valid -/
def cdV (x y n k num den : Int) : Bool := Tg x y n && (Wn k 0 8 && Bnd num den)
open Classical in
/-- there is a result -/
noncomputable def cdOk (x y n k num den : Int) : Bool := cdV x y n k num den && decide ((cdL (cdC x y n k) num den).length ≤ 1000)
noncomputable def cdR (x y n k num den : Int) : List Q4 := if cdOk x y n k num den then cdL (cdC x y n k) num den else []
theorem cdR_len (x y n k num den : Int) : (cdR x y n k num den).length ≤ 1000 := by
  unfold cdR
  split
  · rename_i h
    simp only [cdOk, Bool.and_eq_true, decide_eq_true_eq] at h
    exact h.2
  · exact Nat.zero_le _
theorem tg_bd {x y n : Int} (h : Tg x y n = true) : (1 ≤ n ∧ n ≤ 1000) ∧ (-1000 ≤ x ∧ x ≤ 1000) ∧ -1000 ≤ y ∧ y ≤ 1000 := by
  unfold Tg at h
  simp only [Bool.and_eq_true, Wn_iff] at h
  omega
theorem asc_nodup {X : Nat → Q4} {n : Nat} (h : So.Asc lx 0 n X) : (rowL X n).Nodup := by
  unfold rowL
  rw [List.Nodup, List.pairwise_map]
  exact List.Pairwise.imp_of_mem (fun {a b} ha hb hab e => by
    have := h a b (Nat.zero_le _) hab (List.mem_range.1 hb)
    rw [e] at this
    exact lx_ord.irr _ this) List.pairwise_lt_range
theorem cnt_len {c : Cx} (hk : 0 ≤ c.k ∧ c.k ≤ 8) {num den : Int} {X : Nat → Q4} {n : Nat} (hA : So.Asc lx 0 n X) (hm : ∀ u, (∃ p, p < n ∧ X p = u) ↔ Good c num den u) : (cdL c num den).length = n := by
  have hs := cdL_spec hk num den
  have h1 := len_sub (rowL X n) (cdL c num den) (asc_nodup hA) fun x hx => (hs.2 x).2 ((hm x).1 (rowL_mem.1 hx))
  have h2 := len_sub (cdL c num den) (rowL X n) (pw_nodup hs.1) fun x hx => rowL_mem.2 ((hm x).2 ((hs.2 x).1 hx))
  have h3 : (rowL X n).length = n := by simp [rowL]
  omega
theorem seg_list {c : Cx} {num den : Int} {X Y : Nat → Q4} {n : Nat} (hs : So.Seg c.key lx X 0 n Y) (hm : ∀ u, (∃ p, p < n ∧ X p = u) ↔ Good c num den u) : rowL Y n = cdL c num den := by
  refine cdL_eq (rowL_pw hs.sorted) fun u => ?_
  rw [rowL_mem, ← hm u]
  constructor
  · rintro ⟨p, hp, rfl⟩
    obtain ⟨q, -, q2, e⟩ := hs.to p (Nat.zero_le _) hp
    exact ⟨q, q2, e.symm⟩
  · rintro ⟨p, hp, rfl⟩
    obtain ⟨q, -, q2, e⟩ := hs.from_ p (Nat.zero_le _) hp
    exact ⟨q, q2, e.symm⟩

set_option maxRecDepth 20000 in
theorem insertion_none (dv cv : Value) (w : World) : Calls Try.prog 69 #[dv, .int .i64 0, .int .i64 0, cv] w fun e w' => e = .returned (.tuple #[]) ∧ w = w' := by
  go_enter Try.func69, Try.ntmps69
  go_wp2
  go_loopw [8, 9] (fun s8 _ wr => s8 = .int .i64 1 ∧ wr = w) (fun _ _ _ => 0)
  case atStart => exact ⟨rfl, rfl⟩
  case round =>
    obtain ⟨rfl, rfl⟩ := hrel
    go_wp2
    go_end0
    exact ⟨rfl, rfl⟩
set_option maxRecDepth 20000 in
theorem stable_none (dv cv : Value) (w : World) : Calls Try.prog 55 #[dv, .int .i64 0, cv] w fun e w' => e = .returned (.tuple #[]) ∧ w = w' := by
  have HI := fun w' => Lib.hid (insertion_none dv cv w')
  go_enter Try.func55, Try.ntmps55
  go_wp2
  go_loopw [7, 8] (fun s7 s8 wr => s7 = .int .i64 0 ∧ s8 = .int .i64 20 ∧ wr = w) (fun _ _ _ => 0)
  case atStart => exact ⟨rfl, rfl, rfl⟩
  case round =>
    obtain ⟨rfl, rfl, rfl⟩ := hrel
    go_wp2_with fail
    refine ((HI _).out).mono ?_
    rintro e w1 ⟨rfl, rfl⟩
    go_wp2
    go_loopw [6, 7, 8, 9] (fun s6 _ _ _ wq => s6 = .int .i64 20 ∧ wq = wr) (fun _ _ _ _ _ => 0)
    case atStart => exact ⟨rfl, rfl⟩
    case round =>
      obtain ⟨rfl, rfl⟩ := hrel
      go_wp2
      go_end0
      exact ⟨rfl, rfl⟩
theorem sortStable_none (a : Option Addr) (cap : Nat) (cv : Value) (w : World) : Calls Try.prog 33 #[.slice a 0 cap, cv] w fun e w' => e = .returned (.tuple #[]) ∧ w = w' := by
  have HS := fun w' => Lib.hid (stable_none (.slice a 0 cap) cv w')
  go_enter Try.func33, Try.ntmps33
  go_wp2_with fail
  refine ((HS _).out).mono ?_
  rintro e w1 ⟨rfl, rfl⟩
  go_wp2
  go_end0
  exact ⟨rfl, rfl⟩

set_option maxRecDepth 20000 in
set_option maxHeartbeats 8000000 in
theorem candidatesFor_any (x y n k num den : Int) (w : World) :
    Calls Try.prog 8 #[.agg #[.int .i64 x, .int .i64 y, .int .i64 n], .int .i64 k, .int .i64 num, .int .i64 den] w fun e w' => ∃ v, e = .returned (.tuple #[v, .bool (cdOk x y n k num den)]) ∧
      w'.ownsRow w.heap.size 33 4 v (cdR x y n k num den).length (IL (fl4 (cdR x y n k num den))) ∧ Ext w w' := by
  have HT := fun w' => Lib.hid (isValidTarget_any x y n w')
  have HW := fun w' => Lib.hid (within_any k 0 8 w')
  have HN := fun w' => Lib.hid (isBound_any num den w')
  have HV : Hid (cdV x y n k num den = (Tg x y n && (Wn k 0 8 && Bnd num den))) := rfl
  have HBad : Hid (cdV x y n k num den = false → cdOk x y n k num den = false ∧ cdR x y n k num den = []) := fun h => by
    have : cdOk x y n k num den = false := by unfold cdOk; rw [h]; rfl
    refine ⟨this, ?_⟩
    unfold cdR
    rw [this]
    rfl
  cases h1 : Tg x y n
  · rw [h1] at HV HT
    obtain ⟨e1, e2⟩ := HBad.out HV.out
    rw [e1, e2]
    clear HBad HV e1 e2
    go_enter Try.func8, Try.ntmps8
    go_wp2_with fail
    refine ((HT _).out).mono ?_
    rintro e w1 ⟨rfl, hx1⟩
    obtain ⟨hc1, hf1⟩ := hx1.cells
    have hz1 := hx1.size
    try simp at hz1
    have hs1_0 := sz4 (a := w.heap.size) (b := w1.heap.size) (by omega)
    go_wp2
    refine bodyPost_ret (v := .tuple #[.slice none 0 0, .bool false]) (by simp [results, Try.results8, go_sem, *]) rfl ?_
    exact ⟨_, rfl, own_nil _ _ _ _, (by repeat (first | exact Ext.refl _ | assumption | refine Ext.alloc ?_ _ | refine Ext.drew ?_ | refine Ext.drewN ?_ _ | refine Ext.setCell ?_ (by first | omega | (dsimp only; omega) | (simp; done) | (simp; omega)) _ | refine Ext.trans ?_ (by assumption)))⟩
  cases h2 : Wn k 0 8
  · rw [h1, h2] at HV
    rw [h1] at HT
    rw [h2] at HW
    obtain ⟨e1, e2⟩ := HBad.out HV.out
    rw [e1, e2]
    clear HBad HV e1 e2
    go_enter Try.func8, Try.ntmps8
    go_wp2_with fail
    refine ((HT _).out).mono ?_
    rintro e w1 ⟨rfl, hx1⟩
    obtain ⟨hc1, hf1⟩ := hx1.cells
    have hz1 := hx1.size
    try simp at hz1
    have hs1_0 := sz4 (a := w.heap.size) (b := w1.heap.size) (by omega)
    go_wp2_with (go_at_call 25; ((with_reducible refine ((HW _).out).mono ?_); rintro e w' ⟨rfl, rfl⟩))
    refine bodyPost_ret (v := .tuple #[.slice none 0 0, .bool false]) (by simp [results, Try.results8, go_sem, *]) rfl ?_
    exact ⟨_, rfl, own_nil _ _ _ _, (by repeat (first | exact Ext.refl _ | assumption | refine Ext.alloc ?_ _ | refine Ext.drew ?_ | refine Ext.drewN ?_ _ | refine Ext.setCell ?_ (by first | omega | (dsimp only; omega) | (simp; done) | (simp; omega)) _ | refine Ext.trans ?_ (by assumption)))⟩
  cases h3 : Bnd num den
  · rw [h1, h2, h3] at HV
    rw [h1] at HT
    rw [h2] at HW
    rw [h3] at HN
    obtain ⟨e1, e2⟩ := HBad.out HV.out
    rw [e1, e2]
    clear HBad HV e1 e2
    go_enter Try.func8, Try.ntmps8
    go_wp2_with fail
    refine ((HT _).out).mono ?_
    rintro e w1 ⟨rfl, hx1⟩
    obtain ⟨hc1, hf1⟩ := hx1.cells
    have hz1 := hx1.size
    try simp at hz1
    have hs1_0 := sz4 (a := w.heap.size) (b := w1.heap.size) (by omega)
    go_wp2_with (first | (go_at_call 25; ((with_reducible refine ((HW _).out).mono ?_); rintro e w' ⟨rfl, rfl⟩)) | (go_at_call 26; ((with_reducible refine ((HN _).out).mono ?_); rintro e w' ⟨rfl, rfl⟩)))
    refine bodyPost_ret (v := .tuple #[.slice none 0 0, .bool false]) (by simp [results, Try.results8, go_sem, *]) rfl ?_
    exact ⟨_, rfl, own_nil _ _ _ _, (by repeat (first | exact Ext.refl _ | assumption | refine Ext.alloc ?_ _ | refine Ext.drew ?_ | refine Ext.drewN ?_ _ | refine Ext.setCell ?_ (by first | omega | (dsimp only; omega) | (simp; done) | (simp; omega)) _ | refine Ext.trans ?_ (by assumption)))⟩
  rw [h1, h2, h3] at HV
  rw [h1] at HT
  rw [h2] at HW
  rw [h3] at HN
  have hkk : 0 ≤ k ∧ k ≤ 8 := by simpa [Wn_iff] using h2
  have hbd := tg_bd h1
  have hok : ∀ tb kb, ∀ u, smq u ≤ (⟨tb, kb, x, y, n, k⟩ : Cx).pw → (⟨tb, kb, x, y, n, k⟩ : Cx).ok u := fun tb kb u hu => Cx.small ⟨h1, hkk⟩ hu hbd
  have HL : Hid (∀ tb kb, cdL ⟨tb, kb, x, y, n, k⟩ num den = cdL (cdC x y n k) num den) := fun tb kb => rfl
  have HD : Hid (cdOk x y n k num den = decide ((cdL (cdC x y n k) num den).length ≤ 1000)) := by unfold Hid cdOk; rw [HV.out]; rfl
  have HDr : Hid (cdR x y n k num den = if cdOk x y n k num den then cdL (cdC x y n k) num den else []) := rfl
  have hpow : (2 : Int) ^ k.toNat = (⟨w.heap.size, w.heap.size + 1, x, y, n, k⟩ : Cx).pw := rfl
  have hpb := pw_bd (c := ⟨w.heap.size, w.heap.size + 1, x, y, n, k⟩) hkk
  have HSM := fun W0 w' hB hR => Lib.hid (smallRings_any ⟨w.heap.size, w.heap.size + 1, x, y, n, k⟩ (w.heap.size + 1 + 1) (w.heap.size + 1 + 1 + 1) (W0.heap.size + 1) num den hkk h3 (hok _ _) W0 hB w' hR)
  have HSS := fun base g m cap (q1 : w.heap.size ≠ g) (q2 : w.heap.size + 1 ≠ g) (hm : m ≤ 1000000) (h0 : 0 < m) X hX hA w' hR hC => Lib.hid (sortStable_any ⟨w.heap.size, w.heap.size + 1, x, y, n, k⟩ base g m cap q1 q2 hm h0 X hX hA w' hR hC)
  have HGk : Hid (∀ u, Good ⟨w.heap.size, w.heap.size + 1, x, y, n, k⟩ num den u → (⟨w.heap.size, w.heap.size + 1, x, y, n, k⟩ : Cx).ok u) := fun u g => hok _ _ u g.1
  have HRt := Lib.hid (fun (u : Q4) (g : Good ⟨w.heap.size, w.heap.size + 1, x, y, n, k⟩ num den u) => rootA (c := ⟨w.heap.size, w.heap.size + 1, x, y, n, k⟩) hkk g)
  dsimp only at HSM HSS
  clear HBad hok hbd h1 h2 h3
  obtain ⟨P, hP⟩ : ∃ P, (⟨w.heap.size, w.heap.size + 1, x, y, n, k⟩ : Cx).pw = P := ⟨_, rfl⟩
  rw [hP] at hpow hpb
  simp only [hP] at HSM HRt
  clear hP
  have HK := Lib.hid hkk
  go_enter Try.func8, Try.ntmps8
  go_wp2_with fail
  refine ((HT _).out).mono ?_
  rintro e w1 ⟨rfl, hx1⟩
  have HX1 : Hid (Ext w w1) := (by repeat (first | exact Ext.refl _ | assumption | refine Ext.alloc ?_ _ | refine Ext.drew ?_ | refine Ext.drewN ?_ _ | refine Ext.setCell ?_ (by first | omega | (dsimp only; omega) | (simp; done) | (simp; omega)) _ | refine Ext.trans ?_ (by assumption)))
  have HB1 : Hid (w1.heap[w.heap.size]? = some (.cells #[.int .i64 x, .int .i64 y, .int .i64 n] 27 (0, 0))) := (hx1.heap (by first | (simp; done) | (simp; omega))).trans (heap_alloc_lt (heap_alloc_lt (heap_alloc_lt (heap_alloc_new _ _))))
  have HB2 : Hid (w1.heap[w.heap.size + 1]? = some (.cells #[.int .i64 k] 3 (0, 0))) := (hx1.heap (by first | (simp; done) | (simp; omega))).trans (heap_alloc_lt (heap_alloc_lt (heap_alloc_at _ _ _ (by simp))))
  have HB3 : Hid (w1.heap[w.heap.size + 1 + 1]? = some (.cells #[.int .i64 num] 3 (0, 0))) := (hx1.heap (by first | (simp; done) | (simp; omega))).trans (heap_alloc_lt (heap_alloc_at _ _ _ (by simp)))
  have HB4 : Hid (w1.heap[w.heap.size + 1 + 1 + 1]? = some (.cells #[.int .i64 den] 3 (0, 0))) := (hx1.heap (by first | (simp; done) | (simp; omega))).trans (heap_alloc_at _ _ _ (by simp))
  have z2 := fun o => cell_of_row _ _ o _ _ _ HB2.out
  have z3 := fun o => cell_of_row _ _ o _ _ _ HB3.out
  have z4 := fun o => cell_of_row _ _ o _ _ _ HB4.out
  have l1 := (Array.getElem?_eq_some_iff.1 HB1.out).1
  have l2 := (Array.getElem?_eq_some_iff.1 HB2.out).1
  have l3 := (Array.getElem?_eq_some_iff.1 HB3.out).1
  have l4 := (Array.getElem?_eq_some_iff.1 HB4.out).1
  clear hx1
  go_wp2_with (first | (go_at_call 25; ((with_reducible refine ((HW _).out).mono ?_); rintro e w' ⟨rfl, rfl⟩)) | (go_at_call 26; ((with_reducible refine ((HN _).out).mono ?_); rintro e w' ⟨rfl, rfl⟩)))
  refine ((HSM w1 _ ⟨⟨HB1.out, HB2.out⟩, HB3.out, HB4.out⟩ ?_).out).mono ?_
  · refine ⟨_, 0, fun _ => ⟨0, 0, 0, 0⟩, ⟨((Ext.refl w1).alloc _).alloc _, heap_alloc_at _ _ _ (by simp), own_ext (World.ownsRow_lit w1 #[] 0 (Nat.le_refl _) (by decide) rfl) ((Ext.refl _).alloc _), fun kk hkk => ?_, by omega⟩, fun i j _ _ h => by omega, fun u => ⟨?_, ?_⟩⟩
    · have e : w1.heap.size = kk := Option.some.inj (show some w1.heap.size = some kk from hkk)
      omega
    · rintro ⟨p, hp, _⟩
      omega
    · rintro ⟨g, s⟩
      have := HRt.out u g
      unfold VA at s
      omega
  rintro e w2 ⟨rfl, v, cnt, X, hst, hA, hm⟩
  have hm' : ∀ u, (∃ p, p < cnt ∧ X p = u) ↔ Good ⟨w.heap.size, w.heap.size + 1, x, y, n, k⟩ num den u := fun u => by
    rw [hm u]
    refine ⟨fun h => h.1, fun g => ⟨g, ?_⟩⟩
    have := HRt.out u g
    unfold VA
    omega
  have HM := Lib.hid hm'
  have HLn : Hid ((cdL (cdC x y n k) num den).length = cnt) := by
    unfold Hid
    rw [← HL.out w.heap.size (w.heap.size + 1)]
    exact cnt_len HK.out hA hm'
  have HA := Lib.hid hA
  have HS := Lib.hid hst
  have HE2 := Lib.hid (HX1.out.trans hst.ext)
  obtain ⟨va, cap, hv, q1, q2, q3⟩ := own_shape hst.own
  subst hv
  have hOX : ∀ p, p < cnt → (⟨w.heap.size, w.heap.size + 1, x, y, n, k⟩ : Cx).ok (X p) := fun p hp => HGk.out _ ((hm' _).1 ⟨p, hp, rfl⟩)
  have HOX := Lib.hid hOX
  have zO := fun o => cell_of_row _ _ o _ _ _ hst.box
  have lO := (Array.getElem?_eq_some_iff.1 hst.box).1
  have hcap : (cnt : Int) ≤ 9223372036854775807 := by simp only [maxLen] at q2; omega
  clear hm hm' hA hst z2 z3 z4 HSM hOX HT HW HN
  by_cases hc : cnt ≤ 1000
  case neg =>
    have hc' : (1000 : Int) < (cnt : Int) := by omega
    have ho : cdOk x y n k num den = false := by rw [HD.out, HLn.out]; exact decide_eq_false hc
    have hr : cdR x y n k num den = [] := by rw [HDr.out, ho]; rfl
    have HO := Lib.hid (And.intro ho hr)
    clear ho hr
    go_wp2
    refine bodyPost_ret (v := .tuple #[.slice none 0 0, .bool false]) (by simp [results, Try.results8, go_sem, *]) rfl ?_
    rw [HO.out.1, HO.out.2]
    exact ⟨_, rfl, own_nil _ _ _ _, HE2.out⟩
  have hc' : ¬ (1000 : Int) < (cnt : Int) := by omega
  have ho : cdOk x y n k num den = true := by rw [HD.out, HLn.out]; exact decide_eq_true hc
  have hr : cdR x y n k num den = cdL (cdC x y n k) num den := by rw [HDr.out, ho]; rfl
  have HO := Lib.hid (And.intro ho hr)
  clear ho hr
  by_cases h0 : cnt = 0
  · subst h0
    have HSN := fun cv w' => Lib.hid (sortStable_none va cap cv w')
    clear HSS
    go_wp2_with fail
    refine ((HSN _ _).out).mono ?_
    rintro e w3 ⟨rfl, rfl⟩
    go_wp2
    refine bodyPost_ret (v := .tuple #[.slice va 0 cap, .bool true]) (by simp [results, Try.results8, go_sem, *]) rfl ?_
    rw [HO.out.1, HO.out.2]
    have hnil : cdL (cdC x y n k) num den = [] := List.eq_nil_of_length_eq_zero HLn.out
    rw [hnil]
    exact ⟨_, rfl, own_base HS.out.own HX1.out.size, HE2.out⟩
  · obtain ⟨g, rfl, g1, g2, -, -⟩ := q3 (by omega)
    have hgo : g ≠ w1.heap.size + 1 := HS.out.dif g rfl
    have hz1 := HX1.out.size
    have m1 : w.heap.size ≠ g := Nat.ne_of_lt (Nat.lt_of_lt_of_le l1 g1)
    have m2 : w.heap.size + 1 ≠ g := Nat.ne_of_lt (Nat.lt_of_lt_of_le l2 g1)
    have m3 : cnt ≤ 1000000 := Nat.le_trans hc (by decide)
    have m4 : 0 < cnt := Nat.pos_of_ne_zero h0
    have HCS := Lib.hid (HSS w1.heap.size g cnt cap m1 m2 m3 m4 X HOX.out HA.out w2 HS.out.own ⟨(HS.out.ext.heap l1).trans HB1.out, (HS.out.ext.heap l2).trans HB2.out⟩).out
    have HNE := Lib.hid hgo
    have hg1 := Lib.hid g1
    clear HSS
    go_wp2_with fail
    refine (HCS.out).mono ?_
    rintro e w3 ⟨rfl, Y, y1, y2, y3⟩
    have hb3 := (y3.heap lO (by simpa using fun e => HNE.out e.symm)).trans HS.out.box
    have z3 := fun o => cell_of_row _ _ o _ _ _ hb3
    have HE3 : Hid (Ext w w3) := (GX.trans (GX.ofExt HE2.out) y3).toExt (by intro k hk; simp at hk; subst hk; have := HX1.out.size; have := hg1.out; omega)
    have HY1 := Lib.hid y1
    have HLst := Lib.hid ((seg_list y2 HM.out).trans (HL.out _ _))
    clear y1 y2 y3 hb3 HCS
    go_wp2
    refine bodyPost_ret (v := .tuple #[.slice (some ⟨g, 0, none⟩) cnt cap, .bool true]) (by simp [results, Try.results8, go_sem, *]) rfl ?_
    rw [HO.out.1, HO.out.2, ← HLst.out, ← mo4_row]
    refine ⟨_, rfl, ?_, HE3.out⟩
    have hl : (rowL Y cnt).length = cnt := by simp [rowL]
    rw [hl]
    exact own_base HY1.out HX1.out.size

end Go.Proofs.Ytbffcpnpdpgfeaa
