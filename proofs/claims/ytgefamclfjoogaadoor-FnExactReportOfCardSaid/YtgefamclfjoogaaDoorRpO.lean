/- ReportOf on both sides. -/
import Derived.Test.YtgefamclfjoogaaDoorRp
import Derived.Test.YtgefamclfjoogaaDoorCgL
namespace Go.Proofs.YtgefamclfjoogaaDoor
open Go.RowKit
set_option linter.unusedVariables false
set_option linter.unusedSimpArgs false

theorem mfin_heap {ops : Array Oper} {kl : List Kd} {w0 W : World} {σ : Nat → Nat} (h : MFin ops kl w0 W σ) (i s : Nat) {mk : Nat → Value} {t : TypeId} {c c1 : Array Value} (hk : Kd.at kl i = .maker mk t c s c1) (hi : i < ops.size) (cs : Array Value) (he : (if s < ops.size then c1 else c) = cs) :
    W.heap[σ i]? = some (.cells cs t (0, 0)) := by
  have h2 := (h.blk i mk t c s c1 hi hk).2
  rwa [he] at h2
/-- the report's text -/
def repT (t1 t2 u1 u2 g1 g2 s k : Int) : List UInt8 :=
  lineT [116] [t1, t2] ++ lineT [116, 119, 111] [u1, u2] ++ lineT [103, 97, 116, 101, 115] [g1, g2] ++ lineT [115, 116, 101, 112, 115] [s] ++ lineT [115, 119, 97, 112, 115] [k]
def rpOk (c : Cv) (q3 : Int) (ts : List Int) (n3 : Nat) : Bool := cOk c.q1 c.xs c.n1 && (cOk c.q2 c.ys c.n2 && cOk q3 ts n3)
def rpT (c : Cv) (q3 : Int) (ts : List Int) (n3 : Nat) (zs : List Int) (p : Nat) : List UInt8 :=
  if rpOk c q3 ts n3 then repT (cntTo (kAny 7 8 c.xs) c.n1) (cntTo (kAny 7 8 c.ys) c.n2) (cntTo (kAny 9 11 c.xs) c.n1) (cntTo (kAny 9 11 c.ys) c.n2) c.n1 c.n2 c.n (cntTo (swK zs) p) else []
theorem rsv_shape {w : World} {v : Value} {rs : List Rp} (h : RSV w v rs) : ∃ a cap, v = .slice a rs.length cap ∧ rs.length ≤ cap ∧ cap ≤ maxLen := by
  obtain ⟨a, cap, h1, h2, h3, _⟩ := h
  exact ⟨a, cap, h1, h2, h3⟩
theorem rv_pair {w : World} {B : Nat} {x y : Int} (h : w.heap[B]? = some (.cells #[.int .i64 x, .int .i64 y] 3 (0, 0))) : RV w 1 (.slice (some ⟨B, 0, none⟩) 2 2) 2 [x, y] := by
  refine ⟨rfl, _, _, rfl, Nat.le_refl _, by decide, fun _ => ⟨B, 0, rfl, (Array.getElem?_eq_some_iff.1 h).1, fun j u hu => ?_⟩⟩
  rw [Nat.zero_add, cell_of_row _ _ _ _ _ _ h]
  simpa [IL] using hu
theorem rv_one1 {w : World} {B : Nat} {x : Int} (h : w.heap[B]? = some (.cells #[.int .i64 x] 3 (0, 0))) : RV w 1 (.slice (some ⟨B, 0, none⟩) 1 1) 1 [x] := by
  refine ⟨rfl, _, _, rfl, Nat.le_refl _, by decide, fun _ => ⟨B, 0, rfl, (Array.getElem?_eq_some_iff.1 h).1, fun j u hu => ?_⟩⟩
  rw [Nat.zero_add, cell_of_row _ _ _ _ _ _ h]
  simpa [IL] using hu
theorem sm2 {x y : Int} (hx : Sm x) (hy : Sm y) : ∀ z ∈ [x, y], Sm z := by
  intro z hz
  simp only [List.mem_cons, List.not_mem_nil, or_false] at hz
  rcases hz with rfl | rfl <;> assumption
theorem sm1 {x : Int} (hx : Sm x) : ∀ z ∈ [x], Sm z := by
  intro z hz
  simp only [List.mem_cons, List.not_mem_nil, or_false] at hz
  subst hz
  exact hx
theorem cnt_sm {f : Nat → Bool} {n : Nat} (h : n ≤ 2000000) : 0 ≤ cntTo f n ∧ cntTo f n ≤ 2000000 := by
  have := cntTo_bd f n
  omega

set_option maxRecDepth 20000 in
set_option maxHeartbeats 4000000 in
theorem reportOf_any (c : Cv) (q3 : Int) {v1 vs v2 vt vr v3 : Value} {m p n3 : Nat} {ss zs ts : List Int} (hc1 : c.n1 ≤ 2000000) (hc2 : c.n2 ≤ 2000000) (hc : c.n ≤ 2000000) (hp : p ≤ 2000000) (h3 : n3 ≤ 2000000) (w : World) (hT : Tab w)
    (h : CV w v1 vs v2 c) (ht : RV w 1 vt m ss) (hr : RV w 3 vr p zs) (ho : RV w 3 v3 n3 ts) :
    Calls Tryd.prog 7 #[.agg #[.int .i64 c.q1, v1, vs, .int .i64 c.q2, v2, vt, vr, .int .i64 q3, v3]] w fun en w' => en = .returned (.tuple #[.string (BA (rpT c q3 ts n3 zs p)), .bool (rpOk c q3 ts n3)]) ∧ Ext w w' := by
  have H1 := fun w' (hx : Ext w w') => Lib.hid (costOf_any c.q1 hc1 w' (h.1.ext hx))
  have H2 := fun w' (hx : Ext w w') => Lib.hid (costOf_any c.q2 hc2 w' (h.2.2.ext hx))
  have H3 := fun w' (hx : Ext w w') => Lib.hid (isValidCircuit_any q3 h3 w' (ho.ext hx))
  have HSW := fun w' (hx : Ext w w') => Lib.hid (swapsIn_any hp w' (ht.ext hx) (hr.ext hx))
  obtain ⟨a1, cap1, rfl, _, _, _⟩ := h.1.2
  obtain ⟨av, caps, hvs, _, _⟩ := rsv_shape h.2.1
  rw [RL_len] at hvs
  obtain ⟨a2, cap2, rfl, _, _, _⟩ := h.2.2.2
  obtain ⟨at', capt, rfl, _, _, _⟩ := ht.2
  obtain ⟨ar, capr, rfl, _, _, _⟩ := hr.2
  obtain ⟨a3, cap3, rfl, _, _, _⟩ := ho.2
  subst hvs
  have hnn : (c.n : Int) ≤ 9223372036854775807 := by omega
  clear h ht hr ho
  cases hk1 : cOk c.q1 c.xs c.n1
  · have hR : rpOk c q3 ts n3 = false := by simp [rpOk, hk1]
    have HR : Hid (BA (rpT c q3 ts n3 zs p) = ⟨#[]⟩) := by unfold Hid rpT; rw [hR]; rfl
    rw [hR, HR.out]
    rw [hk1] at H1
    cases hk2 : cOk c.q2 c.ys c.n2
    all_goals
      rw [hk2] at H2
      go_enter Tryd.func7, Tryd.ntmps7
      go_wp2_with fail
      refine ((H1 _ (by repeat (first | exact Ext.refl _ | assumption | refine Ext.alloc ?_ _ | refine Ext.drew ?_ | refine Ext.drewN ?_ _ | refine Ext.setCell ?_ (by first | omega | (dsimp only; omega) | (simp; done) | (simp; omega)) _ | refine Ext.trans ?_ (by assumption)))).out).mono ?_
      rintro e w1 ⟨rfl, hx1⟩
      obtain ⟨hc1, hf1⟩ := hx1.cells
      have hz1 := hx1.size
      try simp at hz1
      have hs1_0 := sz1 (a := w.heap.size) (b := w1.heap.size) (by omega)
      go_wp2_with fail
      refine ((H2 _ (by repeat (first | exact Ext.refl _ | assumption | refine Ext.alloc ?_ _ | refine Ext.drew ?_ | refine Ext.drewN ?_ _ | refine Ext.setCell ?_ (by first | omega | (dsimp only; omega) | (simp; done) | (simp; omega)) _ | refine Ext.trans ?_ (by assumption)))).out).mono ?_
      rintro e w2 ⟨rfl, hx2⟩
      obtain ⟨hc2, hf2⟩ := hx2.cells
      have hz2 := hx2.size
      try simp at hz2
      have hs2_0 := sz1 (a := w.heap.size) (b := w2.heap.size) (by omega)
      go_wp2
      refine bodyPost_ret (v := .tuple #[.string ⟨#[]⟩, .bool false]) (by simp [results, Tryd.results7, go_sem, *]) rfl ?_
      exact ⟨rfl, (by repeat (first | (with_reducible refine Ext.setCell ?_ (by first | (simp; done) | (simp; omega)) _) | with_reducible refine Ext.alloc ?_ _ | with_reducible refine Ext.drew ?_ | with_reducible refine Ext.drewN ?_ _ | with_reducible assumption | with_reducible exact Ext.refl _ | with_reducible refine Ext.trans ?_ (by with_reducible assumption)))⟩
  cases hk2 : cOk c.q2 c.ys c.n2
  · have hR : rpOk c q3 ts n3 = false := by simp [rpOk, hk2]
    have HR : Hid (BA (rpT c q3 ts n3 zs p) = ⟨#[]⟩) := by unfold Hid rpT; rw [hR]; rfl
    rw [hR, HR.out]
    rw [hk1] at H1
    rw [hk2] at H2
    go_enter Tryd.func7, Tryd.ntmps7
    go_wp2_with fail
    refine ((H1 _ (by repeat (first | exact Ext.refl _ | assumption | refine Ext.alloc ?_ _ | refine Ext.drew ?_ | refine Ext.drewN ?_ _ | refine Ext.setCell ?_ (by first | omega | (dsimp only; omega) | (simp; done) | (simp; omega)) _ | refine Ext.trans ?_ (by assumption)))).out).mono ?_
    rintro e w1 ⟨rfl, hx1⟩
    obtain ⟨hc1, hf1⟩ := hx1.cells
    have hz1 := hx1.size
    try simp at hz1
    have hs1_0 := sz1 (a := w.heap.size) (b := w1.heap.size) (by omega)
    go_wp2_with fail
    refine ((H2 _ (by repeat (first | exact Ext.refl _ | assumption | refine Ext.alloc ?_ _ | refine Ext.drew ?_ | refine Ext.drewN ?_ _ | refine Ext.setCell ?_ (by first | omega | (dsimp only; omega) | (simp; done) | (simp; omega)) _ | refine Ext.trans ?_ (by assumption)))).out).mono ?_
    rintro e w2 ⟨rfl, hx2⟩
    obtain ⟨hc2, hf2⟩ := hx2.cells
    have hz2 := hx2.size
    try simp at hz2
    have hs2_0 := sz1 (a := w.heap.size) (b := w2.heap.size) (by omega)
    go_wp2
    refine bodyPost_ret (v := .tuple #[.string ⟨#[]⟩, .bool false]) (by simp [results, Tryd.results7, go_sem, *]) rfl ?_
    exact ⟨rfl, (by repeat (first | (with_reducible refine Ext.setCell ?_ (by first | (simp; done) | (simp; omega)) _) | with_reducible refine Ext.alloc ?_ _ | with_reducible refine Ext.drew ?_ | with_reducible refine Ext.drewN ?_ _ | with_reducible assumption | with_reducible exact Ext.refl _ | with_reducible refine Ext.trans ?_ (by with_reducible assumption)))⟩
  cases hk3 : cOk q3 ts n3
  · have hR : rpOk c q3 ts n3 = false := by simp [rpOk, hk3]
    have HR : Hid (BA (rpT c q3 ts n3 zs p) = ⟨#[]⟩) := by unfold Hid rpT; rw [hR]; rfl
    rw [hR, HR.out]
    rw [hk1] at H1
    rw [hk2] at H2
    rw [hk3] at H3
    go_enter Tryd.func7, Tryd.ntmps7
    go_wp2_with fail
    refine ((H1 _ (by repeat (first | exact Ext.refl _ | assumption | refine Ext.alloc ?_ _ | refine Ext.drew ?_ | refine Ext.drewN ?_ _ | refine Ext.setCell ?_ (by first | omega | (dsimp only; omega) | (simp; done) | (simp; omega)) _ | refine Ext.trans ?_ (by assumption)))).out).mono ?_
    rintro e w1 ⟨rfl, hx1⟩
    obtain ⟨hc1, hf1⟩ := hx1.cells
    have hz1 := hx1.size
    try simp at hz1
    have hs1_0 := sz1 (a := w.heap.size) (b := w1.heap.size) (by omega)
    go_wp2_with fail
    refine ((H2 _ (by repeat (first | exact Ext.refl _ | assumption | refine Ext.alloc ?_ _ | refine Ext.drew ?_ | refine Ext.drewN ?_ _ | refine Ext.setCell ?_ (by first | omega | (dsimp only; omega) | (simp; done) | (simp; omega)) _ | refine Ext.trans ?_ (by assumption)))).out).mono ?_
    rintro e w2 ⟨rfl, hx2⟩
    obtain ⟨hc2, hf2⟩ := hx2.cells
    have hz2 := hx2.size
    try simp at hz2
    have hs2_0 := sz1 (a := w.heap.size) (b := w2.heap.size) (by omega)
    go_wp2_with fail
    refine ((H3 _ (by repeat (first | (with_reducible refine Ext.setCell ?_ (by first | (simp; done) | (simp; omega)) _) | with_reducible refine Ext.alloc ?_ _ | with_reducible refine Ext.drew ?_ | with_reducible refine Ext.drewN ?_ _ | with_reducible assumption | with_reducible exact Ext.refl _ | with_reducible refine Ext.trans ?_ (by with_reducible assumption)))).out).mono ?_
    rintro e w3 ⟨rfl, hx3⟩
    obtain ⟨hc3, hf3⟩ := hx3.cells
    have hz3 := hx3.size
    try simp at hz3
    have hs3_0 := sz1 (a := w.heap.size) (b := w3.heap.size) (by omega)
    go_wp2
    refine bodyPost_ret (v := .tuple #[.string ⟨#[]⟩, .bool false]) (by simp [results, Tryd.results7, go_sem, *]) rfl ?_
    exact ⟨rfl, (by repeat (first | (with_reducible refine Ext.setCell ?_ (by first | (simp; done) | (simp; omega)) _) | with_reducible refine Ext.alloc ?_ _ | with_reducible refine Ext.drew ?_ | with_reducible refine Ext.drewN ?_ _ | with_reducible assumption | with_reducible exact Ext.refl _ | with_reducible refine Ext.trans ?_ (by with_reducible assumption)))⟩
  have hR : rpOk c q3 ts n3 = true := by simp [rpOk, hk1, hk2, hk3]
  have hbT := fun f => cnt_sm (f := f) hc1
  have hbU := fun f => cnt_sm (f := f) hc2
  have hbP := fun f => cnt_sm (f := f) hp
  have HR : Hid (BA (rpT c q3 ts n3 zs p) = BA (lineT [116] [cntTo (kAny 7 8 c.xs) c.n1, cntTo (kAny 7 8 c.ys) c.n2]) ++ BA (lineT [116, 119, 111] [cntTo (kAny 9 11 c.xs) c.n1, cntTo (kAny 9 11 c.ys) c.n2]) ++ BA (lineT [103, 97, 116, 101, 115] [(c.n1 : Int), (c.n2 : Int)]) ++ ⟨#[115, 116, 101, 112, 115, 32]⟩ ++ BA (Lib.itoa (c.n : Int)) ++ ⟨#[10]⟩ ++ BA (lineT [115, 119, 97, 112, 115] [cntTo (swK zs) p])) := by
    unfold Hid rpT
    rw [hR, if_pos rfl, show (⟨#[115, 116, 101, 112, 115, 32]⟩ : ByteArray) = BA [115, 116, 101, 112, 115, 32] from rfl, show (⟨#[10]⟩ : ByteArray) = BA [10] from rfl]
    simp only [ba_app]
    congr 1
    simp [repT, lineT, bodyT]
  rw [hR, HR.out]
  rw [hk1] at H1
  rw [hk2] at H2
  rw [hk3] at H3
  simp only [costT, costW, costG, hk1, hk2, if_true] at H1 H2
  have sT := hbT (kAny 7 8 c.xs)
  have sT' := hbU (kAny 7 8 c.ys)
  have sU := hbT (kAny 9 11 c.xs)
  have sU' := hbU (kAny 9 11 c.ys)
  have sK := hbP (swK zs)
  clear hbT hbU hbP HR hk1 hk2 hk3 hR
  have HCS := fun (W : World) (hx : Ext w W) => Lib.hid (Tab.ext hT hx)
  generalize cntTo (kAny 7 8 c.xs) c.n1 = t1 at *
  generalize cntTo (kAny 7 8 c.ys) c.n2 = t2 at *
  generalize cntTo (kAny 9 11 c.xs) c.n1 = u1 at *
  generalize cntTo (kAny 9 11 c.ys) c.n2 = u2 at *
  generalize cntTo (swK zs) p = k at *
  obtain ⟨g1, hg1⟩ : ∃ g : Int, (c.n1 : Int) = g := ⟨_, rfl⟩
  obtain ⟨g2, hg2⟩ : ∃ g : Int, (c.n2 : Int) = g := ⟨_, rfl⟩
  have sG : Sm g1 := by unfold Sm; omega
  have sG' : Sm g2 := by unfold Sm; omega
  simp only [hg1, hg2] at H1 H2 ⊢
  clear hg1 hg2
  have sT : Sm t1 := by unfold Sm; omega
  have sT' : Sm t2 := by unfold Sm; omega
  have sU : Sm u1 := by unfold Sm; omega
  have sU' : Sm u2 := by unfold Sm; omega
  have sK : Sm k := by unfold Sm; omega
  have sN : Sm (c.n : Int) := by unfold Sm; omega
  have L1 := line_len (word := [116]) (xs := [t1, t2]) (by decide) (by simp) (sm2 sT sT')
  have L2 := line_len (word := [116, 119, 111]) (xs := [u1, u2]) (by decide) (by simp) (sm2 sU sU')
  have L3 := line_len (word := [103, 97, 116, 101, 115]) (xs := [g1, g2]) (by decide) (by simp) (sm2 sG sG')
  have L5 := line_len (word := [115, 119, 97, 112, 115]) (xs := [k]) (by decide) (by simp) (sm1 sK)
  have LI := itoa_size _ sN
  have HL1 := fun (W : World) (hx : Ext w W) b h => Lib.hid (lineC_any [116] (by decide) (by decide) (by decide) (sm2 sT sT') W (HCS W hx).out (rv_pair (w := W) (B := b) h))
  have HL2 := fun (W : World) (hx : Ext w W) b h => Lib.hid (lineC_any [116, 119, 111] (by decide) (by decide) (by decide) (sm2 sU sU') W (HCS W hx).out (rv_pair (w := W) (B := b) h))
  have HL3 := fun (W : World) (hx : Ext w W) b h => Lib.hid (lineC_any [103, 97, 116, 101, 115] (by decide) (by decide) (by decide) (sm2 sG sG') W (HCS W hx).out (rv_pair (w := W) (B := b) h))
  have HL4 := fun (W : World) (hx : Ext w W) b h => Lib.hid (lineC_any [115, 119, 97, 112, 115] (by decide) (by decide) (by decide) (sm1 sK) W (HCS W hx).out (rv_one1 (w := W) (B := b) h))
  have HI := fun (W : World) (hx : Ext w W) => Lib.hid (itoa_any (c.n : Int) sN.wi W (HCS W hx).out)
  rw [show BA [116] = ⟨#[116]⟩ from rfl] at HL1
  rw [show BA [116, 119, 111] = ⟨#[116, 119, 111]⟩ from rfl] at HL2
  rw [show BA [103, 97, 116, 101, 115] = ⟨#[103, 97, 116, 101, 115]⟩ from rfl] at HL3
  rw [show BA [115, 119, 97, 112, 115] = ⟨#[115, 119, 97, 112, 115]⟩ from rfl] at HL4
  clear sT sT' sU sU' sG sG' sK sN HCS hT
  generalize BA (lineT [116] [t1, t2]) = S1 at *
  generalize BA (lineT [116, 119, 111] [u1, u2]) = S2 at *
  generalize BA (lineT [103, 97, 116, 101, 115] [g1, g2]) = S3 at *
  generalize BA (lineT [115, 119, 97, 112, 115] [k]) = S5 at *
  generalize BA (Lib.itoa (c.n : Int)) = SI at *
  generalize c.n = nn at *
  generalize c.q1 = q1 at *
  generalize c.q2 = q2 at *
  have d1 : ¬ 9223372036854775807 < S1.size + S2.size := by omega
  have d2 : ¬ 9223372036854775807 < S1.size + S2.size + S3.size := by omega
  have d3 : ¬ 9223372036854775807 < S1.size + S2.size + S3.size + 6 := by omega
  have d4 : ¬ 9223372036854775807 < S1.size + S2.size + S3.size + 6 + SI.size := by omega
  have d5 : ¬ 9223372036854775807 < S1.size + S2.size + S3.size + 6 + SI.size + 1 := by omega
  have d6 : ¬ 9223372036854775807 < S1.size + S2.size + S3.size + 6 + SI.size + 1 + S5.size := by omega
  clear L1 L2 L3 L5 LI
  go_enter Tryd.func7, Tryd.ntmps7
  go_wp2_with fail
  refine ((H1 _ (by repeat (first | exact Ext.refl _ | assumption | refine Ext.alloc ?_ _ | refine Ext.drew ?_ | refine Ext.drewN ?_ _ | refine Ext.setCell ?_ (by first | omega | (dsimp only; omega) | (simp; done) | (simp; omega)) _ | refine Ext.trans ?_ (by assumption)))).out).mono ?_
  rintro e w1 ⟨rfl, hx1⟩
  obtain ⟨hc1, hf1⟩ := hx1.cells
  have hz1 := hx1.size
  try simp at hz1
  have hs1_0 := sz1 (a := w.heap.size) (b := w1.heap.size) (by omega)
  have HA1 : Hid (w1.heap[w.heap.size]? = some (.cells #[.int .i64 q1, .slice a1 c.n1 cap1, .slice av nn caps, .int .i64 q2, .slice a2 c.n2 cap2, .slice at' m capt, .slice ar p capr, .int .i64 q3, .slice a3 n3 cap3] 47 (0, 0))) := heap_keep hx1 (heap_alloc_new _ _)
  have HE1 := Lib.hid (((Ext.refl w).alloc _).trans hx1)
  go_wp2_with fail
  refine ((H2 _ (by repeat (first | exact Ext.refl _ | assumption | refine Ext.alloc ?_ _ | refine Ext.drew ?_ | refine Ext.drewN ?_ _ | refine Ext.setCell ?_ (by first | omega | (dsimp only; omega) | (simp; done) | (simp; omega)) _ | refine Ext.trans ?_ (by assumption)))).out).mono ?_
  rintro e w2 ⟨rfl, hx2⟩
  obtain ⟨hc2, hf2⟩ := hx2.cells
  have hz2 := hx2.size
  try simp at hz2
  have hs2_0 := sz1 (a := w.heap.size) (b := w2.heap.size) (by omega)
  have HA2 := Lib.hid (heap_keep hx2 (heap_alloc_lt (o := .cells #[.int .i64 t1, .int .i64 u1, .int .i64 g1] 56 (0, 0)) HA1.out))
  have HB2 : Hid (w2.heap[w1.heap.size]? = some (.cells #[.int .i64 t1, .int .i64 u1, .int .i64 g1] 56 (0, 0))) := heap_keep hx2 (heap_alloc_new _ _)
  have HE2 := Lib.hid ((HE1.out.alloc _).trans hx2)
  go_wp2_with fail
  refine ((H3 _ (by repeat (first | (with_reducible refine Ext.setCell ?_ (by first | (simp; done) | (simp; omega)) _) | with_reducible refine Ext.alloc ?_ _ | with_reducible refine Ext.drew ?_ | with_reducible refine Ext.drewN ?_ _ | with_reducible assumption | with_reducible exact Ext.refl _ | with_reducible refine Ext.trans ?_ (by with_reducible assumption)))).out).mono ?_
  rintro e w3 ⟨rfl, hx3⟩
  have HA3 := Lib.hid (heap_keep hx3 (heap_alloc_lt (o := .cells #[.int .i64 t2, .int .i64 u2, .int .i64 g2] 56 (0, 0)) HA2.out))
  have HB3 := Lib.hid (heap_keep hx3 (heap_alloc_lt (o := .cells #[.int .i64 t2, .int .i64 u2, .int .i64 g2] 56 (0, 0)) HB2.out))
  have HC3 : Hid (w3.heap[w2.heap.size]? = some (.cells #[.int .i64 t2, .int .i64 u2, .int .i64 g2] 56 (0, 0))) := heap_keep hx3 (heap_alloc_new _ _)
  have HE3 := Lib.hid ((HE2.out.alloc _).trans hx3)
  clear HA1 HA2 HB2 HE1 HE2 hx1 hx2 hx3 hc1 hc2 hf1 hf2 hz1 hz2 H1 H2 H3
  have zA := fun q => cell_of_row _ _ q _ _ _ HA3.out
  have zB := fun q => cell_of_row _ _ q _ _ _ HB3.out
  have zC := fun q => cell_of_row _ _ q _ _ _ HC3.out
  have lA := (Array.getElem?_eq_some_iff.1 HA3.out).1
  have lB := (Array.getElem?_eq_some_iff.1 HB3.out).1
  have lC := (Array.getElem?_eq_some_iff.1 HC3.out).1
  have HL1 := fun (W : World) (hx : Ext w3 W) => HL1 W (HE3.out.trans hx)
  have HL2 := fun (W : World) (hx : Ext w3 W) => HL2 W (HE3.out.trans hx)
  have HL3 := fun (W : World) (hx : Ext w3 W) => HL3 W (HE3.out.trans hx)
  have HL4 := fun (W : World) (hx : Ext w3 W) => HL4 W (HE3.out.trans hx)
  have HI := fun (W : World) (hx : Ext w3 W) => HI W (HE3.out.trans hx)
  go_wp2
  refine Ex.wp_region_ex (m := 73) [.fn [] (fun _ => .func (.func 20) #[] #[]), .fn [] (fun _ => .pointer (some ⟨w1.heap.size, 0, none⟩)), .fn [] (fun _ => .int .i64 t1), .fn [] (fun _ => .pointer (some ⟨w2.heap.size, 0, none⟩)), .fn [] (fun _ => .int .i64 t2), .ex (Ex.PhN (w3) (fun n => .slice (some ⟨n, 0, none⟩) 2 2) 3 #[.int .i64 t1, .int .i64 t2]) 1 [], .fn [5] (fun _ => .string S1), .fn [] (fun _ => .func (.func 20) #[] #[]), .fn [] (fun _ => .pointer (some ⟨w1.heap.size, 1, none⟩)), .fn [] (fun _ => .int .i64 u1), .fn [] (fun _ => .pointer (some ⟨w2.heap.size, 1, none⟩)), .fn [] (fun _ => .int .i64 u2), .ex (Ex.PhN (w3) (fun n => .slice (some ⟨n, 0, none⟩) 2 2) 3 #[.int .i64 u1, .int .i64 u2]) 2 [], .fn [12] (fun _ => .string S2), .fn [] (fun _ => .string (S1 ++ S2)), .fn [] (fun _ => .func (.func 20) #[] #[]), .fn [] (fun _ => .pointer (some ⟨w1.heap.size, 2, none⟩)), .fn [] (fun _ => .int .i64 g1), .fn [] (fun _ => .pointer (some ⟨w2.heap.size, 2, none⟩)), .fn [] (fun _ => .int .i64 g2), .ex (Ex.PhN (w3) (fun n => .slice (some ⟨n, 0, none⟩) 2 2) 3 #[.int .i64 g1, .int .i64 g2]) 3 [], .fn [20] (fun _ => .string S3), .fn [] (fun _ => .string (S1 ++ S2 ++ S3)), .fn [] (fun _ => .string (S1 ++ S2 ++ S3 ++ ⟨#[115, 116, 101, 112, 115, 32]⟩)), .fn [] (fun _ => .pointer (some ⟨w.heap.size, 0, none⟩)), .fn [] (fun _ => .pointer (some ⟨w.heap.size, 2, none⟩)), .fn [] (fun _ => .slice av nn caps), .fn [] (fun _ => .int .i64 nn), .fn [] (fun _ => .string SI), .fn [] (fun _ => .string (S1 ++ S2 ++ S3 ++ ⟨#[115, 116, 101, 112, 115, 32]⟩ ++ SI)), .fn [] (fun _ => .string (S1 ++ S2 ++ S3 ++ ⟨#[115, 116, 101, 112, 115, 32]⟩ ++ SI ++ ⟨#[10]⟩)), .fn [] (fun _ => .func (.func 20) #[] #[]), .fn [] (fun _ => .pointer (some ⟨w.heap.size, 5, none⟩)), .fn [] (fun _ => .agg #[.slice at' m capt, .slice ar p capr]), .fn [] (fun _ => .int .i64 k), .ex (Ex.PhN (w3) (fun n => .slice (some ⟨n, 0, none⟩) 1 1) 3 #[.int .i64 k]) 4 [], .fn [35] (fun _ => .string S5), .fn [] (fun _ => .string (S1 ++ S2 ++ S3 ++ ⟨#[115, 116, 101, 112, 115, 32]⟩ ++ SI ++ ⟨#[10]⟩ ++ S5))] (by kernel_rfl) (by kernel_rfl) rfl (by kernel_rfl) (by kernel_rfl) (Ex.mono_fn (Ex.mono_fn (Ex.mono_fn (Ex.mono_fn (Ex.mono_fn (Ex.mono_ex (Ex.phN_mono _ _ _ _) (Ex.mono_fn (Ex.mono_fn (Ex.mono_fn (Ex.mono_fn (Ex.mono_fn (Ex.mono_fn (Ex.mono_ex (Ex.phN_mono _ _ _ _) (Ex.mono_fn (Ex.mono_fn (Ex.mono_fn (Ex.mono_fn (Ex.mono_fn (Ex.mono_fn (Ex.mono_fn (Ex.mono_ex (Ex.phN_mono _ _ _ _) (Ex.mono_fn (Ex.mono_fn (Ex.mono_fn (Ex.mono_fn (Ex.mono_fn (Ex.mono_fn (Ex.mono_fn (Ex.mono_fn (Ex.mono_fn (Ex.mono_fn (Ex.mono_fn (Ex.mono_fn (Ex.mono_fn (Ex.mono_fn (Ex.mono_ex (Ex.phN_mono _ _ _ _) (Ex.mono_fn (Ex.mono_fn Ex.mono_nil)))))))))))))))))))))))))))))))))))))) (fun sig4 => ?_)
  have hxc := fun (x : Xt (w3)) (b o : Nat) (h : b < (w3).heap.size) => x.ext.cells.1 b o h
  refine Ex.we_det ?_ ?_
  · first | (go_simp; done) | (go_simp; rfl) | (go_simp; (try intro x); (try go_bits); first | done | rfl | (simp; done) | (simp; omega))
  simp only [Act.put, List.setIfInBounds_toArray, List.set_cons_succ, List.set_cons_zero, List.nil_append, List.cons_append, Nat.zero_add, Nat.reduceAdd]
  refine Ex.we_det ?_ ?_
  · first | (go_simp; done) | (go_simp; rfl) | (go_simp; (try intro x); (try go_bits); first | done | rfl | (simp; done) | (simp; omega))
  simp only [Act.put, List.setIfInBounds_toArray, List.set_cons_succ, List.set_cons_zero, List.nil_append, List.cons_append, Nat.zero_add, Nat.reduceAdd]
  refine Ex.we_det ?_ ?_
  · first | (go_simp; done) | (go_simp; rfl) | (go_simp; (try intro x); (try go_bits); first | done | rfl | (simp; done) | (simp; omega))
  simp only [Act.put, List.setIfInBounds_toArray, List.set_cons_succ, List.set_cons_zero, List.nil_append, List.cons_append, Nat.zero_add, Nat.reduceAdd]
  refine Ex.we_det ?_ ?_
  · first | (go_simp; done) | (go_simp; rfl) | (go_simp; (try intro x); (try go_bits); first | done | rfl | (simp; done) | (simp; omega))
  simp only [Act.put, List.setIfInBounds_toArray, List.set_cons_succ, List.set_cons_zero, List.nil_append, List.cons_append, Nat.zero_add, Nat.reduceAdd]
  refine Ex.we_det ?_ ?_
  · first | (go_simp; done) | (go_simp; rfl) | (go_simp; (try intro x); (try go_bits); first | done | rfl | (simp; done) | (simp; omega))
  simp only [Act.put, List.setIfInBounds_toArray, List.set_cons_succ, List.set_cons_zero, List.nil_append, List.cons_append, Nat.zero_add, Nat.reduceAdd]
  refine Ex.we_new rfl (fun _ => rfl) (fun x => ?_) ?_
  · first | (go_simp; done) | (go_simp; rfl)
  simp only [Act.put, List.setIfInBounds_toArray, List.set_cons_succ, List.set_cons_zero, List.nil_append, List.cons_append, Nat.zero_add, Nat.reduceAdd]
  refine Ex.we_callF rfl (f := 20) (args := #[.string ⟨#[116]⟩, sig4 5]) (fun x => ?_) (fun W hxW hFW => ?_) ?_
  · first | (go_simp; done) | (go_simp; rfl)
  · (obtain ⟨b, e5, -, h5⟩ := (hFW.phi 5 (by simp) : Ex.PhN w3 _ _ _ (sig4 5) W); rw [e5]; exact (HL1 W hxW b h5).out)
  simp only [Act.put, List.setIfInBounds_toArray, List.set_cons_succ, List.set_cons_zero, List.nil_append, List.cons_append, Nat.zero_add, Nat.reduceAdd]
  refine Ex.we_det ?_ ?_
  · first | (go_simp; done) | (go_simp; rfl) | (go_simp; (try intro x); (try go_bits); first | done | rfl | (simp; done) | (simp; omega))
  simp only [Act.put, List.setIfInBounds_toArray, List.set_cons_succ, List.set_cons_zero, List.nil_append, List.cons_append, Nat.zero_add, Nat.reduceAdd]
  refine Ex.we_det ?_ ?_
  · first | (go_simp; done) | (go_simp; rfl) | (go_simp; (try intro x); (try go_bits); first | done | rfl | (simp; done) | (simp; omega))
  simp only [Act.put, List.setIfInBounds_toArray, List.set_cons_succ, List.set_cons_zero, List.nil_append, List.cons_append, Nat.zero_add, Nat.reduceAdd]
  refine Ex.we_det ?_ ?_
  · first | (go_simp; done) | (go_simp; rfl) | (go_simp; (try intro x); (try go_bits); first | done | rfl | (simp; done) | (simp; omega))
  simp only [Act.put, List.setIfInBounds_toArray, List.set_cons_succ, List.set_cons_zero, List.nil_append, List.cons_append, Nat.zero_add, Nat.reduceAdd]
  refine Ex.we_det ?_ ?_
  · first | (go_simp; done) | (go_simp; rfl) | (go_simp; (try intro x); (try go_bits); first | done | rfl | (simp; done) | (simp; omega))
  simp only [Act.put, List.setIfInBounds_toArray, List.set_cons_succ, List.set_cons_zero, List.nil_append, List.cons_append, Nat.zero_add, Nat.reduceAdd]
  refine Ex.we_det ?_ ?_
  · first | (go_simp; done) | (go_simp; rfl) | (go_simp; (try intro x); (try go_bits); first | done | rfl | (simp; done) | (simp; omega))
  simp only [Act.put, List.setIfInBounds_toArray, List.set_cons_succ, List.set_cons_zero, List.nil_append, List.cons_append, Nat.zero_add, Nat.reduceAdd]
  refine Ex.we_new rfl (fun _ => rfl) (fun x => ?_) ?_
  · first | (go_simp; done) | (go_simp; rfl)
  simp only [Act.put, List.setIfInBounds_toArray, List.set_cons_succ, List.set_cons_zero, List.nil_append, List.cons_append, Nat.zero_add, Nat.reduceAdd]
  refine Ex.we_callF rfl (f := 20) (args := #[.string ⟨#[116, 119, 111]⟩, sig4 12]) (fun x => ?_) (fun W hxW hFW => ?_) ?_
  · first | (go_simp; done) | (go_simp; rfl)
  · (obtain ⟨b, e5, -, h5⟩ := (hFW.phi 12 (by simp) : Ex.PhN w3 _ _ _ (sig4 12) W); rw [e5]; exact (HL2 W hxW b h5).out)
  simp only [Act.put, List.setIfInBounds_toArray, List.set_cons_succ, List.set_cons_zero, List.nil_append, List.cons_append, Nat.zero_add, Nat.reduceAdd]
  refine Ex.we_det ?_ ?_
  · first | (go_simp; done) | (go_simp; rfl) | (go_simp; (try intro x); (try go_bits); first | done | rfl | (simp; done) | (simp; omega))
  simp only [Act.put, List.setIfInBounds_toArray, List.set_cons_succ, List.set_cons_zero, List.nil_append, List.cons_append, Nat.zero_add, Nat.reduceAdd]
  refine Ex.we_det ?_ ?_
  · first | (go_simp; done) | (go_simp; rfl) | (go_simp; (try intro x); (try go_bits); first | done | rfl | (simp; done) | (simp; omega))
  simp only [Act.put, List.setIfInBounds_toArray, List.set_cons_succ, List.set_cons_zero, List.nil_append, List.cons_append, Nat.zero_add, Nat.reduceAdd]
  refine Ex.we_det ?_ ?_
  · first | (go_simp; done) | (go_simp; rfl) | (go_simp; (try intro x); (try go_bits); first | done | rfl | (simp; done) | (simp; omega))
  simp only [Act.put, List.setIfInBounds_toArray, List.set_cons_succ, List.set_cons_zero, List.nil_append, List.cons_append, Nat.zero_add, Nat.reduceAdd]
  refine Ex.we_det ?_ ?_
  · first | (go_simp; done) | (go_simp; rfl) | (go_simp; (try intro x); (try go_bits); first | done | rfl | (simp; done) | (simp; omega))
  simp only [Act.put, List.setIfInBounds_toArray, List.set_cons_succ, List.set_cons_zero, List.nil_append, List.cons_append, Nat.zero_add, Nat.reduceAdd]
  refine Ex.we_det ?_ ?_
  · first | (go_simp; done) | (go_simp; rfl) | (go_simp; (try intro x); (try go_bits); first | done | rfl | (simp; done) | (simp; omega))
  simp only [Act.put, List.setIfInBounds_toArray, List.set_cons_succ, List.set_cons_zero, List.nil_append, List.cons_append, Nat.zero_add, Nat.reduceAdd]
  refine Ex.we_det ?_ ?_
  · first | (go_simp; done) | (go_simp; rfl) | (go_simp; (try intro x); (try go_bits); first | done | rfl | (simp; done) | (simp; omega))
  simp only [Act.put, List.setIfInBounds_toArray, List.set_cons_succ, List.set_cons_zero, List.nil_append, List.cons_append, Nat.zero_add, Nat.reduceAdd]
  refine Ex.we_new rfl (fun _ => rfl) (fun x => ?_) ?_
  · first | (go_simp; done) | (go_simp; rfl)
  simp only [Act.put, List.setIfInBounds_toArray, List.set_cons_succ, List.set_cons_zero, List.nil_append, List.cons_append, Nat.zero_add, Nat.reduceAdd]
  refine Ex.we_callF rfl (f := 20) (args := #[.string ⟨#[103, 97, 116, 101, 115]⟩, sig4 20]) (fun x => ?_) (fun W hxW hFW => ?_) ?_
  · first | (go_simp; done) | (go_simp; rfl)
  · (obtain ⟨b, e5, -, h5⟩ := (hFW.phi 20 (by simp) : Ex.PhN w3 _ _ _ (sig4 20) W); rw [e5]; exact (HL3 W hxW b h5).out)
  simp only [Act.put, List.setIfInBounds_toArray, List.set_cons_succ, List.set_cons_zero, List.nil_append, List.cons_append, Nat.zero_add, Nat.reduceAdd]
  refine Ex.we_det ?_ ?_
  · first | (go_simp; done) | (go_simp; rfl) | (go_simp; (try intro x); (try go_bits); first | done | rfl | (simp; done) | (simp; omega))
  simp only [Act.put, List.setIfInBounds_toArray, List.set_cons_succ, List.set_cons_zero, List.nil_append, List.cons_append, Nat.zero_add, Nat.reduceAdd]
  refine Ex.we_det ?_ ?_
  · first | (go_simp; done) | (go_simp; rfl) | (go_simp; (try intro x); (try go_bits); first | done | rfl | (simp; done) | (simp; omega))
  simp only [Act.put, List.setIfInBounds_toArray, List.set_cons_succ, List.set_cons_zero, List.nil_append, List.cons_append, Nat.zero_add, Nat.reduceAdd]
  refine Ex.we_det ?_ ?_
  · first | (go_simp; done) | (go_simp; rfl) | (go_simp; (try intro x); (try go_bits); first | done | rfl | (simp; done) | (simp; omega))
  simp only [Act.put, List.setIfInBounds_toArray, List.set_cons_succ, List.set_cons_zero, List.nil_append, List.cons_append, Nat.zero_add, Nat.reduceAdd]
  refine Ex.we_det ?_ ?_
  · first | (go_simp; done) | (go_simp; rfl) | (go_simp; (try intro x); (try go_bits); first | done | rfl | (simp; done) | (simp; omega))
  simp only [Act.put, List.setIfInBounds_toArray, List.set_cons_succ, List.set_cons_zero, List.nil_append, List.cons_append, Nat.zero_add, Nat.reduceAdd]
  refine Ex.we_det ?_ ?_
  · first | (go_simp; done) | (go_simp; rfl) | (go_simp; (try intro x); (try go_bits); first | done | rfl | (simp; done) | (simp; omega))
  simp only [Act.put, List.setIfInBounds_toArray, List.set_cons_succ, List.set_cons_zero, List.nil_append, List.cons_append, Nat.zero_add, Nat.reduceAdd]
  refine Ex.we_det ?_ ?_
  · first | (go_simp; done) | (go_simp; rfl) | (go_simp; (try intro x); (try go_bits); first | done | rfl | (simp; done) | (simp; omega))
  simp only [Act.put, List.setIfInBounds_toArray, List.set_cons_succ, List.set_cons_zero, List.nil_append, List.cons_append, Nat.zero_add, Nat.reduceAdd]
  refine Ex.we_det ?_ ?_
  · go_simp
    intro x
    go_at_call 22
    exact (HI _ x.ext).out
  simp only [Act.put, List.setIfInBounds_toArray, List.set_cons_succ, List.set_cons_zero, List.nil_append, List.cons_append, Nat.zero_add, Nat.reduceAdd]
  refine Ex.we_det ?_ ?_
  · first | (go_simp; done) | (go_simp; rfl) | (go_simp; (try intro x); (try go_bits); first | done | rfl | (simp; done) | (simp; omega))
  simp only [Act.put, List.setIfInBounds_toArray, List.set_cons_succ, List.set_cons_zero, List.nil_append, List.cons_append, Nat.zero_add, Nat.reduceAdd]
  refine Ex.we_det ?_ ?_
  · first | (go_simp; done) | (go_simp; rfl) | (go_simp; (try intro x); (try go_bits); first | done | rfl | (simp; done) | (simp; omega))
  simp only [Act.put, List.setIfInBounds_toArray, List.set_cons_succ, List.set_cons_zero, List.nil_append, List.cons_append, Nat.zero_add, Nat.reduceAdd]
  refine Ex.we_det ?_ ?_
  · first | (go_simp; done) | (go_simp; rfl) | (go_simp; (try intro x); (try go_bits); first | done | rfl | (simp; done) | (simp; omega))
  simp only [Act.put, List.setIfInBounds_toArray, List.set_cons_succ, List.set_cons_zero, List.nil_append, List.cons_append, Nat.zero_add, Nat.reduceAdd]
  refine Ex.we_det ?_ ?_
  · first | (go_simp; done) | (go_simp; rfl) | (go_simp; (try intro x); (try go_bits); first | done | rfl | (simp; done) | (simp; omega))
  simp only [Act.put, List.setIfInBounds_toArray, List.set_cons_succ, List.set_cons_zero, List.nil_append, List.cons_append, Nat.zero_add, Nat.reduceAdd]
  refine Ex.we_det ?_ ?_
  · first | (go_simp; done) | (go_simp; rfl) | (go_simp; (try intro x); (try go_bits); first | done | rfl | (simp; done) | (simp; omega))
  simp only [Act.put, List.setIfInBounds_toArray, List.set_cons_succ, List.set_cons_zero, List.nil_append, List.cons_append, Nat.zero_add, Nat.reduceAdd]
  refine Ex.we_det ?_ ?_
  · go_simp
    intro x
    go_at_call 23
    exact (HSW _ (HE3.out.trans x.ext)).out
  simp only [Act.put, List.setIfInBounds_toArray, List.set_cons_succ, List.set_cons_zero, List.nil_append, List.cons_append, Nat.zero_add, Nat.reduceAdd]
  refine Ex.we_new rfl (fun _ => rfl) (fun x => ?_) ?_
  · first | (go_simp; done) | (go_simp; rfl)
  simp only [Act.put, List.setIfInBounds_toArray, List.set_cons_succ, List.set_cons_zero, List.nil_append, List.cons_append, Nat.zero_add, Nat.reduceAdd]
  refine Ex.we_callF rfl (f := 20) (args := #[.string ⟨#[115, 119, 97, 112, 115]⟩, sig4 35]) (fun x => ?_) (fun W hxW hFW => ?_) ?_
  · first | (go_simp; done) | (go_simp; rfl)
  · (obtain ⟨b, e5, -, h5⟩ := (hFW.phi 35 (by simp) : Ex.PhN w3 _ _ _ (sig4 35) W); rw [e5]; exact (HL4 W hxW b h5).out)
  simp only [Act.put, List.setIfInBounds_toArray, List.set_cons_succ, List.set_cons_zero, List.nil_append, List.cons_append, Nat.zero_add, Nat.reduceAdd]
  refine Ex.we_det ?_ ?_
  · first | (go_simp; done) | (go_simp; rfl) | (go_simp; (try intro x); (try go_bits); first | done | rfl | (simp; done) | (simp; omega))
  simp only [Act.put, List.setIfInBounds_toArray, List.set_cons_succ, List.set_cons_zero, List.nil_append, List.cons_append, Nat.zero_add, Nat.reduceAdd]
  refine Ex.we_stop (fun w4 hx4 hF4 => ?_)
  clear hxc
  go_wp2
  refine bodyPost_ret (v := .tuple #[.string (S1 ++ S2 ++ S3 ++ ⟨#[115, 116, 101, 112, 115, 32]⟩ ++ SI ++ ⟨#[10]⟩ ++ S5), .bool true]) (by simp [results, Tryd.results7, go_sem, *]) rfl ?_
  exact ⟨rfl, HE3.out.trans hx4⟩

set_option maxRecDepth 20000 in
set_option maxHeartbeats 4000000 in
theorem s_reportOf_any (c : Cv) (q3 : Int) {v1 vs v2 vt vr v3 : Value} {m p n3 : Nat} {ss zs ts : List Int} (hc1 : c.n1 ≤ 2000000) (hc2 : c.n2 ≤ 2000000) (hc : c.n ≤ 2000000) (hp : p ≤ 2000000) (h3 : n3 ≤ 2000000) (w : World)
    (h : CV w v1 vs v2 c) (ht : RV w 1 vt m ss) (hr : RV w 3 vr p zs) (ho : RV w 3 v3 n3 ts) :
    Calls Tryd.prog 5 #[.agg #[.int .i64 c.q1, v1, vs, .int .i64 c.q2, v2, vt, vr, .int .i64 q3, v3]] w fun en w' => en = .returned (.tuple #[.string (BA (rpT c q3 ts n3 zs p)), .bool (rpOk c q3 ts n3)]) ∧ Ext w w' := by
  have H1 := fun w' (hx : Ext w w') => Lib.hid (l4Good_any c.q1 hc1 w' (h.1.ext hx))
  have H2 := fun w' (hx : Ext w w') => Lib.hid (l4Good_any c.q2 hc2 w' (h.2.2.ext hx))
  have H3 := fun w' (hx : Ext w w') => Lib.hid (l4Good_any q3 h3 w' (ho.ext hx))
  have H4 := fun w' (hx : Ext w w') => Lib.hid (l31Cost_any c.q1 hc1 w' (h.1.ext hx))
  have H5 := fun w' (hx : Ext w w') => Lib.hid (l31Cost_any c.q2 hc2 w' (h.2.2.ext hx))
  obtain ⟨a1, cap1, rfl, _, _, _⟩ := h.1.2
  obtain ⟨av, caps, hvs, _, _⟩ := rsv_shape h.2.1
  rw [RL_len] at hvs
  obtain ⟨a2, cap2, rfl, _, _, _⟩ := h.2.2.2
  obtain ⟨at', capt, rfl, _, _, _⟩ := ht.2
  obtain ⟨hzl, ar, capr, rfl, _, _, H⟩ := hr
  obtain ⟨a3, cap3, rfl, _, _, _⟩ := ho.2
  have HH := Lib.hid H
  have HL := Lib.hid hzl
  subst hvs
  have hnn : (c.n : Int) ≤ 9223372036854775807 := by omega
  clear h ht H ho hzl
  cases hk1 : cOk c.q1 c.xs c.n1
  · have hR : rpOk c q3 ts n3 = false := by simp [rpOk, hk1]
    have HR : Hid (BA (rpT c q3 ts n3 zs p) = ⟨#[]⟩) := by unfold Hid rpT; rw [hR]; rfl
    rw [hR, HR.out]
    rw [hk1] at H1
    go_enter Tryd.func5, Tryd.ntmps5
    go_wp2_with fail
    refine ((H1 _ (by repeat (first | (with_reducible refine Ext.setCell ?_ (by first | (simp; done) | (simp; omega)) _) | with_reducible refine Ext.alloc ?_ _ | with_reducible refine Ext.drew ?_ | with_reducible refine Ext.drewN ?_ _ | with_reducible assumption | with_reducible exact Ext.refl _ | with_reducible refine Ext.trans ?_ (by with_reducible assumption)))).out).mono ?_
    rintro e w1 ⟨rfl, hx1⟩
    obtain ⟨hc1, hf1⟩ := hx1.cells
    have hz1 := hx1.size
    try simp at hz1
    have hs1_0 := sz1 (a := w.heap.size) (b := w1.heap.size) (by omega)
    go_wp2
    refine bodyPost_ret (v := .tuple #[.string ⟨#[]⟩, .bool false]) (by simp [results, Tryd.results5, go_sem, *]) rfl ?_
    exact ⟨rfl, (by repeat (first | (with_reducible refine Ext.setCell ?_ (by first | (simp; done) | (simp; omega)) _) | with_reducible refine Ext.alloc ?_ _ | with_reducible refine Ext.drew ?_ | with_reducible refine Ext.drewN ?_ _ | with_reducible assumption | with_reducible exact Ext.refl _ | with_reducible refine Ext.trans ?_ (by with_reducible assumption)))⟩
  cases hk2 : cOk c.q2 c.ys c.n2
  · have hR : rpOk c q3 ts n3 = false := by simp [rpOk, hk2]
    have HR : Hid (BA (rpT c q3 ts n3 zs p) = ⟨#[]⟩) := by unfold Hid rpT; rw [hR]; rfl
    rw [hR, HR.out]
    rw [hk1] at H1
    rw [hk2] at H2
    go_enter Tryd.func5, Tryd.ntmps5
    go_wp2_with fail
    refine ((H1 _ (by repeat (first | (with_reducible refine Ext.setCell ?_ (by first | (simp; done) | (simp; omega)) _) | with_reducible refine Ext.alloc ?_ _ | with_reducible refine Ext.drew ?_ | with_reducible refine Ext.drewN ?_ _ | with_reducible assumption | with_reducible exact Ext.refl _ | with_reducible refine Ext.trans ?_ (by with_reducible assumption)))).out).mono ?_
    rintro e w1 ⟨rfl, hx1⟩
    obtain ⟨hc1, hf1⟩ := hx1.cells
    have hz1 := hx1.size
    try simp at hz1
    have hs1_0 := sz1 (a := w.heap.size) (b := w1.heap.size) (by omega)
    go_wp2_with fail
    refine ((H2 _ (by repeat (first | (with_reducible refine Ext.setCell ?_ (by first | (simp; done) | (simp; omega)) _) | with_reducible refine Ext.alloc ?_ _ | with_reducible refine Ext.drew ?_ | with_reducible refine Ext.drewN ?_ _ | with_reducible assumption | with_reducible exact Ext.refl _ | with_reducible refine Ext.trans ?_ (by with_reducible assumption)))).out).mono ?_
    rintro e w2 ⟨rfl, hx2⟩
    obtain ⟨hc2, hf2⟩ := hx2.cells
    have hz2 := hx2.size
    try simp at hz2
    have hs2_0 := sz1 (a := w.heap.size) (b := w2.heap.size) (by omega)
    go_wp2
    refine bodyPost_ret (v := .tuple #[.string ⟨#[]⟩, .bool false]) (by simp [results, Tryd.results5, go_sem, *]) rfl ?_
    exact ⟨rfl, (by repeat (first | (with_reducible refine Ext.setCell ?_ (by first | (simp; done) | (simp; omega)) _) | with_reducible refine Ext.alloc ?_ _ | with_reducible refine Ext.drew ?_ | with_reducible refine Ext.drewN ?_ _ | with_reducible assumption | with_reducible exact Ext.refl _ | with_reducible refine Ext.trans ?_ (by with_reducible assumption)))⟩
  cases hk3 : cOk q3 ts n3
  · have hR : rpOk c q3 ts n3 = false := by simp [rpOk, hk3]
    have HR : Hid (BA (rpT c q3 ts n3 zs p) = ⟨#[]⟩) := by unfold Hid rpT; rw [hR]; rfl
    rw [hR, HR.out]
    rw [hk1] at H1
    rw [hk2] at H2
    rw [hk3] at H3
    go_enter Tryd.func5, Tryd.ntmps5
    go_wp2_with fail
    refine ((H1 _ (by repeat (first | (with_reducible refine Ext.setCell ?_ (by first | (simp; done) | (simp; omega)) _) | with_reducible refine Ext.alloc ?_ _ | with_reducible refine Ext.drew ?_ | with_reducible refine Ext.drewN ?_ _ | with_reducible assumption | with_reducible exact Ext.refl _ | with_reducible refine Ext.trans ?_ (by with_reducible assumption)))).out).mono ?_
    rintro e w1 ⟨rfl, hx1⟩
    obtain ⟨hc1, hf1⟩ := hx1.cells
    have hz1 := hx1.size
    try simp at hz1
    have hs1_0 := sz1 (a := w.heap.size) (b := w1.heap.size) (by omega)
    go_wp2_with fail
    refine ((H2 _ (by repeat (first | (with_reducible refine Ext.setCell ?_ (by first | (simp; done) | (simp; omega)) _) | with_reducible refine Ext.alloc ?_ _ | with_reducible refine Ext.drew ?_ | with_reducible refine Ext.drewN ?_ _ | with_reducible assumption | with_reducible exact Ext.refl _ | with_reducible refine Ext.trans ?_ (by with_reducible assumption)))).out).mono ?_
    rintro e w2 ⟨rfl, hx2⟩
    obtain ⟨hc2, hf2⟩ := hx2.cells
    have hz2 := hx2.size
    try simp at hz2
    have hs2_0 := sz1 (a := w.heap.size) (b := w2.heap.size) (by omega)
    go_wp2_with fail
    refine ((H3 _ (by repeat (first | (with_reducible refine Ext.setCell ?_ (by first | (simp; done) | (simp; omega)) _) | with_reducible refine Ext.alloc ?_ _ | with_reducible refine Ext.drew ?_ | with_reducible refine Ext.drewN ?_ _ | with_reducible assumption | with_reducible exact Ext.refl _ | with_reducible refine Ext.trans ?_ (by with_reducible assumption)))).out).mono ?_
    rintro e w3 ⟨rfl, hx3⟩
    obtain ⟨hc3, hf3⟩ := hx3.cells
    have hz3 := hx3.size
    try simp at hz3
    have hs3_0 := sz1 (a := w.heap.size) (b := w3.heap.size) (by omega)
    go_wp2
    refine bodyPost_ret (v := .tuple #[.string ⟨#[]⟩, .bool false]) (by simp [results, Tryd.results5, go_sem, *]) rfl ?_
    exact ⟨rfl, (by repeat (first | (with_reducible refine Ext.setCell ?_ (by first | (simp; done) | (simp; omega)) _) | with_reducible refine Ext.alloc ?_ _ | with_reducible refine Ext.drew ?_ | with_reducible refine Ext.drewN ?_ _ | with_reducible assumption | with_reducible exact Ext.refl _ | with_reducible refine Ext.trans ?_ (by with_reducible assumption)))⟩
  have hR : rpOk c q3 ts n3 = true := by simp [rpOk, hk1, hk2, hk3]
  have sT := cnt_sm (f := kAny 7 8 c.xs) hc1
  have sT' := cnt_sm (f := kAny 7 8 c.ys) hc2
  have sU := cnt_sm (f := kAny 9 11 c.xs) hc1
  have sU' := cnt_sm (f := kAny 9 11 c.ys) hc2
  have sK := cnt_sm (f := swK zs) hp
  have HR : Hid (BA (rpT c q3 ts n3 zs p) = BA (lineT [116] [cntTo (kAny 7 8 c.xs) c.n1, cntTo (kAny 7 8 c.ys) c.n2]) ++ BA (lineT [116, 119, 111] [cntTo (kAny 9 11 c.xs) c.n1, cntTo (kAny 9 11 c.ys) c.n2]) ++ BA (lineT [103, 97, 116, 101, 115] [(c.n1 : Int), (c.n2 : Int)]) ++ BA (lineT [115, 116, 101, 112, 115] [(c.n : Int)]) ++ BA (lineT [115, 119, 97, 112, 115] [cntTo (swK zs) p])) := by
    unfold Hid rpT
    rw [hR, if_pos rfl]
    simp only [ba_app]
    rfl
  rw [hR, HR.out]
  rw [hk1] at H1
  rw [hk2] at H2
  rw [hk3] at H3
  clear HR hk1 hk2 hk3 hR
  generalize cntTo (kAny 7 8 c.xs) c.n1 = t1 at *
  generalize cntTo (kAny 7 8 c.ys) c.n2 = t2 at *
  generalize cntTo (kAny 9 11 c.xs) c.n1 = u1 at *
  generalize cntTo (kAny 9 11 c.ys) c.n2 = u2 at *
  obtain ⟨k, hk⟩ : ∃ k : Int, cntTo (swK zs) p = k := ⟨_, rfl⟩
  rw [hk] at sK
  simp only [hk]
  have HK := Lib.hid hk
  clear hk
  obtain ⟨g1, hg1⟩ : ∃ g : Int, (c.n1 : Int) = g := ⟨_, rfl⟩
  obtain ⟨g2, hg2⟩ : ∃ g : Int, (c.n2 : Int) = g := ⟨_, rfl⟩
  have sG : 0 ≤ g1 ∧ g1 ≤ 2000000 := by omega
  have sG' : 0 ≤ g2 ∧ g2 ≤ 2000000 := by omega
  simp only [hg1, hg2] at H4 H5 ⊢
  clear hg1 hg2
  have sN : 0 ≤ (c.n : Int) ∧ (c.n : Int) ≤ 2000000 := by omega
  have up2 : ∀ {x y : Int}, 0 ≤ x ∧ x ≤ 2000000 → 0 ≤ y ∧ y ≤ 2000000 → ∀ z ∈ [x, y], 0 ≤ z ∧ z ≤ 1000000000000 := by
    intro x y hx hy z hz
    simp only [List.mem_cons, List.not_mem_nil, or_false] at hz
    rcases hz with rfl | rfl <;> omega
  have up1 : ∀ {x : Int}, 0 ≤ x ∧ x ≤ 2000000 → ∀ z ∈ [x], 0 ≤ z ∧ z ≤ 1000000000000 := by
    intro x hx z hz
    simp only [List.mem_cons, List.not_mem_nil, or_false] at hz
    subst hz
    omega
  have usm : ∀ {l : List Int}, (∀ z ∈ l, 0 ≤ z ∧ z ≤ 1000000000000) → ∀ z ∈ l, Sm z := by
    intro l hl z hz
    have := hl z hz
    unfold Sm
    omega
  have L1 := line_len (word := [116]) (xs := [t1, t2]) (by decide) (by simp) (usm (up2 sT sT'))
  have L2 := line_len (word := [116, 119, 111]) (xs := [u1, u2]) (by decide) (by simp) (usm (up2 sU sU'))
  have L3 := line_len (word := [103, 97, 116, 101, 115]) (xs := [g1, g2]) (by decide) (by simp) (usm (up2 sG sG'))
  have L4 := line_len (word := [115, 116, 101, 112, 115]) (xs := [(c.n : Int)]) (by decide) (by simp) (usm (up1 sN))
  have L5 := line_len (word := [115, 119, 97, 112, 115]) (xs := [k]) (by decide) (by simp) (usm (up1 sK))
  have HL1 := fun (W : World) (hx : Ext w W) b h => Lib.hid (l31Line_any [116] (by decide) (by decide) (up2 sT sT') W (rv_pair (w := W) (B := b) h))
  have HL2 := fun (W : World) (hx : Ext w W) b h => Lib.hid (l31Line_any [116, 119, 111] (by decide) (by decide) (up2 sU sU') W (rv_pair (w := W) (B := b) h))
  have HL3 := fun (W : World) (hx : Ext w W) b h => Lib.hid (l31Line_any [103, 97, 116, 101, 115] (by decide) (by decide) (up2 sG sG') W (rv_pair (w := W) (B := b) h))
  have HL4 := fun (W : World) (hx : Ext w W) b h => Lib.hid (l31Line_any [115, 116, 101, 112, 115] (by decide) (by decide) (up1 sN) W (rv_one1 (w := W) (B := b) h))
  have HL5 := fun (W : World) (hx : Ext w W) b h => Lib.hid (l31Line_any [115, 119, 97, 112, 115] (by decide) (by decide) (up1 sK) W (rv_one1 (w := W) (B := b) h))
  rw [show BA [116] = ⟨#[116]⟩ from rfl] at HL1
  rw [show BA [116, 119, 111] = ⟨#[116, 119, 111]⟩ from rfl] at HL2
  rw [show BA [103, 97, 116, 101, 115] = ⟨#[103, 97, 116, 101, 115]⟩ from rfl] at HL3
  rw [show BA [115, 116, 101, 112, 115] = ⟨#[115, 116, 101, 112, 115]⟩ from rfl] at HL4
  rw [show BA [115, 119, 97, 112, 115] = ⟨#[115, 119, 97, 112, 115]⟩ from rfl] at HL5
  clear sT sT' sU sU' sG sG' sK sN up1 up2 usm
  generalize BA (lineT [116] [t1, t2]) = S1 at *
  generalize BA (lineT [116, 119, 111] [u1, u2]) = S2 at *
  generalize BA (lineT [103, 97, 116, 101, 115] [g1, g2]) = S3 at *
  generalize BA (lineT [115, 116, 101, 112, 115] [(c.n : Int)]) = S4 at *
  generalize BA (lineT [115, 119, 97, 112, 115] [k]) = S5 at *
  generalize c.n = nn at *
  generalize c.q1 = q1 at *
  generalize c.q2 = q2 at *
  have d1 : ¬ 9223372036854775807 < S1.size + S2.size := by omega
  have d2 : ¬ 9223372036854775807 < S1.size + S2.size + S3.size := by omega
  have d3 : ¬ 9223372036854775807 < S1.size + S2.size + S3.size + S4.size := by omega
  have d4 : ¬ 9223372036854775807 < S1.size + S2.size + S3.size + S4.size + S5.size := by omega
  clear L1 L2 L3 L4 L5
  go_enter Tryd.func5, Tryd.ntmps5
  go_wp2_with fail
  refine ((H1 _ (by repeat (first | exact Ext.refl _ | assumption | refine Ext.alloc ?_ _ | refine Ext.drew ?_ | refine Ext.drewN ?_ _ | refine Ext.setCell ?_ (by first | omega | (dsimp only; omega) | (simp; done) | (simp; omega)) _ | refine Ext.trans ?_ (by assumption)))).out).mono ?_
  rintro e w1 ⟨rfl, hx1⟩
  obtain ⟨hc1, hf1⟩ := hx1.cells
  have hz1 := hx1.size
  try simp at hz1
  have hs1_0 := sz1 (a := w.heap.size) (b := w1.heap.size) (by omega)
  go_wp2_with fail
  refine ((H2 _ (by repeat (first | exact Ext.refl _ | assumption | refine Ext.alloc ?_ _ | refine Ext.drew ?_ | refine Ext.drewN ?_ _ | refine Ext.setCell ?_ (by first | omega | (dsimp only; omega) | (simp; done) | (simp; omega)) _ | refine Ext.trans ?_ (by assumption)))).out).mono ?_
  rintro e w2 ⟨rfl, hx2⟩
  obtain ⟨hc2, hf2⟩ := hx2.cells
  have hz2 := hx2.size
  try simp at hz2
  have hs2_0 := sz1 (a := w.heap.size) (b := w2.heap.size) (by omega)
  go_wp2_with fail
  refine ((H3 _ (by repeat (first | exact Ext.refl _ | assumption | refine Ext.alloc ?_ _ | refine Ext.drew ?_ | refine Ext.drewN ?_ _ | refine Ext.setCell ?_ (by first | omega | (dsimp only; omega) | (simp; done) | (simp; omega)) _ | refine Ext.trans ?_ (by assumption)))).out).mono ?_
  rintro e w3 ⟨rfl, hx3⟩
  have HA3 : Hid (w3.heap[w.heap.size]? = some (.cells #[.int .i64 q1, .slice a1 c.n1 cap1, .slice av nn caps, .int .i64 q2, .slice a2 c.n2 cap2, .slice at' m capt, .slice ar p capr, .int .i64 q3, .slice a3 n3 cap3] 47 (0, 0))) := heap_keep hx3 (heap_keep hx2 (heap_keep hx1 (heap_alloc_new _ _)))
  have hE3 : Ext w w3 := ((((Ext.refl w).alloc _).trans hx1).trans hx2).trans hx3
  have HE3 := Lib.hid hE3
  clear hx1 hx2 hx3 hc1 hc2 hf1 hf2 hz1 hz2 H1 H2 H3 hE3
  have zA := fun q => cell_of_row _ _ q _ _ _ HA3.out
  have lA := (Array.getElem?_eq_some_iff.1 HA3.out).1
  go_wp2_with fail
  go_wp2
  refine wp_region_madeC (m := 80) (by kernel_rfl) (by kernel_rfl) rfl (fun hxc => ?_)
  repeat (refine mw_quiet ?_; apply Exists.intro; refine ⟨fun σ => ?_, ?_⟩; (first | (go_simp; rfl) | (go_simp; intro x; first | (go_at_call 13; with_reducible exact (H4 _ (HE3.out.trans x.ext)).out) | (go_at_call 13; with_reducible exact (H5 _ (HE3.out.trans x.ext)).out) | (go_at_call 13; exact (H4 _ (HE3.out.trans x.ext)).out) | (go_at_call 13; exact (H5 _ (HE3.out.trans x.ext)).out))); simp only [Act.put, List.setIfInBounds_toArray, List.set_cons_succ, List.set_cons_zero, List.nil_append, List.cons_append])
  refine mw_maker (fun n => .pointer (some ⟨n, 0, none⟩)) 56 #[.int .i64 0, .int .i64 0, .int .i64 0] 10 #[.int .i64 t1, .int .i64 u1, .int .i64 g1] rfl (fun σ x => ?_) ?_
  · go_simp
  simp only [Act.put, List.setIfInBounds_toArray, List.set_cons_succ, List.set_cons_zero, List.nil_append, List.cons_append, List.length_cons, List.length_nil, Nat.reduceAdd]
  repeat (refine mw_quiet ?_; apply Exists.intro; refine ⟨fun σ => ?_, ?_⟩; (first | (go_simp; rfl) | (go_simp; intro x; first | (go_at_call 13; with_reducible exact (H4 _ (HE3.out.trans x.ext)).out) | (go_at_call 13; with_reducible exact (H5 _ (HE3.out.trans x.ext)).out) | (go_at_call 13; exact (H4 _ (HE3.out.trans x.ext)).out) | (go_at_call 13; exact (H5 _ (HE3.out.trans x.ext)).out))); simp only [Act.put, List.setIfInBounds_toArray, List.set_cons_succ, List.set_cons_zero, List.nil_append, List.cons_append])
  refine mw_maker (fun n => .pointer (some ⟨n, 0, none⟩)) 56 #[.int .i64 0, .int .i64 0, .int .i64 0] 11 #[.int .i64 t2, .int .i64 u2, .int .i64 g2] rfl (fun σ x => ?_) ?_
  · go_simp
  simp only [Act.put, List.setIfInBounds_toArray, List.set_cons_succ, List.set_cons_zero, List.nil_append, List.cons_append, List.length_cons, List.length_nil, Nat.reduceAdd]
  repeat (refine mw_quiet ?_; apply Exists.intro; refine ⟨fun σ => ?_, ?_⟩; (first | (go_simp; rfl) | (go_simp; intro x; first | (go_at_call 13; with_reducible exact (H4 _ (HE3.out.trans x.ext)).out) | (go_at_call 13; with_reducible exact (H5 _ (HE3.out.trans x.ext)).out) | (go_at_call 13; exact (H4 _ (HE3.out.trans x.ext)).out) | (go_at_call 13; exact (H5 _ (HE3.out.trans x.ext)).out))); simp only [Act.put, List.setIfInBounds_toArray, List.set_cons_succ, List.set_cons_zero, List.nil_append, List.cons_append])
  refine mw_store 8 rfl rfl (fun σ x hb hc => ?_) ?_
  · have hcell : ∀ k, x.w.cell? ⟨σ 8, k, none⟩ = (#[.int .i64 0, .int .i64 0, .int .i64 0] : Array Value)[k]? := fun k => cell_of_row _ _ _ _ _ _ hc
    have hfr : ∀ k, x.w.frozen? ⟨σ 8, k, none⟩ = false := fun k => frozen_of_row _ _ _ _ _ hc
    apply Exists.intro
    refine ⟨?_, ?_⟩
    · go_simp
      rfl
    · exact (((Fill.start hc).set 0 _).set 1 _).set 2 _
  simp only [Act.put, List.nil_append, List.cons_append]
  repeat (refine mw_quiet ?_; apply Exists.intro; refine ⟨fun σ => ?_, ?_⟩; (first | (go_simp; rfl) | (go_simp; intro x; first | (go_at_call 13; with_reducible exact (H4 _ (HE3.out.trans x.ext)).out) | (go_at_call 13; with_reducible exact (H5 _ (HE3.out.trans x.ext)).out) | (go_at_call 13; exact (H4 _ (HE3.out.trans x.ext)).out) | (go_at_call 13; exact (H5 _ (HE3.out.trans x.ext)).out))); simp only [Act.put, List.setIfInBounds_toArray, List.set_cons_succ, List.set_cons_zero, List.nil_append, List.cons_append])
  refine mw_store 9 rfl rfl (fun σ x hb hc => ?_) ?_
  · have hcell : ∀ k, x.w.cell? ⟨σ 9, k, none⟩ = (#[.int .i64 0, .int .i64 0, .int .i64 0] : Array Value)[k]? := fun k => cell_of_row _ _ _ _ _ _ hc
    have hfr : ∀ k, x.w.frozen? ⟨σ 9, k, none⟩ = false := fun k => frozen_of_row _ _ _ _ _ hc
    apply Exists.intro
    refine ⟨?_, ?_⟩
    · go_simp
      rfl
    · exact (((Fill.start hc).set 0 _).set 1 _).set 2 _
  simp only [Act.put, List.nil_append, List.cons_append]
  repeat (refine mw_quiet ?_; apply Exists.intro; refine ⟨fun σ => ?_, ?_⟩; (first | (go_simp; rfl) | (go_simp; intro x; first | (go_at_call 13; with_reducible exact (H4 _ (HE3.out.trans x.ext)).out) | (go_at_call 13; with_reducible exact (H5 _ (HE3.out.trans x.ext)).out) | (go_at_call 13; exact (H4 _ (HE3.out.trans x.ext)).out) | (go_at_call 13; exact (H5 _ (HE3.out.trans x.ext)).out))); simp only [Act.put, List.setIfInBounds_toArray, List.set_cons_succ, List.set_cons_zero, List.nil_append, List.cons_append])
  refine ⟨by kernel_rfl, fun σ w4 hF4 => ?_⟩
  have hx4 := hF4.ext
  obtain ⟨hm4_8, hl4_8, hq4_8, hr4_8⟩ := mfin_blk hF4 8 10 rfl (by decide) #[.int .i64 t1, .int .i64 u1, .int .i64 g1] rfl
  have hh4_8 := Lib.hid (mfin_heap hF4 8 10 rfl (by decide) #[.int .i64 t1, .int .i64 u1, .int .i64 g1] rfl)
  obtain ⟨hm4_9, hl4_9, hq4_9, hr4_9⟩ := mfin_blk hF4 9 11 rfl (by decide) #[.int .i64 t2, .int .i64 u2, .int .i64 g2] rfl
  have hh4_9 := Lib.hid (mfin_heap hF4 9 11 rfl (by decide) #[.int .i64 t2, .int .i64 u2, .int .i64 g2] rfl)
  dsimp only
  generalize σ 8 = B4_8 at *
  generalize σ 9 = B4_9 at *
  clear hF4 hxc
  obtain ⟨hc4, hf4⟩ := hx4.cells
  have hz4 := hx4.size
  try simp at hz4
  have HE4 := Lib.hid (HE3.out.trans hx4)
  have HA4 := Lib.hid (heap_keep hx4 HA3.out)
  clear hc4 hf4 hz4 hx4 HA3 zA lA H4 H5
  have zA := fun q => cell_of_row _ _ q _ _ _ HA4.out
  have lA := (Array.getElem?_eq_some_iff.1 HA4.out).1
  go_wp2
  go_loopw [6, 8, 39] (fun s6 _ i wr => ∃ j : Nat, j ≤ p ∧ i = .int .i64 j ∧ s6 = .int .i64 (cntTo (swK zs) j) ∧ Hid (Ext w4 wr)) (fun _ _ i _ => p - (intOf i).toNat)
  case atStart => exact ⟨0, by omega, rfl, rfl, Ext.refl _⟩
  case round =>
    clear zA lA
    obtain ⟨j, hj, rfl, rfl, HEr⟩ := hrel
    by_cases hlt : j < p
    · have hlt' : (j : Int) < p := by omega
      have HS : Hid (cntTo (swK zs) (j + 1) = cntTo (swK zs) j + (if (at3 zs (j * 3) == -1) = true then 1 else 0)) := rfl
      have hcb := cntTo_bd (swK zs) j
      have hE := HE4.out.trans HEr.out
      obtain ⟨b, off, rfl, hbk, hcell⟩ := HH.out (by omega)
      have hbr : b < wr.heap.size := by have := hE.size; omega
      have z0 : wr.cell? ⟨b, off + j * 3, none⟩ = some (.int .i64 (at3 zs (j * 3))) := (hE.cells.1 b (off + (j * 3)) hbk).trans (hcell _ _ (at3_get (by have := HL.out; omega)))
      have z1 : wr.cell? ⟨b, off + j * 3 + 1, none⟩ = some (.int .i64 (at3 zs (j * 3 + 1))) := (hE.cells.1 b (off + (j * 3 + 1)) hbk).trans (hcell _ _ (at3_get (by have := HL.out; omega)))
      have z2 : wr.cell? ⟨b, off + j * 3 + 2, none⟩ = some (.int .i64 (at3 zs (j * 3 + 2))) := (hE.cells.1 b (off + (j * 3 + 2)) hbk).trans (hcell _ _ (at3_get (by have := HL.out; omega)))
      clear hcell
      clear hE
      generalize at3 zs (j * 3) = k0 at *
      generalize at3 zs (j * 3 + 1) = a0 at *
      generalize at3 zs (j * 3 + 2) = b0 at *
      generalize cntTo (swK zs) j = c0 at *
      cases hg : (k0 == -1)
      all_goals
        go_wp2
        go_roundw
        case rel => exact ⟨j + 1, by omega, by go_num, by rw [HS.out, hg]; simp, HEr.out.trans (by repeat (first | exact Ext.refl _ | assumption | refine Ext.alloc ?_ _ | refine Ext.drew ?_ | refine Ext.drewN ?_ _ | refine Ext.setCell ?_ (by first | omega | (dsimp only; omega) | (simp; done) | (simp; omega)) _ | refine Ext.trans ?_ (by assumption)))⟩
        case measure => simp [intOf]; omega
    · obtain rfl : j = p := by omega
      rw [HK.out]
      have hE := HE4.out.trans HEr.out
      have HB8 := Lib.hid (heap_keep HEr.out hh4_8.out)
      have HB9 := Lib.hid (heap_keep HEr.out hh4_9.out)
      have HAr := Lib.hid (heap_keep HEr.out HA4.out)
      have zA := fun q => cell_of_row _ _ q _ _ _ HAr.out
      have zB := fun q => cell_of_row _ _ q _ _ _ HB8.out
      have zC := fun q => cell_of_row _ _ q _ _ _ HB9.out
      have lA := (Array.getElem?_eq_some_iff.1 HAr.out).1
      have lB := (Array.getElem?_eq_some_iff.1 HB8.out).1
      have lC := (Array.getElem?_eq_some_iff.1 HB9.out).1
      clear hq4_8 hr4_8 hq4_9 hr4_9
      go_wp2
      refine Ex.wp_region_ex (m := 80) [.fn [] (fun _ => .pointer (some ⟨B4_8, 0, none⟩)), .fn [] (fun _ => .int .i64 t1), .fn [] (fun _ => .pointer (some ⟨B4_9, 0, none⟩)), .fn [] (fun _ => .int .i64 t2), .ex (Ex.PhN (wr) (fun n => .slice (some ⟨n, 0, none⟩) 2 2) 3 #[.int .i64 t1, .int .i64 t2]) 1 [], .fn [4] (fun _ => .string S1), .fn [] (fun _ => .pointer (some ⟨B4_8, 1, none⟩)), .fn [] (fun _ => .int .i64 u1), .fn [] (fun _ => .pointer (some ⟨B4_9, 1, none⟩)), .fn [] (fun _ => .int .i64 u2), .ex (Ex.PhN (wr) (fun n => .slice (some ⟨n, 0, none⟩) 2 2) 3 #[.int .i64 u1, .int .i64 u2]) 2 [], .fn [10] (fun _ => .string S2), .fn [] (fun _ => .string (S1 ++ S2)), .fn [] (fun _ => .pointer (some ⟨B4_8, 2, none⟩)), .fn [] (fun _ => .int .i64 g1), .fn [] (fun _ => .pointer (some ⟨B4_9, 2, none⟩)), .fn [] (fun _ => .int .i64 g2), .ex (Ex.PhN (wr) (fun n => .slice (some ⟨n, 0, none⟩) 2 2) 3 #[.int .i64 g1, .int .i64 g2]) 3 [], .fn [17] (fun _ => .string S3), .fn [] (fun _ => .string (S1 ++ S2 ++ S3)), .fn [] (fun _ => .pointer (some ⟨w.heap.size, 0, none⟩)), .fn [] (fun _ => .pointer (some ⟨w.heap.size, 2, none⟩)), .fn [] (fun _ => .slice av nn caps), .fn [] (fun _ => .int .i64 nn), .ex (Ex.PhN (wr) (fun n => .slice (some ⟨n, 0, none⟩) 1 1) 3 #[.int .i64 nn]) 4 [], .fn [24] (fun _ => .string S4), .fn [] (fun _ => .string (S1 ++ S2 ++ S3 ++ S4)), .fn [] (fun _ => .int .i64 k), .ex (Ex.PhN (wr) (fun n => .slice (some ⟨n, 0, none⟩) 1 1) 3 #[.int .i64 k]) 5 [], .fn [28] (fun _ => .string S5), .fn [] (fun _ => .string (S1 ++ S2 ++ S3 ++ S4 ++ S5))] (by kernel_rfl) (by kernel_rfl) rfl (by kernel_rfl) (by kernel_rfl) (Ex.mono_fn (Ex.mono_fn (Ex.mono_fn (Ex.mono_fn (Ex.mono_ex (Ex.phN_mono _ _ _ _) (Ex.mono_fn (Ex.mono_fn (Ex.mono_fn (Ex.mono_fn (Ex.mono_fn (Ex.mono_ex (Ex.phN_mono _ _ _ _) (Ex.mono_fn (Ex.mono_fn (Ex.mono_fn (Ex.mono_fn (Ex.mono_fn (Ex.mono_fn (Ex.mono_ex (Ex.phN_mono _ _ _ _) (Ex.mono_fn (Ex.mono_fn (Ex.mono_fn (Ex.mono_fn (Ex.mono_fn (Ex.mono_fn (Ex.mono_ex (Ex.phN_mono _ _ _ _) (Ex.mono_fn (Ex.mono_fn (Ex.mono_fn (Ex.mono_ex (Ex.phN_mono _ _ _ _) (Ex.mono_fn (Ex.mono_fn Ex.mono_nil))))))))))))))))))))))))))))))) (fun sig5 => ?_)
      have hxc := fun (x : Xt (wr)) (b o : Nat) (h : b < (wr).heap.size) => x.ext.cells.1 b o h
      refine Ex.we_det ?_ ?_
      · first | (go_simp; done) | (go_simp; rfl) | (go_simp; (try intro x); (try go_bits); first | done | rfl | (simp; done) | (simp; omega))
      simp only [Act.put, List.setIfInBounds_toArray, List.set_cons_succ, List.set_cons_zero, List.nil_append, List.cons_append, Nat.zero_add, Nat.reduceAdd]
      refine Ex.we_det ?_ ?_
      · first | (go_simp; done) | (go_simp; rfl) | (go_simp; (try intro x); (try go_bits); first | done | rfl | (simp; done) | (simp; omega))
      simp only [Act.put, List.setIfInBounds_toArray, List.set_cons_succ, List.set_cons_zero, List.nil_append, List.cons_append, Nat.zero_add, Nat.reduceAdd]
      refine Ex.we_det ?_ ?_
      · first | (go_simp; done) | (go_simp; rfl) | (go_simp; (try intro x); (try go_bits); first | done | rfl | (simp; done) | (simp; omega))
      simp only [Act.put, List.setIfInBounds_toArray, List.set_cons_succ, List.set_cons_zero, List.nil_append, List.cons_append, Nat.zero_add, Nat.reduceAdd]
      refine Ex.we_det ?_ ?_
      · first | (go_simp; done) | (go_simp; rfl) | (go_simp; (try intro x); (try go_bits); first | done | rfl | (simp; done) | (simp; omega))
      simp only [Act.put, List.setIfInBounds_toArray, List.set_cons_succ, List.set_cons_zero, List.nil_append, List.cons_append, Nat.zero_add, Nat.reduceAdd]
      refine Ex.we_new rfl (fun _ => rfl) (fun x => ?_) ?_
      · first | (go_simp; done) | (go_simp; rfl)
      simp only [Act.put, List.setIfInBounds_toArray, List.set_cons_succ, List.set_cons_zero, List.nil_append, List.cons_append, Nat.zero_add, Nat.reduceAdd]
      refine Ex.we_callF rfl (f := 14) (args := #[.string ⟨#[116]⟩, sig5 4]) (fun x => ?_) (fun W hxW hFW => ?_) ?_
      · first | (go_simp; done) | (go_simp; rfl)
      · (obtain ⟨b, e5, -, h5⟩ := (hFW.phi 4 (by simp) : Ex.PhN wr _ _ _ (sig5 4) W); rw [e5]; exact (HL1 W (hE.trans hxW) b h5).out)
      simp only [Act.put, List.setIfInBounds_toArray, List.set_cons_succ, List.set_cons_zero, List.nil_append, List.cons_append, Nat.zero_add, Nat.reduceAdd]
      refine Ex.we_det ?_ ?_
      · first | (go_simp; done) | (go_simp; rfl) | (go_simp; (try intro x); (try go_bits); first | done | rfl | (simp; done) | (simp; omega))
      simp only [Act.put, List.setIfInBounds_toArray, List.set_cons_succ, List.set_cons_zero, List.nil_append, List.cons_append, Nat.zero_add, Nat.reduceAdd]
      refine Ex.we_det ?_ ?_
      · first | (go_simp; done) | (go_simp; rfl) | (go_simp; (try intro x); (try go_bits); first | done | rfl | (simp; done) | (simp; omega))
      simp only [Act.put, List.setIfInBounds_toArray, List.set_cons_succ, List.set_cons_zero, List.nil_append, List.cons_append, Nat.zero_add, Nat.reduceAdd]
      refine Ex.we_det ?_ ?_
      · first | (go_simp; done) | (go_simp; rfl) | (go_simp; (try intro x); (try go_bits); first | done | rfl | (simp; done) | (simp; omega))
      simp only [Act.put, List.setIfInBounds_toArray, List.set_cons_succ, List.set_cons_zero, List.nil_append, List.cons_append, Nat.zero_add, Nat.reduceAdd]
      refine Ex.we_det ?_ ?_
      · first | (go_simp; done) | (go_simp; rfl) | (go_simp; (try intro x); (try go_bits); first | done | rfl | (simp; done) | (simp; omega))
      simp only [Act.put, List.setIfInBounds_toArray, List.set_cons_succ, List.set_cons_zero, List.nil_append, List.cons_append, Nat.zero_add, Nat.reduceAdd]
      refine Ex.we_new rfl (fun _ => rfl) (fun x => ?_) ?_
      · first | (go_simp; done) | (go_simp; rfl)
      simp only [Act.put, List.setIfInBounds_toArray, List.set_cons_succ, List.set_cons_zero, List.nil_append, List.cons_append, Nat.zero_add, Nat.reduceAdd]
      refine Ex.we_callF rfl (f := 14) (args := #[.string ⟨#[116, 119, 111]⟩, sig5 10]) (fun x => ?_) (fun W hxW hFW => ?_) ?_
      · first | (go_simp; done) | (go_simp; rfl)
      · (obtain ⟨b, e5, -, h5⟩ := (hFW.phi 10 (by simp) : Ex.PhN wr _ _ _ (sig5 10) W); rw [e5]; exact (HL2 W (hE.trans hxW) b h5).out)
      simp only [Act.put, List.setIfInBounds_toArray, List.set_cons_succ, List.set_cons_zero, List.nil_append, List.cons_append, Nat.zero_add, Nat.reduceAdd]
      refine Ex.we_det ?_ ?_
      · first | (go_simp; done) | (go_simp; rfl) | (go_simp; (try intro x); (try go_bits); first | done | rfl | (simp; done) | (simp; omega))
      simp only [Act.put, List.setIfInBounds_toArray, List.set_cons_succ, List.set_cons_zero, List.nil_append, List.cons_append, Nat.zero_add, Nat.reduceAdd]
      refine Ex.we_det ?_ ?_
      · first | (go_simp; done) | (go_simp; rfl) | (go_simp; (try intro x); (try go_bits); first | done | rfl | (simp; done) | (simp; omega))
      simp only [Act.put, List.setIfInBounds_toArray, List.set_cons_succ, List.set_cons_zero, List.nil_append, List.cons_append, Nat.zero_add, Nat.reduceAdd]
      refine Ex.we_det ?_ ?_
      · first | (go_simp; done) | (go_simp; rfl) | (go_simp; (try intro x); (try go_bits); first | done | rfl | (simp; done) | (simp; omega))
      simp only [Act.put, List.setIfInBounds_toArray, List.set_cons_succ, List.set_cons_zero, List.nil_append, List.cons_append, Nat.zero_add, Nat.reduceAdd]
      refine Ex.we_det ?_ ?_
      · first | (go_simp; done) | (go_simp; rfl) | (go_simp; (try intro x); (try go_bits); first | done | rfl | (simp; done) | (simp; omega))
      simp only [Act.put, List.setIfInBounds_toArray, List.set_cons_succ, List.set_cons_zero, List.nil_append, List.cons_append, Nat.zero_add, Nat.reduceAdd]
      refine Ex.we_det ?_ ?_
      · first | (go_simp; done) | (go_simp; rfl) | (go_simp; (try intro x); (try go_bits); first | done | rfl | (simp; done) | (simp; omega))
      simp only [Act.put, List.setIfInBounds_toArray, List.set_cons_succ, List.set_cons_zero, List.nil_append, List.cons_append, Nat.zero_add, Nat.reduceAdd]
      refine Ex.we_new rfl (fun _ => rfl) (fun x => ?_) ?_
      · first | (go_simp; done) | (go_simp; rfl)
      simp only [Act.put, List.setIfInBounds_toArray, List.set_cons_succ, List.set_cons_zero, List.nil_append, List.cons_append, Nat.zero_add, Nat.reduceAdd]
      refine Ex.we_callF rfl (f := 14) (args := #[.string ⟨#[103, 97, 116, 101, 115]⟩, sig5 17]) (fun x => ?_) (fun W hxW hFW => ?_) ?_
      · first | (go_simp; done) | (go_simp; rfl)
      · (obtain ⟨b, e5, -, h5⟩ := (hFW.phi 17 (by simp) : Ex.PhN wr _ _ _ (sig5 17) W); rw [e5]; exact (HL3 W (hE.trans hxW) b h5).out)
      simp only [Act.put, List.setIfInBounds_toArray, List.set_cons_succ, List.set_cons_zero, List.nil_append, List.cons_append, Nat.zero_add, Nat.reduceAdd]
      refine Ex.we_det ?_ ?_
      · first | (go_simp; done) | (go_simp; rfl) | (go_simp; (try intro x); (try go_bits); first | done | rfl | (simp; done) | (simp; omega))
      simp only [Act.put, List.setIfInBounds_toArray, List.set_cons_succ, List.set_cons_zero, List.nil_append, List.cons_append, Nat.zero_add, Nat.reduceAdd]
      refine Ex.we_det ?_ ?_
      · first | (go_simp; done) | (go_simp; rfl) | (go_simp; (try intro x); (try go_bits); first | done | rfl | (simp; done) | (simp; omega))
      simp only [Act.put, List.setIfInBounds_toArray, List.set_cons_succ, List.set_cons_zero, List.nil_append, List.cons_append, Nat.zero_add, Nat.reduceAdd]
      refine Ex.we_det ?_ ?_
      · first | (go_simp; done) | (go_simp; rfl) | (go_simp; (try intro x); (try go_bits); first | done | rfl | (simp; done) | (simp; omega))
      simp only [Act.put, List.setIfInBounds_toArray, List.set_cons_succ, List.set_cons_zero, List.nil_append, List.cons_append, Nat.zero_add, Nat.reduceAdd]
      refine Ex.we_det ?_ ?_
      · first | (go_simp; done) | (go_simp; rfl) | (go_simp; (try intro x); (try go_bits); first | done | rfl | (simp; done) | (simp; omega))
      simp only [Act.put, List.setIfInBounds_toArray, List.set_cons_succ, List.set_cons_zero, List.nil_append, List.cons_append, Nat.zero_add, Nat.reduceAdd]
      refine Ex.we_det ?_ ?_
      · first | (go_simp; done) | (go_simp; rfl) | (go_simp; (try intro x); (try go_bits); first | done | rfl | (simp; done) | (simp; omega))
      simp only [Act.put, List.setIfInBounds_toArray, List.set_cons_succ, List.set_cons_zero, List.nil_append, List.cons_append, Nat.zero_add, Nat.reduceAdd]
      refine Ex.we_new rfl (fun _ => rfl) (fun x => ?_) ?_
      · first | (go_simp; done) | (go_simp; rfl)
      simp only [Act.put, List.setIfInBounds_toArray, List.set_cons_succ, List.set_cons_zero, List.nil_append, List.cons_append, Nat.zero_add, Nat.reduceAdd]
      refine Ex.we_callF rfl (f := 14) (args := #[.string ⟨#[115, 116, 101, 112, 115]⟩, sig5 24]) (fun x => ?_) (fun W hxW hFW => ?_) ?_
      · first | (go_simp; done) | (go_simp; rfl)
      · (obtain ⟨b, e5, -, h5⟩ := (hFW.phi 24 (by simp) : Ex.PhN wr _ _ _ (sig5 24) W); rw [e5]; exact (HL4 W (hE.trans hxW) b h5).out)
      simp only [Act.put, List.setIfInBounds_toArray, List.set_cons_succ, List.set_cons_zero, List.nil_append, List.cons_append, Nat.zero_add, Nat.reduceAdd]
      refine Ex.we_det ?_ ?_
      · first | (go_simp; done) | (go_simp; rfl) | (go_simp; (try intro x); (try go_bits); first | done | rfl | (simp; done) | (simp; omega))
      simp only [Act.put, List.setIfInBounds_toArray, List.set_cons_succ, List.set_cons_zero, List.nil_append, List.cons_append, Nat.zero_add, Nat.reduceAdd]
      refine Ex.we_det ?_ ?_
      · first | (go_simp; done) | (go_simp; rfl) | (go_simp; (try intro x); (try go_bits); first | done | rfl | (simp; done) | (simp; omega))
      simp only [Act.put, List.setIfInBounds_toArray, List.set_cons_succ, List.set_cons_zero, List.nil_append, List.cons_append, Nat.zero_add, Nat.reduceAdd]
      refine Ex.we_new rfl (fun _ => rfl) (fun x => ?_) ?_
      · first | (go_simp; done) | (go_simp; rfl)
      simp only [Act.put, List.setIfInBounds_toArray, List.set_cons_succ, List.set_cons_zero, List.nil_append, List.cons_append, Nat.zero_add, Nat.reduceAdd]
      refine Ex.we_callF rfl (f := 14) (args := #[.string ⟨#[115, 119, 97, 112, 115]⟩, sig5 28]) (fun x => ?_) (fun W hxW hFW => ?_) ?_
      · first | (go_simp; done) | (go_simp; rfl)
      · (obtain ⟨b, e5, -, h5⟩ := (hFW.phi 28 (by simp) : Ex.PhN wr _ _ _ (sig5 28) W); rw [e5]; exact (HL5 W (hE.trans hxW) b h5).out)
      simp only [Act.put, List.setIfInBounds_toArray, List.set_cons_succ, List.set_cons_zero, List.nil_append, List.cons_append, Nat.zero_add, Nat.reduceAdd]
      refine Ex.we_det ?_ ?_
      · first | (go_simp; done) | (go_simp; rfl) | (go_simp; (try intro x); (try go_bits); first | done | rfl | (simp; done) | (simp; omega))
      simp only [Act.put, List.setIfInBounds_toArray, List.set_cons_succ, List.set_cons_zero, List.nil_append, List.cons_append, Nat.zero_add, Nat.reduceAdd]
      refine Ex.we_stop (fun w5 hx5 hF5 => ?_)
      clear hxc
      go_wp2
      refine bodyPost_ret (v := .tuple #[.string (S1 ++ S2 ++ S3 ++ S4 ++ S5), .bool true]) (by simp [results, Tryd.results5, go_sem, *]) rfl ?_
      exact ⟨rfl, hE.trans hx5⟩

end Go.Proofs.YtgefamclfjoogaaDoor
