/- Folding: what is returned; its gates are valid. -/
import Derived.Test.YtbddgeoaaklgpaaRoU
import Derived.Test.YtbddgeoaaklgpaaFpR
import Derived.Laws.CopyOwn
import Derived.Deep.RegionLaw
import Derived.Test.YtbddgeoaaklgpaaGate
import Derived.Deep.RegionHeld3
import Derived.Deep.Cut
namespace Go.Proofs.Ytbddgeoaaklgpaa
open Go.RowKit
set_option linter.unusedVariables false
set_option linter.unusedSimpArgs false

def trC (g : Int × Int × Int) : List Int := [g.1, g.2.1, g.2.2]
/-- a list of valid gates -/
def GLs (q : Int) (L : List Int) : Prop := ∃ gs : List (Int × Int × Int), L = gs.flatMap trC ∧ ∀ g ∈ gs, gOk q g.1 g.2.1 g.2.2 = true
theorem GLs.nil (q : Int) : GLs q [] := ⟨[], rfl, fun _ h => by cases h⟩
theorem GLs.app {q : Int} {L M : List Int} (h : GLs q L) (k : GLs q M) : GLs q (L ++ M) := by
  obtain ⟨gs, rfl, h1⟩ := h
  obtain ⟨gs', rfl, h2⟩ := k
  exact ⟨gs ++ gs', by rw [List.flatMap_append], fun g hg => (List.mem_append.1 hg).elim (h1 g) (h2 g)⟩
theorem GLs.one {q k a b : Int} (h : gOk q k a b = true) : GLs q [k, a, b] := ⟨[(k, a, b)], rfl, fun g hg => by simp at hg; subst hg; exact h⟩
theorem GLs.all {q : Int} {L : List Int} (h : GLs q L) : gAll q L (L.length / 3) = true := by
  obtain ⟨gs, rfl, h1⟩ := h
  have hl : (gs.flatMap trC).length = gs.length * 3 := fm_len (f := trC) (k := 3) (fun _ => rfl) gs
  unfold gAll
  rw [hl, Nat.mul_div_cancel _ (by decide)]
  have hall : ∀ j, j < gs.length → gOk q (at3 (gs.flatMap trC) (j * 3)) (at3 (gs.flatMap trC) (j * 3 + 1)) (at3 (gs.flatMap trC) (j * 3 + 2)) = true := by
    intro j hj
    have g0 := fm_get (f := trC) (k := 3) (fun _ => rfl) gs j 0 hj (by decide)
    have g1 := fm_get (f := trC) (k := 3) (fun _ => rfl) gs j 1 hj (by decide)
    have g2 := fm_get (f := trC) (k := 3) (fun _ => rfl) gs j 2 hj (by decide)
    have e0 : at3 (gs.flatMap trC) (j * 3) = gs[j].1 := by unfold at3; rw [List.getD_eq_getElem?_getD, ← Nat.add_zero (j * 3), g0]; rfl
    have e1 : at3 (gs.flatMap trC) (j * 3 + 1) = gs[j].2.1 := by unfold at3; rw [List.getD_eq_getElem?_getD, g1]; rfl
    have e2 : at3 (gs.flatMap trC) (j * 3 + 2) = gs[j].2.2 := by unfold at3; rw [List.getD_eq_getElem?_getD, g2]; rfl
    rw [e0, e1, e2]
    exact h1 _ (List.getElem_mem hj)
  generalize gs.length = n at hall
  clear hl h1
  induction n with
  | zero => rfl
  | succ n ih => rw [allTo_succ, ih (fun j hj => hall j (by omega)), hall n (by omega)]; rfl
theorem gOk_rot {q k a b k' : Int} (h : gOk q k a b = true) (hk : 1 ≤ k ∧ k ≤ 8) (hk' : 1 ≤ k' ∧ k' ≤ 8) : gOk q k' a 0 = true := by
  unfold gOk at h ⊢
  rw [if_pos (Wn_iff.2 hk)] at h
  rw [if_pos (Wn_iff.2 hk')]
  simp only [Bool.and_eq_true] at h ⊢
  exact ⟨h.1, by simp⟩
theorem gOk_W (q : Int) : gOk q 12 0 0 = true := by
  unfold gOk
  rw [if_neg (by rw [Wn_iff]; omega), if_neg (by rw [Wn_iff]; omega)]
  rfl
theorem cfK_k {k : Int} (h : 0 < cfK k) : 4 ≤ k ∧ k ≤ 8 := by
  unfold cfK at h
  split at h
  · omega
  split at h
  · omega
  split at h
  · omega
  split at h
  · omega
  split at h
  · omega
  · omega
theorem rotK_k {c : Nat} {k : Int} (h : k ∈ rotK c) : 1 ≤ k ∧ k ≤ 8 := by
  unfold rotK at h
  repeat' split at h
  all_goals simp at h
  all_goals omega
theorem GLs.rot {q k a b : Int} (h : gOk q k a b = true) (hk : 0 < cfK k) (c : Nat) : GLs q (rotL a c) := by
  have h4 := cfK_k hk
  refine ⟨(rotK c).map (fun k' => (k', a, 0)), ?_, fun g hg => ?_⟩
  · unfold rotL
    rw [List.flatMap_map]
    rfl
  · simp only [List.mem_map] at hg
    obtain ⟨k', hk', rfl⟩ := hg
    exact gOk_rot h (by omega) (rotK_k hk')
theorem GLs.ph (q : Int) : ∀ s, GLs q (phL s)
  | 0 => GLs.nil q
  | s + 1 => (GLs.ph q s).app (GLs.one (gOk_W q))
theorem GLs.fpP {q : Int} {xs : List Int} {n : Nat} {σ : Fs} (h : FsJ xs n σ) {j : Nat} {a b : Int} (hg : gOk q (at3 xs (j * 3)) a b = true) : GLs q (fpP σ.G (at3 xs (j * 3)) a b j) := by
  unfold Go.Proofs.Ytbddgeoaaklgpaa.fpP
  split
  · rename_i hf
    split
    · exact GLs.rot hg (h.nc _ j hf (fdL_at hf)) _
    · exact GLs.nil q
  · exact GLs.one hg
theorem GLs.fpL {q : Int} {xs : List Int} {n : Nat} {σ : Fs} (h : FsJ xs n σ) (hg : ∀ j, j < n → gOk q (at3 xs (j * 3)) (at3 xs (j * 3 + 1)) (at3 xs (j * 3 + 2)) = true) : ∀ j, j ≤ n → GLs q (fpL σ.G xs j)
  | 0, _ => GLs.nil q
  | j + 1, hj => (GLs.fpL h hg j (by omega)).app (GLs.fpP h (hg j (by omega)))

/-- all gates that are written -/
def fpT (q : Int) (xs : List Int) (n : Nat) : List Int := fpL (fsS q.toNat xs n).G xs n ++ phL (fsS q.toNat xs n).s
def fpM (q : Int) (xs : List Int) (n : Nat) : Nat := (fpT q xs n).length / 3
def fOk (q : Int) (xs : List Int) (n : Nat) : Bool := mgK q xs n && decide (fpM q xs n ≤ 400)
def fQ (q : Int) (xs : List Int) (n : Nat) : Int := if fOk q xs n then q else 0
def fN (q : Int) (xs : List Int) (n : Nat) : Nat := if fOk q xs n then fpM q xs n else 0
def fL (q : Int) (xs : List Int) (n : Nat) : List Int := if fOk q xs n then fpT q xs n else []
theorem fpT_len (q : Int) (xs : List Int) (n : Nat) : (fpT q xs n).length = fpM q xs n * 3 := by
  unfold fpM fpT
  obtain ⟨m, _, h⟩ := fpL_len (fsS q.toNat xs n).G xs n
  rw [List.length_append, h, phL_len]
  omega
theorem fL_len (q : Int) (xs : List Int) (n : Nat) : (fL q xs n).length = fN q xs n * 3 := by
  unfold fL fN
  split
  · exact fpT_len q xs n
  · rfl
theorem fN_le (q : Int) (xs : List Int) (n : Nat) : fN q xs n ≤ 400 := by
  unfold fN
  split
  · rename_i h
    unfold fOk at h
    simp only [Bool.and_eq_true, decide_eq_true_eq] at h
    exact h.2
  · omega
theorem mgK_facts {q : Int} {xs : List Int} {n : Nat} (h : mgK q xs n = true) : ∃ Q : Nat, q = Q ∧ 1 ≤ Q ∧ Q ≤ 5 ∧ n ≤ 400 ∧ FsI Q n (fsS Q xs n) ∧ FsJ xs n (fsS Q xs n) ∧ cOk Q xs n = true ∧ fsK Q xs n = true ∧ ∀ j, j < n → gOk Q (at3 xs (j * 3)) (at3 xs (j * 3 + 1)) (at3 xs (j * 3 + 2)) = true := by
  unfold mgK at h
  simp only [Bool.and_eq_true] at h
  have hq := cOk_qn h.1
  obtain ⟨Q, rfl⟩ : ∃ Q : Nat, q = Q := ⟨q.toNat, by omega⟩
  refine ⟨Q, rfl, by omega, by omega, hq.2.2, fs_inv h.1 n (Nat.le_refl _) h.2, fsJ_inv h.1 n (Nat.le_refl _) h.2, h.1, h.2, fun j hj => ?_⟩
  have hc := h.1
  unfold cOk at hc
  simp only [Bool.and_eq_true, decide_eq_true_eq] at hc
  exact allTo_at (f := fun j => gOk Q (at3 xs (j * 3)) (at3 xs (j * 3 + 1)) (at3 xs (j * 3 + 2))) hc.2.2 hj
theorem fpT_ok {q : Int} {xs : List Int} {n : Nat} (h : mgK q xs n = true) : cOk q (fpT q xs n) (fpM q xs n) = fOk q xs n := by
  unfold fOk
  rw [h]
  obtain ⟨Q, rfl, h1, h2, h3, hI, hJ, _, _, hg⟩ := mgK_facts h
  have hG : GLs Q (fpT Q xs n) := (GLs.fpL hJ hg n (Nat.le_refl _)).app (GLs.ph _ _)
  have ha : gAll (Q : Int) (fpT Q xs n) (fpM Q xs n) = true := hG.all
  unfold cOk
  rw [ha, Wn_iff.2 ⟨by omega, by omega⟩]
  simp


open Go.RowKit Go.Lib
set_option linter.unusedVariables false
set_option linter.unusedSimpArgs false

theorem run_copy_k {P : Program} (w : World) (dT sT ty elem : TypeId) (k g o dLen dCap : Nat) (a : Addr) (sLen sCap n : Nat) (cur : Array Value) (t : TypeId) (cs : List Value)
    (hu : P.underlying dT = some (.slice elem)) (hs : (P.info? elem).map (·.size) = some k)
    (hg : w.heap[g]? = some (.cells cur t (0, 0))) (hn : n = Nat.min sLen dLen) (hcl : cs.length = n * k)
    (hsrc : ∀ j v, cs[j]? = some v → w.cell? (a.add j) = some v) (hfit : o + cs.length ≤ cur.size) (h1 : ∀ v ∈ cs, v.oneCell' = true) :
    (Builtin.copy_ #[dT, sT] ty #[.slice (some ⟨g, o, none⟩) dLen dCap, .slice (some a) sLen sCap]).run P w =
      .ok (goInt n) (w.setRow g (cur.toList.take o ++ cs ++ cur.toList.drop (o + cs.length)).toArray) := by
  have hl := run_loadCells_list (P := P) w a cs hsrc
  have hst := run_storeCells_at P g o t cs 0 cur w hg (by simpa using hfit) h1
  rw [hcl] at hl
  cases hq : P.info? elem with
  | none => simp [hq] at hs
  | some i =>
    have hi : i.size = k := by simpa [hq] using hs
    simp [Builtin.copy_, run_underlying hu, Builtin.lenOf, Builtin.firstCells, sizeOf, typeInfo, hq, hi, ← hn, hl, hst]

theorem mul1_any (s : Nat) (hs : s ≤ 7) (w : World) : Calls Try.prog 77 #[.int .u64 1, .int .u64 s] w fun e w' => e = .returned (.tuple #[.int .u64 0, .int .u64 s]) ∧ w' = w := by
  have hM : ∀ w, Calls Try.prog 91 #[.int .u64 1, .int .u64 s] w fun e w' => e = .returned (.tuple #[.int .u64 0, .int .u64 s]) ∧ w' = w := by
    intro w
    have hcs : s = 0 ∨ s = 1 ∨ s = 2 ∨ s = 3 ∨ s = 4 ∨ s = 5 ∨ s = 6 ∨ s = 7 := by omega
    rcases hcs with rfl | rfl | rfl | rfl | rfl | rfl | rfl | rfl
    all_goals
      go_enter Try.func91, Try.ntmps91
      go_wp2
      go_ret2
      exact ⟨rfl, rfl⟩
  go_enter Try.func77, Try.ntmps77
  go_wp2_with fail
  refine (hM _).mono ?_
  rintro e w1 ⟨rfl, rfl⟩
  go_wp2
  go_ret2
  exact ⟨rfl, rfl⟩

theorem grown_setRow (w : World) (g : Nat) (cs : Array Value) : w.grownBy (w.setRow g cs) (some g) := ⟨rfl, rfl, rfl, by simp [World.setRow], fun k hk hne => setRow_other w g k cs (fun e => hne (by rw [e]))⟩
theorem wp_copy_k {P : Program} {w : World} {o : Oper} {a : Act} {K : Act → World → Prop} {Q : Exit → Act → World → Prop} (d s : Operand) (dT sT : TypeId)
    (ho : o.op = .call { callee := .builtin .copy, args := #[d, s], argTypes := #[dT, sT] }) (elem : TypeId) (k : Nat) (hu : P.underlying dT = some (.slice elem)) (hsz : (P.info? elem).map (·.size) = some k)
    (g off dLen dCap : Nat) (ad : Addr) (sLen sCap n : Nat) (hd : a.eval d = .slice (some ⟨g, off, none⟩) dLen dCap) (hs : a.eval s = .slice (some ad) sLen sCap)
    (L : List Value) (t : TypeId) (hg : w.heap[g]? = some (.cells L.toArray t (0, 0))) (cs : List Value) (hn : n = Nat.min sLen dLen) (hcl : cs.length = n * k)
    (hsrc : ∀ j v, cs[j]? = some v → w.cell? (ad.add j) = some v) (hfit : off + cs.length ≤ L.length) (h1 : ∀ v ∈ cs, v.oneCell' = true) (L' : List Value) (hL : L.take off ++ cs ++ L.drop (off + cs.length) = L')
    (h : ∀ w', w'.heap[g]? = some (.cells L'.toArray t (0, 0)) → w.grownBy w' (some g) → K (a.put o.dst (goInt n)) w') : o.wp P a w K Q := by
  have hrun := run_copy_k (P := P) w dT sT o.type elem k g off dLen dCap ad sLen sCap n L.toArray t cs hu hsz hg hn hcl hsrc (by simpa using hfit) h1
  unfold Oper.wp
  simp [execOp, ho, resolve, invoke, builtin, hd, hs, hrun, Result.andThen]
  refine h _ ?_ (grown_setRow _ _ _)
  have h9 := setRow_heap w g L.toArray (L.take off ++ cs ++ L.drop (off + cs.length)).toArray t (0, 0) hg
  rw [hL] at h9
  rw [← List.append_assoc, hL]
  exact h9
theorem wpList_copy_k {P : Program} {w : World} {ops : Array Oper} {rest : List Oper} {o : Oper} {a : Act} {Q : Exit → Act → World → Prop} (hgd : o.guard = none) (d s : Operand) (dT sT : TypeId)
    (ho : o.op = .call { callee := .builtin .copy, args := #[d, s], argTypes := #[dT, sT] }) (elem : TypeId) (k : Nat) (hu : P.underlying dT = some (.slice elem)) (hsz : (P.info? elem).map (·.size) = some k)
    (g off dLen dCap : Nat) (ad : Addr) (sLen sCap n : Nat) (hd : a.eval d = .slice (some ⟨g, off, none⟩) dLen dCap) (hs : a.eval s = .slice (some ad) sLen sCap)
    (L : List Value) (t : TypeId) (hg : w.heap[g]? = some (.cells L.toArray t (0, 0))) (cs : List Value) (hn : n = Nat.min sLen dLen) (hcl : cs.length = n * k)
    (hsrc : ∀ j v, cs[j]? = some v → w.cell? (ad.add j) = some v) (hfit : off + cs.length ≤ L.length) (h1 : ∀ v ∈ cs, v.oneCell' = true) (L' : List Value) (hL : L.take off ++ cs ++ L.drop (off + cs.length) = L')
    (h : ∀ w', w'.heap[g]? = some (.cells L'.toArray t (0, 0)) → w.grownBy w' (some g) → wpList P ops Q rest (a.put o.dst (goInt n)) w') : wpList P ops Q (o :: rest) a w :=
  wpList_plain hgd fun _ hK => wp_copy_k d s dT sT ho elem k hu hsz g off dLen dCap ad sLen sCap n hd hs L t hg cs hn hcl hsrc hfit h1 L' hL fun w' h2 h3 => hK _ _ (h w' h2 h3)
theorem step_copy_k {P : Program} {ops : Array Oper} {o : Oper} {a : Act} {w : World} {K : Act → World → Prop} {Q : Exit → Act → World → Prop} {E : Prop} (hgd : o.guard = none) (d s : Operand) (dT sT : TypeId)
    (ho : o.op = .call { callee := .builtin .copy, args := #[d, s], argTypes := #[dT, sT] }) (elem : TypeId) (k : Nat) (hu : P.underlying dT = some (.slice elem)) (hsz : (P.info? elem).map (·.size) = some k)
    (g off dLen dCap : Nat) (ad : Addr) (sLen sCap n : Nat) (hd : a.eval d = .slice (some ⟨g, off, none⟩) dLen dCap) (hs : a.eval s = .slice (some ad) sLen sCap)
    (L : List Value) (t : TypeId) (hg : w.heap[g]? = some (.cells L.toArray t (0, 0))) (cs : List Value) (hn : n = Nat.min sLen dLen) (hcl : cs.length = n * k)
    (hsrc : ∀ j v, cs[j]? = some v → w.cell? (ad.add j) = some v) (hfit : off + cs.length ≤ L.length) (h1 : ∀ v ∈ cs, v.oneCell' = true) (L' : List Value) (hL : L.take off ++ cs ++ L.drop (off + cs.length) = L')
    (h : ∀ w', w'.heap[g]? = some (.cells L'.toArray t (0, 0)) → w.grownBy w' (some g) → K (a.put o.dst (goInt n)) w') :
    if Region.wanted o (yielded ops a.tmps) = true then Oper.wp P o a w K Q else E := by
  have hw : Region.wanted o (yielded ops a.tmps) = true := by simp [Region.wanted, hgd]
  rw [if_pos hw]
  exact wp_copy_k d s dT sT ho elem k hu hsz g off dLen dCap ad sLen sCap n hd hs L t hg cs hn hcl hsrc hfit h1 L' hL h

/-- k phases, then nothing -/
def RZ (s k : Nat) : List Int := phL k ++ List.replicate ((s - k) * 3) 0
theorem RZ_step : ∀ s, s ≤ 7 → ∀ k, k ≤ s → (RZ s k).take (k * 3) ++ phL (min k (s - k)) ++ (RZ s k).drop (k * 3 + (min k (s - k)) * 3) = RZ s (k + min k (s - k)) := by decide
theorem RZ_one : ∀ s, s ≤ 7 → 1 ≤ s → (RZ s 0).take 0 ++ phL 1 ++ (RZ s 0).drop (0 + 3) = RZ s 1 := by decide
theorem RZ_src : ∀ s, s ≤ 7 → ∀ k, k ≤ s → ∀ j, j < (min k (s - k)) * 3 → (RZ s k)[j]? = (phL (min k (s - k)))[j]? := by decide
theorem RZ_len : ∀ s, s ≤ 7 → ∀ k, k ≤ s → (RZ s k).length = s * 3 := by decide
theorem RZ_all (s : Nat) : RZ s s = phL s := by simp [RZ]
theorem RZ_made (s : Nat) : (madeCells (Value.agg #[.int .i64 0, .int .i64 0, .int .i64 0]).cells (s * 3)).toList = IL (RZ s 0) := by
  have hz : RZ s 0 = List.replicate (s * 3) 0 := by simp [RZ, phL]
  rw [hz]
  refine List.ext_getElem? fun q => ?_
  by_cases h : q < s * 3
  · have e2 : (IL (List.replicate (s * 3) 0))[q]? = some (.int .i64 0) := by simp [IL, h]
    rw [e2]
    unfold madeCells
    simp only [Array.toList_map, Array.toList_range, List.getElem?_map, List.getElem?_range h, Option.map_some, Option.some.injEq]
    have h5 : q % 3 < 3 := Nat.mod_lt _ (by omega)
    show (#[Value.int .i64 0, .int .i64 0, .int .i64 0] : Array Value)[q % 3]! = _
    generalize q % 3 = r at *
    match r, h5 with
    | 0, _ => rfl
    | 1, _ => rfl
    | 2, _ => rfl
  · rw [List.getElem?_eq_none (by simp [madeCells]; omega), List.getElem?_eq_none (by simp [IL]; omega)]
theorem info_FG : (Try.prog.info? 47).map (fun i => (i.zero, i.size, i.bytes)) = some (some (.agg #[.int .i64 0, .int .i64 0, .int .i64 0]), 3, 24) := by kernel_rfl

theorem own_heap {w : World} {base : Nat} {e : TypeId} {size g n : Nat} {xs : List Value} (h : w.ownsRow base e size (.slice (some ⟨g, 0, none⟩) n n) n xs) : w.heap[g]? = some (.cells xs.toArray e (0, 0)) := by
  obtain ⟨hl, hn | ⟨g', cap, cur, hv, hb, hg, h1, h2, h3, h4⟩⟩ := h
  · cases hn.1
  · injection hv with e1 _ e3
    subst e3
    cases e1
    have h5 : cur.toList = xs := by
      rw [← h4, List.take_of_length_le]
      rw [Array.length_toList, h3]
      exact Nat.le_refl _
    rw [hg, ← h5]
theorem heap_own {w : World} {base : Nat} {e : TypeId} {size g n : Nat} {xs : List Value} (h : w.heap[g]? = some (.cells xs.toArray e (0, 0))) (hl : xs.length = n * size) (hb : base ≤ g) (hn : n ≤ maxLen) : w.ownsRow base e size (.slice (some ⟨g, 0, none⟩) n n) n xs :=
  ⟨hl, .inr ⟨g, n, xs.toArray, rfl, hb, h, Nat.le_refl _, hn, by simpa using hl, by rw [← hl]; simp⟩⟩

theorem il_oneF (L : List Int) : ∀ v ∈ IL L, v.oneCell' = true := by
  intro v hv
  simp only [IL, List.mem_map] at hv
  obtain ⟨x, _, rfl⟩ := hv
  rfl
theorem il_take (L : List Int) (n : Nat) : (IL L).take n = IL (L.take n) := by simp [IL, List.map_take]
theorem il_drop (L : List Int) (n : Nat) : (IL L).drop n = IL (L.drop n) := by simp [IL, List.map_drop]
theorem il_len (L : List Int) : (IL L).length = L.length := by simp [IL]
theorem addr_add (B o j : Nat) : (⟨B, o, none⟩ : Addr).add j = ⟨B, o + j, none⟩ := by unfold Addr.add; split <;> simp_all

set_option maxRecDepth 20000 in
set_option maxHeartbeats 4000000 in
theorem repeat_any (s : Nat) (hs : s ≤ 7) (B : Nat) (w : World) (hB : w.heap[B]? = some (.cells #[.int .i64 12, .int .i64 0, .int .i64 0] 47 (0, 0))) :
    Calls Try.prog 52 #[.slice (some ⟨B, 0, none⟩) 1 1, .int .i64 s] w fun e w' => ∃ v, e = .returned v ∧ w'.ownsRow w.heap.size 47 3 v s (IL (phL s)) ∧ Ext w w' := by
  obtain ⟨i0, hi0, iz0, iz1, iz2⟩ := info_parts info_FG
  have HZ0 := Lib.hid (RZ_made s)
  have HBl := (Array.getElem?_eq_some_iff.1 hB).1
  have hB' := Lib.hid hB
  have HM := fun w' => Lib.hid (mul1_any s hs w')
  have HRA := Lib.hid (RZ_all s)
  have HRL := Lib.hid (RZ_len s hs)
  have HRS := Lib.hid (RZ_src s hs)
  have HRT := Lib.hid (RZ_step s hs)
  have HRO := Lib.hid (RZ_one s hs)
  clear hB
  have hsu : IntKind.u64.wrap (s : Int) = s := IntWalk.u64_in _ (by omega)
  have hd1 : decide ((s : Int) < 0) = false := by simp
  have hd2 : decide (9223372036854775807 < (s : Int)) = false := by simp; omega
  go_enter Try.func52, Try.ntmps52
  go_wp2_with fail
  refine (HM _).out.mono ?_
  rintro e w1 ⟨rfl, rfl⟩
  go_upto_region 7 with (at_make; refine wpList_make_full _ rfl _ _ _ rfl w1.heap.size 47 i0 (.agg #[.int .i64 0, .int .i64 0, .int .i64 0]) 3 Try.underlying23 hi0 iz0 iz1 .i64 .i64 _ _ s rfl rfl rfl rfl (by rw [iz2]; omega) (by simp only [maxLen]; omega) (Nat.le_refl _) ?_; intro w0 own0 hg0; rw [HZ0.out] at own0; have HO := Lib.hid own0; clear own0)
  have HG := Lib.hid (own_heap HO.out)
  have HX0 : Hid (Ext w1 w0) := Lib.hid (Ext.grown (Ext.refl w1) hg0 (fun k hk => by cases hk))
  have HB0 := Lib.hid (row_farM hB'.out HX0.out)
  have hs0 : w1.heap.size < w0.heap.size := (Array.getElem?_eq_some_iff.1 HG.out).1
  have HSR : Hid (∀ j v, (IL (phL 1))[j]? = some v → w0.cell? ((⟨B, 0, none⟩ : Addr).add j) = some v) := Lib.hid (fun j v h => by
    rw [addr_add, Nat.zero_add, cell_of_row _ _ j _ _ _ HB0.out, ← h]
    rw [← Array.getElem?_toList]
    rfl)
  have HF0 := Lib.hid (HRL.out 0 (Nat.zero_le _))
  clear hg0 HO
  by_cases h0 : s = 0
  · subst h0
    have hel : (Try.prog.info? 47).map (·.size) = some 3 := by rw [hi0]; simp [iz1]
    have HEE := Lib.hid hel
    clear hel
    go_wp2_with (with_reducible refine wpList_copy_k rfl (.tmp 31) (.tmp 32) _ _ rfl 47 3 Try.underlying23 HEE.out w1.heap.size 0 0 0 ⟨B, 0, none⟩ 1 1 0 rfl rfl (IL (RZ 0 0)) 47 HG.out [] rfl rfl (fun j v h => by simp at h) (Nat.zero_le _) (fun v h => by simp at h) (IL (RZ 0 0)) rfl ?_; intro w2 hc2 hg2; have HC2 := Lib.hid hc2; have HX2 := Lib.hid (Ext.grown HX0.out hg2 (fun k hk => by cases hk; exact Nat.le_refl _)); clear hc2 hg2)
    go_loopw [8] (fun u8 wr => u8 = .int .i64 0 ∧ Hid (wr.heap[w1.heap.size]? = some (.cells (IL (RZ 0 0)).toArray 47 (0, 0))) ∧ Ext w1 wr) (fun u8 _ => 0)
    case atStart => exact ⟨rfl, HC2, HX2.out⟩
    case round =>
      obtain ⟨rfl, HC, hE⟩ := hrel
      have HE := Lib.hid hE
      have HO9 := Lib.hid (heap_own (size := 3) (n := 0) (base := w1.heap.size) HC.out rfl (Nat.le_refl _) (by decide))
      clear hE
      go_wp2_with fail
      go_ret
      exact ⟨_, rfl, HO9.out, HE.out⟩
  · have hs1 : 1 ≤ s := by omega
    have HL1 : Hid ((IL (RZ s 0)).take 0 ++ IL (phL 1) ++ (IL (RZ s 0)).drop (0 + (IL (phL 1)).length) = IL (RZ s 1)) := Lib.hid (by
      rw [il_take, il_drop, ← il_append, ← il_append]
      exact congrArg IL (HRO.out hs1))
    have hmin : 1 = Nat.min 1 s := (Nat.min_eq_left hs1).symm
    have hfit : 0 + (IL (phL 1)).length ≤ (IL (RZ s 0)).length := by rw [il_len, il_len, HF0.out]; show 0 + 3 ≤ s * 3; omega
    have hel : (Try.prog.info? 47).map (·.size) = some 3 := by rw [hi0]; simp [iz1]
    have HMM := Lib.hid hmin
    have HFF := Lib.hid hfit
    have HEE := Lib.hid hel
    clear hmin hfit hel h0
    go_wp2_with (with_reducible refine wpList_copy_k rfl (.tmp 31) (.tmp 32) _ _ rfl 47 3 Try.underlying23 HEE.out w1.heap.size 0 s s ⟨B, 0, none⟩ 1 1 1 rfl rfl (IL (RZ s 0)) 47 HG.out (IL (phL 1)) HMM.out rfl HSR.out HFF.out (il_oneF _) (IL (RZ s 1)) HL1.out ?_; intro w2 hc2 hg2; have HC2 := Lib.hid hc2; have HX2 := Lib.hid (Ext.grown HX0.out hg2 (fun k hk => by cases hk; exact Nat.le_refl _)); clear hc2 hg2)
    trace_state
    go_loopw [8] (fun u8 wr => ∃ k : Nat, 1 ≤ k ∧ k ≤ s ∧ u8 = .int .i64 k ∧ Hid (wr.heap[w1.heap.size]? = some (.cells (IL (RZ s k)).toArray 47 (0, 0))) ∧ Ext w1 wr) (fun u8 _ => s - (intOf u8).toNat)
    case atStart => exact ⟨1, by omega, hs1, rfl, HC2, HX2.out⟩
    case round =>
      obtain ⟨k, hk1, hk2, rfl, HC, hE⟩ := hrel
      have HE := Lib.hid hE
      by_cases hlt : k < s
      · have hlt' : (k : Int) < s := by omega
        have hsk : ¬ s = k := by omega
        have HD : Hid (min k (s - k) = Nat.min k (s - k)) := rfl
        obtain ⟨m, hm⟩ : ∃ m, m = min k (s - k) := ⟨_, rfl⟩
        have hm1 : 1 ≤ m ∧ m ≤ k ∧ m ≤ s - k := by rw [hm]; omega
        have HMN : Hid (m = Nat.min k (s - k)) := hm
        have HST : Hid ((IL (RZ s k)).take (k * 3) ++ IL (phL m) ++ (IL (RZ s k)).drop (k * 3 + (IL (phL m)).length) = IL (RZ s (k + m))) := Lib.hid (by
          rw [il_take, il_drop, ← il_append, ← il_append, il_len, phL_len, hm]
          exact congrArg IL (HRT.out k hk2))
        have HSC : Hid (∀ j v, (IL (phL m))[j]? = some v → (IL (RZ s k))[j]? = some v) := Lib.hid (fun j v h => by
          have hj : j < m * 3 := by
            have := (List.getElem?_eq_some_iff.1 h).1
            rw [il_len, phL_len] at this
            exact this
          rw [hm] at hj h
          have h9 := HRS.out k hk2 j hj
          unfold IL at h ⊢
          rw [List.getElem?_map] at h ⊢
          rw [h9]
          exact h)
        have HFT : Hid (k * 3 + (IL (phL m)).length ≤ (IL (RZ s k)).length) := Lib.hid (by rw [il_len, il_len, phL_len, HRL.out k hk2]; omega)
        have hlg := (Array.getElem?_eq_some_iff.1 HC.out).1
        clear hm hE
        go_upto_region 9 with fail
        have HSRC : Hid (∀ j v, (IL (phL m))[j]? = some v → wr.drew.cell? ((⟨w1.heap.size, 0, none⟩ : Addr).add j) = some v) := Lib.hid (fun j v h => by
          rw [addr_add, Nat.zero_add]
          exact (cell_of_row wr.drew _ j _ _ _ HC.out).trans (by rw [← Array.getElem?_toList]; exact HSC.out j v h))
        have HLM : Hid ((IL (phL m)).length = m * 3) := Lib.hid (by rw [il_len, phL_len])
        have HONE : Hid (∀ v ∈ IL (phL m), v.oneCell' = true) := Lib.hid (il_oneF _)
        have HM1 : Hid (1 ≤ m) := Lib.hid hm1.1
        have HKM : Hid (k + m ≤ s) := Lib.hid (by omega)
        have hkm : (k : Int) + m ≤ 7 := by omega
        have hwa : IntKind.i64.wrap ((k : Int) + m) = k + m := IntWalk.i64_in _ (by omega)
        have hwb : wrap64 ((k : Int) + m) = k + m := by rw [← IntWalk.i64_left]; exact hwa
        obtain ⟨L2, hL2⟩ : ∃ L2, L2 = IL (RZ s (k + m)) := ⟨_, rfl⟩
        obtain ⟨L1, hL1⟩ : ∃ L1, L1 = IL (RZ s k) := ⟨_, rfl⟩
        obtain ⟨LM, hLM⟩ : ∃ LM, LM = IL (phL m) := ⟨_, rfl⟩
        rw [← hL1, ← hL2, ← hLM] at HST
        rw [← hL1] at HC
        rw [← hL1, ← hLM] at HFT
        rw [← hLM] at HSRC HLM HONE
        have HL2 := Lib.hid hL2
        have HSL : Hid (∀ W : World, Try.prog.underlying 23 = some (.slice 47)) := fun _ => Try.underlying23
        clear hL1 hL2 hLM hm1 HD HSC HRA HRL HRS HRT HRO HZ0 HF0 HL1 HMM HFF HSR HM hlg
        go_region_law
            (refine step_copy_k rfl (.tmp 41) (.tmp 44) 23 23 rfl 47 3 Try.underlying23 HEE.out w1.heap.size (k * 3) (s - k) (s - k) ⟨w1.heap.size, 0, none⟩ k s m (by go_simp) (by go_simp) L1 47 HC.out LM HMN.out HLM.out HSRC.out HFT.out HONE.out L2 HST.out ?_
             intro w3 hc3 hg3)
        have HC3 : Hid (w3.heap[w1.heap.size]? = some (.cells (IL (RZ s (k + m))).toArray 47 (0, 0))) := by rw [← HL2.out]; exact hc3
        have HX3 : Hid (Ext w1 w3) := Lib.hid (Ext.grown HE.out.drew hg3 (fun q hq => by cases hq; exact Nat.le_refl _))
        clear hc3 hg3
        simp only [Act.put, List.getElem_toArray, List.getElem_cons_succ, List.getElem_cons_zero, List.setIfInBounds_toArray, List.set_cons_zero, List.set_cons_succ]
        go_wp2
        go_roundw
        case rel => exact ⟨k + m, Nat.le_trans HM1.out (Nat.le_add_left m k), HKM.out, (by rw [Int.natCast_add]), HC3, HX3.out⟩
        case measure =>
          have h1 := HM1.out
          have h2 := HKM.out
          clear hwa hwb hkm hsu hd1 hd2
          show s - ((k : Int) + m).toNat < s - ((k : Int)).toNat
          omega
      · obtain rfl : k = s := by omega
        have HC9 := HC.out
        rw [HRA.out] at HC9
        have HO9 := Lib.hid (heap_own (size := 3) (base := w1.heap.size) HC9 (by rw [il_len, phL_len]) (Nat.le_refl _) (by simp only [maxLen]; omega))
        clear HC9 hE
        go_wp2_with fail
        go_ret
        exact ⟨_, rfl, HO9.out, HE.out⟩

theorem phases_any (s : Nat) (hs : s ≤ 7) (w : World) :
    Calls Try.prog 27 #[.int .i64 s] w fun e w' => ∃ v, e = .returned v ∧ w'.ownsRow w.heap.size 47 3 v s (IL (phL s)) ∧ Ext w w' := by
  have HR := Lib.hid (repeat_any s hs w.heap.size (w.alloc (.cells #[.int .i64 12, .int .i64 0, .int .i64 0] 47 (0, 0))) (heap_alloc_new _ _))
  go_enter Try.func27, Try.ntmps27
  go_wp2_with fail
  refine HR.out.mono ?_
  rintro e w1 ⟨v, rfl, o1, hx1⟩
  have HO := Lib.hid (own_base o1 (base' := w.heap.size) (by simp))
  have HX := Lib.hid (((Ext.refl w).alloc _).trans hx1)
  clear o1 hx1
  go_wp2
  go_ret
  exact ⟨_, rfl, HO.out, HX.out⟩


open Go.RowKit Go.Lib
set_option linter.unusedVariables false
set_option linter.unusedSimpArgs false

set_option maxRecDepth 20000 in
set_option maxHeartbeats 2000000 in
theorem circuitIfF_any (q : Int) {v : Value} {n : Nat} {xs : List Int} (hn : n ≤ 2000000) (w : World) (h : RV w 3 v n xs) :
    Calls Try.prog 26 #[.int .i64 q, v] w fun e w' => ∃ v', e = .returned (.tuple #[.agg #[.int .i64 (if cOk q xs n then q else 0), v'], .bool (cOk q xs n)]) ∧
      w'.ownsRow w.heap.size 47 3 v' (if cOk q xs n then n else 0) (IL (if cOk q xs n then xs else [])) ∧ Ext w w' := by
  have HV := fun (w' : World) v (h : RV w' 3 v n xs) => Lib.hid (isValidCircuit_any q hn w' h)
  have HR := Lib.hid (h.ext (((Ext.refl w).alloc (.cells #[.int .i64 0, .slice none 0 0] 25 (0, 0))).alloc (.cells #[] 47 (0, 0))))
  generalize cOk q xs n = o at *
  obtain ⟨hl, a, cap, rfl, c1, c2, H⟩ := h
  clear H
  have HO : Hid (((w.alloc (.cells #[.int .i64 0, .slice none 0 0] 25)).alloc (.cells #[] 47)).ownsRow (w.heap.size + 1) 47 3 (.slice (some ⟨w.heap.size + 1, 0, none⟩) 0 0) 0 (IL [])) := by
    have := World.ownsRow_lit (base := w.heap.size + 1) (e := 47) (size := 3) (w.alloc (.cells #[.int .i64 0, .slice none 0 0] 25)) #[] 0 (by simp) (by decide) rfl
    unfold Hid
    show World.ownsRow _ _ _ _ _ _ []
    simpa using this
  have hRb : Hid (((w.alloc (.cells #[.int .i64 0, .slice none 0 0] 25)).alloc (.cells #[] 47)).heap[w.heap.size]? = some (.cells #[.int .i64 0, .slice none 0 0] 25 (0, 0))) := heap_alloc_lt (heap_alloc_new _ _)
  go_enter Try.func26, Try.ntmps26
  go_wp2_with (at_builtin; go_loud (refine wpList_append_rv rfl elt_FG rfl _ 0 [] rfl HO.out _ n xs rfl HR.out (by omega) (by simp) ?_); intro v4 w4 hown4 hgrow4 hiff4; obtain ⟨a4, c4, rfl, _, _, _⟩ := own_shape hown4)
  have hR4 := Lib.hid (heap_grownB hgrow4 HO.out (by omega) hRb.out)
  have HE4 := Lib.hid (ext_grownB (w0 := w) (((Ext.refl w).alloc _).alloc _) hgrow4 HO.out (by omega))
  have O4 := Lib.hid (show w4.ownsRow (w.heap.size + 1) 47 3 (.slice a4 (0 + n) c4) n (IL xs) by simpa using hown4)
  simp only [Nat.zero_add] at O4
  have lR4 := (Array.getElem?_eq_some_iff.1 hR4.out).1
  have zR4 : ∀ k, w4.cell? ⟨w.heap.size, k, none⟩ = (#[.int .i64 0, .slice none 0 0] : Array Value)[k]? := fun k => cell_of_row _ _ _ _ _ _ hR4.out
  have fR4 : ∀ k, w4.frozen? ⟨w.heap.size, k, none⟩ = false := fun k => frozen_of_row _ _ _ _ _ hR4.out
  clear hown4
  go_wp2_with fail
  refine (HV _ _ (RV.own (own_ext O4.out ((Ext.refl _).alloc _)) hl)).out.mono ?_
  rintro e w5 ⟨rfl, hx5⟩
  obtain ⟨hc5, hf5⟩ := hx5.cells
  have hz5 := hx5.size
  try simp at hz5
  have hs5_0 := sz1 (a := w4.heap.size) (b := w5.heap.size) (by omega)
  have hR5 := Lib.hid ((hx5.heap (by simp; omega)).trans (heap_alloc_lt hR4.out))
  have lR5 := (Array.getElem?_eq_some_iff.1 hR5.out).1
  have zR5 : ∀ k, w5.cell? ⟨w.heap.size, k, none⟩ = (#[.int .i64 0, .slice none 0 0] : Array Value)[k]? := fun k => cell_of_row _ _ _ _ _ _ hR5.out
  have fR5 : ∀ k, w5.frozen? ⟨w.heap.size, k, none⟩ = false := fun k => frozen_of_row _ _ _ _ _ hR5.out
  have hB5 := (hx5.heap (k := w4.heap.size) (by simp)).trans (heap_alloc_new _ _)
  have zB5 : ∀ k, w5.cell? ⟨w4.heap.size, k, none⟩ = (#[.int .i64 q, .slice a4 n c4] : Array Value)[k]? := fun k => cell_of_row _ _ _ _ _ _ hB5
  clear hc5 hf5 hB5 zR4 fR4
  have HE5 : Ext w w5 := (HE4.out.alloc _).trans hx5
  have O5 := Lib.hid (own_ext (own_ext O4.out ((Ext.refl _).alloc (.cells #[.int .i64 q, .slice a4 n c4] 25 (0, 0)))) hx5)
  have hs4 := HE4.out.size
  cases o
  · go_wp2
    refine bodyPost_ret (v := .tuple #[.agg #[.int .i64 0, .slice none 0 0], .bool false]) (by simp [results, Try.results26, go_sem, *]) rfl ?_
    exact ⟨_, rfl, own_nil _ _ _ _, (by repeat (first | (with_reducible refine Ext.setCell ?_ (by first | (simp; done) | (simp; omega)) _) | with_reducible refine Ext.alloc ?_ _ | with_reducible refine Ext.drew ?_ | with_reducible refine Ext.drewN ?_ _ | with_reducible assumption | with_reducible exact Ext.refl _ | with_reducible refine Ext.trans ?_ (by with_reducible assumption)))⟩
  · go_wp2
    refine bodyPost_ret (v := .tuple #[.agg #[.int .i64 q, .slice a4 n c4], .bool true]) (by simp [results, Try.results26, go_sem, *]) rfl ?_
    exact ⟨_, rfl, (by refine own_base (base := w.heap.size + 1) ?_ (by first | omega | (simp; omega)); repeat (first | (with_reducible exact O5.out) | (with_reducible refine own_set ?_ (by first | omega | (simp; done) | (simp; omega)) _) | (with_reducible refine own_ext ?_ ((Ext.refl _).alloc _)) | (with_reducible refine own_ext ?_ (Ext.refl _).drew) | (with_reducible refine own_ext ?_ ((Ext.refl _).drewN _)) | (exact O5.out))), (by repeat (first | (with_reducible refine Ext.setCell ?_ (by first | (simp; done) | (simp; omega)) _) | with_reducible refine Ext.alloc ?_ _ | with_reducible refine Ext.drew ?_ | with_reducible refine Ext.drewN ?_ _ | with_reducible assumption | with_reducible exact Ext.refl _ | with_reducible refine Ext.trans ?_ (by with_reducible assumption)))⟩

end Go.Proofs.Ytbddgeoaaklgpaa
