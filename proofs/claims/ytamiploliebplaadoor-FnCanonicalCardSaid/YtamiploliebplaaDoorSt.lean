/- Decimal texts: strconv.Itoa, strings.Join, joinInts on the program's side, l1Num and l1Int on the reference's. -/
import Derived.Test.YtamiploliebplaaDoorTab
import Derived.Test.YtamiploliebplaaDoorStY
import Derived.Test.YtamiploliebplaaDoorLt
import Derived.Test.YtamiploliebplaaDoorGateL
import Derived.Laws.BytesArg
namespace Go.Proofs.YtamiploliebplaaDoor
open Go.RowKit
set_option linter.unusedVariables false
set_option linter.unusedSimpArgs false

def BA (l : List UInt8) : ByteArray := ⟨l.toArray⟩
theorem ba_app (a b : List UInt8) : BA a ++ BA b = BA (a ++ b) := by
  apply ByteArray.ext
  simp [BA]
theorem ba_list (a : List UInt8) : (BA a).data.toList = a := by simp [BA]
theorem ba_size (a : List UInt8) : (BA a).size = a.length := by simp [BA, ByteArray.size]

theorem ext_grow (w : World) (q : Nat) (os : Array Obj) : Ext w (Sort.grow (w.drewN q) os) :=
  ⟨rfl, rfl, rfl, by simp [Sort.grow], fun k hk => by simp only [Sort.grow, World.drewN]; exact Array.getElem?_append_left hk⟩

theorem itoa_any (n : Int) (hn : Wi n) (w : World) (hT : Tab w) : Calls Tryd.prog 45 #[.int .i64 n] w fun e w' => e = .returned (.string (BA (Lib.itoa n))) ∧ Ext w w' := by
  refine (Any.strconv_Itoa layItoa n hn.1 hn.2 w hT).mono ?_
  rintro e w' ⟨rfl, k, os, rfl⟩
  exact ⟨rfl, ext_grow _ _ _⟩

/-- a list of texts -/
def SV (ss : List (List UInt8)) : List Value := ss.map fun s => .string (BA s)
theorem sv_len (ss : List (List UInt8)) : (SV ss).length = ss.length := by simp [SV]
theorem sv_app (a b : List (List UInt8)) : SV (a ++ b) = SV a ++ SV b := by simp [SV]

theorem join_any {b : Nat} {v : Value} {n : Nat} {ss : List (List UInt8)} (sep : List UInt8) (w : World) (hl : ss.length = n) (h : w.ownsRow b 9 1 v n (SV ss)) (hn : n ≤ 100000000) (hlen : (Lib.join ss sep).length ≤ 140737488355328) :
    Calls Tryd.prog 21 #[v, .string (BA sep)] w fun e w' => e = .returned (.string (BA (Lib.join ss sep))) ∧ Ext w w' := by
  obtain ⟨a, cap, rfl, q1, q2, q3⟩ := own_shape h
  have hmap : (ss.map BA).map (·.data.toList) = ss := by
    rw [List.map_map]
    refine (List.map_congr_left fun x _ => ?_).trans (List.map_id _)
    exact ba_list x
  by_cases h0 : n = 0
  · subst h0
    obtain rfl := List.eq_nil_of_length_eq_zero hl
    refine (Any.strings_Join_none layJoin layExtra a cap (BA sep) w).mono ?_
    rintro e w' ⟨rfl, rfl⟩
    exact ⟨rfl, Ext.refl _⟩
  · obtain ⟨g, rfl, _, hg, hc, _⟩ := q3 (by omega)
    have := Any.strings_Join layJoin layExtra g 0 cap (ss.map BA) (BA sep) w (fun j x hx => by
      rw [Nat.zero_add]
      refine hc j _ ?_
      rw [List.getElem?_map] at hx
      simp only [SV, List.getElem?_map]
      cases hs : ss[j]? with
      | none => rw [hs] at hx; cases hx
      | some s => rw [hs] at hx; cases hx; rfl) hg (by simp; omega) (by simp; omega) (by rw [hmap, ba_list]; exact hlen)
    rw [hmap, ba_list, List.length_map, hl] at this
    refine this.mono ?_
    rintro e w' ⟨rfl, hb⟩
    exact ⟨rfl, hb⟩

theorem elt_str : Elt Tryd.prog 50 9 1 16 := elt_of (z := .string ⟨#[]⟩) Tryd.underlying50 (by kernel_rfl) rfl (by decide) (by decide)

theorem conv_one (W : World) (b : Nat) (d : Int) (h : W.cell? ⟨b, 0, none⟩ = some (.int .u8 d)) : (convert 34 9 (.slice (some ⟨b, 0, none⟩) 1 1)).run Tryd.prog W = .ok (.string (strOfNums [d])) W :=
  run_convert_bytes_arg W 34 5 Tryd.underlying34 Tryd.underlying5 b 0 1 1 [d] rfl (fun i hi => by
    obtain rfl : i = 0 := by omega
    exact h) 9 Tryd.underlying9

theorem dig_ba (d : Nat) (h : d < 10) : strOfNums [48 + (d : Int)] = BA [UInt8.ofNat (48 + d)] := by
  have e : (48 + (d : Int)).toNat = 48 + d := by omega
  simp [strOfNums, BA, e]

theorem nd_le : ∀ (k n : Nat), n < 10 ^ (k + 1) → Lib.nDigits n ≤ k + 1
  | 0, n, h => by rw [Lib.nDigits_small (by simpa using h)]; exact Nat.le_refl _
  | k + 1, n, h => by
    by_cases h1 : n < 10
    · rw [Lib.nDigits_small h1]; omega
    · rw [Lib.nDigits_big h1]
      have := nd_le k (n / 10) (by rw [Nat.pow_succ] at h; omega)
      omega
theorem dd_size (n : Nat) (h : n ≤ 1000000000000) : (BA (Lib.decDigits n)).size ≤ 13 := by
  rw [ba_size, Lib.decDigits_length]
  exact nd_le 12 n (by omega)
theorem cat_ok {a b : ByteArray} {A B : Nat} (ha : a.size ≤ A) (hb : b.size ≤ B) (h : A + B ≤ 1000000000) : ¬ a.size + b.size > 9223372036854775807 := by omega

set_option maxHeartbeats 2000000 in
theorem l1Num_any : ∀ (n : Nat), n ≤ 1000000000000 → ∀ (w : World), Calls Tryd.prog 75 #[.int .i64 n] w fun e w' => e = .returned (.string (BA (Lib.decDigits n))) ∧ Ext w w' := by
  intro n
  induction n using Nat.strongRecOn with
  | _ n ih =>
    intro hn w
    have hconv := conv_one
    by_cases h : n < 10
    · have hd : BA (Lib.decDigits n) = strOfNums [48 + (n : Int)] := by
        rw [Lib.decDigits, dif_pos h, dig_ba n h]
      have hlt : (n : Int) < 10 := by omega
      rw [hd]
      go_enter Tryd.func75, Tryd.ntmps75
      go_wp2
      go_ret
      exact ⟨rfl, (by repeat (first | exact Ext.refl _ | assumption | refine Ext.alloc ?_ _ | refine Ext.drew ?_ | refine Ext.drewN ?_ _ | refine Ext.setCell ?_ (by first | omega | (dsimp only; omega) | (simp; done) | (simp; omega)) _ | refine Ext.trans ?_ (by assumption)))⟩
    · have hd : BA (Lib.decDigits n) = BA (Lib.decDigits (n / 10)) ++ strOfNums [48 + ((n % 10 : Nat) : Int)] := by
        rw [Lib.decDigits, dif_neg h, dig_ba (n % 10) (Nat.mod_lt _ (by decide)), ba_app]
      have hge : ¬ (n : Int) < 10 := by omega
      have hm : n % 10 < 10 := Nat.mod_lt _ (by decide)
      obtain ⟨q, hq⟩ : ∃ q, n / 10 = q := ⟨_, rfl⟩
      obtain ⟨r, hr⟩ : ∃ r, n % 10 = r := ⟨_, rfl⟩
      have hq' : (n : Int) / 10 = (q : Int) := by omega
      have hr' : (n : Int) % 10 = (r : Int) := by omega
      have hq2 : Int.tdiv (n : Int) 10 = (q : Int) := (Int.tdiv_eq_ediv_of_nonneg (by omega)).trans hq'
      have hr2 : Int.tmod (n : Int) 10 = (r : Int) := (Int.tmod_eq_emod_of_nonneg (by omega)).trans hr'
      rw [hq] at hd
      rw [hr] at hd hm
      have hwq : IntKind.i64.wrap (q : Int) = (q : Int) := IntWalk.i64_in _ (by omega)
      have hwr : IntKind.i64.wrap (48 + (r : Int)) = 48 + (r : Int) := IntWalk.i64_in _ (by omega)
      have hwu : IntKind.u8.wrap (48 + (r : Int)) = 48 + (r : Int) := IntWalk.u8_in _ (by omega)
      have IH := fun w' => Lib.hid (ih q (by omega) (by omega) w')
      rw [hd]
      have hs := dd_size q (by omega)
      have hb : (strOfNums [48 + (r : Int)]).size = 1 := rfl
      generalize BA (Lib.decDigits q) = D at *
      have hc := cat_ok hs (Nat.le_of_eq hb) (by decide)
      have hc' : ¬ 9223372036854775807 < D.size + 1 := by omega
      go_enter Tryd.func75, Tryd.ntmps75
      go_wp2
      go_region_with (go_at_call 75; refine (IH _).out.mono ?_; rintro e w1 ⟨rfl, hx1⟩; obtain ⟨hc1, hf1⟩ := hx1.cells; have hz1 := hx1.size)
      all_goals
        go_wp2
        go_ret
        exact ⟨rfl, (by repeat (first | exact Ext.refl _ | assumption | refine Ext.alloc ?_ _ | refine Ext.drew ?_ | refine Ext.drewN ?_ _ | refine Ext.setCell ?_ (by first | omega | (dsimp only; omega) | (simp; done) | (simp; omega)) _ | refine Ext.trans ?_ (by assumption)))⟩

/-- numbers whose texts are short -/
def Sm (n : Int) : Prop := -1000000000000 ≤ n ∧ n ≤ 1000000000000
theorem Sm.wi {n : Int} (h : Sm n) : Wi n := by unfold Sm at h; unfold Wi; omega
theorem itoa_len (n : Int) (h : Sm n) : (Lib.itoa n).length ≤ 14 := by
  have d := fun m hm => dd_size m hm
  simp only [ba_size] at d
  unfold Sm at h
  unfold Lib.itoa
  split
  · have := d n.natAbs (by omega)
    simp only [List.length_cons]
    omega
  · have := d n.toNat (by omega)
    omega
theorem itoa_size (n : Int) (h : Sm n) : (BA (Lib.itoa n)).size ≤ 14 := by rw [ba_size]; exact itoa_len n h

set_option maxHeartbeats 2000000 in
theorem l1Int_any (n : Int) (hn : Sm n) (w : World) : Calls Tryd.prog 93 #[.int .i64 n] w fun e w' => e = .returned (.string (BA (Lib.itoa n))) ∧ Ext w w' := by
  have hn' : -1000000000000 ≤ n ∧ n ≤ 1000000000000 := hn
  clear hn
  by_cases h : n < 0
  · obtain ⟨m, hm⟩ : ∃ m : Nat, n.natAbs = m := ⟨_, rfl⟩
    have hnm : -n = (m : Int) := by omega
    have hw : IntKind.i64.wrap (-n) = (m : Int) := by rw [hnm]; exact IntWalk.i64_in _ (by omega)
    have HN := fun w' => Lib.hid (l1Num_any m (by omega) w')
    have hd : BA (Lib.itoa n) = ⟨#[45]⟩ ++ BA (Lib.decDigits m) := by
      unfold Lib.itoa
      rw [if_pos h, hm, show (⟨#[45]⟩ : ByteArray) = BA [45] from rfl, ba_app]
      rfl
    have hs := dd_size m (by omega)
    rw [hd]
    generalize BA (Lib.decDigits m) = D at *
    have hc : ¬ 9223372036854775807 < 1 + D.size := by omega
    clear hd
    go_enter Tryd.func93, Tryd.ntmps93
    go_wp2_with fail
    refine ((HN _).out).mono ?_
    rintro e w1 ⟨rfl, hx1⟩
    obtain ⟨hc1, hf1⟩ := hx1.cells
    have hz1 := hx1.size
    try simp at hz1
    go_wp2
    go_ret
    exact ⟨rfl, (by repeat (first | exact Ext.refl _ | assumption | refine Ext.alloc ?_ _ | refine Ext.drew ?_ | refine Ext.drewN ?_ _ | refine Ext.setCell ?_ (by first | omega | (dsimp only; omega) | (simp; done) | (simp; omega)) _ | refine Ext.trans ?_ (by assumption)))⟩
  · obtain ⟨m, rfl⟩ : ∃ m : Nat, n = (m : Int) := ⟨n.toNat, by omega⟩
    have HN := fun w' => Lib.hid (l1Num_any m (by omega) w')
    have hd : BA (Lib.itoa (m : Int)) = BA (Lib.decDigits m) := by
      unfold Lib.itoa
      rw [if_neg h]
      rfl
    rw [hd]
    generalize BA (Lib.decDigits m) = D at *
    clear hd
    go_enter Tryd.func93, Tryd.ntmps93
    go_wp2_with fail
    refine ((HN _).out).mono ?_
    rintro e w1 ⟨rfl, hx1⟩
    obtain ⟨hc1, hf1⟩ := hx1.cells
    have hz1 := hx1.size
    try simp at hz1
    go_wp2
    go_ret
    exact ⟨rfl, (by repeat (first | exact Ext.refl _ | assumption | refine Ext.alloc ?_ _ | refine Ext.drew ?_ | refine Ext.drewN ?_ _ | refine Ext.setCell ?_ (by first | omega | (dsimp only; omega) | (simp; done) | (simp; omega)) _ | refine Ext.trans ?_ (by assumption)))⟩

/-- the texts of numbers -/
def IT (xs : List Int) : List (List UInt8) := xs.map Lib.itoa
theorem it_snoc {xs : List Int} {k : Nat} {x : Int} (h : xs[k]? = some x) : IT (xs.take (k + 1)) = IT (xs.take k) ++ [Lib.itoa x] := by
  unfold IT
  rw [List.take_add_one, h]
  simp
theorem join_len : ∀ (ss : List (List UInt8)) (sep : List UInt8), (∀ s ∈ ss, s.length ≤ 100) → sep.length ≤ 100 → (Lib.join ss sep).length ≤ 200 * ss.length
  | [], sep, _, _ => by simp [Lib.join_nil]
  | x :: r, sep, h, hs => by
    rw [Lib.join_length]
    have h1 : ∀ (l : List (List UInt8)), (∀ s ∈ l, s.length ≤ 100) → Lib.lens l ≤ 100 * l.length := by
      intro l
      induction l with
      | nil => intro _; simp [Lib.lens]
      | cons a l ih =>
        intro hl
        have := ih fun s hs => hl s (by simp [hs])
        have := hl a (by simp)
        simp only [Lib.lens, List.length_cons, List.map_cons, List.sum_cons, List.foldr_cons] at *
        omega
    have h2 := h1 (x :: r) h
    have h3 : sep.length * r.length ≤ 100 * r.length := Nat.mul_le_mul_right _ hs
    simp only [List.length_cons] at *
    omega

theorem nth_at3 {xs : List Int} {j : Nat} (h : j < xs.length) : xs[j]? = some (at3 xs j) := by
  unfold at3
  rw [List.getD_eq_getElem?_getD, List.getElem?_eq_getElem h]
  rfl

set_option maxHeartbeats 4000000 in
theorem joinInts_any {v : Value} {n : Nat} {xs : List Int} (hn : n ≤ 1000) (hx : ∀ x ∈ xs, Sm x) (sep : List UInt8) (hs : sep.length ≤ 100) (w : World) (hT : Tab w) (h : RV w 1 v n xs) :
    Calls Tryd.prog 78 #[v, .string (BA sep)] w fun e w' => e = .returned (.string (BA (Lib.join (IT xs) sep))) ∧ Ext w w' := by
  obtain ⟨hl, a, cap, rfl, c1, c2, H⟩ := h
  have HH := Lib.hid H
  have HL := Lib.hid hl
  have HX := Lib.hid hx
  have hJ := fun (v' : Value) (w' : World) (ho : w'.ownsRow w.heap.size 9 1 v' n (SV (IT xs))) => Lib.hid (join_any sep w' (by simp [IT]; omega) ho (by omega) (by
    have := join_len (IT xs) sep (fun s hs' => by
      obtain ⟨x, hx', rfl⟩ := List.mem_map.1 hs'
      have := itoa_len x (hx x hx')
      omega) hs
    simp only [IT, List.length_map] at this ⊢
    omega))
  have HJ := Lib.hid hJ
  clear H hl hx hJ
  go_enter Tryd.func78, Tryd.ntmps78
  go_wp2
  go_loopw [5, 7, 11] (fun s5 _ i wr => ∃ (j : Nat), j ≤ n ∧ i = .int .i64 j ∧ Hid (wr.ownsRow w.heap.size 9 1 s5 j (SV (IT (xs.take j)))) ∧ Hid (Ext w wr)) (fun _ _ i _ => n - (intOf i).toNat)
  case atStart =>
    exact ⟨0, by omega, rfl, by simpa [SV, IT, Hid] using (World.ownsRow_lit w #[] 0 (Nat.le_refl _) (by decide) rfl : (w.alloc (.cells #[] 9)).ownsRow w.heap.size 9 1 _ 0 _), (by repeat (first | exact Ext.refl _ | assumption | refine Ext.alloc ?_ _ | refine Ext.drew ?_ | refine Ext.drewN ?_ _ | refine Ext.setCell ?_ (by first | omega | (dsimp only; omega) | (simp; done) | (simp; omega)) _ | refine Ext.trans ?_ (by assumption)))⟩
  case round =>
    obtain ⟨j, hj, rfl, hO, hE⟩ := hrel
    obtain ⟨a5, c5, rfl, _, _, _⟩ := own_shape hO.out
    by_cases hlt : j < n
    · have hlt' : (j : Int) < n := by omega
      have hE1 := hE.out
      obtain ⟨b, off, rfl, hbk, hcell⟩ := HH.out (by omega)
      have hbr : b < wr.heap.size := by have := hE1.size; omega
      have z0 : wr.cell? ⟨b, off + j, none⟩ = some (.int .i64 (at3 xs (j))) := (hE1.cells.1 b (off + (j)) hbk).trans (hcell _ _ (at3_get (by have := HL.out; omega)))
      clear hcell
      have hxj : xs[j]? = some (at3 xs j) := nth_at3 (by have := HL.out; omega)
      have HI := Lib.hid (it_snoc hxj)
      have hsm : Sm (at3 xs j) := HX.out _ (List.mem_of_getElem? hxj)
      have HT := Lib.hid (hT.ext hE1)
      clear hxj hE1
      generalize at3 xs j = x0 at *
      go_wp2_with fail
      refine (itoa_any x0 hsm.wi _ (HT.out)).mono ?_
      rintro e w1 ⟨rfl, hx1⟩
      have HX1 := Lib.hid hx1
      clear hx1
      have HO1 := Lib.hid (own_ext hO.out HX1.out)
      have hbs : w.heap.size ≤ w1.heap.size := (hE.out.trans HX1.out).size
      have HR1 := Lib.hid (RVV.ofHeap (heap_alloc_new w1 (.cells #[.string (BA (Lib.itoa x0))] 9)) rfl (k := 1) (m := 1) (cap := 1) (ys := SV [Lib.itoa x0]) rfl (by simp [SV, Value.oneCell']))
      go_wp2_with (at_builtin; go_loud (refine wpList_append_val (base := w.heap.size) rfl elt_str rfl (.slice a5 j c5) j _ rfl (own_ext HO1.out ((Ext.refl _).alloc _)) (.slice (some ⟨w1.heap.size, 0, none⟩) 1 1) 1 (SV [Lib.itoa x0]) rfl HR1.out (by omega) (by simp; omega) ?_); intro v5 w5 hown5 hgrow5 hiff5 hloc5; have HW5 := Lib.hid hown5; have HG5 := Lib.hid hgrow5; clear hown5 hgrow5 hiff5 hloc5)
      go_roundw
      case rel =>
        refine ⟨j + 1, by omega, by go_num, ?_, ?_⟩
        · rw [HI.out, sv_app]
          exact HW5.out
        · exact ext_grownB ((hE.out.trans HX1.out).alloc _) HG5.out (own_ext HO1.out ((Ext.refl _).alloc _)) (Nat.le_refl _)
      case measure => simp [intOf]; omega
    · obtain rfl : j = n := by omega
      have HO2 : Hid (wr.ownsRow w.heap.size 9 1 (.slice a5 j c5) j (SV (IT xs))) := by
        have := hO.out
        rwa [List.take_of_length_le (by have := HL.out; omega)] at this
      go_wp2_with fail
      refine ((HJ.out _ _ HO2.out).out).mono ?_
      rintro e w1 ⟨rfl, hx1⟩
      have HX1 := Lib.hid (hE.out.trans hx1)
      clear hx1
      go_wp2
      go_ret
      exact ⟨rfl, HX1.out⟩

end Go.Proofs.YtamiploliebplaaDoor
