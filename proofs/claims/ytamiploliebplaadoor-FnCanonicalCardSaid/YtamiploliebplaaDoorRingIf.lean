/- ringIf: a number if it and the arguments are valid. -/
import Derived.Test.YtamiploliebplaaDoorRows
import Derived.Test.YtamiploliebplaaDoorRing
import Derived.Test.YtamiploliebplaaDoorSl
namespace Go.Proofs.YtamiploliebplaaDoor
open Go.RowKit

def RgAt (ys : List Int) (i : Nat) : Bool := Rg (ys.getD (i * 4) 0) (ys.getD (i * 4 + 1) 0) (ys.getD (i * 4 + 2) 0) (ys.getD (i * 4 + 3) 0)
def AllRg (ys : List Int) (N : Nat) : Bool := (List.range N).all (RgAt ys)
theorem allRg_succ (ys : List Int) (N : Nat) : AllRg ys (N + 1) = (AllRg ys N && RgAt ys N) := by
  simp [AllRg, List.range_succ]
theorem allRg_false {ys : List Int} {i N : Nat} (h : i < N) (hf : RgAt ys i = false) : AllRg ys N = false := by
  unfold AllRg
  rw [List.all_eq_false]
  exact ⟨i, List.mem_range.2 h, by simp [hf]⟩
def ifZ (b : Bool) (x : Int) : Int := if b then x else 0
theorem ifZ_true (x : Int) : ifZ true x = x := rfl
theorem ifZ_false (x : Int) : ifZ false x = 0 := rfl
theorem news2 {w : World} {c : Array Value} {t : TypeId} {xs : List Value} {N : Nat} (hN : w.heap.size = N) (h : c.toList = xs) : ∀ j u, xs[j]? = some u → (w.alloc (.cells c t)).cell? ((⟨N, 0, none⟩ : Addr).add j) = some u := by
  subst hN
  exact news1 h
theorem own_lit2 {w : World} {N : Nat} (hN : w.heap.size = N) {cs : Array Value} {e : TypeId} {size n : Nat} {xs : List Value} (hm : n ≤ maxLen) (hs : cs.size = n * size) (hx : cs.toList = xs) :
    (w.alloc (.cells cs e)).ownsRow N e size (.slice (some ⟨N, 0, none⟩) n n) n xs := by
  subst hN
  subst hx
  exact World.ownsRow_lit w cs n (Nat.le_refl _) hm hs
theorem Below.facts {B : Nat} {w w' : World} (h : Below B w w') : (∀ b o, b < B → w'.cell? ⟨b, o, none⟩ = w.cell? ⟨b, o, none⟩) ∧ (∀ b o, b < B → w'.frozen? ⟨b, o, none⟩ = w.frozen? ⟨b, o, none⟩) :=
  ⟨fun b o hb => Below.cell h (p := ⟨b, o, none⟩) hb, fun b o hb => Below.frozen h (p := ⟨b, o, none⟩) hb⟩
theorem info_ring : (Tryd.prog.info? 40).map (fun i => (i.zero, i.size, i.bytes)) = some (some (.agg #[.int .i64 0, .int .i64 0, .int .i64 0, .int .i64 0]), 4, 32) := by kernel_rfl

set_option maxHeartbeats 2000000 in
theorem ringIf_any (p q r s : Int) (n g : Nat) (v : Value) (ys : List Int) (hn : n ≤ 3) (hl : ys.length = n * 4) (w : World) (hg : g ≤ w.heap.size) (hown : w.ownsRow g 40 4 v n (IL ys)) :
    Calls Tryd.prog 99 #[.agg #[.int .i64 p, .int .i64 q, .int .i64 r, .int .i64 s], v] w fun e w' =>
      e = .returned (.tuple #[.agg #[.int .i64 (ifZ (AllRg (ys ++ [p, q, r, s]) (n + 1)) p), .int .i64 (ifZ (AllRg (ys ++ [p, q, r, s]) (n + 1)) q), .int .i64 (ifZ (AllRg (ys ++ [p, q, r, s]) (n + 1)) r), .int .i64 (ifZ (AllRg (ys ++ [p, q, r, s]) (n + 1)) s)],
        .bool (AllRg (ys ++ [p, q, r, s]) (n + 1))]) ∧ Below g w w' := by
  obtain ⟨i0, hi, hz0, hz1, hz2⟩ := info_parts info_ring
  have HO := Lib.hid hown
  have hob : ∀ k, v.ownBlock = some k → g ≤ k ∧ k < w.heap.size := fun k hk => hown.lt k hk
  have HB := Lib.hid hob
  have HV : Hid (AllRg (ys ++ [p, q, r, s]) (n + 1) = AllRg (ys ++ [p, q, r, s]) (n + 1)) := rfl
  have HI : Hid (IL ys ++ [.int .i64 p, .int .i64 q, .int .i64 r, .int .i64 s] = IL (ys ++ [p, q, r, s])) := by simp [Hid, IL]
  have hL : (ys ++ [p, q, r, s]).length = (n + 1) * 4 := by simp [hl]; omega
  generalize ys ++ [p, q, r, s] = zs at *
  clear hown hob HV hl
  go_enter Tryd.func99, Tryd.ntmps99
  go_wp2_with (at_builtin; refine wpList_append_lies _ rfl (.tmp 8) (.tmp 10) _ rfl g 40 i0 (.agg #[.int .i64 0, .int .i64 0, .int .i64 0, .int .i64 0]) 4 32 Tryd.underlying133 hi hz0 hz1 hz2 rfl (by decide) v n (IL ys) (by rfl) (((HO.out.alloc _).alloc _).alloc _) ⟨w.heap.size + 1 + 1, 0, none⟩ 1 1 [.int .i64 p, .int .i64 q, .int .i64 r, .int .i64 s] (by rfl) (by rfl) (news2 (by simp) rfl) (by intro u hu; simp at hu; rcases hu with rfl | rfl | rfl | rfl <;> rfl) (by decide) (by simp only [maxLen]; omega) (by omega) (by simp; omega) (w.heap.size + 1 + 1 + 1) (by simp) ?_; intro g2 cap w1 hown1 hgrow hat hlt)
  have H1 := Lib.hid hown1
  rw [HI.out] at hown1
  clear H1
  have HW := Lib.hid hown1
  have hne : ∀ k, w.heap.size ≤ k → some k ≠ v.ownBlock := fun k hk e => by have := (HB.out k e.symm).2; omega
  have hbx : w1.heap[w.heap.size]? = some (.cells #[.int .i64 p, .int .i64 q, .int .i64 r, .int .i64 s] 40 (0, 0)) := by
    rw [hgrow.block _ (by simp; omega) (hne _ (Nat.le_refl _))]
    exact ((((Ext.refl _).alloc _).alloc _).heap (by simp)).trans (heap_alloc_new w _)
  have hb4 : w1.heap[w.heap.size + 1]? = some (.cells #[.int .i64 0, .int .i64 0, .int .i64 0, .int .i64 0] 40 (0, 0)) := by
    rw [hgrow.block _ (by simp) (hne _ (by omega))]
    have := ((Ext.refl ((w.alloc (.cells #[.int .i64 p, .int .i64 q, .int .i64 r, .int .i64 s] 40)).alloc (.cells #[.int .i64 0, .int .i64 0, .int .i64 0, .int .i64 0] 40))).alloc (.cells #[.int .i64 p, .int .i64 q, .int .i64 r, .int .i64 s] 40)).heap (k := w.heap.size + 1) (by simp)
    rw [this]
    have h2 := heap_alloc_new (w.alloc (.cells #[.int .i64 p, .int .i64 q, .int .i64 r, .int .i64 s] 40)) (.cells #[.int .i64 0, .int .i64 0, .int .i64 0, .int .i64 0] 40)
    rw [World.size_alloc] at h2
    exact h2
  have hE1 : Below g w w1 := Below.grown ((((Below.refl g w).alloc hg _).alloc (by simp; omega) _).alloc (by simp; omega) _) hgrow (by simp; omega) (fun k hk => (HB.out k hk).1)
  have hs1 : w.heap.size + 1 + 1 + 1 ≤ w1.heap.size := by have := hgrow.size; simpa using this
  clear hown1 hgrow hat hlt hne HB HO
  go_loopw [13, 7] (fun i _ wr => ∃ j : Nat, j ≤ n + 1 ∧ i = .int .i64 j ∧ Ext w1 wr ∧ AllRg zs j = true) (fun i _ _ => n + 1 - (intOf i).toNat)
  case atStart => exact ⟨0, by omega, rfl, Ext.refl _, rfl⟩
  case round =>
    obtain ⟨j, hj, rfl, hE, hall⟩ := hrel
    have HA := Lib.hid hall
    clear hall
    have hEs := hE.size
    have hbx' := (hE.heap (k := w.heap.size) (by omega)).trans hbx
    have hb4' := (hE.heap (k := w.heap.size + 1) (by omega)).trans hb4
    have hcx : ∀ k, wr.cell? ⟨w.heap.size, k, none⟩ = (#[.int .i64 p, .int .i64 q, .int .i64 r, .int .i64 s] : Array Value)[k]? := fun k => cell_of_row _ _ _ _ _ _ hbx'
    have hc4 : ∀ k, wr.cell? ⟨w.heap.size + 1, k, none⟩ = (#[.int .i64 0, .int .i64 0, .int .i64 0, .int .i64 0] : Array Value)[k]? := fun k => cell_of_row _ _ _ _ _ _ hb4'
    have hf4 : ∀ k, wr.frozen? ⟨w.heap.size + 1, k, none⟩ = false := fun k => frozen_of_row _ _ _ _ _ hb4'
    clear hbx' hb4'
    have hsz := sz3 (a := w.heap.size) (b := wr.heap.size) (by omega)
    have hB : Below g w wr := hE1.trans (Below.mono hE (by omega))
    by_cases hlt : j < n + 1
    · have hlt' : (j : Int) < (n : Int) + 1 := by omega
      have ho := own_ext HW.out hE
      have hcl : ∀ k, k < (n + 1) * 4 → wr.cell? ⟨g2, k, none⟩ = some (.int .i64 (zs.getD k 0)) := by
        intro k hk
        rw [ho.cellAt k hk, il_get (xs := zs) (k := k) (by omega)]
        simp [List.getElem?_eq_getElem (show k < zs.length by omega)]
      have z0 := hcl (j * 4) (by omega)
      have z1 := hcl (j * 4 + 1) (by omega)
      have z2 := hcl (j * 4 + 2) (by omega)
      have z3 := hcl (j * 4 + 3) (by omega)
      have HR : Hid (RgAt zs j = Rg (zs.getD (j * 4) 0) (zs.getD (j * 4 + 1) 0) (zs.getD (j * 4 + 2) 0) (zs.getD (j * 4 + 3) 0)) := rfl
      generalize zs.getD (j * 4) 0 = y0 at *
      generalize zs.getD (j * 4 + 1) 0 = y1 at *
      generalize zs.getD (j * 4 + 2) 0 = y2 at *
      generalize zs.getD (j * 4 + 3) 0 = y3 at *
      have hg2 : g2 < wr.heap.size := lt_of_cell z0
      clear ho hcl
      cases hrg : Rg y0 y1 y2 y3
      · have HF : Hid (AllRg zs (n + 1) = false) := allRg_false hlt (by rw [HR.out, hrg])
        go_wp2_with fail
        refine (isValidRing_any _ _ _ _ _).mono ?_
        rintro e w2 ⟨rfl, hx2⟩
        obtain ⟨hc2, hf2⟩ := hx2.cells
        have hz2 := hx2.size
        try simp at hz2
        have hs2_0 := sz1 (a := wr.heap.size) (b := w2.heap.size) (by omega)
        go_wp2
        refine bodyPost_ret (v := .tuple #[.agg #[.int .i64 0, .int .i64 0, .int .i64 0, .int .i64 0], .bool false]) (by simp [results, Tryd.results99, go_sem, *]) rfl ⟨by rw [HF.out]; rfl, ?_⟩
        (repeat (refine Below.setCell ?_ (by simp; omega) _)); exact (hB.alloc (by omega) _).trans (Below.mono hx2 (by simp; omega))
      · go_wp2_with fail
        refine (isValidRing_any _ _ _ _ _).mono ?_
        rintro e w2 ⟨rfl, hx2⟩
        obtain ⟨hc2, hf2⟩ := hx2.cells
        have hz2 := hx2.size
        try simp at hz2
        have hs2_0 := sz1 (a := wr.heap.size) (b := w2.heap.size) (by omega)
        go_wp2
        go_roundw
        case rel => exact ⟨j + 1, by omega, by go_num, (hE.alloc _).trans hx2, by rw [allRg_succ, HA.out, HR.out, hrg]; rfl⟩
        case measure => simp [intOf]; omega
    · obtain rfl : j = n + 1 := by omega
      go_wp2
      refine bodyPost_ret (v := .tuple #[.agg #[.int .i64 p, .int .i64 q, .int .i64 r, .int .i64 s], .bool true]) (by simp [results, Tryd.results99, go_sem, *]) rfl ⟨by rw [HA.out]; rfl, ?_⟩
      (repeat (refine Below.setCell ?_ (by simp; omega) _)); exact hB

end Go.Proofs.YtamiploliebplaaDoor
