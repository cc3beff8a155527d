/- Certificates: marks on steps, what is held of them, copies. -/
import Derived.Test.YtchaanppoklapaaCgL
import Derived.Test.YtchaanppoklapaaCertT
namespace Go.Proofs.Ytchaanppoklapaa
open Go.RowKit Go.Lib
set_option linter.unusedVariables false
set_option linter.unusedSimpArgs false

theorem set_int {zs : List Value} {p q b : Nat} {kd : IntKind} {t : Int} {x : Value} (h : (zs.set p (.int kd t))[q]? = some x) (hb : x.ownBlock = some b) : zs[q]? = some x := by
  by_cases e : p = q
  · subst e
    rw [List.getElem?_set] at h
    simp only [if_true] at h
    split at h
    · have h2 : Value.int kd t = x := by simpa using h
      rw [← h2] at hb
      simp [Value.ownBlock] at hb
    · cases h
  · rwa [List.getElem?_set_ne e] at h
theorem own_z {w : World} {base lo hi : Nat} {e : TypeId} {k : Nat} {v : Value} {n : Nat} {xs : List Value} (h : w.ownsRow base e k v n xs) (hz : ∀ g, v.ownBlock = some g → lo ≤ g ∧ g < hi) : w.ownsRow lo e k v n xs := by
  refine ⟨h.1, ?_⟩
  rcases h.2 with hn | ⟨g, cap, cur, hv, hb, r⟩
  · exact .inl hn
  · exact .inr ⟨g, cap, cur, hv, (hz g (by rw [hv]; rfl)).1, r⟩

set_option maxRecDepth 20000 in
set_option maxHeartbeats 4000000 in
theorem markReplacementS_any {n lo : Nat} {S : Nat → Prop} {R : Nat → Rp} {v : Value} (hn : n ≤ 2000000) (hoff : offR R n ≤ 20000000) (hlen : ∀ j, j < n → (R j).xs.length = (R j).m1 * 3 ∧ (R j).ys.length = (R j).m2 * 3) (m : Int) (hm : 0 ≤ m ∧ m ≤ 50000000) (w : World) (h : RSP w lo S v n R) :
    Calls Try.prog 44 #[v, .int .i64 m] w fun e w' => e = .returned (.int .i64 (m + offR R n)) ∧ RSP w' lo S v n (mkR m R) ∧ Zs S w w' := by
  have HR0 := Lib.hid h
  obtain ⟨zs0, o0, l0, i0, b0, e0⟩ := h
  obtain ⟨a, cap, rfl, c1, c2, H⟩ := own_shape o0
  have HLN := Lib.hid hlen
  clear o0 l0 i0 b0 e0 H hlen
  go_enter Try.func44, Try.ntmps44
  go_wp2
  go_loopw [1, 5] (fun k i wr => ∃ j : Nat, j ≤ n ∧ i = .int .i64 j ∧ k = .int .i64 (m + offR R j) ∧ Hid (RSP wr lo S (.slice a n cap) n (mixR m R j)) ∧ Zs S w wr) (fun _ i _ => n - (intOf i).toNat)
  case atStart => exact ⟨0, by omega, rfl, by simp [offR], HR0.out.congr (fun j _ => by simp [mixR]), Zs.ofExt (Ext.refl _)⟩
  case round =>
    obtain ⟨j, hj, rfl, rfl, HS, HZ⟩ := hrel
    by_cases hlt : j < n
    · have hlt' : (j : Int) < n := by omega
      obtain ⟨zs, hown, hzl, hin, hdb, hel⟩ := HS.out
      obtain ⟨va, vb, z0, z1, z2, r1, r2⟩ := hel j hlt
      have hmx : mixR m R j j = R j := if_neg (by omega)
      rw [hmx] at z0 r1 r2
      obtain ⟨hx1, hx2⟩ := HLN.out j hlt
      obtain ⟨_, _, he, _, _, HW⟩ := own_shape hown
      obtain ⟨g, hg0, _, x1, x2, _⟩ := HW (by omega)
      subst hg0
      obtain ⟨e1, e2⟩ := by simpa using he
      subst e1
      have q0 := x2 _ _ z0
      have q1 := x2 _ _ z1
      have q2 := x2 _ _ z2
      have hfr := hown.frozenAt
      obtain ⟨aa, ca, rfl, _, _, _⟩ := own_shape r1
      obtain ⟨ab, cb, rfl, _, _, _⟩ := own_shape r2
      have hoj : Hid (offR R (j + 1) = offR R j + (1 + (R j).m1 * 3 + (R j).m2 * 3)) := rfl
      have hle := offR_le R (show j + 1 ≤ n by omega)
      have hle2 := hoj.out
      have HD1 : Hid (∀ k, (Value.slice aa (R j).m1 ca).ownBlock = some k → k ≠ g) := fun k hk e => hdb.1 _ _ k z1 hk (by rw [e]; rfl)
      have HD2 : Hid (∀ k, (Value.slice ab (R j).m2 cb).ownBlock = some k → k ≠ g) := fun k hk e => hdb.1 _ _ k z2 hk (by rw [e]; rfl)
      have HD3 : Hid (∀ k, (Value.slice aa (R j).m1 ca).ownBlock = some k → (Value.slice ab (R j).m2 cb).ownBlock = some k → False) := fun k h1 h2 => hdb.2 _ _ _ _ k (by omega) z1 z2 h1 h2
      have hm1le : (R j).m1 ≤ 20000000 ∧ (R j).m2 ≤ 20000000 ∧ offR R j ≤ 20000000 := by omega
      have hS0 := World.ownsRow.stored hown (j * 3) (.int .i64 (m + offR R j))
      have hgr : ∀ k, some k = (Value.slice (some ⟨g, 0, none⟩) n cap).ownBlock → k = g := fun k hk => by simpa [Value.ownBlock] using hk
      have O1 := Lib.hid (own_far r1 hS0.2 (fun k hk q hq e => HD1.out q hq (by rw [← e]; exact hgr k hk.symm)))
      have O2 := Lib.hid (own_far r2 hS0.2 (fun k hk q hq e => HD2.out q hq (by rw [← e]; exact hgr k hk.symm)))
      have OR := Lib.hid hS0.1
      have HG0 := Lib.hid hS0.2
      go_wp2_with fail
      refine (markGateS_any (n := (R j).m1) (by rw [il_length]; exact hx1) (by omega) (m + offR R j + 1) (by omega) _ O1.out).mono ?_
      rintro e w1 ⟨rfl, om1, hg1⟩
      have O2' := Lib.hid (own_far O2.out hg1 (fun k hk q hq e => HD3.out q (by rw [← e]; exact hk) hq))
      have OR' := Lib.hid (own_far OR.out hg1 (fun k hk q hq e => HD1.out k hk (by rw [e]; exact hgr q hq.symm)))
      have HOM := Lib.hid om1
      have q2' : w1.cell? ⟨g, j * 3 + 2, none⟩ = some (.slice ab (R j).m2 cb) := by
        obtain ⟨_, _, he', _, _, HW'⟩ := own_shape OR'.out
        obtain ⟨g', hg0', _, _, y2, _⟩ := HW' (by omega)
        subst hg0'
        obtain ⟨f1, _⟩ := by simpa using he'
        subst f1
        exact y2 _ _ ((List.getElem?_set_ne (by omega)).trans z2)
      have lg1 : g < w1.heap.size := (OR'.out.lt g rfl).2
      have HG1 := Lib.hid hg1
      clear hg1 om1 q0 q1 q2 hfr
      go_wp2_with fail
      refine (markGateS_any (n := (R j).m2) (by rw [il_length]; exact hx2) (by omega) (m + offR R j + 1 + (R j).m1 * 3) (by omega) _ O2'.out).mono ?_
      rintro e w2 ⟨rfl, om2, hg2⟩
      have OM1 := Lib.hid (own_far HOM.out hg2 (fun k hk q hq e => HD3.out q hq (by rw [← e]; exact hk)))
      have OR2 := Lib.hid (own_far OR'.out hg2 (fun k hk q hq e => HD2.out k hk (by rw [e]; exact hgr q hq.symm)))
      have OM2 := Lib.hid om2
      have HG2 := Lib.hid hg2
      clear hg2 om2 q2'
      go_wp2
      go_roundw
      case rel =>
        refine ⟨j + 1, by omega, by go_num, ?_, ?_, ?_⟩
        · rw [hoj.out]; congr 1; push_cast; omega
        · refine ⟨_, OR2.out, by simpa using hzl, ⟨hin.1, fun p x k hp hk => hin.2 p x k (set_int hp hk) hk⟩, ⟨fun p x k hp hk => hdb.1 p x k (set_int hp hk) hk, fun p q x y k hpq hp hq hk hk2 => hdb.2 p q x y k hpq (set_int hp hk) (set_int hq hk2) hk hk2⟩, fun i hi => ?_⟩
          by_cases hij : i = j
          · subst hij
            have e1 : mixR m R (i + 1) i = mkR m R i := if_pos (by omega)
            rw [e1]
            exact ⟨_, _, List.getElem?_set_self (by omega), (List.getElem?_set_ne (by omega)).trans z1, (List.getElem?_set_ne (by omega)).trans z2, OM1.out, OM2.out⟩
          · have e1 : mixR m R (j + 1) i = mixR m R j i := by
              unfold mixR
              by_cases h : i < j
              · rw [if_pos h, if_pos (by omega)]
              · rw [if_neg h, if_neg (by omega)]
            rw [e1]
            obtain ⟨ua, ub, y0, y1, y2, s1, s2⟩ := hel i hi
            have far : ∀ {p : Nat} {x : Value}, p ≠ j * 3 + 1 → p ≠ j * 3 + 2 → zs[p]? = some x → ∀ {l : Nat} {xs : List Value}, wr.ownsRow lo 72 3 x l xs → w2.ownsRow lo 72 3 x l xs := fun {p} {x} n1 n2 hp {l} {xs} hx =>
              own_far (own_far (own_far hx HG0.out (fun k hk q hq e => hdb.1 p x q hp hq (by rw [← e]; exact hk))) HG1.out (fun k hk q hq e => by
                rcases Nat.lt_or_gt_of_ne n1 with h | h
                · exact hdb.2 p (j * 3 + 1) x _ q h hp z1 hq (by rw [← e]; exact hk)
                · exact hdb.2 (j * 3 + 1) p _ x q h z1 hp (by rw [← e]; exact hk) hq)) HG2.out (fun k hk q hq e => by
                rcases Nat.lt_or_gt_of_ne n2 with h | h
                · exact hdb.2 p (j * 3 + 2) x _ q h hp z2 hq (by rw [← e]; exact hk)
                · exact hdb.2 (j * 3 + 2) p _ x q h z2 hp (by rw [← e]; exact hk) hq)
            exact ⟨ua, ub, (List.getElem?_set_ne (by omega)).trans y0, (List.getElem?_set_ne (by omega)).trans y1, (List.getElem?_set_ne (by omega)).trans y2, far (by omega) (by omega) y1 s1, far (by omega) (by omega) y2 s2⟩
        · exact ((HZ.trans (Zs.ofGrown HG0.out (fun k hk => hin.1 k hk))).trans (Zs.ofGrown HG1.out (fun k hk => hin.2 _ _ k z1 hk))).trans (Zs.ofGrown HG2.out (fun k hk => hin.2 _ _ k z2 hk))
      case measure => simp [intOf]; omega
    · obtain rfl : j = n := by omega
      have hnlt : ¬ (j : Int) < j := by omega
      go_wp2
      go_ret
      exact ⟨rfl, HS.out.congr (fun i hi => by simp [mixR, hi]), HZ⟩

set_option maxRecDepth 20000 in
set_option maxHeartbeats 2000000 in
theorem heldReplacementS_any {n lo : Nat} {S : Nat → Prop} {R : Nat → Rp} {v : Value} (hn : n ≤ 2000000) (hoff : offR R n ≤ 20000000) (m : Int) (hm : 0 ≤ m ∧ m ≤ 50000000) (w : World) (h : RSP w lo S v n (mkR m R)) :
    Calls Try.prog 45 #[v, .int .i64 m] w fun e w' => e = .returned (.int .i64 (m + offR R n)) ∧ w = w' := by
  obtain ⟨zs, o0, l0, i0, b0, e0⟩ := h
  obtain ⟨a, cap, rfl, c1, c2, H⟩ := own_shape o0
  have HH := Lib.hid H
  have HE := Lib.hid e0
  clear o0 l0 i0 b0 e0 H
  go_enter Try.func45, Try.ntmps45
  go_wp2
  go_loopw [1, 5] (fun k i wr => ∃ j : Nat, j ≤ n ∧ i = .int .i64 j ∧ k = .int .i64 (m + offR R j) ∧ wr = w) (fun _ i _ => n - (intOf i).toNat)
  case atStart => exact ⟨0, by omega, rfl, by simp [offR], rfl⟩
  case round =>
    obtain ⟨j, hj, rfl, rfl, rfl⟩ := hrel
    by_cases hlt : j < n
    · have hlt' : (j : Int) < n := by omega
      obtain ⟨va, vb, z0, z1, z2, r1, r2⟩ := HE.out j hlt
      obtain ⟨g, rfl, _, x1, x2, _⟩ := HH.out (by omega)
      have q0 := x2 _ _ z0
      have q1 := x2 _ _ z1
      have q2 := x2 _ _ z2
      have hoj : Hid (offR R (j + 1) = offR R j + (1 + (R j).m1 * 3 + (R j).m2 * 3)) := rfl
      have hle := offR_le R (show j + 1 ≤ n by omega)
      have hle2 := hoj.out
      have hm1le : (R j).m1 ≤ 20000000 ∧ (R j).m2 ≤ 20000000 ∧ offR R j ≤ 20000000 := by omega
      have H1 := Lib.hid (heldGateS_any (n := (R j).m1) (v := va) (by omega) (m + offR R j + 1) (by omega) _ r1)
      have H2 := Lib.hid (heldGateS_any (n := (R j).m2) (v := vb) (by omega) (m + offR R j + 1 + (R j).m1 * 3) (by omega) _ r2)
      replace q0 : wr.cell? ⟨g, j * 3, none⟩ = some (.int .i64 (m + offR R j)) := q0
      obtain ⟨aa, ca, rfl, _, _, _⟩ := own_shape r1
      obtain ⟨ab, cb, rfl, _, _, _⟩ := own_shape r2
      clear z0 z1 z2 r1 r2 x2
      have e1 : (mkR m R j).m1 = (R j).m1 := rfl
      have e2 : (mkR m R j).m2 = (R j).m2 := rfl
      rw [e1] at q1
      rw [e2] at q2
      simp only [e1] at H1
      simp only [e2] at H2
      have n1 : ¬ (m + offR R j + 1 + (R j).m1 * 3 < 0) := by omega
      have n2 : ¬ (m + offR R j + 1 + (R j).m1 * 3 + (R j).m2 * 3 < 0) := by omega
      go_wp2_with fail
      refine H1.out.mono ?_
      rintro e w1 ⟨rfl, rfl⟩
      go_wp2_with fail
      refine H2.out.mono ?_
      rintro e w2 ⟨rfl, rfl⟩
      go_wp2
      go_roundw
      case rel =>
        refine ⟨j + 1, by omega, by go_num, ?_, by first | trivial | rfl⟩
        rw [hoj.out]; congr 1; push_cast; omega
      case measure => simp [intOf]; omega
    · obtain rfl : j = n := by omega
      have hnlt : ¬ (j : Int) < j := by omega
      go_wp2
      go_ret
      exact ⟨rfl, rfl⟩

end Go.Proofs.Ytchaanppoklapaa
