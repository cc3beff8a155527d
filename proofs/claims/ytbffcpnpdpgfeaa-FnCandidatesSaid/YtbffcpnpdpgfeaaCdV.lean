/- CandidatesFor: the reference's walk. -/
import Derived.Test.YtbffcpnpdpgfeaaCdU
namespace Go.Proofs.Ytbffcpnpdpgfeaa
open Go.RowKit Go.Lib
set_option linter.unusedVariables false
set_option linter.unusedSimpArgs false

/-- the list so far: sorted, the candidates in S -/
def RT (c : Cx) (num den : Int) (base : Nat) (S : Q4 → Prop) (w : World) (v : Value) : Prop :=
  ∃ (n : Nat) (L : List Q4), L.length = n ∧ ((v = .slice none 0 0 ∧ n = 0) ∨ (0 < n ∧ w.ownsRow base 33 4 v n (IL (fl4 L)))) ∧ L.Pairwise (So.Lt c.key lx) ∧ (∀ u, u ∈ L ↔ Good c num den u ∧ S u) ∧ n ≤ 1000
theorem RT.congr {c : Cx} {num den : Int} {base : Nat} {S S' : Q4 → Prop} {w : World} {v : Value} (h : RT c num den base S w v) (hs : ∀ u, Good c num den u → (S u ↔ S' u)) : RT c num den base S' w v := by
  obtain ⟨n, L, h1, h2, h3, h4, h5⟩ := h
  exact ⟨n, L, h1, h2, h3, fun u => (h4 u).trans ⟨fun ⟨g, s⟩ => ⟨g, (hs u g).1 s⟩, fun ⟨g, s⟩ => ⟨g, (hs u g).2 s⟩⟩, h5⟩
theorem RT.later {c : Cx} {num den : Int} {base : Nat} {S : Q4 → Prop} {w w' : World} {v : Value} (h : RT c num den base S w v) (hx : Ext w w') : RT c num den base S w' v := by
  obtain ⟨n, L, h1, h2, h3, h4, h5⟩ := h
  refine ⟨n, L, h1, ?_, h3, h4, h5⟩
  rcases h2 with h2 | ⟨hp, h2⟩
  · exact .inl h2
  · exact .inr ⟨hp, own_ext h2 hx⟩
theorem RT.shape {c : Cx} {num den : Int} {base : Nat} {S : Q4 → Prop} {w : World} {v : Value} (h : RT c num den base S w v) : ∃ (a : Option Addr) (n cap : Nat), v = .slice a n cap ∧ n ≤ 1000 := by
  obtain ⟨n, L, h1, h2, h3, h4, h5⟩ := h
  rcases h2 with ⟨rfl, rfl⟩ | ⟨hp, h2⟩
  · exact ⟨none, 0, 0, rfl, Nat.zero_le _⟩
  · obtain ⟨a, cap, rfl, -, -, -⟩ := own_shape h2
    exact ⟨a, n, cap, rfl, h5⟩
theorem RT.no {c : Cx} {num den : Int} {base : Nat} {a b e d : Int} {w : World} {v : Value} (h : RT c num den base (VD a b e d) w v) (hn : ¬ Good c num den ⟨a, b, e, d⟩) : RT c num den base (VD a b e (d + 1)) w v :=
  h.congr fun u g => by
    rw [vd_step]
    exact ⟨.inl, fun hh => hh.elim id fun e => absurd (e ▸ g) hn⟩
/-- a number is put in; too many, or the list is longer by one -/
theorem RT.put {c : Cx} (hk : 0 ≤ c.k ∧ c.k ≤ 8) (hok : ∀ u, smq u ≤ c.pw → c.ok u) {num den : Int} {base : Nat} {a b e d : Int} {w : World} {v : Value} (hbase : base ≤ w.heap.size) (h : RT c num den base (VD a b e d) w v) (hg : Good c num den ⟨a, b, e, d⟩) :
    Calls Try.prog 49 #[.agg #[.int .i64 c.x, .int .i64 c.y, .int .i64 c.n], .int .i64 c.k, v, .agg #[.int .i64 a, .int .i64 b, .int .i64 e, .int .i64 d]] w fun en w' => ∃ (va : Option Addr) (m cap : Nat), en = .returned (.slice va m cap) ∧ m ≤ 1001 ∧ Ext w w' ∧ ((m ≤ 1000 ∧ RT c num den base (VD a b e (d + 1)) w' (.slice va m cap)) ∨ (1000 < m ∧ ¬ (cdL c num den).length ≤ 1000)) := by
  obtain ⟨n, L, h1, h2, h3, h4, h5⟩ := h
  refine (l27Put_any c h1 (by omega) (fun y hy => hok _ ((h4 y).1 hy).1.1) ⟨a, b, e, d⟩ (hok _ hg.1) (fun y hy => vd_lx ((h4 y).1 hy).2) h3 w h2).mono ?_
  rintro en w' ⟨v', rfl, M, m1, m2, m3, m4, m5⟩
  obtain ⟨va, cap, rfl, -, -, -⟩ := own_shape m4
  refine ⟨va, n + 1, cap, rfl, by omega, m5, ?_⟩
  have hm : ∀ u, u ∈ M ↔ Good c num den u ∧ VD a b e (d + 1) u := fun u => by
    rw [m3 u, vd_step, h4 u]
    constructor
    · rintro (⟨g, s⟩ | rfl)
      · exact ⟨g, .inl s⟩
      · exact ⟨hg, .inr rfl⟩
    · rintro ⟨g, s | rfl⟩
      · exact .inl ⟨g, s⟩
      · exact .inr rfl
  by_cases hc : n + 1 ≤ 1000
  · exact .inl ⟨hc, n + 1, M, m1, .inr ⟨by omega, own_base m4 hbase⟩, m2, hm, hc⟩
  · refine .inr ⟨by omega, fun hl => ?_⟩
    have := cdL_long hk m2 fun x hx => ((hm x).1 hx).1
    omega

set_option maxRecDepth 20000 in
set_option maxHeartbeats 40000000 in
theorem l27Candidates_any (c : Cx) (num den : Int) (hk : 0 ≤ c.k ∧ c.k ≤ 8) (hb : Bnd num den = true) (hok : ∀ u, smq u ≤ c.pw → c.ok u) (w : World) :
    Calls Try.prog 24 #[.agg #[.int .i64 c.x, .int .i64 c.y, .int .i64 c.n], .int .i64 c.k, .int .i64 num, .int .i64 den] w fun en w' => ∃ v, en = .returned (.tuple #[v, .bool (decide ((cdL c num den).length ≤ 1000))]) ∧
      w'.ownsRow w.heap.size 33 4 v (if (cdL c num den).length ≤ 1000 then cdL c num den else []).length (IL (fl4 (if (cdL c num den).length ≤ 1000 then cdL c num den else []))) ∧ Ext w w' := by
  have hp := pw_bd hk
  obtain ⟨P, hP⟩ : ∃ P, c.pw = P := ⟨_, rfl⟩
  have HP := Lib.hid hP
  have hpow : (2 : Int) ^ c.k.toNat = P := hP
  have hR16 := isq_pw hk
  rw [hP] at hp hR16
  have HSQ := fun w' => Lib.hid (l25Square_any P ⟨by omega, by omega⟩ w')
  obtain ⟨R, hR⟩ : ∃ R, isq P = R := ⟨_, rfl⟩
  rw [hR] at HSQ hR16
  have HGB := Lib.hid (fun (u : Q4) (g : Good c num den u) => (by have := small_of_smq hk g.1; rw [hP, hR] at this; exact this : (-R ≤ u.a ∧ u.a ≤ R) ∧ (-R ≤ u.b ∧ u.b ≤ R) ∧ (-R ≤ u.c ∧ u.c ≤ R) ∧ (-R ≤ u.d ∧ u.d ≤ R)))
  have HWI := fun (u : Q4) (hu : smq u ≤ P) w' => Lib.hid (l27Within_any c.x c.y c.n u.a u.b u.c u.d c.k num den (hok u (by rw [hP]; exact hu)) hb w')
  have HLE := fun (u : Q4) (hu : smq u ≤ P) w' => Lib.hid (l27Left_any c hk u (by rw [hP]; exact hu) w')
  have HDB := fun (u : Q4) (hu : smq u ≤ P) w' => Lib.hid (l26Double_any (P - smq u) (-(sqV u.a u.b u.c u.d)) (Cf_mk (by have := smq_nn u; omega)) (Cf_mk (by have := sqV_small (u := u) (by omega); omega)) w')
  simp only [hP] at HLE
  have HGD := Lib.hid (fun (u : Q4) => (by unfold Good gdB; rw [hP] : Good c num den u ↔ (smq u ≤ P ∧ (clo (c.ep u) (c.eq u) (erM c.n c.k) num den && Dp (P - smq u) (-(sqV u.a u.b u.c u.d))) = true)))
  have HPT := Lib.hid (fun (a b e d : Int) (W : World) (v : Value) (hb' : w.heap.size ≤ W.heap.size) (h : RT c num den w.heap.size (VD a b e d) W v) hg => RT.put hk hok hb' h hg)
  have HST : Hid (RT c num den w.heap.size (VA (-R)) (w.alloc (.cells #[.int .i64 c.x, .int .i64 c.y, .int .i64 c.n] 27 (0, 0))) (.slice none 0 0)) := by
    refine ⟨0, [], rfl, .inl ⟨rfl, rfl⟩, List.Pairwise.nil, fun u => ⟨fun h => (by cases h), fun ⟨g, s⟩ => ?_⟩, Nat.zero_le _⟩
    have := (HGB.out u g).1
    unfold VA at s
    omega
  have HFN := Lib.hid (fun (W : World) (v : Value) (h : RT c num den w.heap.size (VA (R + 1)) W v) => (by
    obtain ⟨n, L, h1, h2, h3, h4, h5⟩ := h
    have hL : L = cdL c num den := cdL_eq h3 fun u => (h4 u).trans ⟨fun h => h.1, fun g => ⟨g, by have := (HGB.out u g).1; unfold VA; omega⟩⟩
    subst hL
    refine ⟨by omega, ?_⟩
    rcases h2 with ⟨rfl, rfl⟩ | ⟨_, h2⟩
    · rw [List.eq_nil_of_length_eq_zero h1]; exact own_nil _ _ _ _
    · rw [← h1] at h2; exact h2 : (cdL c num den).length ≤ 1000 ∧ W.ownsRow w.heap.size 33 4 v (cdL c num den).length (IL (fl4 (cdL c num den)))))
  clear hP hR hok hb
  go_enter Try.func24, Try.ntmps24
  go_wp2_with (go_at_call 45; ((with_reducible refine ((HSQ _).out).mono ?_); rintro e w' ⟨rfl, rfl⟩))
  go_loopw [10, 12, 13, 14, 15, 16] (fun s10 s12 _ _ _ _ wr => ∃ a : Int, -R ≤ a ∧ a ≤ R + 1 ∧ s12 = .int .i64 a ∧ Hid (RT c num den w.heap.size (VA a) wr s10) ∧ Hid (Ext (w.alloc (.cells #[.int .i64 c.x, .int .i64 c.y, .int .i64 c.n] 27 (0, 0))) wr)) (fun s10 s12 _ _ _ _ _ => (R + 1 - intOf s12).toNat)
  case atStart => exact ⟨-R, by omega, by omega, rfl, HST, Ext.refl _⟩
  case round =>
    clear HST
    obtain ⟨a, a1, a2, rfl, HH, HX⟩ := hrel
    obtain ⟨va1, n1, cap1, rfl, hn1⟩ := HH.out.shape
    by_cases a3 : a ≤ R
    · have HTO : Hid (∀ u, Good c num den u → ((VA a) u ↔ (VB a (-R)) u)) := fun u g => by
        have := HGB.out u g
        simp only [VA, VB, VC, VD]
        omega
      have HOF1 : Hid (∀ u, Good c num den u → ((VB a (R + 1)) u ↔ (VA (a + 1)) u)) := fun u g => by
        have := HGB.out u g
        simp only [VA, VB, VC, VD]
        omega
      have HH := Lib.hid (HH.out.congr HTO.out)
      clear HTO
      go_wp2
      go_loopw [10, 13, 14, 15, 16] (fun s10 s13 _ _ _ wr => ∃ b : Int, -R ≤ b ∧ b ≤ R + 1 ∧ s13 = .int .i64 b ∧ Hid (RT c num den w.heap.size (VB a b) wr s10) ∧ Hid (Ext (w.alloc (.cells #[.int .i64 c.x, .int .i64 c.y, .int .i64 c.n] 27 (0, 0))) wr)) (fun s10 s13 _ _ _ _ => (R + 1 - intOf s13).toNat)
      case atStart => exact ⟨-R, by omega, by omega, rfl, HH, HX⟩
      case round =>
        clear HH HX
        obtain ⟨b, b1, b2, rfl, HH, HX⟩ := hrel
        obtain ⟨va2, n2, cap2, rfl, hn2⟩ := HH.out.shape
        by_cases b3 : b ≤ R
        · have HTO : Hid (∀ u, Good c num den u → ((VB a b) u ↔ (VC a b (-R)) u)) := fun u g => by
            have := HGB.out u g
            simp only [VA, VB, VC, VD]
            omega
          have HOF2 : Hid (∀ u, Good c num den u → ((VC a b (R + 1)) u ↔ (VB a (b + 1)) u)) := fun u g => by
            have := HGB.out u g
            simp only [VA, VB, VC, VD]
            omega
          have HH := Lib.hid (HH.out.congr HTO.out)
          clear HTO
          go_wp2
          go_loopw [10, 14, 15, 16] (fun s10 s14 _ _ wr => ∃ e : Int, -R ≤ e ∧ e ≤ R + 1 ∧ s14 = .int .i64 e ∧ Hid (RT c num den w.heap.size (VC a b e) wr s10) ∧ Hid (Ext (w.alloc (.cells #[.int .i64 c.x, .int .i64 c.y, .int .i64 c.n] 27 (0, 0))) wr)) (fun s10 s14 _ _ _ => (R + 1 - intOf s14).toNat)
          case atStart => exact ⟨-R, by omega, by omega, rfl, HH, HX⟩
          case round =>
            clear HH HX
            obtain ⟨e, e1, e2, rfl, HH, HX⟩ := hrel
            obtain ⟨va3, n3, cap3, rfl, hn3⟩ := HH.out.shape
            by_cases e3 : e ≤ R
            · have HTO : Hid (∀ u, Good c num den u → ((VC a b e) u ↔ (VD a b e (-R)) u)) := fun u g => by
                have := HGB.out u g
                simp only [VA, VB, VC, VD]
                omega
              have HOF3 : Hid (∀ u, Good c num den u → ((VD a b e (R + 1)) u ↔ (VC a b (e + 1)) u)) := fun u g => by
                have := HGB.out u g
                simp only [VA, VB, VC, VD]
                omega
              have HH := Lib.hid (HH.out.congr HTO.out)
              clear HTO
              go_wp2
              go_loopw [10, 15, 16] (fun s10 s15 _ wr => ∃ d : Int, -R ≤ d ∧ d ≤ R + 1 ∧ s15 = .int .i64 d ∧ Hid (RT c num den w.heap.size (VD a b e d) wr s10) ∧ Hid (Ext (w.alloc (.cells #[.int .i64 c.x, .int .i64 c.y, .int .i64 c.n] 27 (0, 0))) wr)) (fun s10 s15 _ _ => (R + 1 - intOf s15).toNat)
              case atStart => exact ⟨-R, by omega, by omega, rfl, HH, HX⟩
              case round =>
                clear HH HX
                obtain ⟨d, d1, d2, rfl, HH, HX⟩ := hrel
                obtain ⟨va4, n4, cap4, rfl, hn4⟩ := HH.out.shape
                by_cases d3 : d ≤ R
                · have hm4 : ¬ (1000 : Int) < (n4 : Int) := by omega
                  have sa := mul_bd (A := 16) (B := 16) (a := a) (b := a) (by omega) (by omega) (by omega) (by omega)
                  have sb := mul_bd (A := 16) (B := 16) (a := b) (b := b) (by omega) (by omega) (by omega) (by omega)
                  have se := mul_bd (A := 16) (B := 16) (a := e) (b := e) (by omega) (by omega) (by omega) (by omega)
                  have sd := mul_bd (A := 16) (B := 16) (a := d) (b := d) (by omega) (by omega) (by omega) (by omega)
                  have hsm : smq ⟨a, b, e, d⟩ = a * a + b * b + e * e + d * d := rfl
                  obtain ⟨SA, hSA⟩ : ∃ S, a * a = S := ⟨_, rfl⟩
                  obtain ⟨SB, hSB⟩ : ∃ S, b * b = S := ⟨_, rfl⟩
                  obtain ⟨SE, hSE⟩ : ∃ S, e * e = S := ⟨_, rfl⟩
                  obtain ⟨SD, hSD⟩ : ∃ S, d * d = S := ⟨_, rfl⟩
                  rw [hSA] at sa
                  rw [hSB] at sb
                  rw [hSE] at se
                  rw [hSD] at sd
                  rw [hSA, hSB, hSE, hSD] at hsm
                  have HSM := Lib.hid hsm
                  clear hsm
                  have HTb : Hid (wr.heap[w.heap.size]? = some (.cells #[.int .i64 c.x, .int .i64 c.y, .int .i64 c.n] 27 (0, 0))) := (HX.out.heap (by simp)).trans (heap_alloc_new _ _)
                  have zT := fun o => cell_of_row _ _ o _ _ _ HTb.out
                  have lT := (Array.getElem?_eq_some_iff.1 HTb.out).1
                  have nT : w.heap.size ≠ wr.heap.size := by omega
                  by_cases hs : SA + SB + SE + SD ≤ P
                  case neg =>
                    have HNG : Hid (¬ Good c num den ⟨a, b, e, d⟩) := fun g => by
                      have := ((HGD.out _).1 g).1
                      rw [HSM.out] at this
                      omega
                    have HN := Lib.hid (HH.out.no HNG.out)
                    clear HNG
                    go_wp2
                    go_roundw
                    case rel => exact ⟨d + 1, by omega, by omega, rfl, HN.out.later ((Ext.refl _).alloc _), HX.out.alloc _⟩
                    case measure => simp only [intOf]; omega
                  have hu : smq ⟨a, b, e, d⟩ ≤ P := by rw [HSM.out]; exact hs
                  have HW := fun w' => HWI ⟨a, b, e, d⟩ hu w'
                  have HL := fun w' => HLE ⟨a, b, e, d⟩ hu w'
                  have HD := fun w' => HDB ⟨a, b, e, d⟩ hu w'
                  have HG : Hid (Good c num den ⟨a, b, e, d⟩ ↔ (clo (c.ep ⟨a, b, e, d⟩) (c.eq ⟨a, b, e, d⟩) (erM c.n c.k) num den && Dp (P - smq ⟨a, b, e, d⟩) (-(sqV a b e d))) = true) := (HGD.out ⟨a, b, e, d⟩).trans ⟨fun h => h.2, fun h => ⟨hu, h⟩⟩
                  rw [show clo (erP c.x c.y c.n (⟨a, b, e, d⟩ : Q4).a (⟨a, b, e, d⟩ : Q4).b (⟨a, b, e, d⟩ : Q4).c (⟨a, b, e, d⟩ : Q4).d c.k) (erQ c.x c.y (⟨a, b, e, d⟩ : Q4).a (⟨a, b, e, d⟩ : Q4).b (⟨a, b, e, d⟩ : Q4).c (⟨a, b, e, d⟩ : Q4).d c.k) (erM c.n c.k) num den = clo (c.ep ⟨a, b, e, d⟩) (c.eq ⟨a, b, e, d⟩) (erM c.n c.k) num den from rfl] at HW
                  dsimp only at HW HL HD
                  generalize clo (c.ep ⟨a, b, e, d⟩) (c.eq ⟨a, b, e, d⟩) (erM c.n c.k) num den = t1 at *
                  generalize P - smq ⟨a, b, e, d⟩ = r1 at *
                  generalize -(sqV a b e d) = r2 at *
                  generalize Dp r1 r2 = t2 at *
                  clear HWI HLE HDB HGD hu
                  cases t1
                  · have HN := Lib.hid (HH.out.no (fun g => by have := HG.out.1 g; simp at this))
                    clear HG
                    go_wp2_with fail
                    refine ((HW _).out).mono ?_
                    rintro en w1 ⟨rfl, hx1⟩
                    have HX1 := Lib.hid (((Ext.refl wr).alloc _).trans hx1)
                    clear hx1
                    go_wp2
                    go_roundw
                    case rel => exact ⟨d + 1, by omega, by omega, rfl, HN.out.later HX1.out, HX.out.trans HX1.out⟩
                    case measure => simp only [intOf]; omega
                  · go_wp2_with fail
                    refine ((HW _).out).mono ?_
                    rintro en w1 ⟨rfl, hx1⟩
                    have HX1 := Lib.hid (((Ext.refl wr).alloc _).trans hx1)
                    have HU1 : Hid (w1.heap[wr.heap.size]? = some (.cells #[.int .i64 a, .int .i64 b, .int .i64 e, .int .i64 d] 33 (0, 0))) := (hx1.heap (by simp)).trans (heap_alloc_new _ _)
                    have HT1 := Lib.hid ((HX1.out.heap lT).trans HTb.out)
                    clear hx1 zT lT nT HTb
                    have zU := fun o => cell_of_row _ _ o _ _ _ HU1.out
                    have lU := (Array.getElem?_eq_some_iff.1 HU1.out).1
                    go_wp2_with fail
                    refine ((HL _).out).mono ?_
                    rintro en w2 ⟨rfl, hx2⟩
                    go_wp2_with fail
                    refine ((HD _).out).mono ?_
                    rintro en w3 ⟨rfl, hx3⟩
                    have HX3 := Lib.hid ((HX1.out.trans hx2).trans hx3)
                    have HU3 := Lib.hid ((hx3.heap (by have := hx2.size; omega)).trans ((hx2.heap lU).trans HU1.out))
                    have HT3 := Lib.hid (((hx2.trans hx3).heap (Array.getElem?_eq_some_iff.1 HT1.out).1).trans HT1.out)
                    clear hx2 hx3 zU lU HU1 HT1
                    have zU := fun o => cell_of_row _ _ o _ _ _ HU3.out
                    have lU := (Array.getElem?_eq_some_iff.1 HU3.out).1
                    have zT := fun o => cell_of_row _ _ o _ _ _ HT3.out
                    have lT := (Array.getElem?_eq_some_iff.1 HT3.out).1
                    cases t2
                    · have HN := Lib.hid (HH.out.no (fun g => by have := HG.out.1 g; simp at this))
                      clear HG
                      go_wp2
                      go_roundw
                      case rel => exact ⟨d + 1, by omega, by omega, rfl, HN.out.later HX3.out, HX.out.trans HX3.out⟩
                      case measure => simp only [intOf]; omega
                    · have HPP := Lib.hid (HPT.out a b e d w3 _ (by omega) (HH.out.later HX3.out) (HG.out.2 rfl))
                      clear HG
                      go_wp2_with fail
                      refine (HPP.out).mono ?_
                      rintro en w4 ⟨vb, m, cap, rfl, hm1, hx4, hcase⟩
                      have HX4 := Lib.hid (HX3.out.trans hx4)
                      have hcm : (m : Int) ≤ 9223372036854775807 := by omega
                      clear hx4 zU zT lU lT
                      rcases hcase with ⟨hm, hrt⟩ | ⟨hm, hno⟩
                      · have hm' : ¬ (1000 : Int) < (m : Int) := by omega
                        have HN := Lib.hid hrt
                        clear hrt
                        go_wp2
                        go_roundw
                        case rel => exact ⟨d + 1, by omega, by omega, rfl, HN, HX.out.trans HX4.out⟩
                        case measure => simp only [intOf]; omega
                      · have hm' : (1000 : Int) < (m : Int) := by omega
                        have HNO := Lib.hid hno
                        clear hno
                        go_wp2
                        refine bodyPost_ret (v := .tuple #[.slice none 0 0, .bool false]) (by simp [results, Try.results24, go_sem, *]) rfl ?_
                        try rw [if_neg HNO.out, decide_eq_false HNO.out]
                        exact ⟨_, rfl, own_nil _ _ _ _, (((Ext.refl w).alloc _).trans HX.out).trans HX4.out⟩
                · obtain rfl : d = R + 1 := by omega
                  have HN := Lib.hid (HH.out.congr HOF3.out)
                  have hbig : ¬ (R + 1 : Int) ≤ R := by omega
                  go_wp2
                  go_roundw
                  case rel => exact ⟨e + 1, by omega, by omega, rfl, HN, HX⟩
                  case measure => simp only [intOf]; omega
            · obtain rfl : e = R + 1 := by omega
              have HN := Lib.hid (HH.out.congr HOF2.out)
              have hbig : ¬ (R + 1 : Int) ≤ R := by omega
              go_wp2
              go_roundw
              case rel => exact ⟨b + 1, by omega, by omega, rfl, HN, HX⟩
              case measure => simp only [intOf]; omega
        · obtain rfl : b = R + 1 := by omega
          have HN := Lib.hid (HH.out.congr HOF1.out)
          have hbig : ¬ (R + 1 : Int) ≤ R := by omega
          go_wp2
          go_roundw
          case rel => exact ⟨a + 1, by omega, by omega, rfl, HN, HX⟩
          case measure => simp only [intOf]; omega
    · obtain rfl : a = R + 1 := by omega
      have hF := HFN.out _ _ HH.out
      have HF1 := Lib.hid hF.1
      have HF2 := Lib.hid hF.2
      have hbig : ¬ (R + 1 : Int) ≤ R := by omega
      clear hF
      go_wp2
      refine bodyPost_ret (v := .tuple #[.slice va1 n1 cap1, .bool true]) (by simp [results, Try.results24, go_sem, *]) rfl ?_
      try rw [if_pos HF1.out, decide_eq_true HF1.out]
      exact ⟨_, rfl, HF2.out, ((Ext.refl w).alloc _).trans HX.out⟩

end Go.Proofs.Ytbffcpnpdpgfeaa
