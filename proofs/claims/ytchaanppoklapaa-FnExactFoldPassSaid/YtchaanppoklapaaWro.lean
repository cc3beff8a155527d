/- Regions that draw and write: blocks that they do not write. -/
import Derived.Test.YtchaanppoklapaaWr
namespace Go.Proofs.Ytchaanppoklapaa
open Go.RowKit

/-- a block that was there and is not written -/
theorem Wr.ww_old {P : Program} {ops : Array Oper} {kl : List Wr.K} {W0 : World} {Ss : List Wr.Slot} {Q : Exit → Act → World → Prop} {l : List Oper} {a : Act} (B : Nat) (hl : B < W0.heap.size) (hn : B ∉ Ss.map (·.B))
    (h : (∀ (x : Wr.Xf (Ss.map (·.B)) W0 (fun _ => True)) (k : Nat), x.w.cell? ⟨B, k, none⟩ = W0.cell? ⟨B, k, none⟩) → Wr.WW P ops Ss W0 Q l kl a) : Wr.WW P ops Ss W0 Q l kl a :=
  h fun x k => x.2.1.cell B k hl hn
theorem GX.same {S : List Nat} {a b : World} {k : Nat} (h : GX (k :: S) a b) (hk : b.heap[k]? = a.heap[k]?) : GX S a b :=
  ⟨h.os, h.tape, h.output, h.size, fun i hi hn => by
    by_cases e : i = k
    · subst e; exact hk
    · exact h.block i hi (by simp; exact ⟨e, hn⟩)⟩
theorem own_gx {S : List Nat} {w w' : World} {base : Nat} {e : TypeId} {size : Nat} {v : Value} {n : Nat} {xs : List Value} (h : w.ownsRow base e size v n xs) (hg : GX S w w') (hS : ∀ k, k ∈ S → k < base) : w'.ownsRow base e size v n xs := by
  refine ⟨h.1, ?_⟩
  rcases h.2 with hn | ⟨g, cap, cur, hv, hb, hh, r⟩
  · exact .inl hn
  · exact .inr ⟨g, cap, cur, hv, hb, (hg.heap (Array.getElem?_eq_some_iff.1 hh).1 (fun hm => by have := hS g hm; omega)).trans hh, r⟩

end Go.Proofs.Ytchaanppoklapaa
