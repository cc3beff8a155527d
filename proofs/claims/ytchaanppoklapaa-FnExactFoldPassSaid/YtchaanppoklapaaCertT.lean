/- Certificates: copies and their equality. -/
import Derived.Test.YtchaanppoklapaaCertC
namespace Go.Proofs.Ytchaanppoklapaa
open Go.RowKit

def S3 (zs : List Value) (j : Nat) (u0 u1 u2 : Value) : List Value := ((zs.set (j * 3) u0).set (j * 3 + 1) u1).set (j * 3 + 2) u2
theorem S3_len (zs : List Value) (j : Nat) (u0 u1 u2 : Value) : (S3 zs j u0 u1 u2).length = zs.length := by simp [S3]
theorem S3_at {zs : List Value} {j : Nat} {u0 u1 u2 : Value} (h : j * 3 + 2 < zs.length) : (S3 zs j u0 u1 u2)[j * 3]? = some u0 ∧ (S3 zs j u0 u1 u2)[j * 3 + 1]? = some u1 ∧ (S3 zs j u0 u1 u2)[j * 3 + 2]? = some u2 := by
  unfold S3
  refine ⟨?_, ?_, ?_⟩
  · rw [List.getElem?_set_ne (by omega), List.getElem?_set_ne (by omega), List.getElem?_set_self (by omega)]
  · rw [List.getElem?_set_ne (by omega), List.getElem?_set_self (by simp; omega)]
  · rw [List.getElem?_set_self (by simp; omega)]
theorem S3_ne {zs : List Value} {j k : Nat} {u0 u1 u2 : Value} (h : k ≠ j) : (S3 zs j u0 u1 u2)[k * 3]? = zs[k * 3]? ∧ (S3 zs j u0 u1 u2)[k * 3 + 1]? = zs[k * 3 + 1]? ∧ (S3 zs j u0 u1 u2)[k * 3 + 2]? = zs[k * 3 + 2]? := by
  unfold S3
  refine ⟨?_, ?_, ?_⟩ <;> rw [List.getElem?_set_ne (by omega), List.getElem?_set_ne (by omega), List.getElem?_set_ne (by omega)]
/-- the first j replacements are copied -/
def DN (w : World) (base : Nat) (rs : List Rp) (zs : List Value) (j : Nat) : Prop :=
  ∀ (k : Nat) (h : k < rs.length), k < j → ∃ va vb, zs[k * 3]? = some (.int .i64 rs[k].t) ∧ zs[k * 3 + 1]? = some va ∧ zs[k * 3 + 2]? = some vb ∧ w.ownsRow base 72 3 va rs[k].m1 (IL rs[k].xs) ∧ w.ownsRow base 72 3 vb rs[k].m2 (IL rs[k].ys)

theorem info_repl : (Try.prog.info? 81).map (fun i => (i.zero, i.size, i.bytes)) = some (some (.agg #[.int .i64 0, .slice none 0 0, .slice none 0 0]), 3, 56) := by kernel_rfl

end Go.Proofs.Ytchaanppoklapaa
