/- Whatever is decoded is a page that may be, and its bytes are a beginning of what was read. -/
import Derived.Test.YtfcmlfcpgboigaaPageMath2
namespace Go.Proofs.Ytfcmlfcpgboigaa
open Go.RowKit Mem
set_option maxRecDepth 100000
set_option linter.unusedVariables false
set_option linter.unusedSimpArgs false

namespace Pg
theorem dec_ok {b : List UInt8} (h : (dec b).2.2 = 0) : may (dec b).1 (dec b).2.1 = true ∧ ∃ rest, b = body (dec b).1 (dec b).2.1 ++ rest := by
  unfold dec decR at h ⊢
  by_cases he : (numsR ⟨b, 0⟩).2.e ≠ 0
  · rw [if_pos he] at h; exact absurd h he
  · rw [if_neg he] at h ⊢
    by_cases hm : may (Rm.one ⟨b, 0⟩ 1099511627776) (numsR ⟨b, 0⟩).1 = true
    · rw [if_pos hm]
      refine ⟨hm, (numsR ⟨b, 0⟩).2.b, ?_⟩
      have he0 : (numsR ⟨b, 0⟩).2.e = 0 := by omega
      have hlen : (numsR ⟨b, 0⟩).1.length = (Rm.one (Rm.next ⟨b, 0⟩ 1099511627776) 4).toNat := cellsR_length _ _
      unfold numsR at he0 hm hlen ⊢
      obtain ⟨c1, c2⟩ := cellsR_back _ _ he0
      obtain ⟨n1, n2⟩ := Rm.next_back _ _ c1
      obtain ⟨m1, m2⟩ := Rm.next_back _ _ n1
      have hp := Rm.one_bound (Rm.next ⟨b, 0⟩ 1099511627776) 4 (by omega) (by omega)
      unfold body
      simp only [List.append_assoc]
      rw [c2, hlen, Int.toNat_of_nonneg hp.1, n2, m2]
    · rw [if_neg hm] at h
      simp at h
theorem dec_not {b : List UInt8} (h : (dec b).2.2 ≠ 0) : dec b = (0, [], (dec b).2.2) := by
  unfold dec decR at h ⊢
  by_cases he : (numsR ⟨b, 0⟩).2.e ≠ 0
  · rw [if_pos he]
  · rw [if_neg he] at h ⊢
    by_cases hm : may (Rm.one ⟨b, 0⟩ 1099511627776) (numsR ⟨b, 0⟩).1 = true
    · rw [if_pos hm] at h; simp at h
    · rw [if_neg hm]
end Pg
end Go.Proofs.Ytfcmlfcpgboigaa
