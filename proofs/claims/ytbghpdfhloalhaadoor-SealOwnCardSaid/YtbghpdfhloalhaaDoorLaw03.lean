/- Small words for the laws over layer 3. -/
import Derived.Test.YtbghpdfhloalhaaDoorAwake03
import Derived.Test.YtbghpdfhloalhaaDoorOwn03
namespace Go.Proofs.YtbghpdfhloalhaaDoor
open Go.RowKit Mem
set_option linter.unusedVariables false

theorem own_cap {w : World} {base : Nat} {e : TypeId} {size n c : Nat} {A : Option Addr} {xs : List Value} (h : w.ownsRow base e size (.slice A n c) n xs) : n ≤ c ∧ c ≤ 9223372036854775807 := by
  rcases h.2 with ⟨e0, e1⟩ | ⟨g, cap, cur, e0, _, _, h1, h2, _⟩
  · injection e0; omega
  · injection e0; unfold maxLen at h2; omega
theorem below_then {w w1 w2 : World} (h : Below w.heap.size w w1) (k : Below w1.heap.size w1 w2) : Below w.heap.size w w2 := h.trans (k.mono h.size)
theorem sealE_ok {bs : List UInt8} (h : bs.length ≤ 4096) : Sl.sealE bs = (Sl.sealB bs, 0) := by unfold Sl.sealE; rw [if_neg (by omega)]
theorem sealB_bound (bs : List UInt8) : 0 < (Sl.sealB bs).length ∧ bs.length + 5 ≤ (Sl.sealB bs).length ∧ (Sl.sealB bs).length ≤ bs.length + 15 := by
  rw [Sl.sealB_length, Sl.textB_length]
  have := Sl.numB_length bs.length
  omega
end Go.Proofs.YtbghpdfhloalhaaDoor
