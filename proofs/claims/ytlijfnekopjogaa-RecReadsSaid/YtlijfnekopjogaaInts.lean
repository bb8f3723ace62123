/- Slices of integers in memory. -/
import Derived.Test.YtlijfnekopjogaaMem
namespace Go.Proofs.Ytlijfnekopjogaa.Mem
open Go Go.RowKit

/-- THE SLICE READS AS THE INTEGERS ks. -/
def IS (w : World) (A : Option Addr) (n : Nat) (ks : List Int) : Prop :=
  ks.length = n ∧ (0 < n → ∃ b off, A = some ⟨b, off, none⟩ ∧ b < w.heap.size ∧ ∀ j, j < ks.length → w.cell? ⟨b, off + j, none⟩ = some (.int .i64 (ks.getD j 0)))
theorem IS.keep {w w' : World} {A : Option Addr} {n : Nat} {ks : List Int} (h : IS w A n ks) (hs : w.heap.size ≤ w'.heap.size) (hc : ∀ b, b < w.heap.size → w'.heap[b]? = w.heap[b]?) : IS w' A n ks := by
  refine ⟨h.1, fun hn => ?_⟩
  obtain ⟨b, off, rfl, hb, hcell⟩ := h.2 hn
  exact ⟨b, off, rfl, by omega, fun j hj => (World.cell?_of_block (hc b hb)).trans (hcell j hj)⟩
theorem IS.below {w w' : World} {A : Option Addr} {n : Nat} {ks : List Int} (h : IS w A n ks) (hb : Below w.heap.size w w') : IS w' A n ks := h.keep hb.size hb.block
theorem IS.empty (w : World) (A : Option Addr) : IS w A 0 [] := ⟨rfl, fun h => absurd h (by omega)⟩
/-- one cell, at an index below the length -/
theorem IS.at_ {w : World} {A : Option Addr} {n : Nat} {ks : List Int} (h : IS w A n ks) {k : Nat} (hk : k < n) : ∃ b off, A = some ⟨b, off, none⟩ ∧ w.cell? ⟨b, off + k, none⟩ = some (.int .i64 (ks.getD k 0)) := by
  obtain ⟨b, off, rfl, _, hc⟩ := h.2 (by omega)
  exact ⟨b, off, rfl, hc k (by rw [h.1]; exact hk)⟩
end Go.Proofs.Ytlijfnekopjogaa.Mem
