/- What MasterCrashes is handed: records to be saved, and what becomes of the disk. -/
import Derived.Test.YtfcmlfcpgboigaaRowsOf
import Derived.Test.YtfcmlfcpgboigaaCrashOpen
import Derived.Test.YtfcmlfcpgboigaaMaster
namespace Go.Proofs.Ytfcmlfcpgboigaa
open Go.ChangeShapes Go.WideShapes Go.ChangeAt Go.RowKit Mem Lift
set_option linter.unusedVariables false
set_option maxRecDepth 100000

structure SavedD where
  inc : Int
  first : Int
  lsn : Int
  check : Int
  fuse : Int
  kA : Option Addr
  kn : Nat
  kc : Nat
  keep : List Int
  torn : Bool
  cut : Int
def i64B (x : Int) : Prop := -9223372036854775808 ≤ x ∧ x ≤ 9223372036854775807
def savedK : Kind_ SavedD where
  zero := ⟨0, 0, 0, 0, 0, none, 0, 0, [], false, 0⟩
  k := 8
  cells := fun x => [.int .i64 x.inc, .int .i64 x.first, .int .i64 x.lsn, .int .i64 x.check, .int .i64 x.fuse, .slice x.kA x.kn x.kc, .bool x.torn, .int .i64 x.cut]
  ok := fun w x => (i64B x.inc ∧ i64B x.first ∧ i64B x.lsn ∧ i64B x.check ∧ i64B x.fuse ∧ i64B x.cut) ∧ IS w x.kA x.kn x.keep ∧ x.kn ≤ x.kc ∧ x.kc ≤ maxLen
  keep := fun h hb => ⟨h.1, h.2.1.below hb, h.2.2⟩
theorem saved_cells {H : Type} {enc : TypeId × Value → H} {W : World} (cs : List Value) (h : Rd enc Try.prog W 71 cs) : ∃ x : SavedD, cs = savedK.cells x ∧ savedK.ok W x := by
  obtain ⟨hl, hf⟩ := h.struct Try.underlying71
  rw [show Try.prog.cellsOf 71 = 8 by kernel_rfl] at hl
  match cs, hl with
  | [a0, a1, a2, a3, a4, a5, a6, a7], _ =>
    have h0 : Rd enc Try.prog W 3 [a0] := by
      have y : Rd enc Try.prog W 3 ((([a0, a1, a2, a3, a4, a5, a6, a7] : List Value).drop 0).take (Try.prog.cellsOf 3)) := hf 0 _ rfl
      rw [show Try.prog.cellsOf 3 = 1 by kernel_rfl] at y
      exact y
    obtain ⟨x0, e0, w0⟩ := h0.int Try.underlying3
    have h1 : Rd enc Try.prog W 3 [a1] := by
      have y : Rd enc Try.prog W 3 ((([a0, a1, a2, a3, a4, a5, a6, a7] : List Value).drop 1).take (Try.prog.cellsOf 3)) := hf 1 _ rfl
      rw [show Try.prog.cellsOf 3 = 1 by kernel_rfl] at y
      exact y
    obtain ⟨x1, e1, w1⟩ := h1.int Try.underlying3
    have h2 : Rd enc Try.prog W 3 [a2] := by
      have y : Rd enc Try.prog W 3 ((([a0, a1, a2, a3, a4, a5, a6, a7] : List Value).drop 2).take (Try.prog.cellsOf 3)) := hf 2 _ rfl
      rw [show Try.prog.cellsOf 3 = 1 by kernel_rfl] at y
      exact y
    obtain ⟨x2, e2, w2⟩ := h2.int Try.underlying3
    have h3 : Rd enc Try.prog W 3 [a3] := by
      have y : Rd enc Try.prog W 3 ((([a0, a1, a2, a3, a4, a5, a6, a7] : List Value).drop 3).take (Try.prog.cellsOf 3)) := hf 3 _ rfl
      rw [show Try.prog.cellsOf 3 = 1 by kernel_rfl] at y
      exact y
    obtain ⟨x3, e3, w3⟩ := h3.int Try.underlying3
    have h4 : Rd enc Try.prog W 3 [a4] := by
      have y : Rd enc Try.prog W 3 ((([a0, a1, a2, a3, a4, a5, a6, a7] : List Value).drop 4).take (Try.prog.cellsOf 3)) := hf 4 _ rfl
      rw [show Try.prog.cellsOf 3 = 1 by kernel_rfl] at y
      exact y
    obtain ⟨x4, e4, w4⟩ := h4.int Try.underlying3
    have h5 : Rd enc Try.prog W 69 [a5, a6, a7] := by
      have y : Rd enc Try.prog W 69 ((([a0, a1, a2, a3, a4, a5, a6, a7] : List Value).drop 5).take (Try.prog.cellsOf 69)) := hf 5 _ rfl
      rw [show Try.prog.cellsOf 69 = 3 by kernel_rfl] at y
      exact y
    obtain ⟨AK, nk, ck, torn, cut, ks, e5, r1, r2, r3, r4⟩ := crash_cells h5
    simp only [List.cons.injEq, and_true] at e0 e1 e2 e3 e4 e5
    obtain ⟨e5, e6, e7⟩ := e5
    subst e0 e1 e2 e3 e4 e5 e6 e7
    exact ⟨⟨x0, x1, x2, x3, x4, AK, nk, ck, ks, torn, cut⟩, rfl, ⟨bounds_i64 w0, bounds_i64 w1, bounds_i64 w2, bounds_i64 w3, bounds_i64 w4, r4⟩, r1, r2, r3⟩
theorem saved_at {w : World} {A : Option Addr} {n : Nat} {l : List SavedD} (h : ST savedK w A n l) {i : Nat} (hi : i < n) : ∃ b off, A = some ⟨b, off, none⟩ ∧ b < w.heap.size ∧ (∀ j, j < 8 → w.cell? ⟨b, off + i * 8 + j, none⟩ = (savedK.cells (l.getD i savedK.zero))[j]?) ∧ savedK.ok w (l.getD i savedK.zero) := h.at_ hi
end Go.Proofs.Ytfcmlfcpgboigaa
