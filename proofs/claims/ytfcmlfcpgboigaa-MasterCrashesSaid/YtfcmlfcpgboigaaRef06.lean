/- The document's layer 6: in, May, Body. -/
import Derived.Test.YtfcmlfcpgboigaaMasterMath
import Derived.Test.YtfcmlfcpgboigaaSealRefR
import Derived.Test.YtfcmlfcpgboigaaStampRefs
namespace Go.Proofs.Ytfcmlfcpgboigaa
open Go.RowKit Mem
set_option linter.unusedVariables false
set_option linter.unusedSimpArgs false

set_option maxRecDepth 100000 in
theorem ref06in_any (n least : Int) (w : World) : Calls Try.prog 74 #[.int .i64 n, .int .i64 least] w fun e w' => e = .returned (.bool (Ms.inB least n)) ∧ w = w' := by
  unfold Ms.inB
  by_cases h : least ≤ n
  · have h1 : decide (least ≤ n) = true := by simpa using h
    rw [h1]
    clear h
    go_enter Try.func74, Try.ntmps74
    go_wp2
    go_ret
    exact ⟨by simp, rfl⟩
  · have h1 : decide (least ≤ n) = false := by simpa using h
    rw [h1]
    clear h
    go_enter Try.func74, Try.ntmps74
    go_wp2
    go_ret
    exact ⟨by simp, rfl⟩
theorem may_five (m : Ms.M) : Ms.may m = (Ms.inB 1 m.gen && (Ms.inB 0 m.inc && (Ms.inB 0 m.first && (Ms.inB 0 m.lsn && Ms.inB 0 m.check)))) := by
  unfold Ms.may Ms.M.vals Ms.okB
  have : (Ms.inB 0 m.gen && decide (0 < m.gen)) = Ms.inB 1 m.gen := by
    unfold Ms.inB
    by_cases h1 : 0 < m.gen <;> by_cases h2 : m.gen ≤ 1099511627776 <;> simp [h1, h2] <;> omega
  rw [← this]
  simp only [List.all_cons, List.all_nil, Bool.and_true]
  cases Ms.inB 0 m.gen <;> cases decide (0 < m.gen) <;> simp
set_option maxRecDepth 100000 in
set_option maxHeartbeats 4000000 in
theorem ref06may_any (m : Ms.M) (w : World) : Calls Try.prog 33 #[mVal m] w fun e w' => e = .returned (.bool (Ms.may m)) ∧ Below w.heap.size w w' := by
  have hb0 : ∀ o, Below w.heap.size w (w.alloc o) := fun o => (Below.refl _ _).alloc (Nat.le_refl _) _
  have HB := Lib.hid hb0
  clear hb0
  rw [may_five]
  have hin := fun l n => ref06in_any n l
  have h0 := hin 1 m.gen
  have h1 := hin 0 m.inc
  have h2 := hin 0 m.first
  have h3 := hin 0 m.lsn
  have h4 := hin 0 m.check
  generalize Ms.inB 1 m.gen = a0 at *
  generalize Ms.inB 0 m.inc = a1 at *
  generalize Ms.inB 0 m.first = a2 at *
  generalize Ms.inB 0 m.lsn = a3 at *
  generalize Ms.inB 0 m.check = a4 at *
  have H0 := Lib.hid h0
  have H1 := Lib.hid h1
  have H2 := Lib.hid h2
  have H3 := Lib.hid h3
  have H4 := Lib.hid h4
  clear hin h0 h1 h2 h3 h4
  unfold mVal mCells
  go_enter Try.func33, Try.ntmps33
  go_wp2_with fail
  refine (H0.out _).mono ?_
  rintro e w1 ⟨rfl, rfl⟩
  cases a0
  · go_wp2
    go_ret
    exact ⟨rfl, HB.out _⟩
  go_wp2_with fail
  refine (H1.out _).mono ?_
  rintro e w1 ⟨rfl, rfl⟩
  cases a1
  · go_wp2
    go_ret
    exact ⟨rfl, HB.out _⟩
  go_wp2_with fail
  refine (H2.out _).mono ?_
  rintro e w1 ⟨rfl, rfl⟩
  cases a2
  · go_wp2
    go_ret
    exact ⟨rfl, HB.out _⟩
  go_wp2_with fail
  refine (H3.out _).mono ?_
  rintro e w1 ⟨rfl, rfl⟩
  cases a3
  · go_wp2
    go_ret
    exact ⟨rfl, HB.out _⟩
  go_wp2_with fail
  refine (H4.out _).mono ?_
  rintro e w1 ⟨rfl, rfl⟩
  go_wp2
  go_ret
  exact ⟨by simp, HB.out _⟩
end Go.Proofs.Ytfcmlfcpgboigaa
