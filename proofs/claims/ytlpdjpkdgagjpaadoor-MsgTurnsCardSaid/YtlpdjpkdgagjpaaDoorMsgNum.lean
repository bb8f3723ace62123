/- Transactions' numbers. -/
import Derived.Test.YtlpdjpkdgagjpaaDoorMsg
namespace Go.Proofs.YtlpdjpkdgagjpaaDoor
open Go.RowKit Mem
set_option maxRecDepth 100000
set_option linter.unusedVariables false
set_option linter.unusedSimpArgs false

theorem number_ways (a b : Int) (c : Int) : (¬ 1 ≤ a ∨ 1 ≤ a ∧ ¬ a ≤ 1048576 ∨ 1 ≤ a ∧ a ≤ 1048576 ∧ ¬ 0 ≤ b ∨ 1 ≤ a ∧ a ≤ 1048576 ∧ 0 ≤ b ∧ ¬ b < 65536) ∨ (1 ≤ a ∧ a ≤ 1048576 ∧ 0 ≤ b ∧ b < 65536) := by omega
theorem node_bounds {c : Int} (h : Rc.node c = true) : 0 ≤ c ∧ c < 8 := by
  unfold Rc.node at h
  simpa using h
set_option maxHeartbeats 2000000 in
theorem mnumber_any (a b c : Int) (w : World) : Calls Tryd.prog 11 #[.int .i64 a, .int .i64 b, .int .i64 c] w fun e w' => e = .returned (.tuple #[.int .i64 (Mg.number a b c).1, .int .i64 ((Mg.number a b c).2 : Nat)]) ∧ w' = w := by
  rcases number_ways a b c with h | ⟨h1, h2, h3, h4⟩
  · have hx : Mg.number a b c = (0, 1) := by unfold Mg.number; rw [if_neg (by omega)]
    rw [hx]
    have hways : decide (a < 1) = true ∨ decide (a < 1) = false ∧ decide (1048576 < a) = true ∨ decide (a < 1) = false ∧ decide (1048576 < a) = false ∧ decide (b < 0) = true ∨ decide (a < 1) = false ∧ decide (1048576 < a) = false ∧ decide (b < 0) = false ∧ decide (65536 ≤ b) = true := by
      simp only [decide_eq_true_eq, decide_eq_false_iff_not]; omega
    clear h hx
    rcases hways with a1 | ⟨a1, a2⟩ | ⟨a1, a2, a3⟩ | ⟨a1, a2, a3, a4⟩
    all_goals
      go_enter Tryd.func11, Tryd.ntmps11
      go_wp2_with fail
      go_ret2
      exact ⟨rfl, rfl⟩
  · have a1 : decide (a < 1) = false := by simp; omega
    have a2 : decide (1048576 < a) = false := by simp; omega
    have a3 : decide (b < 0) = false := by simp; omega
    have a4 : decide (65536 ≤ b) = false := by simp; omega
    cases hn : Rc.node c with
    | false =>
      have hx : Mg.number a b c = (0, 1) := by unfold Mg.number; rw [if_neg (by rw [hn]; simp)]
      rw [hx]
      have HN := Lib.hid hn
      clear hn hx
      go_enter Tryd.func11, Tryd.ntmps11
      go_wp2_with fail
      refine (mnode_any c w).mono ?_
      rw [HN.out]
      rintro e w1 ⟨rfl, rfl⟩
      go_wp2_with fail
      go_ret2
      exact ⟨rfl, rfl⟩
    | true =>
      have hx : Mg.number a b c = ((a * 65536 + b) * 8 + c, 0) := by unfold Mg.number; rw [if_pos ⟨h1, h2, h3, h4, hn⟩]
      have hc := node_bounds hn
      have e1 : IntKind.i64.wrap (a * 65536) = a * 65536 := by rw [IntKind.wrap_i64]; omega
      have e2 : IntKind.i64.wrap (a * 65536 + b) = a * 65536 + b := by rw [IntKind.wrap_i64]; omega
      have e3 : IntKind.i64.wrap ((a * 65536 + b) * 8) = (a * 65536 + b) * 8 := by rw [IntKind.wrap_i64]; omega
      have e4 : IntKind.i64.wrap ((a * 65536 + b) * 8 + c) = (a * 65536 + b) * 8 + c := by rw [IntKind.wrap_i64]; omega
      rw [hx]
      have HN := Lib.hid (And.intro hn (And.intro e1 (And.intro e2 (And.intro e3 e4))))
      clear hn hx e1 e2 e3 e4 a1 a2 a3 a4
      have hc1 := hc.1
      have hc2 := hc.2
      clear hc
      go_enter Tryd.func11, Tryd.ntmps11
      go_wp2_with fail
      refine (mnode_any c w).mono ?_
      rw [HN.out.1]
      rintro e w1 ⟨rfl, rfl⟩
      go_wp2_with fail
      go_ret2
      exact ⟨rfl, rfl⟩
theorem rnode19_any (x : Int) (w : World) : Calls Tryd.prog 38 #[.int .i64 x] w fun e w' => e = .returned (.bool (Rc.node x)) ∧ w' = w := by
  have e7 : decide (x ≤ 7) = decide (x < 8) := decide_eq_decide.2 (by omega)
  unfold Rc.node
  by_cases h : 0 ≤ x
  · have hd : decide (0 ≤ x) = true := by simpa using h
    have H := Lib.hid (And.intro hd e7)
    clear e7
    go_enter Tryd.func38, Tryd.ntmps38
    go_wp2
    go_ret
    refine ⟨?_, rfl⟩
    show Ending.returned (.bool (decide (x ≤ 7))) = _
    rw [H.out.1, H.out.2, Bool.true_and]
  · have hd : decide (0 ≤ x) = false := by simpa using h
    have H := Lib.hid hd
    clear e7
    go_enter Tryd.func38, Tryd.ntmps38
    go_wp2
    go_ret
    exact ⟨by first | rfl | (rw [H.out, Bool.false_and]; rfl), rfl⟩
set_option maxHeartbeats 2000000 in
theorem rnumber_any (a b c : Int) (w : World) : Calls Tryd.prog 12 #[.int .i64 a, .int .i64 b, .int .i64 c] w fun e w' => e = .returned (.tuple #[.int .i64 (Mg.number a b c).1, .int .i64 ((Mg.number a b c).2 : Nat)]) ∧ w' = w := by
  rcases number_ways a b c with h | ⟨h1, h2, h3, h4⟩
  · have hx : Mg.number a b c = (0, 1) := by unfold Mg.number; rw [if_neg (by omega)]
    rw [hx]
    have hways : decide (a < 1) = true ∨ decide (a < 1) = false ∧ decide (1048576 < a) = true ∨ decide (a < 1) = false ∧ decide (1048576 < a) = false ∧ decide (b < 0) = true ∨ decide (a < 1) = false ∧ decide (1048576 < a) = false ∧ decide (b < 0) = false ∧ decide (65536 ≤ b) = true := by
      simp only [decide_eq_true_eq, decide_eq_false_iff_not]; omega
    clear h hx
    rcases hways with a1 | ⟨a1, a2⟩ | ⟨a1, a2, a3⟩ | ⟨a1, a2, a3, a4⟩
    all_goals
      go_enter Tryd.func12, Tryd.ntmps12
      go_wp2_with fail
      go_ret2
      exact ⟨rfl, rfl⟩
  · have a1 : decide (a < 1) = false := by simp; omega
    have a2 : decide (1048576 < a) = false := by simp; omega
    have a3 : decide (b < 0) = false := by simp; omega
    have a4 : decide (65536 ≤ b) = false := by simp; omega
    cases hn : Rc.node c with
    | false =>
      have hx : Mg.number a b c = (0, 1) := by unfold Mg.number; rw [if_neg (by rw [hn]; simp)]
      rw [hx]
      have HN := Lib.hid hn
      clear hn hx
      go_enter Tryd.func12, Tryd.ntmps12
      go_wp2_with fail
      refine (rnode19_any c w).mono ?_
      rw [HN.out]
      rintro e w1 ⟨rfl, rfl⟩
      go_wp2_with fail
      go_ret2
      exact ⟨rfl, rfl⟩
    | true =>
      have hx : Mg.number a b c = ((a * 65536 + b) * 8 + c, 0) := by unfold Mg.number; rw [if_pos ⟨h1, h2, h3, h4, hn⟩]
      have hc := node_bounds hn
      have hx2 : Mg.number a b c = (8 * (a * 65536 + b) + c, 0) := by rw [hx, Int.mul_comm 8]
      rw [hx2]
      have HN := Lib.hid hn
      clear hn hx a1 a2 a3 a4 hx2
      have hc1 := hc.1
      have hc2 := hc.2
      clear hc
      go_enter Tryd.func12, Tryd.ntmps12
      go_wp2_with fail
      refine (rnode19_any c w).mono ?_
      rw [HN.out]
      rintro e w1 ⟨rfl, rfl⟩
      go_wp2_with fail
      go_ret2
      exact ⟨rfl, rfl⟩
theorem mnodeof_any (x : Int) (w : World) (hx : -9223372036854775808 ≤ x ∧ x ≤ 9223372036854775807) : Calls Tryd.prog 13 #[.int .i64 x] w fun e w' => e = .returned (.int .i64 (Mg.nodeOf x)) ∧ w' = w := by
  unfold Mg.nodeOf
  have hm : (max x 0).tmod 8 = max x 0 % 8 := Int.tmod_eq_emod_of_nonneg (by omega)
  have HM := Lib.hid hm
  clear hm
  go_enter Tryd.func13, Tryd.ntmps13
  go_wp2
  · go_ret
    refine ⟨?_, rfl⟩
    rw [show max x 0 = 0 by omega]
    rfl
  · go_ret
    refine ⟨?_, rfl⟩
    rw [show max x 0 = x by omega]
    rfl
end Go.Proofs.YtlpdjpkdgagjpaaDoor
