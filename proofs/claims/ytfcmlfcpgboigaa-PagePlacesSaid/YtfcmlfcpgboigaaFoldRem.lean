/- What math/bits' Rem64 does. -/
import Derived.Test.YtfcmlfcpgboigaaFoldDiv
namespace Go.Proofs.Ytfcmlfcpgboigaa
open Go.RowKit
set_option linter.unusedVariables false
set_option linter.unusedSimpArgs false

set_option maxHeartbeats 2000000 in
set_option maxRecDepth 100000 in
theorem div64_low (lo y : Nat) (w : World) (h0 : 0 < y) (h2 : y ≤ 9223372036854775807) (h3 : lo < 18446744073709551616) :
    Calls Try.prog 120 #[.int .u64 0, .int .u64 lo, .int .u64 y] w fun e w' => ∃ q : Int, e = .returned (.tuple #[.int .u64 q, .int .u64 ((lo % y : Nat) : Int)]) ∧ w.drew = w' := by
  have g1 : ((y : Int) == 0) = false := by rw [beq_eq_false_iff_ne]; omega
  have g2 : decide ((y : Int) ≤ 0) = false := by simp; omega
  have e1 : IntKind.u64.wrap ((lo : Int).tdiv (y : Int)) = ((lo / y : Nat) : Int) := tdiv_wrap lo y h3
  have e2 : (lo : Int).tmod (y : Int) = ((lo % y : Nat) : Int) := by
    rw [Int.tmod_eq_emod_of_nonneg (by omega)]; simp
  generalize lo / y = a at *
  generalize lo % y = b at *
  have hyp : (0 : Int) < (y : Int) := by omega
  clear h0 h2 h3
  generalize (y : Int) = yI at *
  generalize (lo : Int) = loI at *
  go_enter Try.func120, Try.ntmps120
  go_wp2
  go_region
  all_goals
    go_wp2
    go_ret2
    exact ⟨_, rfl, rfl⟩
theorem rem_red (hi lo y B : Nat) : (hi * B + lo) % y = ((hi % y) * B + lo) % y := by
  have h := Nat.div_add_mod hi y
  have e3 : hi * B + lo = y * (hi / y * B) + (hi % y * B + lo) := by
    conv => lhs; rw [← h]
    rw [Nat.add_mul, Nat.mul_assoc, Nat.add_assoc]
  rw [e3, Nat.mul_add_mod]
theorem rem64_div (hi lo y : Nat) (w : World) (h0 : 0 < y) (h2 : y ≤ 9223372036854775807) (h3 : lo < 18446744073709551616) :
    Calls Try.prog 120 #[.int .u64 ((hi % y : Nat) : Int), .int .u64 lo, .int .u64 y] w fun e w' => ∃ q : Int, e = .returned (.tuple #[.int .u64 q, .int .u64 (((hi * 18446744073709551616 + lo) % y : Nat) : Int)]) ∧ Below w.heap.size w w' := by
  rw [rem_red hi lo y 18446744073709551616]
  have hm := Nat.mod_lt hi h0
  generalize hi % y = m at *
  rcases Nat.eq_zero_or_pos m with rfl | hz
  · refine (div64_low lo y w h0 h2 h3).mono ?_
    rintro e w' ⟨q, he, rfl⟩
    exact ⟨q, by rw [he, Nat.zero_mul, Nat.zero_add], rfl, rfl, rfl, Nat.le_refl _, fun _ _ => rfl⟩
  · refine (div64_any m lo y w hz hm h2 h3).mono ?_
    rintro e w' ⟨q, he, rfl⟩
    exact ⟨q, he, Below.refl _ _⟩
set_option maxHeartbeats 2000000 in
set_option maxRecDepth 100000 in
theorem rem64_any (hi lo y : Nat) (w : World) (h0 : 0 < y) (h1 : hi < 18446744073709551616) (h2 : y ≤ 9223372036854775807) (h3 : lo < 18446744073709551616) :
    Calls Try.prog 106 #[.int .u64 hi, .int .u64 lo, .int .u64 y] w fun e w' => e = .returned (.int .u64 (((hi * 18446744073709551616 + lo) % y : Nat) : Int)) ∧ Below w.heap.size w w' := by
  have e2 : (hi : Int).tmod (y : Int) = ((hi % y : Nat) : Int) := by
    rw [Int.tmod_eq_emod_of_nonneg (by omega)]; simp
  have hdv := rem64_div hi lo y w h0 h2 h3
  have hyp : (0 : Int) < (y : Int) := by omega
  have g1 : ((y : Int) == 0) = false := by rw [beq_eq_false_iff_ne]; omega
  obtain ⟨R, hR⟩ : ∃ R : Nat, (hi * 18446744073709551616 + lo) % y = R := ⟨_, rfl⟩
  obtain ⟨m, hm⟩ : ∃ m : Nat, hi % y = m := ⟨_, rfl⟩
  rw [hR] at hdv ⊢
  rw [hm] at hdv e2
  have HD := Lib.hid hdv
  clear hR hm
  clear hdv h0 h1 h2 h3
  generalize (y : Int) = yI at *
  generalize (lo : Int) = loI at *
  generalize (hi : Int) = hiI at *
  generalize (m : Int) = mI at *
  go_enter Try.func106, Try.ntmps106
  go_wp2_with fail
  refine HD.out.mono ?_
  rintro e w1 ⟨q, rfl, hb⟩
  have H := Lib.hid hb
  clear hb
  go_wp2
  go_ret
  exact ⟨rfl, H.out⟩
end Go.Proofs.Ytfcmlfcpgboigaa
