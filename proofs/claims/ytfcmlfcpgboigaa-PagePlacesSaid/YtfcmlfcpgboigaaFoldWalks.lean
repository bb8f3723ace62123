/- What math/bits' functions do that num.Fold calls: Mul64, Add64, Len64, LeadingZeros64. -/
import Derived.Test.YtfcmlfcpgboigaaRows
import Derived.Test.YtfcmlfcpgboigaaFoldMath
import Derived.WalkKit
import Derived.IntWalk
import Derived.RegionTactic
import Derived.ChangeAlike
import Derived.Lib.Hide
import Derived.Lib.Mul64
import Derived.Lib.BitFns
import Derived.Lib.ItoaNum
import Derived.Lib.Walk
import Derived.Laws.Bits64b
import Derived.Laws.Externs
namespace Go.Proofs.Ytfcmlfcpgboigaa
open Go.RowKit
set_option linter.unusedVariables false
set_option linter.unusedSimpArgs false

theorem maskN (a : Nat) (ha : a < 18446744073709551616) : bits .and .u64 (a : Int) 4294967295 = ((a % 4294967296 : Nat) : Int) := by
  have h := bits_and_u64_nat a 4294967295 ha (by omega)
  rw [show a &&& 4294967295 = a % 4294967296 from Nat.and_two_pow_sub_one_eq_mod a 32] at h
  exact h
theorem divN (a : Nat) : (a : Int) / 4294967296 = ((a / 4294967296 : Nat) : Int) := by omega
theorem mulN (a b : Nat) : (a : Int) * (b : Int) = ((a * b : Nat) : Int) := (Int.natCast_mul a b).symm
theorem addN (a b : Nat) : (a : Int) + (b : Int) = ((a + b : Nat) : Int) := (Int.natCast_add a b).symm
theorem wrapN (a : Nat) (ha : a < 18446744073709551616) : IntKind.u64.wrap (a : Int) = (a : Int) := by rw [IntKind.wrap_u64]; omega
theorem wrapM (a : Nat) : IntKind.u64.wrap (a : Int) = ((a % 18446744073709551616 : Nat) : Int) := by rw [IntKind.wrap_u64]; omega

set_option maxHeartbeats 1000000 in
theorem mul64_any (x y : Nat) (hx : x < 18446744073709551616) (hy : y < 18446744073709551616) (w : World) :
    Calls Try.prog 104 #[.int .u64 x, .int .u64 y] w fun e w' => e = .returned (.tuple #[.int .u64 ((x * y / 18446744073709551616 : Nat) : Int), .int .u64 ((x * y % 18446744073709551616 : Nat) : Int)]) ∧ w = w' := by
  obtain ⟨bd, bt, bw, hhi⟩ := Lib.mul64_hi x y hx hy
  have ba := Lib.half_mul_le (a := x / 4294967296) (b := y / 4294967296) (by omega) (by omega)
  have bb := Lib.half_mul_le (a := x / 4294967296) (b := y % 4294967296) (by omega) (by omega)
  have bc := Lib.half_mul_le (a := x % 4294967296) (b := y / 4294967296) (by omega) (by omega)
  have ba' : x / 4294967296 * (y / 4294967296) < 18446744073709551616 := by omega
  have bb' : x / 4294967296 * (y % 4294967296) < 18446744073709551616 := by omega
  have bc' : x % 4294967296 * (y / 4294967296) < 18446744073709551616 := by omega
  have bh1 : x / 4294967296 * (y / 4294967296) + (x / 4294967296 * (y % 4294967296) + x % 4294967296 * (y % 4294967296) / 4294967296) / 4294967296 < 18446744073709551616 := by omega
  have bh : x / 4294967296 * (y / 4294967296) + (x / 4294967296 * (y % 4294967296) + x % 4294967296 * (y % 4294967296) / 4294967296) / 4294967296 + ((x / 4294967296 * (y % 4294967296) + x % 4294967296 * (y % 4294967296) / 4294967296) % 4294967296 + x % 4294967296 * (y / 4294967296)) / 4294967296 < 18446744073709551616 := by omega
  go_enter Try.func104, Try.ntmps104
  go_wp2
  simp only [maskN x hx, maskN y hy, divN, mulN, addN, wrapN _ bd, wrapN _ bb', wrapN _ bt, maskN _ bt, wrapN _ bc', wrapN _ bw, wrapN _ ba', wrapN _ bh1, wrapN _ bh, wrapM (x * y)]
  rw [hhi]
  go_ret2
  exact ⟨rfl, rfl⟩

theorem add64_run (x y : Int) (hx : 0 ≤ x) (hy : 0 ≤ y) (w : World) : (callFunc 105 #[.int .u64 x, .int .u64 y, .int .u64 0]).run Try.prog w =
    .ok (.value (.tuple #[.int .u64 ((x + y) % 18446744073709551616), .int .u64 ((x + y) / 18446744073709551616)])) w := by
  rw [run_callFunc_extern Try.func105 (by kernel_rfl) (by kernel_rfl) (by kernel_rfl) (e := add64Entry) (by kernel_rfl), run_add64 x y 0 hx hy (Int.le_refl 0) (by decide)]
  simp only [Result.andThen, Int.add_zero]

theorem len_fin (x b : Int) (k : Nat) (hx : x.toNat < 2 ^ 64) (hk : k = 0 ∨ 2 ^ k ≤ x.toNat) (hb : b.toNat = x.toNat / 2 ^ k) (hb0 : 0 ≤ b) (hb1 : b ≤ 255) (hlt : b.toNat < Lib.len8tab.size) :
    wrap64 ((k : Int) + wrap64 ((Lib.len8tab[b.toNat]'hlt).toNat : Int)) = Lib.bitLen x.toNat := by
  have e := Lib.len8_of b hb0 hb1
  unfold Lib.len8 at e
  rw [getElem?_pos Lib.len8tab b.toNat hlt, Option.getD_some] at e
  have l := Lib.bitLen_le8' b hb0 hb1
  have h : Lib.bitLen x.toNat = k + Lib.bitLen b.toNat := by
    rcases hk with rfl | hk
    · rw [hb]; simp
    · rw [hb]; exact Lib.bitLen_shift k _ hk hx
  have hk64 : k ≤ 64 := by
    rcases hk with rfl | hk
    · omega
    · rcases Nat.lt_or_ge 64 k with h2 | h2
      · have : (2 : Nat) ^ 64 ≤ 2 ^ k := Nat.pow_le_pow_right (by omega) (by omega)
        omega
      · exact h2
  rw [e, IntWalk.wrap64_in (Lib.bitLen b.toNat : Int) (by omega), IntWalk.wrap64_in _ (by omega), h]
  simp
set_option maxHeartbeats 4000000 in
set_option maxRecDepth 100000 in
theorem len64_any (x : Int) (w : World) (h0 : 0 ≤ x) (h1 : x ≤ 18446744073709551615) :
    Calls Try.prog 126 #[.int .u64 x] w fun e w' => e = .returned (.int .i64 (Lib.bitLen x.toNat)) ∧ w = w' := by
  have hsz : (Lib.len8tab.size : Int) = 256 := by rw [Lib.len8tab_size]; rfl
  go_enter Try.func126, Try.ntmps126
  simp only [List.append_eq, List.cons_append, List.nil_append]
  simp only [Lib.fold_len8tab]
  go_wp2
  all_goals go_ret
  all_goals refine ⟨congrArg Ending.returned (congrArg (Value.int IntKind.i64) ?_), rfl⟩
  all_goals first
    | exact len_fin x _ 56 (by omega) (.inr (by omega)) (by omega) (by omega) (by omega) _
    | exact len_fin x _ 48 (by omega) (.inr (by omega)) (by omega) (by omega) (by omega) _
    | exact len_fin x _ 40 (by omega) (.inr (by omega)) (by omega) (by omega) (by omega) _
    | exact len_fin x _ 32 (by omega) (.inr (by omega)) (by omega) (by omega) (by omega) _
    | exact len_fin x _ 24 (by omega) (.inr (by omega)) (by omega) (by omega) (by omega) _
    | exact len_fin x _ 16 (by omega) (.inr (by omega)) (by omega) (by omega) (by omega) _
    | exact len_fin x _ 8 (by omega) (.inr (by omega)) (by omega) (by omega) (by omega) _
    | (have h := len_fin x x 0 (by omega) (.inl rfl) (by omega) (by omega) (by omega) (by omega)
       simpa using h)
set_option maxRecDepth 100000 in
theorem lead64_any (x : Int) (w : World) (h0 : 0 ≤ x) (h1 : x ≤ 18446744073709551615) :
    Calls Try.prog 124 #[.int .u64 x] w fun e w' => e = .returned (.int .i64 (64 - (Lib.bitLen x.toNat : Int))) ∧ w = w' := by
  have hl := Lib.bitLen_le x.toNat 64 (by omega) (by omega)
  have H := Lib.hid (len64_any x w h0 h1)
  generalize Lib.bitLen x.toNat = b at *
  go_enter Try.func124, Try.ntmps124
  go_wp2_with fail
  refine H.out.mono ?_
  rintro e w1 ⟨rfl, rfl⟩
  go_wp2
  go_ret
  exact ⟨rfl, rfl⟩
end Go.Proofs.Ytfcmlfcpgboigaa
