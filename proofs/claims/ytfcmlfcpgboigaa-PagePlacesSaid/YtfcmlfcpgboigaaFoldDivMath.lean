/- The numbers of math/bits' Div64: how it lays its operands, what its two digits leave. -/
import Derived.Test.YtfcmlfcpgboigaaFoldWalks
namespace Go.Proofs.Ytfcmlfcpgboigaa
open Go.RowKit
set_option linter.unusedVariables false

theorem pow_split (s : Nat) (h : s ≤ 64) : 2 ^ (64 - s) * 2 ^ s = 18446744073709551616 := by
  rw [← Nat.pow_add, show 64 - s + s = 64 by omega]
/-- the operands, shifted: no bit is lost -/
theorem lay_y (y s : Nat) (h1 : y ≤ 9223372036854775807) (h0 : 0 < y) (hs : 64 - Lib.bitLen y = s) : 1 ≤ s ∧ s ≤ 63 ∧ Lib.bitLen y ≤ 63 ∧ 9223372036854775808 ≤ y * 2 ^ s ∧ y * 2 ^ s < 18446744073709551616 := by
  have hb := Lib.bitLenAux_bounds 64 y (by omega) (by omega)
  have hle := Lib.bitLen_le y 63 (by omega) (by omega)
  rw [show Lib.bitLenAux 64 y = Lib.bitLen y from rfl] at hb
  obtain ⟨b1, b2, b3⟩ := hb
  refine ⟨by omega, by omega, hle, ?_, ?_⟩
  · have e : (9223372036854775808 : Nat) = 2 ^ (Lib.bitLen y - 1) * 2 ^ s := by rw [← Nat.pow_add, show Lib.bitLen y - 1 + s = 63 by omega]
    rw [e]
    exact Nat.mul_le_mul_right _ b2
  · have e : (18446744073709551616 : Nat) = 2 ^ Lib.bitLen y * 2 ^ s := by rw [← Nat.pow_add, show Lib.bitLen y + s = 64 by omega]
    rw [e]
    exact Nat.mul_lt_mul_of_pos_right b3 (Nat.two_pow_pos s)
theorem lay_u (hi lo y s : Nat) (h1 : hi < y) (h2 : lo < 18446744073709551616) (hs : s ≤ 64) : hi * 2 ^ s + lo / 2 ^ (64 - s) < y * 2 ^ s := by
  have hp := pow_split s hs
  have hd : lo / 2 ^ (64 - s) < 2 ^ s := by
    rw [Nat.div_lt_iff_lt_mul (Nat.two_pow_pos _), Nat.mul_comm, hp]
    exact h2
  have : (hi + 1) * 2 ^ s ≤ y * 2 ^ s := Nat.mul_le_mul_right _ h1
  rw [Nat.add_mul, Nat.one_mul] at this
  omega
theorem lay_n (hi lo s : Nat) (hs : s ≤ 64) : (hi * 18446744073709551616 + lo) * 2 ^ s = (hi * 2 ^ s + lo / 2 ^ (64 - s)) * 18446744073709551616 + lo * 2 ^ s % 18446744073709551616 := by
  have hp := pow_split s hs
  have hq : lo * 2 ^ s / 18446744073709551616 = lo / 2 ^ (64 - s) := by
    rw [← hp, Nat.mul_div_mul_right _ _ (Nat.two_pow_pos s)]
  have hdm := Nat.div_add_mod (lo * 2 ^ s) 18446744073709551616
  rw [hq] at hdm
  rw [Nat.add_mul, Nat.add_mul, Nat.mul_right_comm]
  omega
theorem or_disj (a b s : Nat) (hb : b < 2 ^ s) : a * 2 ^ s ||| b = a * 2 ^ s + b := by
  have := Nat.shiftLeft_add_eq_or_of_lt hb a
  rw [Nat.shiftLeft_eq] at this
  exact this.symm
/-- what is left behind a digit -/
theorem rem_wrap (u d Y : Nat) (hY : Y < 18446744073709551616) (h0 : 0 < Y) :
    IntKind.u64.wrap (IntKind.u64.wrap (IntKind.u64.wrap ((u : Int) * 4294967296) + (d : Int)) - IntKind.u64.wrap ((((u * 4294967296 + d) / Y : Nat) : Int) * (Y : Int))) = (((u * 4294967296 + d) % Y : Nat) : Int) := by
  have hm := Nat.mod_lt (u * 4294967296 + d) h0
  have hd := Nat.div_add_mod (u * 4294967296 + d) Y
  generalize (u * 4294967296 + d) % Y = m at *
  have e : (((u * 4294967296 + d) / Y : Nat) : Int) * (Y : Int) = (u : Int) * 4294967296 + d - m := by
    rw [mulN, Nat.mul_comm]
    omega
  rw [e]
  simp only [IntKind.wrap_u64]
  omega
/-- a number of 64 bits, halved -/
theorem halves (Y : Nat) (h : 9223372036854775808 ≤ Y) (h2 : Y < 18446744073709551616) : 2147483648 ≤ Y / 4294967296 ∧ Y / 4294967296 < 4294967296 ∧ Y % 4294967296 < 4294967296 ∧ Y / 4294967296 * 4294967296 + Y % 4294967296 = Y := by omega
theorem tdiv_wrap (x y1 : Nat) (hx : x < 18446744073709551616) : IntKind.u64.wrap ((x : Int).tdiv (y1 : Int)) = ((x / y1 : Nat) : Int) := by
  have h : (x : Int).tdiv (y1 : Int) = ((x / y1 : Nat) : Int) := by rw [Int.tdiv_eq_ediv_of_nonneg (by omega)]; simp
  rw [h]
  exact wrapN _ (Nat.lt_of_le_of_lt (Nat.div_le_self _ _) hx)
theorem tmod_wrap (x y1 : Nat) (hx : x < 18446744073709551616) : IntKind.u64.wrap ((x : Int) - IntKind.u64.wrap (((x / y1 : Nat) : Int) * (y1 : Int))) = ((x % y1 : Nat) : Int) := by
  have h5 : x / y1 * y1 ≤ x := Nat.div_mul_le_self _ _
  have h6 : x / y1 * y1 + x % y1 = x := by rw [Nat.mul_comm]; exact Nat.div_add_mod x y1
  rw [mulN, wrapN _ (by omega)]
  generalize x / y1 * y1 = a at *
  generalize x % y1 = b at *
  rw [IntKind.wrap_u64]
  omega
/-- ONE DIGIT, all that is reckoned of it. -/
structure Dig (Y y1 y0 u d q r Q v : Nat) : Prop where
  fq : IntKind.u64.wrap ((u : Int).tdiv (y1 : Int)) = (q : Int)
  fr : IntKind.u64.wrap ((u : Int) - IntKind.u64.wrap ((q : Int) * (y1 : Int))) = (r : Int)
  fest : Fd.Est y1 y0 u d q r
  fd32 : d < 4294967296
  fu : u < y1 * 4294967296 + y0
  fQ : Q = (u * 4294967296 + d) / (y1 * 4294967296 + y0)
  fv : IntKind.u64.wrap (IntKind.u64.wrap (IntKind.u64.wrap ((u : Int) * 4294967296) + (d : Int)) - IntKind.u64.wrap ((Q : Int) * (Y : Int))) = (v : Int)
theorem Dig.make (Y y1 y0 u d : Nat) (h0 : y0 < 4294967296) (h1 : 2147483648 ≤ y1) (h2 : y1 < 4294967296) (hY : y1 * 4294967296 + y0 = Y) (hu : u < Y) (hd : d < 4294967296) : Dig Y y1 y0 u d (u / y1) (u % y1) ((u * 4294967296 + d) / Y) ((u * 4294967296 + d) % Y) := by
  have hY2 : Y < 18446744073709551616 := by omega
  have hu' : u < y1 * 4294967296 + y0 := by rw [hY]; exact hu
  exact ⟨tdiv_wrap u y1 (Nat.lt_trans hu hY2), tmod_wrap u y1 (Nat.lt_trans hu hY2), Fd.Est.start h0 h1 h2 hu' hd, hd, hu', by rw [hY], rem_wrap u d Y hY2 (Nat.lt_of_le_of_lt (Nat.zero_le _) hu)⟩
/-- ALL THAT Div64 RECKONS, with y shifted to Y, the operand to u and t. -/
structure Lay (hi lo y s Y y1 y0 u t d1 d0 q1 r1 Q1 v q0 r0 Q0 R : Nat) : Prop where
  fy : IntKind.u64.wrap ((y : Int) * 2 ^ s) = (Y : Int)
  fy1 : (Y : Int) / 4294967296 = (y1 : Int)
  fy0 : bits .and .u64 (Y : Int) 4294967295 = (y0 : Int)
  fu : bits .or .u64 (IntKind.u64.wrap ((hi : Int) * 2 ^ s)) ((lo : Int) / 2 ^ (64 - s)) = (u : Int)
  ft : IntKind.u64.wrap ((lo : Int) * 2 ^ s) = (t : Int)
  fd1 : (t : Int) / 4294967296 = (d1 : Int)
  fd0 : bits .and .u64 (t : Int) 4294967295 = (d0 : Int)
  fa : Dig Y y1 y0 u d1 q1 r1 Q1 v
  fb : Dig Y y1 y0 v d0 q0 r0 Q0 R
  fy0l : y0 < 4294967296
  fy1l : 2147483648 ≤ y1
  fy1m : y1 < 4294967296
  fR : R / 2 ^ s = (hi * 18446744073709551616 + lo) % y
theorem lay_any (hi lo y s : Nat) (h1 : hi < y) (h2 : y ≤ 9223372036854775807) (h3 : lo < 18446744073709551616) (hs : 64 - Lib.bitLen y = s) :
    ∃ Y y1 y0 u t d1 d0 q1 r1 Q1 v q0 r0 Q0 R, Lay hi lo y s Y y1 y0 u t d1 d0 q1 r1 Q1 v q0 r0 Q0 R := by
  obtain ⟨hs1, hs2, hsb, hY1, hY2⟩ := lay_y y s h2 (by omega) hs
  have hs64 : s ≤ 64 := by omega
  clear hs hs1 hs2 hsb
  have hu := lay_u hi lo y s h1 h3 hs64
  have hN := lay_n hi lo s hs64
  have hd : lo / 2 ^ (64 - s) < 2 ^ s := by
    rw [Nat.div_lt_iff_lt_mul (Nat.two_pow_pos _), Nat.mul_comm, pow_split s hs64]
    exact h3
  have hhi : hi * 2 ^ s < 18446744073709551616 := Nat.lt_of_le_of_lt (Nat.le_add_right _ _) (Nat.lt_trans hu hY2)
  have hor := bits_or_u64_nat (hi * 2 ^ s) (lo / 2 ^ (64 - s)) hhi (Nat.lt_of_le_of_lt (Nat.div_le_self lo (2 ^ (64 - s))) h3)
  rw [or_disj hi _ s hd] at hor
  have ht : lo * 2 ^ s % 18446744073709551616 < 18446744073709551616 := Nat.mod_lt _ (by omega)
  obtain ⟨g1, g2, g3, g4⟩ := halves (y * 2 ^ s) hY1 hY2
  have t1 : lo * 2 ^ s % 18446744073709551616 / 4294967296 < 4294967296 := by omega
  have t2 : lo * 2 ^ s % 18446744073709551616 % 4294967296 < 4294967296 := Nat.mod_lt _ (by omega)
  have hrem : ((hi * 2 ^ s + lo / 2 ^ (64 - s)) * 18446744073709551616 + lo * 2 ^ s % 18446744073709551616) % (y * 2 ^ s) / 2 ^ s = (hi * 18446744073709551616 + lo) % y := by
    rw [← hN, Nat.mul_mod_mul_right, Nat.mul_div_cancel _ (Nat.two_pow_pos s)]
  have hv := Nat.mod_lt ((hi * 2 ^ s + lo / 2 ^ (64 - s)) * 4294967296 + lo * 2 ^ s % 18446744073709551616 / 4294967296) (show 0 < y * 2 ^ s by omega)
  have hrt := Fd.rem_two (hi * 2 ^ s + lo / 2 ^ (64 - s)) (y * 2 ^ s) (lo * 2 ^ s % 18446744073709551616 / 4294967296) (lo * 2 ^ s % 18446744073709551616 % 4294967296)
  rw [show lo * 2 ^ s % 18446744073709551616 / 4294967296 * 4294967296 + lo * 2 ^ s % 18446744073709551616 % 4294967296 = lo * 2 ^ s % 18446744073709551616 by rw [Nat.mul_comm]; exact Nat.div_add_mod _ _] at hrt
  rw [hrt] at hrem
  refine ⟨_, _, _, _, _, _, _, _, _, _, _, _, _, _, _, ?_, divN _, maskN _ hY2, ?_, ?_, divN _, maskN _ ht, Dig.make _ _ _ _ _ g3 g1 g2 g4 hu t1, Dig.make _ _ _ _ _ g3 g1 g2 g4 hv t2, g3, g1, g2, hrem⟩
  · rw [show (y : Int) * 2 ^ s = ((y * 2 ^ s : Nat) : Int) by simp]; exact wrapN _ hY2
  · rw [show (hi : Int) * 2 ^ s = ((hi * 2 ^ s : Nat) : Int) by simp, show (lo : Int) / 2 ^ (64 - s) = ((lo / 2 ^ (64 - s) : Nat) : Int) by simp, wrapN _ hhi]
    exact hor
  · rw [show (lo : Int) * 2 ^ s = ((lo * 2 ^ s : Nat) : Int) by simp]; exact wrapM _
end Go.Proofs.Ytfcmlfcpgboigaa
