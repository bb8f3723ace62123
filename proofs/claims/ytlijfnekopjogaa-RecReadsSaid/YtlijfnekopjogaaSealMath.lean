/- Layer 3 as plain data: what a writer gathers, what a reader answers, sealed bodies. -/
import Derived.Test.YtlijfnekopjogaaNumMath
import Derived.Test.YtlijfnekopjogaaCrcMath
namespace Go.Proofs.Ytlijfnekopjogaa.Sl
open Go.Proofs.Ytlijfnekopjogaa

/-- a number's short bytes, below nought as nought -/
def numB (n : Int) : List UInt8 := Num.shortB (max n 0).toNat
def textB (s : List UInt8) : List UInt8 := numB s.length ++ s
/-- A READER: what is left, and the error. -/
structure R where
  b : List UInt8
  e : Nat
/-- a number within a limit: it, how many bytes, the error -/
def number (b : List UInt8) (most : Int) : Nat × Nat × Nat :=
  if (Num.takeShort b).2.2 ≠ 0 then (0, 0, (Num.takeShort b).2.2) else if most < 0 ∨ most < ((Num.takeShort b).1 : Int) then (0, 0, 12) else Num.takeShort b
def byteF (b : List UInt8) : UInt8 × Nat × Nat := if b.length = 0 then (0, 0, 10) else (b.getD 0 0, 1, 0)
def flagF (b : List UInt8) : Bool × Nat × Nat := if b.length = 0 then (false, 0, 10) else if 1 < (b.getD 0 0).toNat then (false, 0, 11) else (decide ((b.getD 0 0).toNat = 1), 1, 0)
def textF (b : List UInt8) (most : Int) : List UInt8 × Nat × Nat :=
  if (number b most).2.2 ≠ 0 then ([], 0, (number b most).2.2) else if b.length - (number b most).2.1 < (number b most).1 then ([], 0, 10)
  else ((b.drop (number b most).2.1).take (number b most).1, (number b most).2.1 + (number b most).1, 0)
def endF (b : List UInt8) : Nat × Nat := if 0 < b.length then (0, 13) else (0, 0)
/-- what 'try' leaves -/
def try_ (r : R) (x : Nat × Nat) : R := if r.e ≠ 0 then r else if x.2 ≠ 0 then ⟨r.b, x.2⟩ else ⟨r.b.drop x.1, 0⟩
def out {α : Type} (r : R) (z a : α) : α := if r.e ≠ 0 then z else a
theorem number_le (b : List UInt8) (most : Int) : (number b most).2.1 ≤ b.length ∧ (number b most).1 < 18446744073709551616 ∧ (number b most).2.2 < 13 := by
  have h := Num.takeGo_bounds b 0 0 (by omega)
  rw [Nat.zero_add, show Num.takeGo 0 0 b = Num.takeShort b from rfl] at h
  unfold number
  split
  · exact ⟨Nat.zero_le _, by simp, h.2.2⟩
  · split
    · exact ⟨Nat.zero_le _, by simp, by simp⟩
    · exact ⟨h.2.1, h.1, h.2.2⟩
theorem number_most (b : List UInt8) (most : Int) (hm : most ≤ 9223372036854775807) : ((number b most).1 : Int) ≤ 9223372036854775807 ∧ ((number b most).2.2 = 0 → ((number b most).1 : Int) ≤ most) := by
  unfold number
  split
  · exact ⟨by simp, fun h => by contradiction⟩
  · split
    · exact ⟨by simp, fun h => by simp at h⟩
    · rename_i h1 h2
      exact ⟨by omega, fun _ => by omega⟩
theorem textF_le (b : List UInt8) (most : Int) : (textF b most).2.1 ≤ b.length := by
  have h := number_le b most
  unfold textF
  split
  · exact Nat.zero_le _
  · split
    · exact Nat.zero_le _
    · simp only; omega
theorem textF_err (b : List UInt8) (most : Int) : (textF b most).2.2 < 13 := by
  have h := number_le b most
  unfold textF
  split
  · exact h.2.2
  · split
    · simp
    · simp
theorem textF_short (b : List UInt8) (most : Int) (hm : most ≤ 100000) : (textF b most).1.length ≤ 100000 := by
  have h := number_most b most (by omega)
  unfold textF
  split
  · simp
  · split
    · simp
    · rename_i h1 h2
      have := h.2 (by omega)
      simp only [List.length_take]
      omega
theorem byteF_le (b : List UInt8) : (byteF b).2.1 ≤ b.length := by unfold byteF; split <;> simp <;> omega
theorem flagF_le (b : List UInt8) : (flagF b).2.1 ≤ b.length := by
  unfold flagF
  split
  · simp
  · split <;> simp <;> omega
/-- the four bytes of a sum, the lowest first -/
def sum4 (c : BitVec 32) : List UInt8 := [UInt8.ofNat (c.toNat % 256), UInt8.ofNat (c.toNat / 256 % 256), UInt8.ofNat (c.toNat / 65536 % 256), UInt8.ofNat (c.toNat / 16777216 % 256)]
theorem sum4_length (c : BitVec 32) : (sum4 c).length = 4 := rfl
theorem sum4_wide (c : BitVec 32) : (Num.wideB c.toNat 4).reverse = sum4 c := by
  have h := c.isLt
  have e : Num.wideB c.toNat 4 = [UInt8.ofNat (c.toNat / 16777216 % 256), UInt8.ofNat (c.toNat / 65536 % 256), UInt8.ofNat (c.toNat / 256 % 256), UInt8.ofNat (c.toNat % 256)] := by
    have hl := Num.wideB_length 4 c.toNat
    have hg := fun i hi => Num.wideB_getD 4 c.toNat i hi
    have h0 := hg 0 (by omega)
    have h1 := hg 1 (by omega)
    have h2 := hg 2 (by omega)
    have h3 := hg 3 (by omega)
    match hw : Num.wideB c.toNat 4, hl with
    | [a, b, d, f], _ =>
      rw [hw] at h0 h1 h2 h3
      simp only [List.getD_cons_zero, List.getD_cons_succ] at h0 h1 h2 h3
      rw [h0, h1, h2, h3]
      simp only [List.cons.injEq, and_true]
      refine ⟨?_, ?_, ?_, ?_⟩ <;> (apply UInt8.toNat_inj.1; simp only [UInt8.toNat_ofNat']; omega)
  rw [e]
  rfl
theorem sum4_inj (a b : BitVec 32) (h : sum4 a = sum4 b) : a = b := by
  have ha := a.isLt
  have hb := b.isLt
  simp only [sum4, List.cons.injEq, and_true] at h
  obtain ⟨h0, h1, h2, h3⟩ := h
  have t : ∀ x y : Nat, UInt8.ofNat (x % 256) = UInt8.ofNat (y % 256) → x % 256 = y % 256 := fun x y h => by
    have := congrArg UInt8.toNat h
    simp only [UInt8.toNat_ofNat'] at this
    omega
  have := t _ _ h0
  have := t _ _ h1
  have := t _ _ h2
  have := t _ _ h3
  apply BitVec.eq_of_toNat_eq
  omega
/-- a sealed body -/
def sealB (s : List UInt8) : List UInt8 := textB s ++ sum4 (Crc.sum (textB s))
def sealE (s : List UInt8) : List UInt8 × Nat := if 4096 < s.length then ([], 12) else (sealB s, 0)
/-- the body at the beginning: it, how many bytes, the error -/
def openB (b : List UInt8) : List UInt8 × Nat × Nat :=
  if (textF b 4096).2.2 ≠ 0 then ([], 0, (textF b 4096).2.2) else if b.length - (textF b 4096).2.1 < 4 then ([], 0, 10)
  else if sum4 (Crc.sum (b.take (textF b 4096).2.1)) ≠ (b.drop (textF b 4096).2.1).take 4 then ([], 0, 30) else ((textF b 4096).1, (textF b 4096).2.1 + 4, 0)
end Go.Proofs.Ytlijfnekopjogaa.Sl
