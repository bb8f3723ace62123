/- Folding bytes to a number below n; the digits of a long division. -/
namespace Go.Proofs.Ytfcmlfcpgboigaa.Fd

/-- what bytes are folded to -/
def fold (n : Nat) (bs : List UInt8) : Nat := bs.foldl (fun x c => (x * 31 + c.toNat) % n) 0
theorem fold_lt (n : Nat) (bs : List UInt8) (h : 0 < n) : fold n bs < n := by
  unfold fold
  suffices ∀ (l : List UInt8) (x : Nat), x < n → l.foldl (fun x c => (x * 31 + c.toNat) % n) x < n from this bs 0 h
  intro l
  induction l with
  | nil => intro x hx; exact hx
  | cons c l ih => intro x _; exact ih _ (Nat.mod_lt _ h)
theorem fold_snoc (n : Nat) (bs : List UInt8) (k : Nat) (hk : k < bs.length) : fold n (bs.take (k + 1)) = (fold n (bs.take k) * 31 + (bs.getD k 0).toNat) % n := by
  unfold fold
  rw [List.take_succ_eq_append_getElem hk, List.foldl_append, List.getD_eq_getElem?_getD, List.getElem?_eq_getElem hk]
  rfl

/-- THE ESTIMATE OF A DIGIT: q may be too great, r is what is left of u. -/
structure Est (y1 y0 u u1 q r : Nat) : Prop where
  eq : q * y1 + r = u
  ge : (u * 4294967296 + u1) / (y1 * 4294967296 + y0) ≤ q
  le : q ≤ 4294967297
  r32 : r < 4294967296
section
variable {y1 y0 u u1 q r : Nat}
theorem digit_lt (hu : u < y1 * 4294967296 + y0) (hu1 : u1 < 4294967296) : (u * 4294967296 + u1) / (y1 * 4294967296 + y0) < 4294967296 := by
  rw [Nat.div_lt_iff_lt_mul (by omega)]
  omega
theorem Est.start (h0 : y0 < 4294967296) (h1 : 2147483648 ≤ y1) (h2 : y1 < 4294967296) (hu : u < y1 * 4294967296 + y0) (hu1 : u1 < 4294967296) : Est y1 y0 u u1 (u / y1) (u % y1) := by
  have hp : 0 < y1 := by omega
  have hm : u % y1 < y1 := Nat.mod_lt _ hp
  refine ⟨by rw [Nat.mul_comm]; exact Nat.div_add_mod u y1, ?_, ?_, by omega⟩
  · rw [Nat.le_div_iff_mul_le hp]
    have h := Nat.div_mul_le_self (u * 4294967296 + u1) (y1 * 4294967296 + y0)
    generalize (u * 4294967296 + u1) / (y1 * 4294967296 + y0) = Q at *
    rw [Nat.mul_add, ← Nat.mul_assoc] at h
    generalize Q * y1 = a at *
    generalize Q * y0 = b at *
    omega
  · have : u / y1 < 4294967298 := by
      rw [Nat.div_lt_iff_lt_mul hp]
      omega
    omega
theorem Est.done (h : Est y1 y0 u u1 q r) (hY : 0 < y1 * 4294967296 + y0) (hc : q * y0 ≤ 4294967296 * r + u1) : q = (u * 4294967296 + u1) / (y1 * 4294967296 + y0) := by
  apply Nat.le_antisymm _ h.ge
  rw [Nat.le_div_iff_mul_le hY, Nat.mul_add, ← Nat.mul_assoc, ← h.eq]
  generalize q * y1 = a at *
  generalize q * y0 = b at *
  omega
theorem Est.more (h : Est y1 y0 u u1 q r) (hu : u < y1 * 4294967296 + y0) (hu1 : u1 < 4294967296) (hc : 4294967296 ≤ q ∨ 4294967296 * r + u1 < q * y0) : 0 < q ∧ (u * 4294967296 + u1) / (y1 * 4294967296 + y0) ≤ q - 1 ∧ (q - 1) * y1 + (r + y1) = u := by
  have hd := digit_lt hu hu1
  have hq : 0 < q := by
    rcases hc with h1 | h1
    · omega
    · rcases Nat.eq_zero_or_pos q with rfl | h2
      · rw [Nat.zero_mul] at h1; omega
      · exact h2
  refine ⟨hq, ?_, ?_⟩
  · rcases hc with h1 | h1
    · omega
    · have : (u * 4294967296 + u1) / (y1 * 4294967296 + y0) < q := by
        rw [Nat.div_lt_iff_lt_mul (by omega), Nat.mul_add, ← Nat.mul_assoc, ← h.eq]
        generalize q * y1 = a at *
        generalize q * y0 = b at *
        omega
      omega
  · have e : (q - 1) * y1 + y1 = q * y1 := by
      conv => rhs; rw [show q = (q - 1) + 1 by omega, Nat.add_mul, Nat.one_mul]
    rw [← h.eq, ← e]
    omega
theorem Est.last {s : Nat} (h0 : y0 < 4294967296) (hq : q ≤ 4294967296) (he : q * y1 + s = u) (hg : (u * 4294967296 + u1) / (y1 * 4294967296 + y0) ≤ q) (hY : 0 < y1 * 4294967296 + y0) (hs : 4294967296 ≤ s) : q = (u * 4294967296 + u1) / (y1 * 4294967296 + y0) := by
  apply Nat.le_antisymm _ hg
  rw [Nat.le_div_iff_mul_le hY, Nat.mul_add, ← Nat.mul_assoc, ← he]
  have : q * y0 ≤ 4294967296 * 4294967296 := Nat.mul_le_mul hq (by omega)
  generalize q * y1 = a at *
  generalize q * y0 = b at *
  omega
end
/-- two digits of 32 bits, one behind the other -/
theorem rem_two (u Y d1 d0 : Nat) : (u * 18446744073709551616 + (d1 * 4294967296 + d0)) % Y = ((u * 4294967296 + d1) % Y * 4294967296 + d0) % Y := by
  have e : u * 18446744073709551616 + (d1 * 4294967296 + d0) = (u * 4294967296 + d1) * 4294967296 + d0 := by omega
  rw [e]
  have key : ∀ a : Nat, (a * 4294967296 + d0) % Y = (a % Y * 4294967296 + d0) % Y := by
    intro a
    have h := Nat.div_add_mod a Y
    have e2 : a * 4294967296 + d0 = Y * (a / Y * 4294967296) + (a % Y * 4294967296 + d0) := by
      conv => lhs; rw [← h]
      rw [Nat.add_mul, Nat.mul_assoc, Nat.add_assoc]
    rw [e2, Nat.mul_add_mod]
  exact key _
end Go.Proofs.Ytfcmlfcpgboigaa.Fd
