/- The sum's plain mathematics, more: steps are linear and one to one; a turned bit; four bytes behind; two texts joined. -/
import Derived.Test.YtlpdjpkdgagjpaaDoorCrcMath
namespace Go.Proofs.YtlpdjpkdgagjpaaDoor.Crc

theorem it_zero (n : Nat) : it n 0#32 = 0#32 := by
  induction n with
  | zero => rfl
  | succ n ih => rw [it]; have : s 0#32 = 0#32 := by decide
                 rw [this]; exact ih
theorem s_eq_zero (c : BitVec 32) (h : s c = 0#32) : c = 0#32 := by
  unfold s at h
  by_cases h0 : c.getLsbD 0 = true
  · exfalso
    rw [if_pos h0] at h
    have := congrArg (fun x => x.getLsbD 31) h
    simp only [BitVec.getLsbD_xor, BitVec.getLsbD_ushiftRight] at this
    rw [BitVec.getLsbD_of_ge c (1 + 31) (by omega)] at this
    revert this
    decide
  · rw [if_neg h0] at h
    apply BitVec.eq_of_getLsbD_eq
    intro i hi
    cases i with
    | zero => simp only [Bool.not_eq_true] at h0; rw [h0]; simp
    | succ i =>
      have := congrArg (fun x => x.getLsbD i) h
      simp only [BitVec.getLsbD_xor, BitVec.getLsbD_ushiftRight, BitVec.getLsbD_zero, Bool.xor_false] at this
      rw [Nat.add_comm] at this
      rw [this]; simp
theorem it_eq_zero (n : Nat) : ∀ c, it n c = 0#32 → c = 0#32 := by
  induction n with
  | zero => intro c h; exact h
  | succ n ih => intro c h; exact s_eq_zero c (ih _ h)
theorem it_inj (n : Nat) (a b : BitVec 32) (h : it n a = it n b) : a = b := by
  have : it n (a ^^^ b) = 0#32 := by rw [it_xor, h, BitVec.xor_self]
  have := it_eq_zero n _ this
  have e : a = (a ^^^ b) ^^^ b := by rw [BitVec.xor_assoc, BitVec.xor_self, BitVec.xor_zero]
  rw [e, this, BitVec.zero_xor]
theorem it_two (k : Nat) (hk : k < 32) : it k (BitVec.twoPow 32 k) = 1#32 := by
  rw [it_low k]
  · apply BitVec.eq_of_getLsbD_eq
    intro i hi
    rw [BitVec.getLsbD_ushiftRight, BitVec.getLsbD_twoPow, BitVec.getLsbD_one]
    simp only [decide_eq_true hk, Bool.true_and]
    by_cases h : i = 0 <;> simp [h]
  · intro i hi
    rw [BitVec.getLsbD_twoPow]
    have : ¬ k = i := by omega
    simp [this]

/-- the bytes of a difference -/
theorem foldl_xor (bs : List UInt8) : ∀ a b, bs.foldl step (a ^^^ b) = bs.foldl step a ^^^ it (8 * bs.length) b := by
  induction bs with
  | nil => intro a b; rfl
  | cons x bs ih =>
    intro a b
    have e : step (a ^^^ b) x = step a x ^^^ it 8 b := by
      unfold step
      rw [← it_xor]
      congr 1
      rw [BitVec.xor_assoc, BitVec.xor_comm b, BitVec.xor_assoc]
    simp only [List.foldl_cons, List.length_cons]
    rw [e, ih, ← it_add]
    congr 2
    omega

theorem w32_xor (x y : UInt8) : w32 (x ^^^ y) = w32 x ^^^ w32 y := by
  apply BitVec.eq_of_toNat_eq
  unfold w32
  rw [BitVec.toNat_xor, BitVec.toNat_ofNat, BitVec.toNat_ofNat, BitVec.toNat_ofNat, UInt8.toNat_xor, Nat.xor_mod_two_pow]
/-- one bit of one byte is another one -/
def flip (bs : List UInt8) (p : Nat) : List UInt8 := bs.set (p / 8) (bs.getD (p / 8) 0 ^^^ UInt8.ofNat (2 ^ (p % 8)))
theorem flip_length (bs : List UInt8) (p : Nat) : (flip bs p).length = bs.length := by simp [flip]
theorem w32_two (r : Nat) (hr : r < 8) : w32 (UInt8.ofNat (2 ^ r)) = BitVec.twoPow 32 r := by
  have h : r = 0 ∨ r = 1 ∨ r = 2 ∨ r = 3 ∨ r = 4 ∨ r = 5 ∨ r = 6 ∨ r = 7 := by omega
  rcases h with rfl | rfl | rfl | rfl | rfl | rfl | rfl | rfl <;> decide
theorem crc_flip (bs : List UInt8) (p : Nat) (hp : p < 8 * bs.length) : crc (flip bs p) = crc bs ^^^ it (8 * bs.length - p) 1#32 := by
  have hj : p / 8 < bs.length := by omega
  have hr : p % 8 < 8 := Nat.mod_lt _ (by omega)
  have e1 : bs = bs.take (p / 8) ++ bs[p / 8] :: bs.drop (p / 8 + 1) := by
    rw [List.getElem_cons_drop]; simp
  have e2 : flip bs p = bs.take (p / 8) ++ (bs[p / 8] ^^^ UInt8.ofNat (2 ^ (p % 8))) :: bs.drop (p / 8 + 1) := by
    unfold flip
    rw [List.set_eq_take_append_cons_drop, if_pos hj, List.getD_eq_getElem?_getD, List.getElem?_eq_getElem hj]
    rfl
  unfold crc
  rw [e2]
  conv => rhs; rw [e1]
  simp only [List.foldl_append, List.foldl_cons]
  generalize (bs.take (p / 8)).foldl step (BitVec.allOnes 32) = c
  have e3 : step c (bs[p / 8] ^^^ UInt8.ofNat (2 ^ (p % 8))) = step c bs[p / 8] ^^^ it (8 - p % 8) 1#32 := by
    unfold step
    rw [w32_xor, ← BitVec.xor_assoc, it_xor, w32_two _ hr]
    congr 1
    rw [← it_two (p % 8) (by omega), ← it_add]
    congr 1
    omega
  rw [e3, foldl_xor, ← it_add]
  congr 2
  rw [List.length_append, List.length_take, List.length_cons, List.length_drop]
  omega
/-- the first k bits of a word -/
def low (t : Nat) (k : Nat) : BitVec 32 := BitVec.ofNat 32 (t % 2 ^ k)
def flips (bs : List UInt8) (at_ t : Nat) : Nat → List UInt8
  | 0 => bs
  | k + 1 => if t.testBit k then flip (flips bs at_ t k) (at_ + k) else flips bs at_ t k
theorem flips_succ (bs : List UInt8) (a t k : Nat) : flips bs a t (k + 1) = if t.testBit k then flip (flips bs a t k) (a + k) else flips bs a t k := rfl
theorem flips_length (bs : List UInt8) (a t : Nat) : ∀ k, (flips bs a t k).length = bs.length
  | 0 => rfl
  | k + 1 => by unfold flips; split <;> simp [flip_length, flips_length bs a t k]
theorem low_succ (t k : Nat) : low t (k + 1) = low t k ^^^ (if t.testBit k then BitVec.twoPow 32 k else 0#32) := by
  apply BitVec.eq_of_getLsbD_eq
  intro i hi
  unfold low
  rw [BitVec.getLsbD_xor, BitVec.getLsbD_ofNat, BitVec.getLsbD_ofNat, Nat.testBit_mod_two_pow, Nat.testBit_mod_two_pow]
  simp only [decide_eq_true hi, Bool.true_and]
  by_cases h : t.testBit k = true
  · rw [if_pos h, BitVec.getLsbD_twoPow]
    by_cases e : k = i
    · subst e; simp [h, hi]
    · have e1 : decide (i < k + 1) = decide (i < k) := by simp; omega
      simp [e1, e]
  · rw [if_neg h, BitVec.getLsbD_zero, Bool.xor_false]
    by_cases e : k = i
    · subst e; simp at h; simp [h]
    · have e1 : decide (i < k + 1) = decide (i < k) := by simp; omega
      simp [e1]
theorem crc_flips (bs : List UInt8) (a t : Nat) : ∀ k, k ≤ 32 → a + k ≤ 8 * bs.length → crc (flips bs a t k) = crc bs ^^^ it (8 * bs.length - a) (low t k)
  | 0, _, _ => by
    have : low t 0 = 0#32 := by unfold low; simp [Nat.mod_one]
    rw [this, it_zero, BitVec.xor_zero]; rfl
  | k + 1, h1, h2 => by
    have ih := crc_flips bs a t k (by omega) (by omega)
    rw [low_succ, it_xor, ← BitVec.xor_assoc, ← ih, flips_succ]
    by_cases h : t.testBit k = true
    · rw [if_pos h, if_pos h, crc_flip _ _ (by rw [flips_length]; omega), flips_length]
      congr 1
      rw [← it_two k (by omega), ← it_add]
      congr 1
      omega
    · rw [if_neg h, if_neg h, it_zero, BitVec.xor_zero]
/-- turned bits and the sum -/
theorem turns (bs : List UInt8) (a t k : Nat) (h1 : k ≤ 32) (h2 : a + k ≤ 8 * bs.length) : (sum (flips bs a t k) = sum bs) ↔ low t k = 0#32 := by
  have hi : ∀ x y : BitVec 32, inv x = inv y ↔ x = y := by
    intro x y
    unfold inv
    constructor
    · intro h; have := congrArg (fun z => ~~~ z) h; simpa using this
    · intro h; rw [h]
  unfold sum
  rw [hi, crc_flips bs a t k h1 h2]
  constructor
  · intro h
    apply it_eq_zero (8 * bs.length - a)
    have : crc bs ^^^ (crc bs ^^^ it (8 * bs.length - a) (low t k)) = crc bs ^^^ crc bs := by rw [h]
    rwa [← BitVec.xor_assoc, BitVec.xor_self, BitVec.zero_xor] at this
  · intro h
    rw [h, it_zero, BitVec.xor_zero]

/-! four bytes behind -/
def unstep (c : BitVec 32) : BitVec 32 := if c.getLsbD 31 then ((c ^^^ poly) <<< 1) ||| 1#32 else c <<< 1
theorem s_unstep (c : BitVec 32) : s (unstep c) = c := by
  unfold unstep s
  by_cases h : c.getLsbD 31 = true
  · rw [if_pos h]
    have h0 : (((c ^^^ poly) <<< 1) ||| 1#32).getLsbD 0 = true := by
      rw [BitVec.getLsbD_or, BitVec.getLsbD_one]; simp
    rw [if_pos h0]
    have e : (((c ^^^ poly) <<< 1) ||| 1#32) >>> 1 = c ^^^ poly := by
      apply BitVec.eq_of_getLsbD_eq
      intro i hi
      rw [BitVec.getLsbD_ushiftRight, BitVec.getLsbD_or, BitVec.getLsbD_shiftLeft, BitVec.getLsbD_one]
      by_cases e : i = 31
      · subst e
        have : (c ^^^ poly).getLsbD 31 = false := by rw [BitVec.getLsbD_xor, h]; decide
        rw [this]; simp
      · have a1 : 1 + i < 32 := by omega
        have a2 : ¬ (1 + i < 1) := by omega
        have a4 : 1 + i - 1 = i := by omega
        rw [a4]
        simp [a1]
    rw [e, BitVec.xor_assoc, BitVec.xor_self, BitVec.xor_zero]
  · rw [if_neg h]
    have h0 : (c <<< 1).getLsbD 0 = false := by rw [BitVec.getLsbD_shiftLeft]; simp
    rw [h0]
    simp only [Bool.false_eq_true, if_false, BitVec.xor_zero]
    apply BitVec.eq_of_getLsbD_eq
    intro i hi
    rw [BitVec.getLsbD_ushiftRight, BitVec.getLsbD_shiftLeft]
    by_cases e : i = 31
    · subst e; simp only [Bool.not_eq_true] at h; rw [h]; simp
    · have a1 : 1 + i < 32 := by omega
      have a4 : 1 + i - 1 = i := by omega
      rw [a4]
      simp [a1]
def un : Nat → BitVec 32 → BitVec 32
  | 0, c => c
  | n + 1, c => unstep (un n c)
theorem it_un (n : Nat) : ∀ c, it n (un n c) = c := by
  induction n with
  | zero => intro c; rfl
  | succ n ih => intro c; rw [it, un, s_unstep, ih]
def byteAt (v : BitVec 32) (i : Nat) : UInt8 := UInt8.ofNat (v.toNat / 2 ^ (8 * i))
def four (v : BitVec 32) : List UInt8 := [byteAt v 0, byteAt v 1, byteAt v 2, byteAt v 3]
theorem getLsbD_w32 (v : BitVec 32) (j i : Nat) : (w32 (byteAt v j)).getLsbD i = (decide (i < 8) && v.getLsbD (8 * j + i)) := by
  unfold w32 byteAt
  rw [BitVec.getLsbD_ofNat, UInt8.toNat_ofNat', show 2 ^ 8 = 2 ^ 8 from rfl, Nat.testBit_mod_two_pow, Nat.testBit_div_two_pow, BitVec.getLsbD, Nat.add_comm i]
  by_cases h : i < 8
  · have : i < 32 := by omega
    simp [h, this]
  · simp [h]
theorem word_of_four (v : BitVec 32) : v = w32 (byteAt v 0) ^^^ (w32 (byteAt v 1) <<< 8) ^^^ (w32 (byteAt v 2) <<< 16) ^^^ (w32 (byteAt v 3) <<< 24) := by
  apply BitVec.eq_of_getLsbD_eq
  intro i hi
  simp only [BitVec.getLsbD_xor, BitVec.getLsbD_shiftLeft, getLsbD_w32]
  have h : i / 8 = 0 ∨ i / 8 = 1 ∨ i / 8 = 2 ∨ i / 8 = 3 := by omega
  rcases h with h | h | h | h
  · have a : i < 8 := by omega
    have b : i < 16 := by omega
    have c : i < 24 := by omega
    simp [a, b, c]
  · have a : ¬ i < 8 := by omega
    have b : i < 16 := by omega
    have c : i < 24 := by omega
    have d : i - 8 < 8 := by omega
    have e : 8 + (i - 8) = i := by omega
    simp [a, b, c, d, e, hi]
  · have a : ¬ i < 8 := by omega
    have b : ¬ i < 16 := by omega
    have c : i < 24 := by omega
    have d : ¬ i - 8 < 8 := by omega
    have d2 : i - 16 < 8 := by omega
    have e : 16 + (i - 16) = i := by omega
    simp [a, b, c, d, d2, e, hi]
  · have a : ¬ i < 8 := by omega
    have b : ¬ i < 16 := by omega
    have c : ¬ i < 24 := by omega
    have d : ¬ i - 8 < 8 := by omega
    have d2 : ¬ i - 16 < 8 := by omega
    have d3 : i - 24 < 8 := by omega
    have e : 24 + (i - 24) = i := by omega
    simp [a, b, c, d, d2, d3, e, hi]
theorem it_shl (x : UInt8) (k : Nat) (hk : k ≤ 24) : it k (w32 x <<< k) = w32 x := by
  rw [it_low k]
  · apply BitVec.eq_of_getLsbD_eq
    intro i hi
    rw [BitVec.getLsbD_ushiftRight, BitVec.getLsbD_shiftLeft]
    have e : k + i - k = i := by omega
    have e2 : ¬ k + i < k := by omega
    rw [e]
    by_cases h : i < 8
    · have : k + i < 32 := by omega
      simp [this]
    · have : (w32 x).getLsbD i = false := by
        unfold w32
        rw [BitVec.getLsbD_ofNat]
        have : Nat.testBit x.toNat i = false := Nat.testBit_lt_two_pow (Nat.lt_of_lt_of_le x.toNat_lt (Nat.pow_le_pow_right (by omega) (by omega)))
        simp [this]
      simp [this]
  · intro i hi
    rw [BitVec.getLsbD_shiftLeft]; simp [hi]
theorem fold_four (c v : BitVec 32) : (four v).foldl step c = it 32 (c ^^^ v) := by
  have e : it 32 (c ^^^ v) = it 8 (it 8 (it 8 (it 8 (c ^^^ w32 (byteAt v 0)) ^^^ w32 (byteAt v 1)) ^^^ w32 (byteAt v 2)) ^^^ w32 (byteAt v 3)) := by
    conv => lhs; rw [word_of_four v]
    have s1 := it_shl (byteAt v 1) 8 (by omega)
    have s2 := it_shl (byteAt v 2) 16 (by omega)
    have s3 := it_shl (byteAt v 3) 24 (by omega)
    have i32 : ∀ x, it 32 x = it 8 (it 24 x) := fun x => it_add 24 8 x
    have i24 : ∀ x, it 24 x = it 8 (it 16 x) := fun x => it_add 16 8 x
    have i16 : ∀ x, it 16 x = it 8 (it 8 x) := fun x => it_add 8 8 x
    rw [i32, ← BitVec.xor_assoc, it_xor 24, s3, i24, ← BitVec.xor_assoc, it_xor 16, s2, i16, ← BitVec.xor_assoc, it_xor 8 (c ^^^ w32 (byteAt v 0)) (w32 (byteAt v 1) <<< 8), s1]
  rw [e]; rfl
theorem inv_inv (c : BitVec 32) : inv (inv c) = c := by unfold inv; simp
theorem patch (bs : List UInt8) (want : BitVec 32) : sum (bs ++ four (xr (un 32 (inv want)) (crc bs))) = want := by
  unfold sum crc
  rw [List.foldl_append, fold_four]
  have : (bs.foldl step (BitVec.allOnes 32)) ^^^ xr (un 32 (inv want)) (bs.foldl step (BitVec.allOnes 32)) = un 32 (inv want) := by
    unfold xr
    rw [BitVec.xor_comm, BitVec.xor_assoc, BitVec.xor_self, BitVec.xor_zero]
  rw [this, it_un, inv_inv]

/-! two texts -/
theorem join (a b : List UInt8) : sum (a ++ b) = xr (it (8 * b.length) (sum a)) (sum b) := by
  unfold sum xr crc
  rw [List.foldl_append]
  generalize a.foldl step (BitVec.allOnes 32) = c
  have e : c = BitVec.allOnes 32 ^^^ inv c := by unfold inv; rw [BitVec.xor_comm, BitVec.xor_allOnes]; simp
  conv => lhs; rw [e, foldl_xor]
  unfold inv
  rw [BitVec.xor_comm]
  apply BitVec.eq_of_getLsbD_eq
  intro i hi
  simp only [BitVec.getLsbD_not, BitVec.getLsbD_xor, decide_eq_true hi, Bool.true_and]
  cases BitVec.getLsbD _ i <;> cases BitVec.getLsbD _ i <;> rfl
end Go.Proofs.YtlpdjpkdgagjpaaDoor.Crc
