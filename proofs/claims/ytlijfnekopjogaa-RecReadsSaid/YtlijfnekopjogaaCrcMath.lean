/- The sum's plain mathematics: no Go in sight. -/
namespace Go.Proofs.Ytlijfnekopjogaa.Crc
def poly : BitVec 32 := 0xEDB88320#32
/-- one bit's step -/
def s (c : BitVec 32) : BitVec 32 := (c >>> 1) ^^^ (if c.getLsbD 0 then poly else 0#32)
def it : Nat → BitVec 32 → BitVec 32
  | 0, c => c
  | n + 1, c => it n (s c)
def w32 (x : UInt8) : BitVec 32 := BitVec.ofNat 32 x.toNat
def step (c : BitVec 32) (x : UInt8) : BitVec 32 := it 8 (c ^^^ w32 x)
def crc (bs : List UInt8) : BitVec 32 := bs.foldl step (BitVec.allOnes 32)
/-- names that no rewriting opens -/
def xr (a b : BitVec 32) : BitVec 32 := a ^^^ b
def hi4 (c : BitVec 32) : BitVec 32 := c >>> 4
def lo4 (c : BitVec 32) : Nat := c.toNat % 16
theorem lo4_lt (c : BitVec 32) : lo4 c < 16 := Nat.mod_lt _ (by omega)
def inv (c : BitVec 32) : BitVec 32 := ~~~ c
def sum (bs : List UInt8) : BitVec 32 := inv (crc bs)

theorem s_xor (a b : BitVec 32) : s (a ^^^ b) = s a ^^^ s b := by
  have hs : (a ^^^ b) >>> 1 = a >>> 1 ^^^ b >>> 1 := by
    ext i hi; simp only [BitVec.getElem_xor, BitVec.getElem_ushiftRight, BitVec.getLsbD_xor]
  have hp : ∀ x y : Bool, (if (x ^^ y) = true then poly else 0#32) = (if x = true then poly else 0#32) ^^^ (if y = true then poly else 0#32) := by
    decide
  unfold s
  rw [hs, BitVec.getLsbD_xor, hp]
  simp only [BitVec.xor_assoc]
  congr 1
  rw [← BitVec.xor_assoc, ← BitVec.xor_assoc, BitVec.xor_comm (b >>> 1)]
theorem it_add (m n : Nat) : ∀ c, it (m + n) c = it n (it m c) := by
  induction m with
  | zero => intro c; simp [it]
  | succ m ih => intro c; rw [Nat.succ_add]; exact ih (s c)
theorem it_succ' (n : Nat) (c : BitVec 32) : it (n + 1) c = s (it n c) := by rw [it_add]; rfl
theorem it_xor (n : Nat) : ∀ a b, it n (a ^^^ b) = it n a ^^^ it n b := by
  induction n with
  | zero => intros; rfl
  | succ n ih => intro a b; simp only [it, s_xor, ih]
theorem s_even (c : BitVec 32) (h : c.getLsbD 0 = false) : s c = c >>> 1 := by unfold s; rw [h]; simp
theorem it_low (k : Nat) : ∀ c : BitVec 32, (∀ i, i < k → c.getLsbD i = false) → it k c = c >>> k := by
  induction k with
  | zero => intro c _; simp [it]
  | succ k ih =>
    intro c h
    rw [it, s_even c (h 0 (by omega)), ih]
    · ext i hi; simp only [BitVec.getElem_ushiftRight, BitVec.getLsbD_ushiftRight]; congr 1; omega
    · intro i hi; rw [BitVec.getLsbD_ushiftRight]; exact h _ (by omega)

def tab : List Nat := [0, 498536548, 997073096, 651767980, 1994146192, 1802195444, 1303535960, 1342533948, 3988292384, 4027552580, 3604390888, 3412177804, 2607071920, 2262029012, 2685067896, 3183342108]
theorem tab_at : ∀ l : Nat, l < 16 → BitVec.ofNat 32 (tab.getD l 0) = it 4 (BitVec.ofNat 32 l) := by decide
def hx (c : BitVec 32) : BitVec 32 := BitVec.ofNat 32 (tab.getD (lo4 c) 0)
theorem tab_lt : ∀ l : Nat, l < 16 → tab.getD l 0 < 4294967296 := by decide
theorem hx_toNat (c : BitVec 32) : (hx c).toNat = tab.getD (lo4 c) 0 := by
  unfold hx; rw [BitVec.toNat_ofNat]; exact Nat.mod_eq_of_lt (tab_lt _ (lo4_lt c))
theorem half (c : BitVec 32) : (c >>> 4) ^^^ BitVec.ofNat 32 (tab.getD (c.toNat % 16) 0) = it 4 c := by
  rw [tab_at _ (Nat.mod_lt _ (by omega))]
  have e : c = (c &&& ~~~15#32) ^^^ (c &&& 15#32) := by
    ext i hi; simp only [BitVec.getElem_xor, BitVec.getElem_and, BitVec.getElem_not]; cases c[i] <;> cases (15#32)[i] <;> rfl
  have e2 : BitVec.ofNat 32 (c.toNat % 16) = c &&& 15#32 := by
    apply BitVec.eq_of_toNat_eq
    rw [BitVec.toNat_and, BitVec.toNat_ofNat, BitVec.toNat_ofNat, show 15 % 2 ^ 32 = 2 ^ 4 - 1 by decide, Nat.and_two_pow_sub_one_eq_mod]
    omega
  rw [e2]
  conv => rhs; rw [e, it_xor]
  congr 1
  rw [it_low 4]
  · ext i hi
    simp only [BitVec.getElem_ushiftRight, BitVec.getLsbD_and]
    have : (~~~15#32).getLsbD (4 + i) = decide (4 + i < 32) := by
      rw [BitVec.getLsbD_not]
      by_cases h : 4 + i < 32
      · have h15 : (15#32).getLsbD (4 + i) = false := by
          rw [BitVec.getLsbD_ofNat]
          have : Nat.testBit 15 (4 + i) = false := Nat.testBit_lt_two_pow (by have : 2 ^ 4 ≤ 2 ^ (4 + i) := Nat.pow_le_pow_right (by omega) (by omega); omega)
          simp [this]
        rw [h15]; simp [h]
      · simp [h]
    rw [this]
    by_cases h : 4 + i < 32
    · simp [h]
    · simp [h]; exact BitVec.getLsbD_of_ge _ _ (by omega)
  · intro i hi
    rw [BitVec.getLsbD_and]
    have : (~~~15#32).getLsbD i = false := by
      have h : i = 0 ∨ i = 1 ∨ i = 2 ∨ i = 3 := by omega
      rcases h with rfl | rfl | rfl | rfl <;> decide
    rw [this, Bool.and_false]
theorem half2 (d : BitVec 32) (x : UInt8) : xr (hi4 (xr (hi4 (xr d (w32 x))) (hx (xr d (w32 x))))) (hx (xr (hi4 (xr d (w32 x))) (hx (xr d (w32 x))))) = step d x := by
  have h : ∀ c, xr (hi4 c) (hx c) = it 4 c := half
  rw [h, h, ← it_add]
  rfl
end Go.Proofs.Ytlijfnekopjogaa.Crc
