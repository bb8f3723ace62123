/- A sealed body with bits turned behind its length: plain mathematics. -/
import Derived.Test.YtlpdjpkdgagjpaaDoorSealMath2
import Derived.Test.YtlpdjpkdgagjpaaDoorCrcMath2
namespace Go.Proofs.YtlpdjpkdgagjpaaDoor.Sl
open Go.Proofs.YtlpdjpkdgagjpaaDoor

theorem sum4_four (c : BitVec 32) : sum4 c = Crc.four c := by
  unfold sum4 Crc.four Crc.byteAt
  simp only [List.cons.injEq, and_true]
  refine ⟨?_, ?_, ?_, ?_⟩ <;> (apply UInt8.toNat_inj.1; simp only [UInt8.toNat_ofNat']; omega)
theorem four_of (s : List UInt8) (h : s.length = 4) : ∃ v, s = Crc.four v := by
  match s, h with
  | [a, b, c, d], _ =>
    have ha := a.toNat_lt
    have hb := b.toNat_lt
    have hc := c.toNat_lt
    have hd := d.toNat_lt
    refine ⟨BitVec.ofNat 32 (a.toNat + 256 * b.toNat + 65536 * c.toNat + 16777216 * d.toNat), ?_⟩
    unfold Crc.four Crc.byteAt
    rw [BitVec.toNat_ofNat, Nat.mod_eq_of_lt (by omega)]
    simp only [List.cons.injEq, and_true]
    refine ⟨?_, ?_, ?_, ?_⟩ <;> (apply UInt8.toNat_inj.1; simp only [UInt8.toNat_ofNat']; omega)
theorem crc_four (m : List UInt8) (v : BitVec 32) : Crc.crc (m ++ Crc.four v) = Crc.it 32 (Crc.crc m ^^^ v) := by
  unfold Crc.crc
  rw [List.foldl_append, Crc.fold_four]
theorem inv_ones (c : BitVec 32) : c ^^^ Crc.inv c = BitVec.allOnes 32 := by
  unfold Crc.inv
  apply BitVec.eq_of_getLsbD_eq
  intro i hi
  simp only [BitVec.getLsbD_not, BitVec.getLsbD_xor, decide_eq_true hi, Bool.true_and, BitVec.getLsbD_allOnes]
  cases BitVec.getLsbD c i <;> rfl
theorem sum4_iff (m s : List UInt8) (hs : s.length = 4) : sum4 (Crc.sum m) = s ↔ Crc.crc (m ++ s) = Crc.it 32 (BitVec.allOnes 32) := by
  constructor
  · rintro rfl
    rw [sum4_four, crc_four]
    unfold Crc.sum
    rw [inv_ones]
  · intro h
    obtain ⟨v, rfl⟩ := four_of s hs
    rw [crc_four] at h
    have h1 := Crc.it_inj _ _ _ h
    have h2 : v = Crc.inv (Crc.crc m) := by
      have e := inv_ones (Crc.crc m)
      rw [← e] at h1
      have : Crc.crc m ^^^ (Crc.crc m ^^^ v) = Crc.crc m ^^^ (Crc.crc m ^^^ Crc.inv (Crc.crc m)) := congrArg (fun z => Crc.crc m ^^^ z) h1
      rwa [← BitVec.xor_assoc, ← BitVec.xor_assoc, BitVec.xor_self, BitVec.zero_xor, BitVec.zero_xor] at this
    rw [sum4_four, h2]
    rfl
theorem flips_take (bs : List UInt8) (a t h : Nat) (ha : 8 * h ≤ a) : ∀ k, (Crc.flips bs a t k).take h = bs.take h
  | 0 => rfl
  | k + 1 => by
    rw [Crc.flips_succ]
    split
    · unfold Crc.flip
      rw [List.take_set_of_le (by omega), flips_take bs a t h ha k]
    · exact flips_take bs a t h ha k
theorem flips_none (bs : List UInt8) (a t : Nat) : ∀ k, (∀ i, i < k → t.testBit i = false) → Crc.flips bs a t k = bs
  | 0, _ => rfl
  | k + 1, h => by rw [Crc.flips_succ, h k (by omega), if_neg (by simp)]; exact flips_none bs a t k (fun i hi => h i (by omega))
theorem low_none (t k : Nat) (hk : k ≤ 32) (h : Crc.low t k = 0#32) : ∀ i, i < k → t.testBit i = false := by
  intro i hi
  have := congrArg (fun z => z.getLsbD i) h
  unfold Crc.low at this
  simp only [BitVec.getLsbD_ofNat, Nat.testBit_mod_two_pow] at this
  have h1 : i < 32 := by omega
  simpa [h1, hi] using this
theorem open_flips (s : List UInt8) (p t k : Nat) (hs : s.length ≤ 4096) (hk : k ≤ 32) (hp : p + k ≤ 8 * (s.length + 4)) :
    openB (Crc.flips (sealB s) (8 * (numB s.length).length + p) t k) = if Crc.low t k = 0#32 then (s, (sealB s).length, 0) else ([], 0, 30) := by
  by_cases hz : Crc.low t k = 0#32
  · rw [if_pos hz, flips_none _ _ _ _ (low_none t k hk hz)]
    have := open_seal s [] hs
    rwa [List.append_nil] at this
  · rw [if_neg hz]
    have hxl : (sealB s).length = (numB s.length).length + s.length + 4 := by rw [sealB_length, textB_length]
    have hyl : (Crc.flips (sealB s) (8 * (numB s.length).length + p) t k).length = (sealB s).length := Crc.flips_length _ _ _ _
    have hyt := flips_take (sealB s) (8 * (numB s.length).length + p) t (numB s.length).length (by omega) k
    have hne : Crc.crc (Crc.flips (sealB s) (8 * (numB s.length).length + p) t k) ≠ Crc.it 32 (BitVec.allOnes 32) := by
      intro h
      have hx : Crc.crc (sealB s) = Crc.it 32 (BitVec.allOnes 32) := (sum4_iff (textB s) _ (sum4_length _)).1 rfl
      rw [← hx] at h
      exact hz ((Crc.turns (sealB s) (8 * (numB s.length).length + p) t k hk (by rw [hxl]; omega)).1 (by unfold Crc.sum; rw [h]))
    generalize Crc.flips (sealB s) (8 * (numB s.length).length + p) t k = y at *
    have hxt : (sealB s).take (numB s.length).length = numB s.length := by rw [sealB, textB, List.append_assoc, List.take_left']; rfl
    rw [hxt] at hyt
    have hy : y = Num.shortB s.length ++ y.drop (numB s.length).length := by
      rw [← numB_nat']
      conv => rhs; lhs; rw [← hyt]
      rw [List.take_append_drop]
    have hn : number y 4096 = (s.length, (numB s.length).length, 0) := by
      conv => lhs; rw [hy]
      rw [number_num s.length 4096 _ (by omega) (by omega), numB_nat']
    have htx : textF y 4096 = ((y.drop (numB s.length).length).take s.length, (numB s.length).length + s.length, 0) := by
      unfold textF
      rw [hn, if_neg (by simp), if_neg (by simp only; omega)]
    unfold openB
    rw [htx, if_neg (by simp), if_neg (by simp only; omega), if_pos]
    simp only
    intro h
    rw [List.take_of_length_le (l := y.drop _) (by rw [List.length_drop]; omega)] at h
    have := (sum4_iff _ _ (by rw [List.length_drop]; omega)).1 h
    rw [List.take_append_drop] at this
    exact hne this
end Go.Proofs.YtlpdjpkdgagjpaaDoor.Sl
