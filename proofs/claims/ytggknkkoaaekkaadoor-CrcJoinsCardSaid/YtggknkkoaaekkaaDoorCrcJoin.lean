/- crc.Join and the matrices that it goes by. -/
import Derived.Test.YtggknkkoaaekkaaDoorCrcWalks
import Derived.Test.YtggknkkoaaekkaaDoorCrcMath2
import Derived.RegionTactic
import Derived.ChangeAlike
import Derived.IntWalk
namespace Go.Proofs.YtggknkkoaaekkaaDoor
open Go.RowKit Mem
set_option linter.unusedVariables false
attribute [local go_sem] xor32

/-- the matrix of n steps lies in block b -/
def Mat (w : World) (b n : Nat) : Prop := ∀ i, i < 32 → w.cell? ⟨b, i, none⟩ = some (.int .u32 ((Crc.it n (BitVec.twoPow 32 i)).toNat : Int))

theorem and1_u32 (t k : Nat) (ht : t < 4294967296) : (bits .and .u32 ((t : Int) / 2 ^ k) 1 != 0) = t.testBit k := by
  have e : (t : Int) / 2 ^ k = ((t / 2 ^ k : Nat) : Int) := by simp
  have hlt : t / 2 ^ k < 4294967296 := Nat.lt_of_le_of_lt (Nat.div_le_self _ _) ht
  rw [e, show (1 : Int) = ((1 : Nat) : Int) from rfl, u32_and_nat _ _ hlt (by omega), nat_mask1, Nat.testBit_eq_decide_div_mod_eq]
  have : t / 2 ^ k % 2 = 0 ∨ t / 2 ^ k % 2 = 1 := by omega
  rcases this with h | h <;> rw [h] <;> rfl
theorem low_all (t k : Nat) (h : t / 2 ^ k = 0) : Crc.low t k = BitVec.ofNat 32 t := by
  unfold Crc.low
  have : t < 2 ^ k := by
    rcases Nat.lt_or_ge t (2 ^ k) with h1 | h1
    · exact h1
    · have := Nat.div_pos h1 (Nat.two_pow_pos k); omega
  rw [Nat.mod_eq_of_lt this]

set_option maxHeartbeats 400000 in
theorem of_any (b n : Nat) (v : BitVec 32) (w : World) (hm : Mat w b n) :
    Calls Tryd.prog 17 #[.pointer (some ⟨b, 0, none⟩), .int .u32 v.toNat] w fun e w' => e = .returned (.int .u32 (Crc.it n v).toNat) ∧ w = w' := by
  have hv := v.isLt
  go_enter Tryd.func17, Tryd.ntmps17
  go_wp2
  go_loop [1, 5, 6] (fun x o i => ∃ (k : Nat), k ≤ 32 ∧ i = .int .i64 k ∧ x = .int .u32 ((v.toNat / 2 ^ k : Nat) : Int) ∧ o = .int .u32 ((Crc.it n (Crc.low v.toNat k)).toNat : Int)) (fun _ _ i => 32 - (intOf i).toNat)
  case atStart => exact ⟨0, by omega, rfl, by simp, by rw [show Crc.low v.toNat 0 = 0#32 from by simp [Crc.low, Nat.mod_one], Crc.it_zero]; rfl⟩
  case round =>
    obtain ⟨k, hk, rfl, rfl, rfl⟩ := hrel
    by_cases hz : v.toNat / 2 ^ k = 0
    · have hg : ((v.toNat : Int) / 2 ^ k != 0) = false := by
        have e : (v.toNat : Int) / 2 ^ k = ((v.toNat / 2 ^ k : Nat) : Int) := by simp
        rw [e, hz]; rfl
      have hl := low_all v.toNat k hz
      have HL := Lib.hid hl
      have HZ := Lib.hid hz
      clear hl hz
      go_wp2
      go_ret
      rw [HL.out]
      simp
    · have hg : ((v.toNat : Int) / 2 ^ k != 0) = true := by
        have e : (v.toNat : Int) / 2 ^ k = ((v.toNat / 2 ^ k : Nat) : Int) := by simp
        rw [e]; simp; omega
      have hk2 : k < 32 := by
        rcases Nat.lt_or_ge k 32 with h | h
        · exact h
        · exact absurd (Nat.div_eq_of_lt (Nat.lt_of_lt_of_le hv (Nat.pow_le_pow_right (by omega) h))) hz
      have hc := hm k hk2
      have ha := and1_u32 v.toNat k hv
      have hdiv : v.toNat / 2 ^ k / 2 = v.toNat / 2 ^ (k + 1) := by rw [Nat.div_div_eq_div_mul, Nat.pow_succ]
      have hls := Crc.low_succ v.toNat k
      have H := Lib.hid (And.intro hdiv hls)
      clear hls hdiv hz
      by_cases hbit : v.toNat.testBit k = true
      · rw [hbit] at ha
        go_wp2
        go_round
        case rel =>
          refine ⟨k + 1, by omega, by go_num, ?_, ?_⟩
          · rw [← H.out.1]; simp
          · rw [H.out.2, if_pos hbit, Crc.it_xor]; rfl
        case measure => simp [intOf]; omega
      · simp at hbit
        rw [hbit] at ha
        go_wp2
        go_round
        case rel =>
          refine ⟨k + 1, by omega, by go_num, ?_, ?_⟩
          · rw [← H.out.1]; simp
          · rw [H.out.2, hbit]; simp
        case measure => simp [intOf]; omega

def MatP (w : World) (n : Nat) (e : Ending) (w' : World) : Prop := ∃ b, e = .returned (.pointer (some ⟨b, 0, none⟩)) ∧ b < w'.heap.size ∧ Mat w' b n ∧ Below w.heap.size w w'
theorem Mat.below {w w' : World} {b n : Nat} (h : Mat w b n) (hb : Below w.heap.size w w') : Mat w' b n := fun i hi => by
  rw [← h i hi]
  exact hb.cell (World.block_lt_of_cell? w _ (h i hi))

set_option maxHeartbeats 400000 in
theorem twice_any (b n : Nat) (w : World) (hm : Mat w b n) :
    Calls Tryd.prog 18 #[.pointer (some ⟨b, 0, none⟩)] w (MatP w (n + n)) := by
  go_enter Tryd.func18, Tryd.ntmps18
  go_wp2
  go_loopw [4, 5] (fun _ i wr => ∃ (k : Nat) (cs : Array Value), k ≤ 32 ∧ i = .int .i64 k ∧ Blk wr w.heap.size 41 cs ∧ cs.size = 32 ∧ (∀ j, j < k → cs[j]? = some (.int .u32 ((Crc.it (n + n) (BitVec.twoPow 32 j)).toNat : Int))) ∧ Below w.heap.size w wr) (fun _ i _ => 32 - (intOf i).toNat)
  case atStart => exact ⟨0, _, by omega, rfl, Blk.new _ _ _, rfl, fun j hj => absurd hj (by omega), (Below.refl _ _).alloc (Nat.le_refl _) _⟩
  case round =>
    obtain ⟨k, cs, hk, rfl, hblk, hsz, hcs, hb⟩ := hrel
    have hwr : Mat wr b n := fun i hi => by
      rw [← hm i hi]
      exact hb.cell (World.block_lt_of_cell? w _ (hm i hi))
    by_cases hlt : k < 32
    · have hc := hwr k hlt
      have hc2 : wr.cell? ⟨w.heap.size, k, none⟩ = some (cs[k]'(by omega)) := by rw [hblk.cell, Array.getElem?_eq_getElem]
      have hf2 := hblk.free k
      generalize (cs[k]'(by omega)) = old at *
      have H := Lib.hid (And.intro hblk (And.intro hsz (And.intro hcs hb)))
      have HM := Lib.hid (And.intro hm hwr)
      clear hblk hsz hcs hb hm hwr
      go_wp2_with (go_at_call 17; refine (of_any b n _ wr HM.out.2).mono ?_; rintro e w' ⟨rfl, rfl⟩)
      go_roundw
      case rel =>
        refine ⟨k + 1, _, by omega, by go_num, H.out.1.put k _, by simp [H.out.2.1], fun j hj => ?_, H.out.2.2.2.setCell (Nat.le_refl _) _⟩
        rw [Array.getElem?_setIfInBounds]
        by_cases e : k = j
        · subst e
          rw [if_pos rfl, if_pos (by rw [H.out.2.1]; exact hlt), Crc.it_add]
        · rw [if_neg e]; exact H.out.2.2.1 j (by omega)
      case measure => simp [intOf]; omega
    · go_wp2
      go_ret
      obtain rfl : k = 32 := by omega
      refine ⟨w.heap.size, rfl, hblk.lt, fun i hi => ?_, hb⟩
      rw [hblk.cell]; exact hcs i hi

theorem mat1 (i : Nat) (hi : i < 32) : (Crc.it 1 (BitVec.twoPow 32 i)).toNat = if i = 0 then 3988292384 else 2 ^ (i - 1) := by
  revert i
  decide
set_option maxHeartbeats 400000 in
theorem zero_any (w : World) : Calls Tryd.prog 16 #[] w (MatP w 8) := by
  go_enter Tryd.func16, Tryd.ntmps16
  go_wp2
  go_loopw [2] (fun i wr => ∃ (k : Nat) (cs : Array Value), k ≤ 32 ∧ 1 ≤ k ∧ i = .int .i64 k ∧ Blk wr w.heap.size 41 cs ∧ cs.size = 32 ∧ (∀ j, j < k → cs[j]? = some (.int .u32 ((Crc.it 1 (BitVec.twoPow 32 j)).toNat : Int))) ∧ Below w.heap.size w wr) (fun i _ => 32 - (intOf i).toNat)
  case atStart =>
    refine ⟨1, _, by omega, by omega, rfl, Blk.new _ _ _, rfl, fun j hj => ?_, (Below.refl _ _).alloc (Nat.le_refl _) _⟩
    obtain rfl : j = 0 := Nat.lt_one_iff.1 hj
    rfl
  case round =>
    obtain ⟨k, cs, hk, hk1, rfl, hblk, hsz, hcs, hb⟩ := hrel
    by_cases hlt : k < 32
    · have hc2 : wr.cell? ⟨w.heap.size, k, none⟩ = some (cs[k]'(by omega)) := by rw [hblk.cell, Array.getElem?_eq_getElem]
      have hf2 := hblk.free k
      generalize (cs[k]'(by omega)) = old at *
      have H := Lib.hid (And.intro hblk (And.intro hsz (And.intro hcs hb)))
      clear hblk hsz hcs hb
      have e1 : IntKind.i64.wrap ((k : Int) - 1) = (k : Int) - 1 := IntWalk.i64_in _ (by omega)
      have e2 : ((k : Int) - 1).toNat = k - 1 := by omega
      have hki : (k : Int) < 32 := by omega
      have hki2 : (0 : Int) ≤ (k : Int) - 1 := by omega
      go_wp2
      go_region
      go_wp2
      go_roundw
      case rel =>
        have e : ((2 : Int) ^ (k - 1) % 4294967296) = ((Crc.it 1 (BitVec.twoPow 32 k)).toNat : Int) := by
          rw [mat1 k hlt, if_neg (by omega)]
          have h2 : (2 ^ (k - 1) : Nat) < 4294967296 := Nat.lt_of_lt_of_le (Nat.pow_lt_pow_right (by omega) (show k - 1 < 31 by omega)) (by decide)
          have h3 : ((2 : Int) ^ (k - 1)) = ((2 ^ (k - 1) : Nat) : Int) := by simp
          rw [h3]
          exact Int.emod_eq_of_lt (Int.natCast_nonneg _) (Int.ofNat_lt.2 h2)
        rw [e]
        refine ⟨k + 1, _, by omega, by omega, by go_num, H.out.1.put k _, by simp [H.out.2.1], fun j hj => ?_, (H.out.2.2.2.setCell (Nat.le_refl _) _).drew⟩
        rw [Array.getElem?_setIfInBounds]
        by_cases e : k = j
        · subst e
          rw [if_pos rfl, if_pos (by rw [H.out.2.1]; exact hlt)]
        · rw [if_neg e]; exact H.out.2.2.1 j (by omega)
      case measure => simp [intOf]; omega
    · obtain rfl : k = 32 := by omega
      have hm1 : Mat wr w.heap.size 1 := fun i hi => by rw [hblk.cell]; exact hcs i hi
      have H := Lib.hid (And.intro hm1 hb)
      clear hblk hsz hcs hb hm1
      go_wp2_with fail
      refine (twice_any _ 1 wr H.out.1).mono ?_
      rintro e w2 ⟨b2, rfl, hlt2, hm2, hb2⟩
      have H2 := Lib.hid (And.intro hm2 hb2)
      clear hm2 hb2
      go_wp2_with fail
      refine (twice_any b2 2 w2 H2.out.1).mono ?_
      rintro e w3 ⟨b3, rfl, hlt3, hm3, hb3⟩
      have H3 := Lib.hid (And.intro hm3 hb3)
      clear hm3 hb3
      go_wp2_with fail
      refine (twice_any b3 4 w3 H3.out.1).mono ?_
      rintro e w4 ⟨b4, rfl, hlt4, hm4, hb4⟩
      have H4 := Lib.hid (And.intro hm4 hb4)
      clear hm4 hb4
      go_wp2
      go_ret
      have s1 := H.out.2.size
      have s2 := H2.out.2.size
      have s3 := H3.out.2.size
      exact ⟨b4, rfl, hlt4, H4.out.1, ((H.out.2.trans (H2.out.2.mono s1)).trans (H3.out.2.mono (by omega))).trans (H4.out.2.mono (by omega))⟩

theorem and1_u64 (t : Nat) (ht : t < 18446744073709551616) : (bits .and .u64 (t : Int) 1 != 0) = decide (t % 2 = 1) := by
  rw [show (1 : Int) = ((1 : Nat) : Int) from rfl, u64_and_nat _ _ ht (by omega), nat_mask1]
  have : t % 2 = 0 ∨ t % 2 = 1 := by omega
  rcases this with h | h <;> rw [h] <;> rfl
def JoinP (w : World) (v : BitVec 32) (e : Ending) (w' : World) : Prop := e = .returned (.int .u32 (v.toNat : Int)) ∧ Below w.heap.size w w'
set_option maxHeartbeats 400000 in
theorem join_neg (a b : BitVec 32) (x : Int) (hx : x < 0) (w : World) :
    Calls Tryd.prog 13 #[.int .u32 a.toNat, .int .u32 b.toNat, .int .i64 x] w (JoinP w (Crc.xr a b)) := by
  go_enter Tryd.func13, Tryd.ntmps13
  go_wp2_with fail
  refine (zero_any w).mono ?_
  rintro e w1 ⟨b1, rfl, hlt1, hm1, hb1⟩
  have H1 := Lib.hid (And.intro hm1 hb1)
  clear hm1 hb1
  go_wp2_with fail
  refine wp_loop_once ?_
  go_wp2
  go_ret
  exact ⟨rfl, H1.out.2⟩
set_option maxHeartbeats 400000 in
theorem join_nat (a b : BitVec 32) (n : Nat) (hn : n < 9223372036854775808) (w : World) :
    Calls Tryd.prog 13 #[.int .u32 a.toNat, .int .u32 b.toNat, .int .i64 n] w (JoinP w (Crc.xr (Crc.it (8 * n) a) b)) := by
  go_enter Tryd.func13, Tryd.ntmps13
  go_wp2_with fail
  refine (zero_any w).mono ?_
  rintro e w1 ⟨b1, rfl, hlt1, hm1, hb1⟩
  have H1 := Lib.hid (And.intro hm1 hb1)
  clear hm1 hb1
  go_wp2_with fail
  go_loopw [0, 7, 8] (fun x p i wr => ∃ (k m q : Nat) (c : BitVec 32), k < 9223372036854775808 ∧ i = .int .u64 k ∧ p = .pointer (some ⟨q, 0, none⟩) ∧ x = .int .u32 (c.toNat : Int) ∧ Mat wr q m ∧ Crc.it (m * k) c = Crc.it (8 * n) a ∧ Below w.heap.size w wr) (fun _ _ i _ => (intOf i).toNat)
  case atStart => exact ⟨n, 8, b1, a, hn, rfl, rfl, rfl, H1.out.1, rfl, H1.out.2⟩
  case round =>
    obtain ⟨k, m, q, c, hk, rfl, rfl, rfl, hm, hit, hb⟩ := hrel
    have HI := Lib.hid hit
    clear hit
    have ha := and1_u64 k (by omega)
    by_cases hz : k = 0
    · subst hz
      have H := Lib.hid (And.intro hm hb)
      clear hm hb ha
      go_wp2
      go_ret
      refine ⟨?_, H.out.2⟩
      rw [← HI.out]
      rfl
    · have hg : ((k : Int) != 0) = true := by simp; omega
      by_cases hodd : k % 2 = 1
      · rw [decide_eq_true hodd] at ha
        have hn2 : Crc.it (m * 2 * (k / 2)) (Crc.it m c) = Crc.it (8 * n) a := by
          rw [← HI.out, ← Crc.it_add]
          congr 1
          have : k = 2 * (k / 2) + 1 := by omega
          calc m + m * 2 * (k / 2) = m * (2 * (k / 2) + 1) := by rw [Nat.mul_add, Nat.mul_one, Nat.mul_assoc, Nat.add_comm]
            _ = m * k := by rw [← this]
        have HN := Lib.hid hn2
        have HO := Lib.hid hodd
        have H := Lib.hid (And.intro hm hb)
        clear hm hb hn2 hodd
        go_wp2_with fail
        refine (of_any q m c wr H.out.1).mono ?_
        rintro e w2 ⟨rfl, rfl⟩
        go_wp2_with fail
        refine (twice_any q m wr H.out.1).mono ?_
        rintro e w2 ⟨b2, rfl, hlt2, hm2, hb2⟩
        have H2 := Lib.hid (And.intro hm2 hb2)
        clear hm2 hb2
        go_wp2
        go_roundw
        case rel => exact ⟨k / 2, m + m, b2, Crc.it m c, by omega, by go_num, rfl, rfl, H2.out.1, by rw [← HN.out]; congr 2; omega, H.out.2.trans (H2.out.2.mono H.out.2.size)⟩
        case measure => simp [intOf]; omega
      · rw [decide_eq_false hodd] at ha
        have hn2 : Crc.it (m * 2 * (k / 2)) c = Crc.it (8 * n) a := by
          rw [← HI.out]
          congr 1
          have : k = 2 * (k / 2) := by omega
          calc m * 2 * (k / 2) = m * (2 * (k / 2)) := by rw [Nat.mul_assoc]
            _ = m * k := by rw [← this]
        have HN := Lib.hid hn2
        have HO := Lib.hid hodd
        have H := Lib.hid (And.intro hm hb)
        clear hm hb hn2 hodd
        go_wp2_with fail
        refine (twice_any q m wr H.out.1).mono ?_
        rintro e w2 ⟨b2, rfl, hlt2, hm2, hb2⟩
        have H2 := Lib.hid (And.intro hm2 hb2)
        clear hm2 hb2
        go_wp2
        go_roundw
        case rel => exact ⟨k / 2, m + m, b2, c, by omega, by go_num, rfl, rfl, H2.out.1, by rw [← HN.out]; congr 2; omega, H.out.2.trans (H2.out.2.mono H.out.2.size)⟩
        case measure => simp [intOf]; omega
end Go.Proofs.YtggknkkoaaekkaaDoor
