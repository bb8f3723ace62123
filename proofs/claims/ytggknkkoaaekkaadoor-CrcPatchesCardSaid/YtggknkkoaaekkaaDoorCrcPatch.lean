/- crc.back and crc.Patch. -/
import Derived.Test.YtggknkkoaaekkaaDoorCrcWalks
import Derived.Test.YtggknkkoaaekkaaDoorCrcMath2
namespace Go.Proofs.YtggknkkoaaekkaaDoor
open Go.RowKit Mem
set_option linter.unusedVariables false
attribute [local go_sem] xor32 xor32b mod32b xor32ones not32 and15 shr4

theorem top32 (d : BitVec 32) : (bits .and .u32 (d.toNat : Int) 2147483648 != 0) = d.getLsbD 31 := by
  rw [show (2147483648 : Int) = ((2147483648 : Nat) : Int) from rfl, u32_and_nat _ _ d.isLt (by omega), show (2147483648 : Nat) = 2 ^ 31 from rfl, nat_bit, BitVec.getLsbD, Nat.testBit_eq_decide_div_mod_eq]
  have : d.toNat / 2 ^ 31 % 2 = 0 ∨ d.toNat / 2 ^ 31 % 2 = 1 := by omega
  rcases this with h | h <;> rw [h] <;> decide
theorem un_odd (d : BitVec 32) (h : (bits .and .u32 (d.toNat : Int) 2147483648 != 0) = true) :
    bits .or .u32 (bits .xor .u32 (d.toNat : Int) 3988292384 * 2 % 4294967296) 1 = ((Crc.unstep d).toNat : Int) := by
  rw [top32] at h
  have e1 : bits .xor .u32 (d.toNat : Int) 3988292384 = ((d ^^^ Crc.poly).toNat : Int) := xor32 d Crc.poly
  rw [e1]
  have e2 : ((d ^^^ Crc.poly).toNat : Int) * (2 : Int) % (4294967296 : Int) = (((d ^^^ Crc.poly) <<< 1).toNat : Int) := by
    rw [BitVec.toNat_shiftLeft, Nat.shiftLeft_eq]
    omega
  rw [e2, show (1 : Int) = ((1#32).toNat : Int) from rfl, u32_or_nat _ _ (BitVec.isLt _) (by decide), ← BitVec.toNat_or]
  unfold Crc.unstep
  rw [if_pos h]
theorem un_even (d : BitVec 32) (h : (bits .and .u32 (d.toNat : Int) 2147483648 != 0) = false) : (d.toNat : Int) * 2 % 4294967296 = ((Crc.unstep d).toNat : Int) := by
  rw [top32] at h
  unfold Crc.unstep
  rw [h, if_neg (by simp), BitVec.toNat_shiftLeft, Nat.shiftLeft_eq]
  omega

set_option maxHeartbeats 400000 in
theorem back_any (c : BitVec 32) (w : World) :
    Calls Tryd.prog 15 #[.int .u32 c.toNat] w fun e w' => e = .returned (.int .u32 (Crc.un 8 c).toNat) ∧ w = w' := by
  go_enter Tryd.func15, Tryd.ntmps15
  go_wp2
  go_loop [0, 3] (fun d i => ∃ (k : Nat), k ≤ 8 ∧ i = .int .i64 k ∧ d = .int .u32 (Crc.un k c).toNat) (fun _ i => 8 - (intOf i).toNat)
  case atStart => exact ⟨0, by omega, rfl, rfl⟩
  case round =>
    obtain ⟨k, hk, rfl, rfl⟩ := hrel
    have hn : Crc.un (k + 1) c = Crc.unstep (Crc.un k c) := rfl
    generalize hd : Crc.un k c = d at *
    have HN := Lib.hid hn
    have HD := Lib.hid hd
    clear hn hd
    by_cases hlt : k < 8
    · go_wp2
      all_goals
        go_round
        case rel => exact ⟨k + 1, by omega, by go_num, by rw [HN.out]; first | rw [un_odd d (by assumption)] | rw [un_even d (by assumption)]⟩
        case measure => simp [intOf]; omega
    · go_wp2
      go_ret
      obtain rfl : k = 8 := by omega
      rw [← HD.out]
      exact ⟨rfl, rfl⟩
theorem un_add (m n : Nat) (c : BitVec 32) : Crc.un (m + n) c = Crc.un m (Crc.un n c) := by
  induction m with
  | zero => simp [Crc.un]
  | succ m ih => rw [Nat.succ_add]; show Crc.unstep _ = Crc.unstep _; rw [ih]

theorem byte_of (v : BitVec 32) (i : Nat) (m : Int) (hm : m = ((2 ^ (8 * i) : Nat) : Int)) : (v.toNat : Int) / m % 256 = ((Crc.byteAt v i).toNat : Int) := by
  subst hm
  unfold Crc.byteAt
  rw [UInt8.toNat_ofNat']
  omega

set_option maxHeartbeats 400000 in
theorem patch_any (A : Option Addr) (n cap : Nat) (bs : List UInt8) (want : BitVec 32) (w : World) (hbs : BS w A n bs) (hn : n ≤ 140737488351232) (ht : Half w) :
    Calls Tryd.prog 12 #[.slice A n cap, .int .u32 want.toNat] w (OwnB 5 w (Crc.four (Crc.xr (Crc.un 32 (Crc.inv want)) (Crc.crc bs)))) := by
  go_enter Tryd.func12, Tryd.ntmps12
  go_wp2
  go_loop [5, 8] (fun d i => ∃ (k : Nat), k ≤ 4 ∧ i = .int .i64 k ∧ d = .int .u32 (Crc.un (8 * k) (Crc.inv want)).toNat) (fun _ i => 4 - (intOf i).toNat)
  case atStart => exact ⟨0, by omega, rfl, rfl⟩
  case round =>
    obtain ⟨k, hk, rfl, rfl⟩ := hrel
    have hn' : Crc.un (8 * (k + 1)) (Crc.inv want) = Crc.un 8 (Crc.un (8 * k) (Crc.inv want)) := by rw [← un_add]; congr 1; omega
    generalize hd : Crc.un (8 * k) (Crc.inv want) = d at *
    have HN := Lib.hid hn'
    have HD := Lib.hid hd
    clear hn' hd
    by_cases hlt : k < 4
    · go_wp2_with (go_at_call 15; refine (back_any _ _).mono ?_; rintro e w' ⟨rfl, rfl⟩)
      go_round
      case rel => exact ⟨k + 1, by omega, by go_num, by rw [HN.out]⟩
      case measure => simp [intOf]; omega
    · go_wp2_with fail
      refine (crcSum_any A n cap bs w hbs hn ht).mono ?_
      rintro e w' ⟨rfl, rfl⟩
      go_wp2
      go_ret
      obtain rfl : k = 4 := by omega
      have e1 : Crc.inv (Crc.sum bs) = Crc.crc bs := Crc.inv_inv _
      rw [e1, ← HD.out]
      generalize Crc.xr (Crc.un (8 * 4) (Crc.inv want)) (Crc.crc bs) = v
      rw [show (v.toNat : Int) % 256 = ((Crc.byteAt v 0).toNat : Int) from by have := byte_of v 0 1 rfl; rwa [Int.ediv_one] at this, byte_of v 1 256 rfl, byte_of v 2 65536 rfl,
        show (v.toNat : Int) / 16777216 = ((Crc.byteAt v 3).toNat : Int) from by have := byte_of v 3 16777216 rfl; have := v.isLt; omega]
      exact ⟨.slice (some ⟨w.heap.size, 0, none⟩) 4 4, rfl, World.ownsRow_lit w _ 4 (Nat.le_refl _) (by simp [maxLen]) (by simp), (Below.refl _ _).alloc (Nat.le_refl _) _⟩
end Go.Proofs.YtggknkkoaaekkaaDoor
