/- What the functions of the sum do: crc.Sum, the document's Step and Sum, own, awake. -/
import Derived.Test.YtlpdjpkdgagjpaaDoorRows
import Derived.Test.YtlpdjpkdgagjpaaDoorMem
import Derived.Test.YtlpdjpkdgagjpaaDoorCrcMath
import Derived.Lib.SlBytesConst
namespace Go.Proofs.YtlpdjpkdgagjpaaDoor
open Go.RowKit Mem

theorem info8 : (Tryd.prog.info? 5).map (fun i => (i.zero, i.size, i.bytes)) = some (some (.int .u8 0), 1, 1) := by kernel_rfl

theorem w32_toNat (x : UInt8) : (Crc.w32 x).toNat = x.toNat := by
  unfold Crc.w32; rw [BitVec.toNat_ofNat]; exact Nat.mod_eq_of_lt (by have := x.toNat_lt; omega)
theorem xor32 (a b : BitVec 32) : bits .xor .u32 (a.toNat : Int) (b.toNat : Int) = ((Crc.xr a b).toNat : Int) := by
  rw [u32_xor_nat _ _ a.isLt b.isLt, Crc.xr, BitVec.toNat_xor]
theorem xor32b (a : BitVec 32) (x : UInt8) : bits .xor .u32 (a.toNat : Int) (x.toNat : Int) = ((Crc.xr a (Crc.w32 x)).toNat : Int) := by
  rw [← w32_toNat x, xor32]
theorem mod32b (x : UInt8) : (x.toNat : Int) % 4294967296 = (x.toNat : Int) := by have := x.toNat_lt; omega
theorem xor32ones (a : BitVec 32) : bits .xor .u32 (a.toNat : Int) 4294967295 = ((Crc.inv a).toNat : Int) := by
  have := xor32 a (BitVec.allOnes 32)
  rw [Crc.xr, BitVec.xor_allOnes] at this
  exact this
theorem not32 (a : BitVec 32) : bits .xor .u32 IntKind.u32.max (a.toNat : Int) = ((Crc.inv a).toNat : Int) := by
  have := xor32 (BitVec.allOnes 32) a
  rw [Crc.xr, BitVec.xor_comm, BitVec.xor_allOnes] at this
  exact this
theorem and15 (a : BitVec 32) : bits .and .u32 (a.toNat : Int) 15 = ((Crc.lo4 a : Nat) : Int) := by
  rw [show (15 : Int) = ((15 : Nat) : Int) from rfl, u32_and_nat _ _ a.isLt (by omega), nat_mask4]; rfl
theorem shr4 (a : BitVec 32) : (a.toNat : Int) / 16 = ((Crc.hi4 a).toNat : Int) := by
  simp [Crc.hi4, BitVec.toNat_ushiftRight, Nat.shiftRight_eq_div_pow]
theorem lo4_lt (a : BitVec 32) : ((Crc.lo4 a : Nat) : Int) < 16 := by have := Crc.lo4_lt a; omega
theorem s_odd (d : BitVec 32) (h : ((d.toNat : Int) % 2 == 1) = true) : bits .xor .u32 ((d.toNat : Int) / 2) 3988292384 = ((Crc.s d).toNat : Int) := by
  have h1 : d.getLsbD 0 = true := by
    have : d.toNat % 2 = 1 := by have := eq_of_beq h; omega
    simp [BitVec.getLsbD, Nat.testBit_zero, this]
  have h2 : ((d >>> 1).toNat : Int) = (d.toNat : Int) / 2 := by simp [BitVec.toNat_ushiftRight, Nat.shiftRight_eq_div_pow]
  have := xor32 (d >>> 1) Crc.poly
  rw [h2] at this
  unfold Crc.s
  rw [h1, if_pos rfl]
  exact this
theorem s_even (d : BitVec 32) (h : ((d.toNat : Int) % 2 == 1) = false) : (d.toNat : Int) / 2 = ((Crc.s d).toNat : Int) := by
  have h1 : d.getLsbD 0 = false := by
    have : d.toNat % 2 = 0 := by have := ne_of_beq_false h; omega
    simp [BitVec.getLsbD, Nat.testBit_zero, this]
  rw [Crc.s_even d h1]
  simp [BitVec.toNat_ushiftRight, Nat.shiftRight_eq_div_pow]
attribute [local go_sem] xor32 xor32b mod32b xor32ones not32 and15 shr4 lo4_lt Crc.lo4_lt

set_option maxHeartbeats 400000 in
theorem refStep_any (c : BitVec 32) (x : UInt8) (w : World) :
    Calls Tryd.prog 109 #[.int .u32 c.toNat, .int .u8 x.toNat] w fun e w' => e = .returned (.int .u32 (Crc.step c x).toNat) ∧ w = w' := by
  go_enter Tryd.func109, Tryd.ntmps109
  go_wp2
  go_loop [0, 5, 6] (fun d i _ => ∃ (k : Nat), k ≤ 8 ∧ i = .int .i64 k ∧ d = .int .u32 (Crc.it k (Crc.xr c (Crc.w32 x))).toNat) (fun _ i _ => 8 - (intOf i).toNat)
  case atStart => exact ⟨0, by omega, rfl, rfl⟩
  case round =>
    obtain ⟨k, hk, rfl, rfl⟩ := hrel
    have hn := Crc.it_succ' k (Crc.xr c (Crc.w32 x))
    generalize hd : Crc.it k (Crc.xr c (Crc.w32 x)) = d at *
    have HN := Lib.hid hn
    have HD := Lib.hid hd
    clear hn hd
    by_cases hlt : k < 8
    · go_wp2
      all_goals
        go_round
        case rel => exact ⟨k + 1, by omega, by go_num, by rw [HN.out]; first | rw [s_odd d (by assumption)] | rw [s_even d (by assumption)]⟩
        case measure => simp [intOf]; omega
    · go_wp2
      go_ret
      obtain rfl : k = 8 := by omega
      rw [← HD.out]
      exact ⟨rfl, rfl⟩

theorem crc_snoc (bs : List UInt8) (k : Nat) (h : k < bs.length) : (bs.take (k + 1)).foldl Crc.step (BitVec.allOnes 32) = Crc.step ((bs.take k).foldl Crc.step (BitVec.allOnes 32)) (bs.getD k 0) := by
  rw [List.take_succ_eq_append_getElem h, List.foldl_append]
  simp [List.getD_eq_getElem?_getD, List.getElem?_eq_getElem h]

set_option maxHeartbeats 400000 in
theorem refSum_any (A : Option Addr) (n cap : Nat) (bs : List UInt8) (w : World) (h : BS w A n bs) (hn : n ≤ 140737488351232) :
    Calls Tryd.prog 90 #[.slice A n cap] w fun e w' => e = .returned (.int .u32 (Crc.sum bs).toNat) ∧ w = w' := by
  have hl := h.1
  have HL := Lib.hid hl
  clear hl
  go_enter Tryd.func90, Tryd.ntmps90
  go_wp2
  go_loop [3, 4] (fun d i => ∃ (k : Nat), k ≤ n ∧ i = .int .i64 k ∧ d = .int .u32 ((bs.take k).foldl Crc.step (BitVec.allOnes 32)).toNat) (fun _ i => n - (intOf i).toNat)
  case atStart => exact ⟨0, by omega, rfl, rfl⟩
  case round =>
    obtain ⟨k, hk, rfl, rfl⟩ := hrel
    generalize hd : (bs.take k).foldl Crc.step (BitVec.allOnes 32) = d at *
    have HD := Lib.hid hd
    clear hd
    by_cases hlt : k < n
    · have hs := crc_snoc bs k (by rw [HL.out]; exact hlt)
      rw [HD.out] at hs
      have HS := Lib.hid hs
      clear hs
      obtain ⟨b, off, rfl, hc⟩ := h.at_ hlt
      generalize bs.getD k 0 = x at *
      have HB := Lib.hid h
      clear h
      go_wp2_with (go_at_call 109; refine (refStep_any _ _ _).mono ?_; rintro e w' ⟨rfl, rfl⟩)
      go_round
      case rel => exact ⟨k + 1, by omega, by go_num, by rw [HS.out]⟩
      case measure => simp [intOf]; omega
    · go_wp2
      go_ret
      obtain rfl : k = n := by omega
      refine ⟨?_, rfl⟩
      rw [← HD.out, List.take_of_length_le (by rw [HL.out]; omega)]
      rfl

/-- the table of half a byte lies in its variable -/
def Half (w : World) : Prop := ∀ i, i < 16 → w.cell? ⟨0, i, none⟩ = some (.int .u32 ((Crc.tab.getD i 0 : Nat) : Int))

set_option maxHeartbeats 400000 in
theorem crcSum_any (A : Option Addr) (n cap : Nat) (bs : List UInt8) (w : World) (h : BS w A n bs) (hn : n ≤ 140737488351232) (ht : Half w) :
    Calls Tryd.prog 88 #[.slice A n cap] w fun e w' => e = .returned (.int .u32 (Crc.sum bs).toNat) ∧ w = w' := by
  have hl := h.1
  have HL := Lib.hid hl
  clear hl
  go_enter Tryd.func88, Tryd.ntmps88
  go_wp2
  go_loop [3, 5, 8] (fun d _ i => ∃ (k : Nat), k ≤ n ∧ i = .int .i64 k ∧ d = .int .u32 ((bs.take k).foldl Crc.step (BitVec.allOnes 32)).toNat) (fun _ _ i => n - (intOf i).toNat)
  case atStart => exact ⟨0, by omega, rfl, rfl⟩
  case round =>
    obtain ⟨k, hk, rfl, rfl⟩ := hrel
    generalize hd : (bs.take k).foldl Crc.step (BitVec.allOnes 32) = d at *
    have HD := Lib.hid hd
    clear hd
    by_cases hlt : k < n
    · have hs := crc_snoc bs k (by rw [HL.out]; exact hlt)
      rw [HD.out] at hs
      have HS := Lib.hid hs
      clear hs
      obtain ⟨b, off, rfl, hc⟩ := h.at_ hlt
      generalize bs.getD k 0 = x at *
      have HB := Lib.hid h
      clear h
      have ht' : ∀ a, w.cell? ⟨0, Crc.lo4 a, none⟩ = some (.int .u32 ((Crc.hx a).toNat : Int)) := fun a => by
        rw [Crc.hx_toNat]; exact ht _ (Crc.lo4_lt a)
      go_wp2
      go_round
      case rel => exact ⟨k + 1, by omega, by go_num, by rw [HS.out, Crc.half2]⟩
      case measure => simp [intOf]; omega
    · go_wp2
      go_ret
      obtain rfl : k = n := by omega
      refine ⟨?_, rfl⟩
      rw [← HD.out, List.take_of_length_le (by rw [HL.out]; omega)]
      rfl
theorem Half.below {w w' : World} (h : Half w) (hb : Below w.heap.size w w') : Half w' := by
  intro i hi
  have h0 := h i hi
  rw [← h0]
  exact hb.cell (World.block_lt_of_cell? w _ h0)
theorem Half.alloc {w : World} (h : Half w) (o : Obj) : Half (w.alloc o) := h.below ((Below.refl _ _).alloc (Nat.le_refl _) o)

theorem sum_doc : (Crc.sum [49, 50, 51, 52, 53, 54, 55, 56, 57]).toNat = 3421780262 := by decide +kernel

end Go.Proofs.YtlpdjpkdgagjpaaDoor
