/- The document's functions of layer 1: Wide, TakeWide, Short, TakeShort, Less; and the law's awake. -/
import Derived.Test.YtlijfnekopjogaaNumWalks
import Derived.Test.YtlijfnekopjogaaSame
namespace Go.Proofs.Ytlijfnekopjogaa
open Go.RowKit Mem
set_option linter.unusedVariables false

set_option maxHeartbeats 1000000 in
theorem refShort_any (n : Nat) (w : World) (hn : n < 18446744073709551616) :
    Calls Try.prog 99 #[.int .u64 n] w (OwnB 5 w (Num.shortB n)) := by
  obtain ⟨i0, hi0, hz0, hz1, hz2⟩ := info_parts ninfo8
  have HI := Lib.hid (And.intro hi0 (And.intro hz0 (And.intro hz1 hz2)))
  clear hi0 hz0 hz1 hz2
  go_enter Try.func99, Try.ntmps99
  go_wp2
  go_loopw [0, 3] (fun x v wr => ∃ (j m : Nat) (acc : List UInt8), j ≤ 9 ∧ x = .int .u64 m ∧ m < 2 ^ (63 - 7 * j) ∧ Num.shortGo (10 - j) m acc = Num.shortB n ∧ acc.length = j + 1 ∧ wr.ownsRow w.heap.size 5 1 v (j + 1) (u8s acc) ∧ Below w.heap.size w wr) (fun x _ _ => (intOf x).toNat)
  case atStart =>
    refine ⟨0, n / 128, [UInt8.ofNat (n % 128)], by omega, by simp, by have : (2 : Nat) ^ (63 - 7 * 0) = 9223372036854775808 := by decide
                                                                       omega, rfl, rfl, ?_, (Below.refl _ _).alloc (Nat.le_refl _) _⟩
    have e : ((n : Int) % 128) = ((UInt8.ofNat (n % 128)).toNat : Int) := by rw [UInt8.toNat_ofNat']; omega
    rw [e]
    exact World.ownsRow_lit w _ 1 (Nat.le_refl _) (by simp [maxLen]) (by simp)
  case round =>
    obtain ⟨j, m, acc, hj, rfl, hm, hgo, hacc, ho, hb⟩ := hrel
    have hm64 : m < 18446744073709551616 := Nat.lt_of_lt_of_le hm (Nat.le_trans (Nat.pow_le_pow_right (by omega) (show 63 - 7 * j ≤ 64 by omega)) (by decide))
    by_cases hz : m = 0
    · subst hz
      have hfin : acc = Num.shortB n := by
        rw [← hgo]
        obtain ⟨f, hf⟩ : ∃ f, 10 - j = f + 1 := ⟨9 - j, by omega⟩
        rw [hf]; rfl
      have H := Lib.hid (And.intro ho (And.intro hb (And.intro hfin hacc)))
      clear ho hb hgo hfin hacc
      go_wp2
      go_ret
      refine ⟨_, rfl, ?_, H.out.2.1⟩
      rw [← H.out.2.2.1, H.out.2.2.2]
      exact H.out.1
    · have hj8 : j ≤ 8 := by
        rcases Nat.lt_or_ge j 9 with h | h
        · omega
        · obtain rfl : j = 9 := by omega
          simp at hm
          omega
      have hm' : m / 128 < 2 ^ (63 - 7 * (j + 1)) := by
        have : 2 ^ (63 - 7 * j) = 128 * 2 ^ (63 - 7 * (j + 1)) := by rw [show (128 : Nat) = 2 ^ 7 from rfl, ← Nat.pow_add]; congr 1; omega
        omega
      have hgo' : Num.shortGo (10 - (j + 1)) (m / 128) (UInt8.ofNat (m % 128 + 128) :: acc) = Num.shortB n := by
        rw [← hgo]
        obtain ⟨f, hf⟩ : ∃ f, 10 - j = f + 1 := ⟨9 - j, by omega⟩
        rw [hf, show 10 - (j + 1) = f by omega]
        conv => rhs; rw [Num.shortGo, if_neg hz]
      obtain ⟨A1, c1, rfl⟩ := own_slice ho
      have e : ((m : Int) % 128 + 128) = ((UInt8.ofNat (m % 128 + 128)).toNat : Int) := by rw [UInt8.toNat_ofNat']; omega
      have e2 : ((m : Int) % 128 + 128) % 256 = ((UInt8.ofNat (m % 128 + 128)).toNat : Int) := by rw [UInt8.toNat_ofNat']; omega
      generalize hx : UInt8.ofNat (m % 128 + 128) = x at *
      have hBS : BS (wr.alloc (.cells #[u8 x] 5)) A1 (j + 1) acc := (BS.of_own ho).keep (by simp) (fun b hb => Below.heap_alloc _ _ _ hb)
      have ho2 : (wr.alloc (.cells #[u8 x] 5)).ownsRow w.heap.size 5 1 (.slice (some ⟨wr.heap.size, 0, none⟩) 1 1) 1 (u8s [x]) := World.ownsRow_lit wr _ 1 hb.size (by simp [maxLen]) (by simp)
      have H := Lib.hid (And.intro hBS (And.intro ho2 (And.intro hb (And.intro hgo' (And.intro hm' (And.intro hacc (And.intro hx hz)))))))
      clear hBS ho2 ho hb hgo hgo' hm hm' hacc hx hz
      have hmp : (0 : Int) < (m : Int) := by have := H.out.2.2.2.2.2.2.2; omega
      go_wp2_with (at_builtin; refine wpList_append_bs _ rfl _ _ 33 rfl w.heap.size 5 i0 Try.underlying33 HI.out.1 HI.out.2.1 HI.out.2.2.1 HI.out.2.2.2 (.slice (some ⟨wr.heap.size, 0, none⟩) 1 1) 1 (u8s [x]) rfl H.out.2.1 A1 (j + 1) c1 acc rfl H.out.1 (by omega) (by have := H.out.2.2.1.size; simp; omega) ?_; intro v' w1 hown hg1 hat)
      go_roundw
      case rel =>
        have e7 : 1 + (j + 1) = j + 1 + 1 := by omega
        rw [← u8s_append, e7] at hown
        refine ⟨j + 1, m / 128, x :: acc, by omega, by simp, H.out.2.2.2.2.1, H.out.2.2.2.1, by simp [H.out.2.2.2.2.2.1], hown, ?_⟩
        have := H.out.2.2.1.size
        exact (H.out.2.2.1.alloc this _).grown hg1 (by simp; omega) (by simp [Value.ownBlock]; omega)
      case measure => have := H.out.2.2.2.2.2.2.2; simp [intOf]; omega

theorem wideB_cons (i : Nat) : ∀ n, Num.wideB n (i + 1) = UInt8.ofNat (n / 256 ^ i) :: Num.wideB n i := by
  induction i with
  | zero => intro n; simp [Num.wideB]
  | succ i ih =>
    intro n
    have e : Num.wideB n (i + 1 + 1) = Num.wideB (n / 256) (i + 1) ++ [UInt8.ofNat n] := rfl
    have e2 : Num.wideB n (i + 1) = Num.wideB (n / 256) i ++ [UInt8.ofNat n] := rfl
    rw [e, e2, ih, Nat.div_div_eq_div_mul, Nat.pow_succ, Nat.mul_comm 256]
    rfl

def WideP (e8 : TypeId) (w : World) (n k : Nat) (e : Ending) (w' : World) : Prop :=
  (n < 256 ^ k → OwnBE e8 w (Num.wideB n k) e w') ∧ (¬ n < 256 ^ k → e = .returned (.tuple #[.slice none 0 0, .int .i64 1])) ∧ Below w.heap.size w w'
set_option maxRecDepth 100000 in
set_option maxHeartbeats 1000000 in
theorem refTakeShort_any (A : Option Addr) (n cap : Nat) (bs : List UInt8) (w : World) (hbs : BS w A n bs) (hn : n ≤ 140737488351232) :
    Calls Try.prog 94 #[.slice A n cap] w (TakeP w (Num.takeShort bs)) := by
  have HL := Lib.hid hbs.1
  go_enter Try.func94, Try.ntmps94
  go_wp2
  go_loop [2, 3, 4, 5, 6, 7] (fun r0 r1 r2 x i _ => ∃ (k u : Nat), k ≤ n ∧ i = .int .i64 k ∧ x = .int .u64 u ∧ u < 18446744073709551616 ∧ r0 = .int .u64 0 ∧ r1 = .int .i64 0 ∧ r2 = .int .i64 0 ∧ Num.takeGo k u (bs.drop k) = Num.takeShort bs) (fun _ _ _ _ i _ => n - (intOf i).toNat)
  case atStart => exact ⟨0, 0, by omega, rfl, rfl, by omega, rfl, rfl, rfl, rfl⟩
  case round =>
    obtain ⟨k, u, hk, rfl, rfl, hu, rfl, rfl, rfl, hgo⟩ := hrel
    by_cases hlt : k < n
    · rw [takeGo_step bs k k u (by rw [HL.out]; exact hlt)] at hgo
      obtain ⟨b, off, rfl, hc⟩ := hbs.at_ hlt
      generalize bs.getD k 0 = c at *
      have HB := Lib.hid hbs
      have HG := Lib.hid hgo
      clear hbs hgo
      have hcl := c.toNat_lt
      by_cases h1 : k = 0 ∧ c.toNat = 128
      · have hg2 : ((c.toNat : Int) == 128) = true := by rw [beq_iff_eq]; omega
        have hg1 : ((k : Int) == 0) = true := by rw [beq_iff_eq]; omega
        have hR := HG.out
        rw [if_pos h1] at hR
        have HR := Lib.hid hR
        clear hR h1
        go_wp2
        go_ret3
        rw [← HR.out]
        exact ⟨rfl, rfl⟩
      · have hR := HG.out
        rw [if_neg h1] at hR
        have hsw : (((k : Int) == 0) = false) ∨ (((k : Int) == 0) = true ∧ ((c.toNat : Int) == 128) = false) := by
          by_cases h0 : k = 0
          · right
            refine ⟨by rw [beq_iff_eq]; omega, ?_⟩
            rw [beq_eq_false_iff_ne]
            intro e
            exact h1 ⟨h0, by omega⟩
          · left
            rw [beq_eq_false_iff_ne]; omega
        clear h1 HG
        by_cases h2 : 144115188075855872 ≤ u
        · rw [if_pos h2] at hR
          have HR := Lib.hid hR
          clear hR
          rcases hsw with hs | ⟨hs, hs2⟩
          all_goals
            go_wp2
            go_ret3
            rw [← HR.out]
            exact ⟨rfl, rfl⟩
        · rw [if_neg h2] at hR
          by_cases h3 : c.toNat < 128
          · rw [if_pos h3] at hR
            have HR := Lib.hid hR
            clear hR
            rcases hsw with hs | ⟨hs, hs2⟩
            all_goals
              go_wp2
              go_ret3
              rw [← HR.out]
              refine ⟨?_, rfl⟩
              show Ending.returned (.tuple #[.int .u64 _, .int .i64 _, .int .i64 _]) = _
              go_num
          · rw [if_neg h3] at hR
            have HR := Lib.hid hR
            clear hR
            rcases hsw with hs | ⟨hs, hs2⟩
            all_goals
              go_wp2
              go_round
              case rel => exact ⟨k + 1, u * 128 + c.toNat % 128, by omega, by go_num, by go_num, by omega, rfl, rfl, rfl, HR.out⟩
              case measure => simp [intOf]; omega
    · obtain rfl : k = n := by omega
      rw [List.drop_of_length_le (by rw [HL.out]; omega)] at hgo
      have HG := Lib.hid hgo
      clear hgo
      go_wp2
      go_ret3
      rw [← HG.out]
      exact ⟨rfl, rfl⟩

theorem less_drop (a b : List UInt8) (k : Nat) (ha : k < a.length) (hb : k < b.length) : Num.less (a.drop k) (b.drop k) = if a.getD k 0 = b.getD k 0 then Num.less (a.drop (k + 1)) (b.drop (k + 1)) else decide (a.getD k 0 < b.getD k 0) := by
  rw [List.drop_eq_getElem_cons ha, List.drop_eq_getElem_cons hb, List.getD_eq_getElem?_getD, List.getElem?_eq_getElem ha, List.getD_eq_getElem?_getD, List.getElem?_eq_getElem hb]
  rfl
theorem less_end (a b : List UInt8) (h : a = [] ∨ b = []) : Num.less a b = decide (a.length < b.length) := by
  rcases h with rfl | rfl
  · cases b <;> simp [Num.less]
  · cases a <;> simp [Num.less]
theorem byte_lt_int (x y : UInt8) : decide (x.toNat < y.toNat) = decide (x < y) := by
  apply decide_eq_decide.2
  rw [UInt8.lt_iff_toNat_lt]
theorem doc300 : Num.shortB 300 = [130, 44] := by decide
end Go.Proofs.Ytlijfnekopjogaa
