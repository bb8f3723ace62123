/- The document's functions of layer 1: Wide, TakeWide, Short, TakeShort, Less; and the law's awake. -/
import Derived.Test.YtlpdjpkdgagjpaaDoorNumWalks
import Derived.Test.YtlpdjpkdgagjpaaDoorSame
namespace Go.Proofs.YtlpdjpkdgagjpaaDoor
open Go.RowKit Mem
set_option linter.unusedVariables false

set_option maxHeartbeats 1000000 in
theorem refShort_any (n : Nat) (w : World) (hn : n < 18446744073709551616) :
    Calls Tryd.prog 69 #[.int .u64 n] w (OwnB 5 w (Num.shortB n)) := by
  obtain ⟨i0, hi0, hz0, hz1, hz2⟩ := info_parts ninfo8
  have HI := Lib.hid (And.intro hi0 (And.intro hz0 (And.intro hz1 hz2)))
  clear hi0 hz0 hz1 hz2
  go_enter Tryd.func69, Tryd.ntmps69
  go_wp2
  go_loopw [0, 3] (fun x v wr => ∃ (j m : Nat) (acc : List UInt8), j ≤ 9 ∧ x = .int .u64 m ∧ m < 2 ^ (63 - 7 * j) ∧ Num.shortGo (10 - j) m acc = Num.shortB n ∧ acc.length = j + 1 ∧ wr.ownsRow w.heap.size 5 1 v (j + 1) (u8s acc) ∧ Below w.heap.size w wr) (fun x _ _ => (intOf x).toNat)
  case atStart =>
    refine ⟨0, n / 128, [UInt8.ofNat (n % 128)], by omega, by simp, by have : (2 : Nat) ^ (63 - 7 * 0) = 9223372036854775808 := by decide
                                                                       omega, rfl, rfl, ?_, (Below.refl _ _).alloc (Nat.le_refl _) _⟩
    have e : ((n : Int) % 128) = ((UInt8.ofNat (n % 128)).toNat : Int) := by rw [UInt8.toNat_ofNat']; omega
    rw [e]
    exact World.ownsRow_lit w _ 1 (Nat.le_refl _) (by simp [maxLen]) (by simp)
  case round =>
    obtain ⟨j, m, acc, hj, rfl, hm, hgo, hacc, ho, hb⟩ := hrel
    have hm64 : m < 18446744073709551616 := Nat.lt_of_lt_of_le hm (Nat.le_trans (Nat.pow_le_pow_right (by omega) (show 63 - 7 * j ≤ 64 by omega)) (by decide))
    by_cases hz : m = 0
    · subst hz
      have hfin : acc = Num.shortB n := by
        rw [← hgo]
        obtain ⟨f, hf⟩ : ∃ f, 10 - j = f + 1 := ⟨9 - j, by omega⟩
        rw [hf]; rfl
      have H := Lib.hid (And.intro ho (And.intro hb (And.intro hfin hacc)))
      clear ho hb hgo hfin hacc
      go_wp2
      go_ret
      refine ⟨_, rfl, ?_, H.out.2.1⟩
      rw [← H.out.2.2.1, H.out.2.2.2]
      exact H.out.1
    · have hj8 : j ≤ 8 := by
        rcases Nat.lt_or_ge j 9 with h | h
        · omega
        · obtain rfl : j = 9 := by omega
          simp at hm
          omega
      have hm' : m / 128 < 2 ^ (63 - 7 * (j + 1)) := by
        have : 2 ^ (63 - 7 * j) = 128 * 2 ^ (63 - 7 * (j + 1)) := by rw [show (128 : Nat) = 2 ^ 7 from rfl, ← Nat.pow_add]; congr 1; omega
        omega
      have hgo' : Num.shortGo (10 - (j + 1)) (m / 128) (UInt8.ofNat (m % 128 + 128) :: acc) = Num.shortB n := by
        rw [← hgo]
        obtain ⟨f, hf⟩ : ∃ f, 10 - j = f + 1 := ⟨9 - j, by omega⟩
        rw [hf, show 10 - (j + 1) = f by omega]
        conv => rhs; rw [Num.shortGo, if_neg hz]
      obtain ⟨A1, c1, rfl⟩ := own_slice ho
      have e : ((m : Int) % 128 + 128) = ((UInt8.ofNat (m % 128 + 128)).toNat : Int) := by rw [UInt8.toNat_ofNat']; omega
      have e2 : ((m : Int) % 128 + 128) % 256 = ((UInt8.ofNat (m % 128 + 128)).toNat : Int) := by rw [UInt8.toNat_ofNat']; omega
      generalize hx : UInt8.ofNat (m % 128 + 128) = x at *
      have hBS : BS (wr.alloc (.cells #[u8 x] 5)) A1 (j + 1) acc := (BS.of_own ho).keep (by simp) (fun b hb => Below.heap_alloc _ _ _ hb)
      have ho2 : (wr.alloc (.cells #[u8 x] 5)).ownsRow w.heap.size 5 1 (.slice (some ⟨wr.heap.size, 0, none⟩) 1 1) 1 (u8s [x]) := World.ownsRow_lit wr _ 1 hb.size (by simp [maxLen]) (by simp)
      have H := Lib.hid (And.intro hBS (And.intro ho2 (And.intro hb (And.intro hgo' (And.intro hm' (And.intro hacc (And.intro hx hz)))))))
      clear hBS ho2 ho hb hgo hgo' hm hm' hacc hx hz
      have hmp : (0 : Int) < (m : Int) := by have := H.out.2.2.2.2.2.2.2; omega
      go_wp2_with (at_builtin; refine wpList_append_bs _ rfl _ _ 38 rfl w.heap.size 5 i0 Tryd.underlying38 HI.out.1 HI.out.2.1 HI.out.2.2.1 HI.out.2.2.2 (.slice (some ⟨wr.heap.size, 0, none⟩) 1 1) 1 (u8s [x]) rfl H.out.2.1 A1 (j + 1) c1 acc rfl H.out.1 (by omega) (by have := H.out.2.2.1.size; simp; omega) ?_; intro v' w1 hown hg1 hat)
      go_roundw
      case rel =>
        have e7 : 1 + (j + 1) = j + 1 + 1 := by omega
        rw [← u8s_append, e7] at hown
        refine ⟨j + 1, m / 128, x :: acc, by omega, by simp, H.out.2.2.2.2.1, H.out.2.2.2.1, by simp [H.out.2.2.2.2.2.1], hown, ?_⟩
        have := H.out.2.2.1.size
        exact (H.out.2.2.1.alloc this _).grown hg1 (by simp; omega) (by simp [Value.ownBlock]; omega)
      case measure => have := H.out.2.2.2.2.2.2.2; simp [intOf]; omega

theorem wideB_cons (i : Nat) : ∀ n, Num.wideB n (i + 1) = UInt8.ofNat (n / 256 ^ i) :: Num.wideB n i := by
  induction i with
  | zero => intro n; simp [Num.wideB]
  | succ i ih =>
    intro n
    have e : Num.wideB n (i + 1 + 1) = Num.wideB (n / 256) (i + 1) ++ [UInt8.ofNat n] := rfl
    have e2 : Num.wideB n (i + 1) = Num.wideB (n / 256) i ++ [UInt8.ofNat n] := rfl
    rw [e, e2, ih, Nat.div_div_eq_div_mul, Nat.pow_succ, Nat.mul_comm 256]
    rfl

set_option maxHeartbeats 400000 in
theorem refWide_bad (n : Nat) (x : Int) (w : World) (hx : x < 1 ∨ 8 < x) :
    Calls Tryd.prog 46 #[.int .u64 n, .int .i64 x] w fun e w' => e = .returned (.tuple #[.slice none 0 0, .int .i64 1]) ∧ w = w' := by
  by_cases h1 : x < 1
  · have hg : decide (x < 1) = true := by simpa using h1
    go_enter Tryd.func46, Tryd.ntmps46
    go_wp2
    go_ret2
    exact ⟨rfl, rfl⟩
  · have hg : decide (x < 1) = false := by simpa using h1
    have hg2 : decide (8 < x) = true := by simp; omega
    go_enter Tryd.func46, Tryd.ntmps46
    go_wp2
    go_ret2
    exact ⟨rfl, rfl⟩
def WideP (e8 : TypeId) (w : World) (n k : Nat) (e : Ending) (w' : World) : Prop :=
  (n < 256 ^ k → OwnBE e8 w (Num.wideB n k) e w') ∧ (¬ n < 256 ^ k → e = .returned (.tuple #[.slice none 0 0, .int .i64 1])) ∧ Below w.heap.size w w'
set_option maxHeartbeats 1000000 in
theorem refWide_any (n k : Nat) (w : World) (hn : n < 18446744073709551616) (h1 : 1 ≤ k) (h8 : k ≤ 8) :
    Calls Tryd.prog 46 #[.int .u64 n, .int .i64 k] w (WideP 5 w n k) := by
  have hg : decide ((k : Int) < 1) = false := by simp; omega
  have hg2 : decide (8 < (k : Int)) = false := by simp; omega
  obtain ⟨i0, hi0, hz0, hz1, hz2⟩ := info_parts ninfo8
  have HI := Lib.hid (And.intro hi0 (And.intro hz0 (And.intro hz1 hz2)))
  clear hi0 hz0 hz1 hz2
  go_enter Tryd.func46, Tryd.ntmps46
  go_wp2
  go_loopw [0, 6, 7] (fun x v i wr => ∃ (j m : Nat), j ≤ k ∧ i = .int .i64 j ∧ x = .int .u64 m ∧ m = n / 256 ^ j ∧ wr.ownsRow w.heap.size 5 1 v j (u8s (Num.wideB n j)) ∧ Below w.heap.size w wr) (fun _ _ i _ => k - (intOf i).toNat)
  case atStart => exact ⟨0, n, by omega, rfl, rfl, by simp, World.ownsRow_nil _ _ _ _, Below.refl _ _⟩
  case round =>
    obtain ⟨j, m, hj, rfl, rfl, hm, ho, hb⟩ := hrel
    have hm64 : m < 18446744073709551616 := by rw [hm]; exact Nat.lt_of_le_of_lt (Nat.div_le_self _ _) hn
    by_cases hlt : j < k
    · obtain ⟨A1, c1, rfl⟩ := own_slice ho
      have e : ((m : Int) % 256) = ((UInt8.ofNat m).toNat : Int) := by rw [UInt8.toNat_ofNat']; omega
      have hcons := wideB_cons j n
      rw [← hm] at hcons
      have hm2 : m / 256 = n / 256 ^ (j + 1) := by rw [hm, Nat.div_div_eq_div_mul, Nat.pow_succ]
      generalize hx : UInt8.ofNat m = x at *
      have hBS : BS (wr.alloc (.cells #[u8 x] 5)) A1 j (Num.wideB n j) := (BS.of_own ho).keep (by simp) (fun b hb => Below.heap_alloc _ _ _ hb)
      have ho2 : (wr.alloc (.cells #[u8 x] 5)).ownsRow w.heap.size 5 1 (.slice (some ⟨wr.heap.size, 0, none⟩) 1 1) 1 (u8s [x]) := World.ownsRow_lit wr _ 1 hb.size (by simp [maxLen]) (by simp)
      have H := Lib.hid (And.intro hBS (And.intro ho2 (And.intro hb (And.intro hcons (And.intro hm2 hx)))))
      clear hBS ho2 ho hb hcons hm hm2 hx
      go_wp2_with (at_builtin; refine wpList_append_bs _ rfl _ _ 38 rfl w.heap.size 5 i0 Tryd.underlying38 HI.out.1 HI.out.2.1 HI.out.2.2.1 HI.out.2.2.2 (.slice (some ⟨wr.heap.size, 0, none⟩) 1 1) 1 (u8s [x]) rfl H.out.2.1 A1 j c1 (Num.wideB n j) rfl H.out.1 (by omega) (by have := H.out.2.2.1.size; simp; omega) ?_; intro v' w1 hown hg1 hat)
      go_roundw
      case rel =>
        have e7 : 1 + j = j + 1 := by omega
        rw [← u8s_append, e7] at hown
        refine ⟨j + 1, m / 256, by omega, by go_num, by simp, H.out.2.2.2.2.1, by rw [H.out.2.2.2.1]; exact hown, ?_⟩
        have := H.out.2.2.1.size
        exact (H.out.2.2.1.alloc this _).grown hg1 (by simp; omega) (by simp [Value.ownBlock]; omega)
      case measure => simp [intOf]; omega
    · obtain rfl : j = k := by omega
      by_cases hz : n < 256 ^ j
      · have hm0 : m = 0 := by rw [hm]; exact Nat.div_eq_of_lt hz
        subst hm0
        have H := Lib.hid (And.intro ho (And.intro hb hz))
        clear ho hb hm hz
        go_wp2
        go_ret2
        refine ⟨fun _ => ⟨_, rfl, ?_, H.out.2.1⟩, fun h => absurd H.out.2.2 h, H.out.2.1⟩
        rw [Num.wideB_length]; exact H.out.1
      · have hmp : 0 < m := by rw [hm]; exact Nat.div_pos (by omega) (Nat.pow_pos (by omega))
        have H := Lib.hid (And.intro ho (And.intro hb hz))
        clear ho hb hm hz
        go_wp2
        go_ret2
        exact ⟨fun h => absurd h H.out.2.2, fun _ => rfl, H.out.2.1⟩

set_option maxHeartbeats 400000 in
theorem refTakeWide_bad (A : Option Addr) (n cap : Nat) (x : Int) (w : World) (hx : x < 1 ∨ 8 < x) :
    Calls Tryd.prog 48 #[.slice A n cap, .int .i64 x] w fun e w' => e = .returned (.tuple #[.int .u64 0, .int .i64 1]) ∧ w = w' := by
  by_cases h1 : x < 1
  · have hg : decide (x < 1) = true := by simpa using h1
    go_enter Tryd.func48, Tryd.ntmps48
    go_wp2
    go_ret2
    exact ⟨rfl, rfl⟩
  · have hg : decide (x < 1) = false := by simpa using h1
    have hg2 : decide (8 < x) = true := by simp; omega
    go_enter Tryd.func48, Tryd.ntmps48
    go_wp2
    go_ret2
    exact ⟨rfl, rfl⟩
set_option maxHeartbeats 400000 in
theorem refTakeWide_short (A : Option Addr) (n cap k : Nat) (w : World) (h1 : 1 ≤ k) (h8 : k ≤ 8) (hk : n < k) :
    Calls Tryd.prog 48 #[.slice A n cap, .int .i64 k] w fun e w' => e = .returned (.tuple #[.int .u64 0, .int .i64 10]) ∧ w = w' := by
  have hg : decide ((k : Int) < 1) = false := by simp; omega
  have hg2 : decide (8 < (k : Int)) = false := by simp; omega
  go_enter Tryd.func48, Tryd.ntmps48
  go_wp2
  go_ret2
  exact ⟨rfl, rfl⟩
set_option maxHeartbeats 400000 in
theorem refTakeWide_ok (A : Option Addr) (n cap k : Nat) (bs : List UInt8) (w : World) (hbs : BS w A n bs) (h1 : 1 ≤ k) (h8 : k ≤ 8) (hk : k ≤ n) :
    Calls Tryd.prog 48 #[.slice A n cap, .int .i64 k] w fun e w' => e = .returned (.tuple #[.int .u64 (Num.unwide (bs.take k) : Nat), .int .i64 0]) ∧ w = w' := by
  have hg : decide ((k : Int) < 1) = false := by simp; omega
  have hg2 : decide (8 < (k : Int)) = false := by simp; omega
  obtain ⟨b, off, rfl, hlt, hcell⟩ := hbs.2 (by omega)
  have HL := Lib.hid (And.intro hbs.1 hcell)
  clear hbs hcell
  go_enter Tryd.func48, Tryd.ntmps48
  go_wp2
  go_loop [6, 7] (fun x i => ∃ (j : Nat), j ≤ k ∧ i = .int .i64 j ∧ x = .int .u64 (Num.unwide (bs.take j) : Nat)) (fun _ i => k - (intOf i).toNat)
  case atStart => exact ⟨0, by omega, rfl, rfl⟩
  case round =>
    obtain ⟨j, hj, rfl, rfl⟩ := hrel
    have hsm := unwide_small bs j
    generalize hu : Num.unwide (bs.take j) = u at *
    have HU := Lib.hid hu
    clear hu
    by_cases hlt2 : j < k
    · have hsn := unwide_take bs j (by rw [HL.out.1]; omega)
      rw [HU.out] at hsn
      have hc := HL.out.2 j (by rw [HL.out.1]; omega)
      generalize bs.getD j 0 = c at *
      have HS := Lib.hid hsn
      clear hsn
      have hu := hsm (by omega)
      have hc8 := c.toNat_lt
      clear hsm
      go_wp2
      go_round
      case rel => exact ⟨j + 1, by omega, by go_num, by rw [HS.out]; go_num⟩
      case measure => simp [intOf]; omega
    · obtain rfl : j = k := by omega
      go_wp2
      go_ret2
      rw [HU.out]
      exact ⟨rfl, rfl⟩

set_option maxRecDepth 100000 in
set_option maxHeartbeats 1000000 in
theorem refTakeShort_any (A : Option Addr) (n cap : Nat) (bs : List UInt8) (w : World) (hbs : BS w A n bs) (hn : n ≤ 140737488351232) :
    Calls Tryd.prog 87 #[.slice A n cap] w (TakeP w (Num.takeShort bs)) := by
  have HL := Lib.hid hbs.1
  go_enter Tryd.func87, Tryd.ntmps87
  go_wp2
  go_loop [2, 3, 4, 5, 6, 7] (fun r0 r1 r2 x i _ => ∃ (k u : Nat), k ≤ n ∧ i = .int .i64 k ∧ x = .int .u64 u ∧ u < 18446744073709551616 ∧ r0 = .int .u64 0 ∧ r1 = .int .i64 0 ∧ r2 = .int .i64 0 ∧ Num.takeGo k u (bs.drop k) = Num.takeShort bs) (fun _ _ _ _ i _ => n - (intOf i).toNat)
  case atStart => exact ⟨0, 0, by omega, rfl, rfl, by omega, rfl, rfl, rfl, rfl⟩
  case round =>
    obtain ⟨k, u, hk, rfl, rfl, hu, rfl, rfl, rfl, hgo⟩ := hrel
    by_cases hlt : k < n
    · rw [takeGo_step bs k k u (by rw [HL.out]; exact hlt)] at hgo
      obtain ⟨b, off, rfl, hc⟩ := hbs.at_ hlt
      generalize bs.getD k 0 = c at *
      have HB := Lib.hid hbs
      have HG := Lib.hid hgo
      clear hbs hgo
      have hcl := c.toNat_lt
      by_cases h1 : k = 0 ∧ c.toNat = 128
      · have hg2 : ((c.toNat : Int) == 128) = true := by rw [beq_iff_eq]; omega
        have hg1 : ((k : Int) == 0) = true := by rw [beq_iff_eq]; omega
        have hR := HG.out
        rw [if_pos h1] at hR
        have HR := Lib.hid hR
        clear hR h1
        go_wp2
        go_ret3
        rw [← HR.out]
        exact ⟨rfl, rfl⟩
      · have hR := HG.out
        rw [if_neg h1] at hR
        have hsw : (((k : Int) == 0) = false) ∨ (((k : Int) == 0) = true ∧ ((c.toNat : Int) == 128) = false) := by
          by_cases h0 : k = 0
          · right
            refine ⟨by rw [beq_iff_eq]; omega, ?_⟩
            rw [beq_eq_false_iff_ne]
            intro e
            exact h1 ⟨h0, by omega⟩
          · left
            rw [beq_eq_false_iff_ne]; omega
        clear h1 HG
        by_cases h2 : 144115188075855872 ≤ u
        · rw [if_pos h2] at hR
          have HR := Lib.hid hR
          clear hR
          rcases hsw with hs | ⟨hs, hs2⟩
          all_goals
            go_wp2
            go_ret3
            rw [← HR.out]
            exact ⟨rfl, rfl⟩
        · rw [if_neg h2] at hR
          by_cases h3 : c.toNat < 128
          · rw [if_pos h3] at hR
            have HR := Lib.hid hR
            clear hR
            rcases hsw with hs | ⟨hs, hs2⟩
            all_goals
              go_wp2
              go_ret3
              rw [← HR.out]
              refine ⟨?_, rfl⟩
              show Ending.returned (.tuple #[.int .u64 _, .int .i64 _, .int .i64 _]) = _
              go_num
          · rw [if_neg h3] at hR
            have HR := Lib.hid hR
            clear hR
            rcases hsw with hs | ⟨hs, hs2⟩
            all_goals
              go_wp2
              go_round
              case rel => exact ⟨k + 1, u * 128 + c.toNat % 128, by omega, by go_num, by go_num, by omega, rfl, rfl, rfl, HR.out⟩
              case measure => simp [intOf]; omega
    · obtain rfl : k = n := by omega
      rw [List.drop_of_length_le (by rw [HL.out]; omega)] at hgo
      have HG := Lib.hid hgo
      clear hgo
      go_wp2
      go_ret3
      rw [← HG.out]
      exact ⟨rfl, rfl⟩

theorem less_drop (a b : List UInt8) (k : Nat) (ha : k < a.length) (hb : k < b.length) : Num.less (a.drop k) (b.drop k) = if a.getD k 0 = b.getD k 0 then Num.less (a.drop (k + 1)) (b.drop (k + 1)) else decide (a.getD k 0 < b.getD k 0) := by
  rw [List.drop_eq_getElem_cons ha, List.drop_eq_getElem_cons hb, List.getD_eq_getElem?_getD, List.getElem?_eq_getElem ha, List.getD_eq_getElem?_getD, List.getElem?_eq_getElem hb]
  rfl
theorem less_end (a b : List UInt8) (h : a = [] ∨ b = []) : Num.less a b = decide (a.length < b.length) := by
  rcases h with rfl | rfl
  · cases b <;> simp [Num.less]
  · cases a <;> simp [Num.less]
theorem byte_lt_int (x y : UInt8) : decide (x.toNat < y.toNat) = decide (x < y) := by
  apply decide_eq_decide.2
  rw [UInt8.lt_iff_toNat_lt]
theorem doc300 : Num.shortB 300 = [130, 44] := by decide
end Go.Proofs.YtlpdjpkdgagjpaaDoor
