/- What the functions of package num do: Wide, TakeWide, Short, TakeShort. -/
import Derived.Test.YtlijfnekopjogaaRows
import Derived.Test.YtlijfnekopjogaaMem
import Derived.Test.YtlijfnekopjogaaNumMath
import Derived.IntWalk
import Derived.RegionTactic
import Derived.ChangeAlike
namespace Go.Proofs.Ytlijfnekopjogaa
open Go.RowKit Mem
set_option linter.unusedVariables false
set_option maxRecDepth 100000

theorem ninfo8 : (Try.prog.info? 5).map (fun i => (i.zero, i.size, i.bytes)) = some (some (.int .u8 0), 1, 1) := by kernel_rfl

/-- bytes of its own, and OK -/
def OwnBE (e8 : TypeId) (w : World) (bs : List UInt8) (e : Ending) (w' : World) : Prop :=
  ∃ v, e = .returned (.tuple #[v, .int .i64 0]) ∧ w'.ownsRow w.heap.size e8 1 v bs.length (u8s bs) ∧ Below w.heap.size w w'

theorem shr_byte (n k i : Nat) (hi : i < k) : (n : Int) / 2 ^ (8 * (k - 1 - i)) % 256 = (((Num.wideB n k).getD i 0).toNat : Int) := by
  rw [Num.wideB_getD k n i hi, UInt8.toNat_ofNat']
  have e : (n : Int) / 2 ^ (8 * (k - 1 - i)) = ((n / 256 ^ (k - 1 - i) : Nat) : Int) := by rw [show (256 : Nat) = 2 ^ 8 from rfl, ← Nat.pow_mul]; simp
  rw [e]; omega
theorem unwide_take (bs : List UInt8) (j : Nat) (h : j < bs.length) : Num.unwide (bs.take (j + 1)) = Num.unwide (bs.take j) * 256 + (bs.getD j 0).toNat := by
  rw [List.take_succ_eq_append_getElem h, Num.unwide_snoc, List.getD_eq_getElem?_getD, List.getElem?_eq_getElem h]
  rfl
theorem unwide_small (bs : List UInt8) (j : Nat) (h : j < 8) : Num.unwide (bs.take j) < 72057594037927936 := by
  have h1 := Num.unwide_lt (bs.take j)
  have h2 : (bs.take j).length ≤ 7 := by rw [List.length_take]; omega
  exact Nat.lt_of_lt_of_le h1 (Nat.le_trans (Nat.pow_le_pow_right (by omega) h2) (by decide))
theorem wrap_u64_byte (c : UInt8) : IntKind.u64.wrap (c.toNat : Int) = (c.toNat : Int) := by
  have := c.toNat_lt
  rw [IntKind.wrap_u64]; omega
theorem or8 (u : Nat) (c : UInt8) (hu : u < 72057594037927936) : bits .or .u64 ((u : Int) * 256) (IntKind.u64.wrap (c.toNat : Int)) = ((u * 256 + c.toNat : Nat) : Int) := by
  have hc := c.toNat_lt
  rw [wrap_u64_byte, show (u : Int) * 256 = ((u * 256 : Nat) : Int) from by omega, u64_or_nat _ _ (by omega) (by omega), nat_join 8 _ _ (by omega) (by omega)]
theorem and127 (n : Nat) (hn : n < 18446744073709551616) : bits .and .u64 (n : Int) 127 % 256 = ((UInt8.ofNat (n % 128)).toNat : Int) := by
  rw [show (127 : Int) = ((127 : Nat) : Int) from rfl, u64_and_nat _ _ hn (by omega), nat_mask7, UInt8.toNat_ofNat']
  omega
theorem or128 (n : Nat) (hn : n < 18446744073709551616) : bits .or .u8 (bits .and .u64 (n : Int) 127 % 256) 128 = ((UInt8.ofNat (n % 128 + 128)).toNat : Int) := by
  rw [and127 n hn, UInt8.toNat_ofNat', UInt8.toNat_ofNat', show (128 : Int) = ((128 : Nat) : Int) from rfl, u8_or_nat _ _ (by omega) (by omega), Nat.or_comm, nat_join 7 _ _ (by omega) (by omega)]
  omega
theorem drop_set_cons {α : Type} (l : List α) (i : Nat) (v : α) (h : i < l.length) : (l.set i v).drop i = v :: l.drop (i + 1) := by
  rw [List.drop_eq_getElem_cons (by simpa using h), List.getElem_set_self, List.drop_set_of_lt (by omega)]
theorem bs_of_drop {w : World} {g t at_ : Nat} {cs : Array Value} {acc : List UInt8} (hb : Blk w g t cs) (h : cs.toList.drop at_ = u8s acc) : BS w (some ⟨g, at_, none⟩) acc.length acc := by
  refine ⟨rfl, fun _ => ⟨g, at_, rfl, hb.lt, fun j hj => ?_⟩⟩
  have h1 : (cs.toList.drop at_)[j]? = (u8s acc)[j]? := by rw [h]
  rw [List.getElem?_drop, u8s_getElem?, List.getElem?_eq_getElem hj] at h1
  rw [hb.cell, ← Array.getElem?_toList, h1, List.getD_eq_getElem?_getD, List.getElem?_eq_getElem hj]
  rfl
theorem room_slice (b p : Nat) (hp : p ≤ 9) (W : World) : (Instr.sliceAt 156 (.pointer (some ⟨b, 0, none⟩)) (some (.int .i64 (p : Int))) none none).run Try.prog W = .ok (.slice (some ⟨b, p, none⟩) (10 - p) (10 - p)) W := by
  have hal : Try.prog.arrayLen 156 = 10 := by kernel_rfl
  have hel : Try.prog.elem 156 = 5 := by kernel_rfl
  obtain ⟨i0, hi0, hz0, hz1, hz2⟩ := info_parts ninfo8
  rw [run_sliceAt_array_l W 156 ⟨b, 0, none⟩ Try.underlying156 .i64 (p : Int) (by omega) (by rw [hal]; omega), hal, hel]
  simp only [sizeOf, typeInfo, Sem.run_bind, slicedAt]
  have : ¬ 10 = p := by omega
  simp [hi0, hz1, Addr.add, this]
  intro e
  omega
set_option maxHeartbeats 1000000 in
theorem short_any (n : Nat) (w : World) (hn : n < 18446744073709551616) :
    Calls Try.prog 98 #[.int .u64 n] w (OwnB 5 w (Num.shortB n)) := by
  obtain ⟨i0, hi0, hz0, hz1, hz2⟩ := info_parts ninfo8
  have HI := Lib.hid (And.intro hi0 (And.intro hz0 (And.intro hz1 hz2)))
  clear hi0 hz0 hz1 hz2
  go_enter Try.func98, Try.ntmps98
  go_wp2
  go_step3
  go_wp2
  go_step3
  go_wp2
  go_loopw [0, 4] (fun x i wr => ∃ (j p m : Nat) (cs : Array Value) (acc : List UInt8), p + j = 9 ∧ i = .int .i64 (p : Int) ∧ x = .int .u64 m ∧ m < 2 ^ (64 - 7 * j) ∧ Num.shortGo (10 - j) (m / 128) acc = Num.shortB n ∧ acc.length = j + 1 ∧
      Blk wr w.heap.size 156 cs ∧ cs.size = 10 ∧ cs.toList.drop p = u8s acc ∧ Below w.heap.size w wr) (fun x _ _ => (intOf x).toNat)
  case atStart =>
    refine ⟨0, 9, n, _, [UInt8.ofNat (n % 128)], by omega, rfl, rfl, by simpa using hn, rfl, rfl, Blk.new _ _ _, rfl, ?_, (Below.refl _ _).alloc (Nat.le_refl _) _⟩
    rw [and127 n hn]
    rfl
  case round =>
    obtain ⟨j, p, m, cs, acc, hpj, rfl, rfl, hm, hgo, hacc, hblk, hsz, hdrop, hb⟩ := hrel
    have hm64 : m < 18446744073709551616 := Nat.lt_of_lt_of_le hm (Nat.le_trans (Nat.pow_le_pow_right (by omega) (show 64 - 7 * j ≤ 64 by omega)) (by decide))
    have hp9 : p ≤ 9 := by omega
    by_cases hz : m / 128 = 0
    · have hg : ((m : Int) / 128 == 0) = true := by rw [beq_iff_eq]; omega
      have hfin : acc = Num.shortB n := by
        rw [← hgo, hz]
        obtain ⟨f, hf⟩ : ∃ f, 10 - j = f + 1 := ⟨9 - j, by omega⟩
        rw [hf]; rfl
      have hsl := room_slice w.heap.size p hp9
      have hBS : BS (wr.alloc (.cells #[] 5)) (some ⟨w.heap.size, p, none⟩) (10 - p) (Num.shortB n) := by
        have := (bs_of_drop hblk hdrop).keep (w' := wr.alloc (.cells #[] 5)) (by simp) (fun b hb => Below.heap_alloc _ _ _ hb)
        rw [hfin] at this
        have e : (Num.shortB n).length = 10 - p := by rw [← hfin]; omega
        rwa [e] at this
      have ho : (wr.alloc (.cells #[] 5)).ownsRow w.heap.size 5 1 (.slice (some ⟨wr.heap.size, 0, none⟩) 0 0) 0 [] := World.ownsRow_made wr #[] 0 hb.size (by simp [maxLen]) (by simp)
      have H := Lib.hid (And.intro hBS (And.intro ho hb))
      clear hblk hdrop hb hacc hfin hm hgo hsz hz hpj hBS ho
      go_wp2_with (at_builtin; refine wpList_append_bs _ rfl _ _ 33 rfl w.heap.size 5 i0 Try.underlying33 HI.out.1 HI.out.2.1 HI.out.2.2.1 HI.out.2.2.2 (.slice (some ⟨wr.heap.size, 0, none⟩) 0 0) 0 [] rfl H.out.2.1 (some ⟨w.heap.size, p, none⟩) (10 - p) (10 - p) (Num.shortB n) rfl H.out.1 (by omega) (by have := H.out.2.2.size; simp; omega) ?_; intro v' w1 hown hg1 hat)
      rw [Exit.noGoto_ret]
      go_ret
      refine ⟨v', rfl, ?_, ?_⟩
      · rw [H.out.1.1]; simpa using hown
      · exact (H.out.2.2.alloc H.out.2.2.size _).grown hg1 (by have := H.out.2.2.size; simp; omega) (by have := H.out.2.2.size; simp [Value.ownBlock]; omega)
    · have hg : ((m : Int) / 128 == 0) = false := by rw [beq_eq_false_iff_ne]; omega
      have hj8 : j ≤ 8 := by
        rcases Nat.lt_or_ge j 9 with h | h
        · omega
        · obtain rfl : j = 9 := by omega
          simp at hm
          omega
      have hm' : m / 128 < 2 ^ (64 - 7 * (j + 1)) := by
        have : 2 ^ (64 - 7 * j) = 128 * 2 ^ (64 - 7 * (j + 1)) := by rw [show (128 : Nat) = 2 ^ 7 from rfl, ← Nat.pow_add]; congr 1; omega
        omega
      obtain ⟨q, rfl⟩ : ∃ q, p = q + 1 := ⟨p - 1, by omega⟩
      have hgo' : Num.shortGo (10 - (j + 1)) (m / 128 / 128) (UInt8.ofNat (m / 128 % 128 + 128) :: acc) = Num.shortB n := by
        rw [← hgo]
        obtain ⟨f, hf⟩ : ∃ f, 10 - j = f + 1 := ⟨9 - j, by omega⟩
        rw [hf, show 10 - (j + 1) = f by omega]
        conv => rhs; rw [Num.shortGo, if_neg hz]
      have hcell : wr.cell? ⟨w.heap.size, q, none⟩ = some (cs[q]'(by omega)) := by rw [hblk.cell, Array.getElem?_eq_getElem]
      have hfr := hblk.free q
      generalize (cs[q]'(by omega)) = old at *
      have hor := or128 (m / 128) (by omega)
      have e1 : ((m / 128 : Nat) : Int) = (m : Int) / 128 := by simp
      rw [e1] at hor
      have H := Lib.hid (And.intro hblk (And.intro hdrop (And.intro hb (And.intro hacc (And.intro hgo' (And.intro hsz (And.intro hm' hz)))))))
      clear hblk hdrop hb hacc hgo hgo' hsz hm' hz e1 hm
      have hq9 : (q : Int) < 10 := by omega
      go_wp2
      go_roundw
      case rel =>
        refine ⟨j + 1, q, m / 128, cs.setIfInBounds q (u8 (UInt8.ofNat (m / 128 % 128 + 128))), UInt8.ofNat (m / 128 % 128 + 128) :: acc, by omega, rfl, by simp, H.out.2.2.2.2.2.2.1, H.out.2.2.2.2.1, by simp [H.out.2.2.2.1], H.out.1.put q _, by simp [H.out.2.2.2.2.2.1], ?_, H.out.2.2.1.setCell (Nat.le_refl _) _⟩
        rw [Array.toList_setIfInBounds, drop_set_cons _ _ _ (by rw [Array.length_toList, H.out.2.2.2.2.2.1]; omega), H.out.2.1]
        rfl
      case measure =>
        have := H.out.2.2.2.2.2.2.2
        simp [intOf]; omega

/-- a number, how many bytes it had, an error -/
def TakeP (w : World) (r : Nat × Nat × Nat) (e : Ending) (w' : World) : Prop :=
  e = .returned (.tuple #[.int .u64 (r.1 : Int), .int .i64 (r.2.1 : Int), .int .i64 (r.2.2 : Int)]) ∧ w = w'
theorem takeGo_step (bs : List UInt8) (k i n : Nat) (h : k < bs.length) : Num.takeGo i n (bs.drop k) =
    if i = 0 ∧ (bs.getD k 0).toNat = 128 then (0, 0, 11) else if 144115188075855872 ≤ n then (0, 0, 12) else
      if (bs.getD k 0).toNat < 128 then (n * 128 + (bs.getD k 0).toNat % 128, i + 1, 0) else Num.takeGo (i + 1) (n * 128 + (bs.getD k 0).toNat % 128) (bs.drop (k + 1)) := by
  rw [List.drop_eq_getElem_cons h, List.getD_eq_getElem?_getD, List.getElem?_eq_getElem h]
  rfl
theorem or7 (n : Nat) (c : UInt8) (hn : n < 144115188075855872) : bits .or .u64 ((n : Int) * 128) (IntKind.u64.wrap (bits .and .u8 (c.toNat : Int) 127)) = ((n * 128 + c.toNat % 128 : Nat) : Int) := by
  have hc := c.toNat_lt
  rw [show (127 : Int) = ((127 : Nat) : Int) from rfl, u8_and_nat _ _ hc (by omega), nat_mask7, IntKind.wrap_u64, show (n : Int) * 128 = ((n * 128 : Nat) : Int) from by omega,
    show (((c.toNat % 128 : Nat) : Int) % 18446744073709551616) = ((c.toNat % 128 : Nat) : Int) from by omega, u64_or_nat _ _ (by omega) (by omega), nat_join 7 _ _ (by omega) (by omega)]
set_option maxHeartbeats 1000000 in
theorem takeShort_any (A : Option Addr) (n cap : Nat) (bs : List UInt8) (w : World) (hbs : BS w A n bs) (hn : n ≤ 140737488351232) :
    Calls Try.prog 100 #[.slice A n cap] w (TakeP w (Num.takeShort bs)) := by
  have HL := Lib.hid hbs.1
  go_enter Try.func100, Try.ntmps100
  go_wp2
  go_loop [2, 3, 4, 5, 6, 7, 10, 15, 22] (fun r0 r1 r2 x _ _ i _ _ => ∃ (k u : Nat), k ≤ n ∧ i = .int .i64 k ∧ x = .int .u64 u ∧ u < 18446744073709551616 ∧ r0 = .int .u64 0 ∧ r1 = .int .i64 0 ∧ r2 = .int .i64 0 ∧ Num.takeGo k u (bs.drop k) = Num.takeShort bs) (fun _ _ _ _ _ _ i _ _ => n - (intOf i).toNat)
  case atStart => exact ⟨0, 0, by omega, rfl, rfl, by omega, rfl, rfl, rfl, rfl⟩
  case round =>
    obtain ⟨k, u, hk, rfl, rfl, hu, rfl, rfl, rfl, hgo⟩ := hrel
    by_cases hlt : k < n
    · rw [takeGo_step bs k k u (by rw [HL.out]; exact hlt)] at hgo
      obtain ⟨b, off, rfl, hc⟩ := hbs.at_ hlt
      generalize bs.getD k 0 = c at *
      have HB := Lib.hid hbs
      have HG := Lib.hid hgo
      clear hbs hgo
      have hcl := c.toNat_lt
      by_cases h1 : k = 0 ∧ c.toNat = 128
      · have hg2 : ((c.toNat : Int) == 128) = true := by rw [beq_iff_eq]; omega
        have hg1 : ((k : Int) == 0) = true := by rw [beq_iff_eq]; omega
        have hR := HG.out
        rw [if_pos h1] at hR
        have HR := Lib.hid hR
        clear hR h1
        go_wp2
        go_ret3
        rw [← HR.out]
        exact ⟨rfl, rfl⟩
      · have hR := HG.out
        rw [if_neg h1] at hR
        have hsw : (((k : Int) == 0) = false) ∨ (((k : Int) == 0) = true ∧ ((c.toNat : Int) == 128) = false) := by
          by_cases h0 : k = 0
          · right
            refine ⟨by rw [beq_iff_eq]; omega, ?_⟩
            rw [beq_eq_false_iff_ne]
            intro e
            exact h1 ⟨h0, by omega⟩
          · left
            rw [beq_eq_false_iff_ne]; omega
        by_cases h2 : 144115188075855872 ≤ u
        · rw [if_pos h2] at hR
          have HR := Lib.hid hR
          clear hR HG h1
          have hg3 : decide ((144115188075855872 : Int) ≤ (u : Int)) = true := by simp; omega
          rcases hsw with hs | ⟨hs, hs2⟩
          all_goals
            go_wp2
            go_ret3
            rw [← HR.out]
            exact ⟨rfl, rfl⟩
        · rw [if_neg h2] at hR
          have hg3 : decide ((144115188075855872 : Int) ≤ (u : Int)) = false := by simp; omega
          have hor := or7 u c (by omega)
          by_cases h3 : c.toNat < 128
          · rw [if_pos h3] at hR
            have HR := Lib.hid hR
            have HO := Lib.hid hor
            clear hR HG h1 hor
            have hg4 : decide ((c.toNat : Int) < 128) = true := by simp; omega
            rcases hsw with hs | ⟨hs, hs2⟩
            all_goals
              go_wp2
              go_ret3
              rw [← HR.out]
              refine ⟨?_, rfl⟩
              show Ending.returned (.tuple #[.int .u64 _, .int .i64 _, .int .i64 _]) = _
              rw [HO.out]
              rfl
          · rw [if_neg h3] at hR
            have HR := Lib.hid hR
            have HO := Lib.hid hor
            clear hR HG h1 hor
            have hg4 : decide ((c.toNat : Int) < 128) = false := by simp; omega
            rcases hsw with hs | ⟨hs, hs2⟩
            all_goals
              go_wp2
              go_round
              case rel => exact ⟨k + 1, u * 128 + c.toNat % 128, by omega, by go_num, by rw [HO.out], by omega, rfl, rfl, rfl, HR.out⟩
              case measure => simp [intOf]; omega
    · obtain rfl : k = n := by omega
      rw [List.drop_of_length_le (by rw [HL.out]; omega)] at hgo
      have HG := Lib.hid hgo
      clear hgo
      go_wp2
      go_ret3
      rw [← HG.out]
      exact ⟨rfl, rfl⟩
end Go.Proofs.Ytlijfnekopjogaa
