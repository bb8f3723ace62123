/- What the functions of package stamp do: Next, Wrap, Open. -/
import Derived.Test.YtfcmlfcpgboigaaRows
import Derived.Test.YtfcmlfcpgboigaaMem
import Derived.Test.YtfcmlfcpgboigaaStampMath
import Derived.IntWalk
import Derived.RegionTactic
import Derived.ChangeAlike
import Derived.Laws.CopyOwn
namespace Go.Proofs.Ytfcmlfcpgboigaa
open Go.RowKit Mem
set_option linter.unusedVariables false

theorem sinfo8 : (Try.prog.info? 5).map (fun i => (i.zero, i.size, i.bytes)) = some (some (.int .u8 0), 1, 1) := by kernel_rfl
theorem ssize8 : (Try.prog.info? 5).map (·.size) = some 1 := by kernel_rfl

/-- bytes and an error -/
def BytesE (w : World) (r : List UInt8 × Nat) (e : Ending) (w' : World) : Prop :=
  ∃ A c, e = .returned (.tuple #[.slice A r.1.length c, .int .i64 (r.2 : Int)]) ∧ BS w' A r.1.length r.1 ∧ r.1.length ≤ c ∧ c ≤ 9223372036854775807 ∧ Below w.heap.size w w'
theorem bytesE_nil (w : World) (n : Nat) : BytesE w ([], n) (.returned (.tuple #[.slice none 0 0, .int .i64 (n : Int)])) w := ⟨none, 0, rfl, BS.empty _ _, by simp, by simp, Below.refl _ _⟩
theorem own_cap {w : World} {base : Nat} {e : TypeId} {A : Option Addr} {n c : Nat} {xs : List Value} (h : w.ownsRow base e 1 (.slice A n c) n xs) : n ≤ c ∧ c ≤ 9223372036854775807 := by
  rcases h.2 with ⟨h, h'⟩ | ⟨g, cap, cur, h, _, _, hnc, hcm, _⟩
  · injection h with _ _ h; subst h; subst h'; simp
  · injection h with _ _ h; subst h; simp only [maxLen] at hcm; exact ⟨hnc, by omega⟩
theorem bytesE_own {w w' : World} {bs : List UInt8} {v : Value} {n : Nat} (hl : bs.length = n) (ho : w'.ownsRow w.heap.size 5 1 v n (u8s bs)) (hb : Below w.heap.size w w') : BytesE w (bs, 0) (.returned (.tuple #[v, .int .i64 0])) w' := by
  subst hl
  obtain ⟨A, c, rfl⟩ := own_slice ho
  exact ⟨A, c, rfl, BS.of_own ho, (own_cap ho).1, (own_cap ho).2, hb⟩

/-- bytes of one's own, and an error -/
def BytesF (w : World) (r : List UInt8 × Nat) (e : Ending) (w' : World) : Prop :=
  ∃ A c, e = .returned (.tuple #[.slice A r.1.length c, .int .i64 (r.2 : Int)]) ∧ BS w' A r.1.length r.1 ∧ r.1.length ≤ c ∧ c ≤ 9223372036854775807 ∧ Below w.heap.size w w' ∧ ∀ a, A = some a → w.heap.size ≤ a.block
theorem BytesF.E {w w' : World} {r : List UInt8 × Nat} {e : Ending} (h : BytesF w r e w') : BytesE w r e w' := by
  obtain ⟨A, c, h1, h2, h3, h4, h5, _⟩ := h
  exact ⟨A, c, h1, h2, h3, h4, h5⟩
theorem bytesF_nil (w : World) (n : Nat) : BytesF w ([], n) (.returned (.tuple #[.slice none 0 0, .int .i64 (n : Int)])) w := ⟨none, 0, rfl, BS.empty _ _, by simp, by simp, Below.refl _ _, by simp⟩
theorem own_at {w : World} {base : Nat} {e : TypeId} {A : Option Addr} {n c size : Nat} {xs : List Value} (h : w.ownsRow base e size (.slice A n c) n xs) : ∀ a, A = some a → base ≤ a.block := by
  rintro a rfl
  rcases h.2 with ⟨h, h'⟩ | ⟨g, cap, cur, h, hg, _⟩
  · injection h with h; cases h
  · injection h with h; injection h with h; subst h; exact hg
theorem bytesF_own {w w' : World} {bs : List UInt8} {v : Value} {n : Nat} (hl : bs.length = n) (ho : w'.ownsRow w.heap.size 5 1 v n (u8s bs)) (hb : Below w.heap.size w w') : BytesF w (bs, 0) (.returned (.tuple #[v, .int .i64 0])) w' := by
  subst hl
  obtain ⟨A, c, rfl⟩ := own_slice ho
  exact ⟨A, c, rfl, BS.of_own ho, (own_cap ho).1, (own_cap ho).2, hb, own_at ho⟩

/-! Open -/
theorem byteNe (x y : UInt8) : ((x.toNat : Int) != (y.toNat : Int)) = decide (x ≠ y) := by
  by_cases h : x = y
  · subst h; simp
  · have : x.toNat ≠ y.toNat := fun e => h (UInt8.toNat_inj.1 e)
    simp [h]; omega
theorem openOk_false (s : List UInt8) (h : s.getD 0 0 ≠ s.getD 255 0 ∨ (s.getD 0 0).toNat < 1 ∨ 3 < (s.getD 0 0).toNat) : Stamp.openOk s = false := by
  unfold Stamp.openOk
  apply decide_eq_false
  rintro ⟨a, b, c⟩
  rcases h with h | h | h
  · exact h a
  · omega
  · omega
set_option maxHeartbeats 1000000 in
theorem open_any (A : Option Addr) (n cap : Nat) (bs : List UInt8) (w : World) (hbs : BS w A n bs) (hn : n ≤ 140737488351232) (hnc : n ≤ cap) (hcm : cap ≤ 9223372036854775807) :
    Calls Try.prog 97 #[.slice A n cap] w (BytesE w (Stamp.openR bs)) := by
  have hl := hbs.1
  by_cases h256 : n = 256
  · subst h256
    obtain ⟨b, off, rfl, hlt, hc⟩ := hbs.2 (by omega)
    have c0 := hc 0 (by omega)
    have c255 := hc 255 (by omega)
    rw [Nat.add_zero] at c0
    have hR : Stamp.openR bs = if Stamp.openOk bs then (Stamp.openB bs, 0) else ([], 50) := by unfold Stamp.openR; rw [if_neg (by omega)]
    have hne := byteNe (bs.getD 0 0) (bs.getD 255 0)
    have hok : Stamp.openOk bs = decide (bs.getD 0 0 = bs.getD 255 0 ∧ 1 ≤ (bs.getD 0 0).toNat ∧ (bs.getD 0 0).toNat ≤ 3) := rfl
    have hcut := BS.cut_ hbs 1 255 (by omega) (by omega)
    have hob : (bs.drop 1).take (255 - 1) = Stamp.openB bs := rfl
    rw [hob] at hcut
    generalize bs.getD 0 0 = x at *
    generalize bs.getD 255 0 = y at *
    have hx8 := x.toNat_lt
    by_cases hxy : x = y
    · subst hxy
      rw [show decide (x ≠ x) = false by simp] at hne
      by_cases hr1 : x.toNat < 1
      · have hf : Stamp.openOk bs = false := by rw [hok]; apply decide_eq_false; omega
        rw [hR, hf]
        clear hR hok hcut hob hl hbs hc
        have hd : decide ((x.toNat : Int) < 1) = true := by simp; omega
        go_enter Try.func97, Try.ntmps97
        go_wp2
        go_ret2
        exact bytesE_nil w 50
      · have hd : decide ((x.toNat : Int) < 1) = false := by simp; omega
        by_cases hr3 : 3 < x.toNat
        · have hf : Stamp.openOk bs = false := by rw [hok]; apply decide_eq_false; omega
          rw [hR, hf]
          clear hR hok hcut hob hl hbs hc
          have hd3 : decide (3 < (x.toNat : Int)) = true := by simp; omega
          go_enter Try.func97, Try.ntmps97
          go_wp2
          go_ret2
          exact bytesE_nil w 50
        · have hf : Stamp.openOk bs = true := by rw [hok]; apply decide_eq_true; exact ⟨rfl, by omega, by omega⟩
          rw [hR, hf]
          have hd3 : decide (3 < (x.toNat : Int)) = false := by simp; omega
          obtain ⟨i0, hi0, hz0, hz1, hz2⟩ := info_parts sinfo8
          have hB2 : BS (w.alloc (.cells #[] 5)) (some ⟨b, off + 1, none⟩) 254 (Stamp.openB bs) := hcut.keep (by simp) (fun b hb => Below.heap_alloc _ _ _ hb)
          have ho : (w.alloc (.cells #[] 5)).ownsRow w.heap.size 5 1 (.slice (some ⟨w.heap.size, 0, none⟩) 0 0) 0 [] := World.ownsRow_made w #[] 0 (Nat.le_refl _) (by simp [maxLen]) (by simp)
          have HI := Lib.hid (And.intro hi0 (And.intro hz0 (And.intro hz1 hz2)))
          have H := Lib.hid (And.intro hB2 (And.intro ho (Stamp.openB_length bs hl)))
          clear hR hok hcut hob hl hbs hc hi0 hz0 hz1 hz2 hB2 ho hf
          go_enter Try.func97, Try.ntmps97
          go_wp2_with (at_builtin; refine wpList_append_bs _ rfl _ _ 42 rfl w.heap.size 5 i0 Try.underlying42 HI.out.1 HI.out.2.1 HI.out.2.2.1 HI.out.2.2.2 (.slice (some ⟨w.heap.size, 0, none⟩) 0 0) 0 [] rfl H.out.2.1 (some ⟨b, off + 1, none⟩) 254 (cap - 1) (Stamp.openB bs) rfl H.out.1 (by omega) (by simp) ?_; intro v' w1 hown hg hat)
          go_ret2
          have hb1 : Below w.heap.size w w1 := ((Below.refl _ _).alloc (Nat.le_refl _) _).grown hg (by simp) (by simp [Value.ownBlock])
          exact bytesE_own H.out.2.2 (by simpa using hown) hb1
    · rw [show decide (x ≠ y) = true by simp [hxy]] at hne
      have hf : Stamp.openOk bs = false := by rw [hok]; apply decide_eq_false; exact fun h => hxy h.1
      rw [hR, hf]
      clear hR hok hcut hob hl hbs hc hxy
      go_enter Try.func97, Try.ntmps97
      go_wp2
      go_ret2
      exact bytesE_nil w 50
  · have hR : Stamp.openR bs = ([], 12) := by unfold Stamp.openR; rw [if_pos (by omega)]
    rw [hR]
    clear hR hl hbs
    have hg : ((n : Int) != 256) = true := by rw [bne_iff_ne]; omega
    go_enter Try.func97, Try.ntmps97
    go_wp2
    go_ret2
    exact bytesE_nil w 12

/-! Wrap -/
theorem splice_ends (k : Nat) (x z : Value) (l : List Value) (h : l.length ≤ k) : splice (x :: (List.replicate k z ++ [x])) 1 l = x :: (l ++ List.replicate (k - l.length) z) ++ [x] := by
  unfold splice
  rw [Nat.add_comm, List.drop_succ_cons, List.drop_append_of_le_length (by simpa using h), List.drop_replicate]
  simp
theorem splice_wrap (m : UInt8) (p : List UInt8) (hp : p.length ≤ 254) :
    splice (((zerosA 256).setIfInBounds 0 (u8 m)).setIfInBounds 255 (u8 m)).toList 1 (u8s p) = u8s (Stamp.wrapB m p) := by
  rw [zerosA_ends 254 (u8 m), splice_ends 254 _ _ _ (by rw [u8s_length]; exact hp), u8s_length]
  have e : Stamp.wrapB m p = m :: (p ++ List.replicate (254 - p.length) 0) ++ [m] := rfl
  rw [e]
  generalize 254 - p.length = j
  simp [u8s]
set_option maxHeartbeats 1000000 in
theorem wrap_own (m : UInt8) (A : Option Addr) (n cap : Nat) (p : List UInt8) (w : World) (hbs : BS w A n p) (hn : n ≤ 140737488351232) :
    Calls Try.prog 102 #[.int .u8 m.toNat, .slice A n cap] w (BytesF w (Stamp.wrapR m p)) := by
  have hl := hbs.1
  have hm8 := m.toNat_lt
  by_cases h1 : m.toNat < 1
  · have hR : Stamp.wrapR m p = ([], 1) := by unfold Stamp.wrapR; rw [if_pos (by omega)]
    rw [hR]
    clear hR hl hbs
    have hd : decide ((m.toNat : Int) < 1) = true := by simp; omega
    go_enter Try.func102, Try.ntmps102
    go_wp2
    go_ret2
    exact bytesF_nil w 1
  · have hd : decide ((m.toNat : Int) < 1) = false := by simp; omega
    by_cases h3 : 3 < m.toNat
    · have hR : Stamp.wrapR m p = ([], 1) := by unfold Stamp.wrapR; rw [if_pos (by omega)]
      rw [hR]
      clear hR hl hbs
      have hd3 : decide (3 < (m.toNat : Int)) = true := by simp; omega
      go_enter Try.func102, Try.ntmps102
      go_wp2
      go_ret2
      exact bytesF_nil w 1
    · have hd3 : decide (3 < (m.toNat : Int)) = false := by simp; omega
      by_cases h254 : 254 < n
      · have hR : Stamp.wrapR m p = ([], 12) := by unfold Stamp.wrapR; rw [if_neg (by omega), if_pos (by omega)]
        rw [hR]
        clear hR hl hbs
        have hd4 : decide (254 < (n : Int)) = true := by simp; omega
        go_enter Try.func102, Try.ntmps102
        go_wp2
        go_ret2
        exact bytesF_nil w 12
      · have hR : Stamp.wrapR m p = (Stamp.wrapB m p, 0) := by unfold Stamp.wrapR; rw [if_neg (by omega), if_neg (by omega)]
        rw [hR]
        have hd4 : decide (254 < (n : Int)) = false := by simp; omega
        obtain ⟨i0, hi0, hz0, hz1, hz2⟩ := info_parts sinfo8
        have hmk := run_make_lit (P := Try.prog) 42 5 i0 Try.underlying42 hi0 hz0 hz1 hz2 256 256 rfl (by omega)
        have hblk : Blk (mkB 5 256 w) w.heap.size 5 (zerosA 256) := Blk.new w _ _
        have hc0 : (mkB 5 256 w).cell? ⟨w.heap.size, 0, none⟩ = some (u8 0) := (hblk.cell 0).trans (zerosA_get 256 0 (by omega))
        have hf0 : (mkB 5 256 w).frozen? ⟨w.heap.size, 0, none⟩ = false := hblk.free 0
        have hblk1 := hblk.put 0 (u8 m)
        have hc1 : ((mkB 5 256 w).setCell ⟨w.heap.size, 0, none⟩ (u8 m)).cell? ⟨w.heap.size, 255, none⟩ = some (u8 0) := by rw [hblk1.cell 255, Array.getElem?_setIfInBounds, if_neg (by omega)]; exact zerosA_get 256 255 (by omega)
        have hf1 : ((mkB 5 256 w).setCell ⟨w.heap.size, 0, none⟩ (u8 m)).frozen? ⟨w.heap.size, 255, none⟩ = false := hblk1.free 255
        have hblk2 := hblk1.put 255 (u8 m)
        have hb2 : Below w.heap.size w (((mkB 5 256 w).setCell ⟨w.heap.size, 0, none⟩ (u8 m)).setCell ⟨w.heap.size, 255, none⟩ (u8 m)) := ((mkB_below _ _ _).setCell (Nat.le_refl _) _).setCell (Nat.le_refl _) _
        have hB2 := hbs.below hb2
        have hsp := splice_wrap m p (by omega)
        have hg2 : (((mkB 5 256 w).setCell ⟨w.heap.size, 0, none⟩ (u8 m)).setCell ⟨w.heap.size, 255, none⟩ (u8 m)).heap[w.heap.size]? = some (.cells (((zerosA 256).setIfInBounds 0 (u8 m)).setIfInBounds 255 (u8 m)).toList.toArray 5 (0, 0)) := by rw [Array.toArray_toList]; exact hblk2
        have hcl : (((zerosA 256).setIfInBounds 0 (u8 m)).setIfInBounds 255 (u8 m)).toList.length = 256 := by simp [zerosA_size]
        generalize (((zerosA 256).setIfInBounds 0 (u8 m)).setIfInBounds 255 (u8 m)).toList = cur at *
        have hpos : 0 < (u8s p).length → (some (⟨w.heap.size, 1, none⟩ : Addr)) = some ⟨w.heap.size, 1, none⟩ ∧ ∃ ad, A = some ad ∧ ∀ j v, (u8s p)[j]? = some v → (((mkB 5 256 w).setCell ⟨w.heap.size, 0, none⟩ (u8 m)).setCell ⟨w.heap.size, 255, none⟩ (u8 m)).cell? (ad.add j) = some v := by
          intro h
          rw [u8s_length] at h
          obtain ⟨b, off, rfl, _, hc⟩ := hB2.2 (by omega)
          refine ⟨rfl, _, rfl, fun j v hv => ?_⟩
          rw [u8s_getElem?] at hv
          have hj : j < p.length := by
            rcases Nat.lt_or_ge j p.length with h | h
            · exact h
            · rw [List.getElem?_eq_none h] at hv; cases hv
          have hadd : (⟨b, off, none⟩ : Addr).add j = ⟨b, off + j, none⟩ := by unfold Addr.add; split <;> simp_all
          rw [hadd, hc j hj]
          rw [List.getElem?_eq_getElem hj] at hv
          simp only [Option.map_some, Option.some.injEq] at hv
          rw [← hv, List.getD_eq_getElem?_getD, List.getElem?_eq_getElem hj]
          rfl
        have H := Lib.hid (And.intro hg2 (And.intro hpos (And.intro hb2 (And.intro hsp (And.intro hcl (Stamp.wrapB_length m p (by omega)))))))
        have hmin : (u8s p).length = Nat.min n (256 - 1) := by rw [u8s_length, hl]; exact (Nat.min_eq_left (by omega)).symm
        have HM := Lib.hid (And.intro hmin hl)
        clear hR hl hbs hi0 hz0 hz1 hz2 hblk hblk1 hblk2 hb2 hB2 hsp hg2 hpos hcl hmin
        go_enter Try.func102, Try.ntmps102
        go_wp2_with (with_reducible refine wpList_copy_splice (o := ⟨some 28, _, _, _, _, _⟩) rfl _ _ 42 42 rfl 5 Try.underlying42 ssize8 (some ⟨w.heap.size, 1, none⟩) A 255 255 n cap rfl rfl w.heap.size 1 cur 5 H.out.1 (u8s p) HM.out.1 H.out.2.1 (by rw [H.out.2.2.2.2.1, u8s_length, HM.out.2]; omega) (u8s_one p) w.heap.size w H.out.2.2.1 (Nat.le_refl _) ?_; intro w3 hg3 hb3)
        go_ret2
        exact bytesF_own H.out.2.2.2.2.2 (own_of_blk hg3.out H.out.2.2.2.1 H.out.2.2.2.2.2 (Nat.le_refl _) (by unfold maxLen; omega)) hb3

theorem wrap_any (m : UInt8) (A : Option Addr) (n cap : Nat) (p : List UInt8) (w : World) (hbs : BS w A n p) (hn : n ≤ 140737488351232) :
    Calls Try.prog 102 #[.int .u8 m.toNat, .slice A n cap] w (BytesE w (Stamp.wrapR m p)) := (wrap_own m A n cap p w hbs hn).mono (fun _ _ h => h.E)

/-! Next -/
def MarkE (w : World) (r : UInt8 × Nat) (e : Ending) (w' : World) : Prop := e = .returned (.tuple #[.int .u8 (r.1.toNat : Int), .int .i64 (r.2 : Int)]) ∧ w = w'
theorem nextB_go (x y : UInt8) (old : List UInt8) (hx : old.getD 0 0 = x) (hy : old.getD 255 0 = y) : Stamp.nextB old = if x ≠ 1 ∧ y ≠ 1 then 1 else if x ≠ 2 ∧ y ≠ 2 then 2 else 3 := by
  unfold Stamp.nextB; rw [hx, hy]
theorem num_ne (k : Nat) (hk : k < 256) (x : UInt8) : ((k : Int) != (x.toNat : Int)) = decide (x ≠ UInt8.ofNat k) := by
  by_cases h : x = UInt8.ofNat k
  · subst h
    rw [UInt8.toNat_ofNat', Nat.mod_eq_of_lt (by omega)]; simp
  · have : x.toNat ≠ k := fun e => h (by rw [← e]; simp)
    simp [h]; omega
set_option maxHeartbeats 1000000 in
theorem next_any (A : Option Addr) (n cap : Nat) (bs : List UInt8) (w : World) (hbs : BS w A n bs) :
    Calls Try.prog 101 #[.slice A n cap] w (MarkE w (Stamp.nextR bs)) := by
  have hl := hbs.1
  by_cases h256 : n = 256
  · subst h256
    obtain ⟨b, off, rfl, hlt, hc⟩ := hbs.2 (by omega)
    have c0 := hc 0 (by omega)
    have c255 := hc 255 (by omega)
    rw [Nat.add_zero] at c0
    have hR : Stamp.nextR bs = (Stamp.nextB bs, 0) := by unfold Stamp.nextR; rw [if_neg (by omega)]
    rw [hR]
    have hN := nextB_go (bs.getD 0 0) (bs.getD 255 0) bs rfl rfl
    generalize Stamp.nextB bs = r at *
    generalize bs.getD 0 0 = x at *
    generalize bs.getD 255 0 = y at *
    have HN := Lib.hid hN
    clear hR hl hbs hc hN
    go_enter Try.func101, Try.ntmps101
    go_wp2
    go_step3
    go_wp2
    go_step3
    go_wp2
    go_loop [4, 5, 9] (fun mk _ i => ∃ (k : Nat), k ≤ 3 ∧ i = .int .i64 k ∧ mk = .int .u8 k ∧ ∀ j, 1 ≤ j → j ≤ k → ¬ (x ≠ UInt8.ofNat j ∧ y ≠ UInt8.ofNat j)) (fun _ _ i => 3 - (intOf i).toNat)
    case atStart => exact ⟨0, by omega, rfl, rfl, fun j h1 h2 => by omega⟩
    case round =>
      obtain ⟨k, hk, rfl, rfl, hno⟩ := hrel
      have HO := Lib.hid hno
      clear hno
      by_cases hlt : k < 3
      · have hx := num_ne (k + 1) (by omega) x
        have hy := num_ne (k + 1) (by omega) y
        rw [show ((k + 1 : Nat) : Int) = (k : Int) + 1 from by omega] at hx hy
        by_cases h1 : x = UInt8.ofNat (k + 1)
        · rw [decide_eq_false (not_not_intro h1)] at hx
          have H1 := Lib.hid h1
          clear h1
          go_wp2
          go_round
          case rel =>
            refine ⟨k + 1, by omega, by go_num, by go_num, fun j hj1 hj2 => ?_⟩
            by_cases hjk : j ≤ k
            · exact HO.out j hj1 hjk
            · obtain rfl : j = k + 1 := by omega
              exact fun h => h.1 H1.out
          case measure => simp [intOf]; omega
        · rw [decide_eq_true h1] at hx
          by_cases h2 : y = UInt8.ofNat (k + 1)
          · rw [decide_eq_false (not_not_intro h2)] at hy
            have H2 := Lib.hid h2
            clear h1 h2
            go_wp2
            go_round
            case rel =>
              refine ⟨k + 1, by omega, by go_num, by go_num, fun j hj1 hj2 => ?_⟩
              by_cases hjk : j ≤ k
              · exact HO.out j hj1 hjk
              · obtain rfl : j = k + 1 := by omega
                exact fun h => h.2 H2.out
            case measure => simp [intOf]; omega
          · rw [decide_eq_true h2] at hy
            have hres : r = UInt8.ofNat (k + 1) := by
              rw [HN.out]
              have hk3 : k = 0 ∨ k = 1 ∨ k = 2 := by omega
              rcases hk3 with rfl | rfl | rfl
              · rw [if_pos ⟨h1, h2⟩]; rfl
              · rw [if_neg (show ¬ (x ≠ 1 ∧ y ≠ 1) from HO.out 1 (by omega) (by omega)), if_pos ⟨h1, h2⟩]; rfl
              · rw [if_neg (show ¬ (x ≠ 1 ∧ y ≠ 1) from HO.out 1 (by omega) (by omega)), if_neg (show ¬ (x ≠ 2 ∧ y ≠ 2) from HO.out 2 (by omega) (by omega))]; rfl
            have HR := Lib.hid hres
            clear h1 h2 hres
            go_wp2
            try rw [Exit.noGoto_ret]
            go_ret2
            refine ⟨?_, rfl⟩
            rw [HR.out, UInt8.toNat_ofNat', Nat.mod_eq_of_lt (by omega)]
            rfl
      · obtain rfl : k = 3 := by omega
        have hres : r = 3 := by
          rw [HN.out, if_neg (show ¬ (x ≠ 1 ∧ y ≠ 1) from HO.out 1 (by omega) (by omega)), if_neg (show ¬ (x ≠ 2 ∧ y ≠ 2) from HO.out 2 (by omega) (by omega))]
        have HR := Lib.hid hres
        clear hres
        go_wp2
        try rw [Exit.noGoto_ret]
        go_ret2
        refine ⟨?_, rfl⟩
        rw [HR.out]
        rfl
  · have hR : Stamp.nextR bs = (0, 12) := by unfold Stamp.nextR; rw [if_pos (by omega)]
    rw [hR]
    clear hR hl hbs
    have hg : ((n : Int) != 256) = true := by rw [bne_iff_ne]; omega
    go_enter Try.func101, Try.ntmps101
    go_wp2
    go_step3
    go_wp2
    rw [Exit.noGoto_ret]
    go_ret2
    exact ⟨rfl, rfl⟩
end Go.Proofs.Ytfcmlfcpgboigaa
