/- The document's functions of layer 3. -/
import Derived.Test.YtlpdjpkdgagjpaaDoorSealSum
import Derived.Test.YtlpdjpkdgagjpaaDoorNumRefs
import Derived.Lib.AppendStr
import Derived.Test.YtlpdjpkdgagjpaaDoorSealRefR
namespace Go.Proofs.YtlpdjpkdgagjpaaDoor
open Go.RowKit Mem
set_option maxRecDepth 100000
set_option linter.unusedVariables false
set_option linter.unusedSimpArgs false

theorem sum4_take (c : BitVec 32) (k : Nat) (hk : k < 4) : (Sl.sum4 c).take (k + 1) = (Sl.sum4 c).take k ++ [UInt8.ofNat (c.toNat / 256 ^ k % 256)] := by
  match k, hk with
  | 0, _ => simp [Sl.sum4]
  | 1, _ => simp [Sl.sum4]
  | 2, _ => simp [Sl.sum4]
  | 3, _ => simp [Sl.sum4]
set_option maxHeartbeats 2000000 in
theorem refSumOf_any (A : Option Addr) (n cap : Nat) (bs : List UInt8) (w : World) (hbs : BS w A n bs) (hn : n ≤ 140737488351232) :
    Calls Tryd.prog 66 #[.slice A n cap] w (OwnB 5 w (Sl.sum4 (Crc.sum bs))) := by
  obtain ⟨i0, hi0, hz0, hz1, hz2⟩ := info_parts ninfo8
  have HI := Lib.hid (And.intro hi0 (And.intro hz0 (And.intro hz1 hz2)))
  clear hi0 hz0 hz1 hz2
  have hcr := refSum_any A n cap bs w hbs hn
  generalize Crc.sum bs = c at *
  have hlt := c.isLt
  have H := Lib.hid hcr
  clear hcr hbs
  go_enter Tryd.func66, Tryd.ntmps66
  go_wp2_with fail
  refine H.out.mono ?_
  rintro e w1 ⟨rfl, rfl⟩
  go_wp2
  go_loopw [3, 4, 5] (fun x o i wr => ∃ (k : Nat), k ≤ 4 ∧ i = .int .i64 k ∧ x = .int .u32 ((c.toNat / 256 ^ k : Nat) : Int) ∧ wr.ownsRow w.heap.size 5 1 o k (u8s ((Sl.sum4 c).take k)) ∧ Below w.heap.size w wr) (fun _ _ i _ => 4 - (intOf i).toNat)
  case atStart => exact ⟨0, by omega, rfl, by simp, ⟨rfl, .inl ⟨rfl, rfl⟩⟩, Below.refl _ _⟩
  case round =>
    obtain ⟨k, hk, rfl, rfl, ho, hb⟩ := hrel
    by_cases hlt4 : k < 4
    · have hst := sum4_take c k hlt4
      have hdv : c.toNat / 256 ^ (k + 1) = c.toNat / 256 ^ k / 256 := by rw [Nat.pow_succ, Nat.div_div_eq_div_mul]
      have hdl : c.toNat / 256 ^ k < 4294967296 := Nat.lt_of_le_of_lt (Nat.div_le_self _ _) hlt
      generalize c.toNat / 256 ^ k = d at *
      have hby : ((d : Int) % 256) % 256 = ((UInt8.ofNat (d % 256)).toNat : Int) := by rw [UInt8.toNat_ofNat']; omega
      have hbd : (d : Int) % 256 = ((UInt8.ofNat (d % 256)).toNat : Int) := by rw [UInt8.toNat_ofNat']; omega
      have hb1 := BS.made wr #[Mem.u8 (UInt8.ofNat (d % 256))] 5 (0, 0) [UInt8.ofNat (d % 256)] rfl
      generalize UInt8.ofNat (d % 256) = y at *
      have hbl : Below w.heap.size w (wr.alloc (.cells #[Mem.u8 y] 5)) := hb.alloc hb.size _
      have hoa := own_below ho ((Below.refl _ _).alloc (Nat.le_refl _) (Obj.cells #[Mem.u8 y] 5))
      obtain ⟨A1, c1, rfl⟩ := own_slice ho
      have HR := Lib.hid (And.intro hoa (And.intro hbl (And.intro hst (And.intro hb1 hdv))))
      clear ho hb hst hb1 hdv hoa hbl
      go_wp2_with (at_builtin; refine wpList_append_bs _ rfl _ _ 38 rfl w.heap.size 5 i0 Tryd.underlying38 HI.out.1 HI.out.2.1 HI.out.2.2.1 HI.out.2.2.2 (.slice A1 k c1) k _ rfl HR.out.1 (some ⟨wr.heap.size, 0, none⟩) 1 1 [y] rfl HR.out.2.2.2.1 (by omega) HR.out.2.1.size ?_; intro v' w2 hown hg _; obtain ⟨A2, c2, rfl⟩ := own_slice hown; have H2 := Lib.hid (And.intro hown hg); clear hown hg)
      go_roundw
      case rel =>
        refine ⟨k + 1, by omega, by go_num, by rw [HR.out.2.2.2.2]; rfl, ?_, ?_⟩
        · rw [HR.out.2.2.1, u8s_append]; exact H2.out.1
        · exact grown_below HR.out.2.1 HR.out.1 H2.out.2
      case measure => simp [intOf]; omega
    · obtain rfl : k = 4 := by omega
      rw [show (Sl.sum4 c).take 4 = Sl.sum4 c from List.take_of_length_le (by rw [Sl.sum4_length]; omega)] at ho
      obtain ⟨A1, c1, rfl⟩ := own_slice ho
      have HR := Lib.hid (And.intro ho hb)
      clear ho hb
      go_wp2
      go_ret
      exact ⟨_, rfl, HR.out.1, HR.out.2⟩
/-- bytes of one's own, and an error -/
theorem sealB_len (bs : List UInt8) : (Sl.sealB bs).length = (Sl.textB bs).length + 4 := by rw [Sl.sealB, List.length_append, Sl.sum4_length]
set_option maxHeartbeats 4000000 in
theorem refSeal_any (A : Option Addr) (n cap : Nat) (bs : List UInt8) (w : World) (hbs : BS w A n bs) (hn : n ≤ 140737488351232) :
    Calls Tryd.prog 40 #[.slice A n cap] w (SealP w (Sl.sealE bs)) := by
  unfold Sl.sealE
  rw [hbs.1]
  by_cases hl : 4096 < n
  · rw [if_pos hl]
    clear hbs
    go_enter Tryd.func40, Tryd.ntmps40
    go_wp2
    go_ret2
    exact ⟨_, rfl, ⟨rfl, .inl ⟨rfl, rfl⟩⟩, Below.refl _ _⟩
  · rw [if_neg hl]
    obtain ⟨i0, hi0, hz0, hz1, hz2⟩ := info_parts ninfo8
    have HI := Lib.hid (And.intro hi0 (And.intro hz0 (And.intro hz1 hz2)))
    have hcv := conv_bytes0 hbs cap _ (fun _ => rfl)
    have hlen := hbs.1
    have hlt : (Sl.textB bs).length ≤ 5000 := by
      have := numB_le bs.length
      rw [Sl.textB, List.length_append]
      omega
    have H := Lib.hid (And.intro hlen hlt)
    clear hi0 hz0 hz1 hz2 hbs hlen hlt
    unfold str at hcv
    go_enter Tryd.func40, Tryd.ntmps40
    go_wp2_with fail
    refine (refText_any bs w (by rw [H.out.1]; omega)).mono ?_
    rintro e w1 ⟨v1, rfl, ho1, hb1⟩
    obtain ⟨A1, c1, rfl⟩ := own_slice ho1
    have H1 := Lib.hid (And.intro ho1 hb1)
    clear ho1 hb1 hcv
    go_wp2_with fail
    refine (refSumOf_any A1 _ c1 (Sl.textB bs) w1 (BS.of_own H1.out.1) (by have := H.out.2; omega)).mono ?_
    rintro e w2 ⟨v2, rfl, ho2, hb2⟩
    obtain ⟨A2, c2, rfl⟩ := own_slice ho2
    have H2 := Lib.hid (And.intro (own_below H1.out.1 hb2) (And.intro ho2 (H1.out.2.trans (hb2.mono H1.out.2.size))))
    clear ho2 hb2
    go_wp2_with (at_builtin; refine wpList_append_bs _ rfl _ _ 38 rfl w.heap.size 5 i0 Tryd.underlying38 HI.out.1 HI.out.2.1 HI.out.2.2.1 HI.out.2.2.2 (.slice A1 (Sl.textB bs).length c1) _ _ rfl H2.out.1 A2 (Sl.sum4 (Crc.sum (Sl.textB bs))).length c2 _ rfl (BS.of_own H2.out.2.1) (by have := H.out.2; rw [Sl.sum4_length]; omega) H2.out.2.2.size ?_; intro v' w3 hown hg _)
    go_ret2
    refine ⟨_, rfl, ?_, grown_below H2.out.2.2 H2.out.1 hg⟩
    rw [sealB_len, Sl.sealB, u8s_append]
    exact hown
set_option maxHeartbeats 4000000 in
theorem refOpen_any (A : Option Addr) (n cap : Nat) (bs : List UInt8) (w : World) (hbs : BS w A n bs) (hn : n ≤ 140737488351232) (hnc : n ≤ cap) (hcm : cap ≤ 9223372036854775807) :
    Calls Tryd.prog 60 #[.slice A n cap] w (OpenP w (Sl.openB bs)) := by
  have hlen := hbs.1
  have hle := Sl.textF_le bs 4096
  have hmost := Sl.textF_err bs 4096
  have hslen : (Sl.textF bs 4096).1.length ≤ 100000 := Sl.textF_short bs 4096 (by omega)
  have hR0 : RfAt (w.alloc (.cells #[.slice A n cap, .int .i64 0] 121)) w.heap.size ⟨bs, 0⟩ (fun k => k < w.heap.size + 1) := by
    refine ⟨A, n, cap, Blk.new _ _ _, hbs.below ((Below.refl _ _).alloc (Nat.le_refl _) _), hnc, hcm, by omega, fun a hp e => ?_, fun k hk => by simpa using hk⟩
    obtain ⟨b, off, hA, hlt, _⟩ := hbs.2 hp
    rw [hA] at e
    injection e with e
    subst e
    exact ⟨by simp; omega, by simp; omega⟩
  have hb0 : Below w.heap.size w (w.alloc (.cells #[.slice A n cap, .int .i64 0] 121)) := (Below.refl _ _).alloc (Nat.le_refl _) _
  have hOp : Sl.openB bs = if (Sl.textF bs 4096).2.2 ≠ 0 then ([], 0, (Sl.textF bs 4096).2.2) else if bs.length - (Sl.textF bs 4096).2.1 < 4 then ([], 0, 10)
      else if Sl.sum4 (Crc.sum (bs.take (Sl.textF bs 4096).2.1)) ≠ (bs.drop (Sl.textF bs 4096).2.1).take 4 then ([], 0, 30) else ((Sl.textF bs 4096).1, (Sl.textF bs 4096).2.1 + 4, 0) := rfl
  generalize Sl.openB bs = R at *
  have htx := refRText_any w.heap.size ⟨bs, 0⟩ _ 4096 _ hR0 (by omega) (by rw [hlen]; exact hn)
  have hout : Sl.out (⟨bs, 0⟩ : Sl.R) [] (Sl.textF bs 4096).1 = (Sl.textF bs 4096).1 := rfl
  rw [hout] at htx
  generalize Sl.textF bs 4096 = t at *
  obtain ⟨s, k, er⟩ := t
  simp only at hle hmost hOp hslen htx
  rw [hlen] at hle hOp
  have H := Lib.hid (And.intro htx (And.intro hb0 (And.intro hbs hlen)))
  have HOp := Lib.hid hOp
  clear htx hb0 hbs hlen hout hR0 hOp
  go_enter Tryd.func60, Tryd.ntmps60
  go_wp2_with fail
  refine H.out.1.mono ?_
  rintro e w2 ⟨rfl, hbd, hf2⟩
  have hb2 : Below w.heap.size w w2 := H.out.2.1.trans (hf2.below H.out.2.1.size (fun k e => by omega))
  have hbsw := H.out.2.2.1.below hb2
  have hlen := H.out.2.2.2
  obtain ⟨A2, n2, c2, g1, g2, g3, g4, g5, g6, g7⟩ := id hbd
  have cc0 : w2.cell? ⟨w.heap.size, 0, none⟩ = some (.slice A2 n2 c2) := g1.cell 0
  have cc1 : w2.cell? ⟨w.heap.size, 1, none⟩ = some (.int .i64 (Sl.try_ ⟨bs, 0⟩ (k, er)).e) := g1.cell 1
  have hOp := HOp.out
  clear HOp
  have hqlt := g1.lt
  generalize hqq : w.heap.size = q at cc0 cc1 g1 hqlt ⊢
  have HQ := Lib.hid hqq
  clear hqq
  by_cases he : er = 0
  · subst he
    rw [if_neg (by simp)] at hOp
    have htr : Sl.try_ ⟨bs, 0⟩ (k, 0) = ⟨bs.drop k, 0⟩ := rfl
    rw [htr] at cc1 g2
    simp only at cc1 g2
    have hn2 : n2 = n - k := by rw [← g2.1, List.length_drop, hlen]
    subst hn2
    have H2 := Lib.hid (And.intro g2 (And.intro hb2 (And.intro hbsw (And.intro hlen g1))))
    clear g1 g2 g4 g5 g6 g7 hbd hb2 hbsw hlen htr hf2
    by_cases h4 : n - k < 4
    · rw [if_pos h4] at hOp
      subst hOp
      unfold str
      go_wp2
      go_ret3
      exact openP_nil H2.out.2.1 _ _
    · rw [if_neg h4] at hOp
      unfold str
      have HO := Lib.hid hOp
      clear hOp
      go_wp2
      rw [show ((n : Int) - ((n - k : Nat) : Int)) = (k : Int) by omega]
      have hcutA := fun W => cut_h A n cap k (k : Int) rfl (by omega) W
      have hcutB := fun W => cut_h A2 (n - k) c2 4 4 rfl (by omega) W
      have hBd : BS w2.drew A n bs := ⟨H2.out.2.2.1.1, H2.out.2.2.1.2⟩
      have hBk : BS w2.drew A k (bs.take k) := hBd.take_ k (by omega)
      have hB4 : BS w2.drew A2 4 ((bs.drop k).take 4) := by
        have : BS w2.drew A2 (n - k) (bs.drop k) := ⟨H2.out.1.1, H2.out.1.2⟩
        exact this.take_ 4 (by omega)
      have hk1 : (0 : Int) ≤ (k : Int) := by omega
      have hk4 : (4 : Int) ≤ (c2 : Int) := by omega
      generalize ((bs.drop k).take 4) = l4 at *
      generalize bs.take k = lk at *
      have H3 := Lib.hid (And.intro hBk hB4)
      have hkp : ∀ w3, Below w2.drew.heap.size w2.drew w3 → w3.cell? ⟨q, 0, none⟩ = some (.slice A2 (n - k) c2) := fun w3 hb => (hb.cell (p := ⟨q, 0, none⟩) (H2.out.2.2.2.2.lt)).trans cc0
      have HK := Lib.hid hkp
      clear hBk hBd hB4 hkp
      go_region_held3 (fun w' => w'.cell? ⟨q, 0, none⟩ = some (.slice A2 (n - k) c2)) ((first | assumption | exact cc0 | exact HS3 | exact HS4))
        (first
          | (go_at_call 66; go_must (refine (refSumOf_any A k cap lk _ H3.out.1 (by omega)).mono ?_; rintro e w3 ⟨v3, rfl, ho3, hb3⟩; obtain ⟨A3, c3, rfl⟩ := own_slice ho3; have HS3 := HK.out w3 hb3; have HB3 := Lib.hid (And.intro ho3 hb3); clear ho3 hb3))
          | (go_at_call 28; go_must (refine (same_any A3 A2 _ 4 c3 c2 _ _ _ (BS.of_own HB3.out.1) (H3.out.2.below HB3.out.2) (by simp [Sl.sum4_length]) (by omega)).mono ?_; rintro e w4 ⟨rfl, hd4⟩; have HS4 : w4.cell? ⟨q, 0, none⟩ = some (.slice A2 (n - k) c2) := (hd4.below.cell (p := ⟨q, 0, none⟩) (World.block_lt_of_cell? _ _ HS3)).trans HS3; have HB4 := Lib.hid hd4; clear hd4)))
      have hb4 : Below w.heap.size w w4 := by
        have h2 : Below w.heap.size w w2.drew := ⟨H2.out.2.1.os, H2.out.2.1.tape, H2.out.2.1.output, H2.out.2.1.size, H2.out.2.1.block⟩
        have h3 := h2.trans (HB3.out.2.mono h2.size)
        exact h3.trans (HB4.out.below.mono h3.size)
      have HB := Lib.hid hb4
      clear hb4 HS3 HS4 hcutA hcutB cc0 cc1
      by_cases hsum : Sl.sum4 (Crc.sum lk) = l4
      · have hR := HO.out
        rw [if_neg (fun h => h hsum)] at hR
        subst hR
        rw [decide_eq_true hsum]
        clear HO hsum
        have hcs := conv_str s w4
        unfold str at hcs
        go_wp2
        go_ret3
        exact openP_str s (k + 4) hslen HB.out
      · have hR := HO.out
        rw [if_pos hsum] at hR
        subst hR
        rw [decide_eq_false hsum]
        clear HO hsum
        go_wp2
        go_ret3
        exact openP_nil HB.out 0 30
  · have hne : ((er : Int) != 0) = true := by rw [bne_iff_ne]; omega
    rw [if_pos he] at hOp
    have htr : Sl.try_ ⟨bs, 0⟩ (k, er) = ⟨bs, er⟩ := by unfold Sl.try_; rw [if_neg (by simp), if_pos he]
    rw [htr] at cc1
    simp only at cc1
    subst hOp
    have H2 := Lib.hid hb2
    clear g1 g2 g3 g4 g5 g6 g7 hbd hb2 hbsw hlen htr he hf2
    unfold str
    go_wp2
    go_region
    all_goals go_wp2
    all_goals go_ret3
    all_goals exact openP_nil (w' := w2.drew) ⟨H2.out.os, H2.out.tape, H2.out.output, H2.out.size, H2.out.block⟩ 0 er
end Go.Proofs.YtlpdjpkdgagjpaaDoor
