/- The document's functions of layer 5: Next, Wrap, Open; and the law's awake. -/
import Derived.Test.YtaooimhodoefoaaStampWalks
import Derived.Test.YtaooimhodoefoaaSame
namespace Go.Proofs.Ytaooimhodoefoaa
open Go.RowKit Mem
set_option linter.unusedVariables false

set_option maxHeartbeats 1000000 in
theorem refOpen_any (A : Option Addr) (n cap : Nat) (bs : List UInt8) (w : World) (hbs : BS w A n bs) (hn : n ≤ 140737488351232) (hnc : n ≤ cap) (hcm : cap ≤ 9223372036854775807) :
    Calls Try.prog 18 #[.slice A n cap] w (BytesE w (Stamp.openR bs)) := by
  have hl := hbs.1
  by_cases h256 : n = 256
  · subst h256
    obtain ⟨b, off, rfl, hlt, hc⟩ := hbs.2 (by omega)
    have c0 := hc 0 (by omega)
    have c255 := hc 255 (by omega)
    rw [Nat.add_zero] at c0
    have hR : Stamp.openR bs = if Stamp.openOk bs then (Stamp.openB bs, 0) else ([], 50) := by unfold Stamp.openR; rw [if_neg (by omega)]
    have hne := byteNe (bs.getD 0 0) (bs.getD 255 0)
    have hok : Stamp.openOk bs = decide (bs.getD 0 0 = bs.getD 255 0 ∧ 1 ≤ (bs.getD 0 0).toNat ∧ (bs.getD 0 0).toNat ≤ 3) := rfl
    have hcut := BS.cut_ hbs 1 255 (by omega) (by omega)
    have hob : (bs.drop 1).take (255 - 1) = Stamp.openB bs := rfl
    rw [hob] at hcut
    generalize bs.getD 0 0 = x at *
    generalize bs.getD 255 0 = y at *
    have hx8 := x.toNat_lt
    by_cases hxy : x = y
    · subst hxy
      rw [show decide (x ≠ x) = false by simp] at hne
      by_cases hr1 : x.toNat < 1
      · have hf : Stamp.openOk bs = false := by rw [hok]; apply decide_eq_false; omega
        rw [hR, hf]
        clear hR hok hcut hob hl hbs hc
        have hd : decide ((x.toNat : Int) < 1) = true := by simp; omega
        go_enter Try.func18, Try.ntmps18
        go_wp2
        go_quiet (fail)
        go_wp2
        go_ret2
        exact ⟨none, 0, rfl, BS.empty _ _, by simp, by simp, Drawn.below ⟨_, rfl⟩⟩
      · have hd : decide ((x.toNat : Int) < 1) = false := by simp; omega
        by_cases hr3 : 3 < x.toNat
        · have hf : Stamp.openOk bs = false := by rw [hok]; apply decide_eq_false; omega
          rw [hR, hf]
          clear hR hok hcut hob hl hbs hc
          have hd3 : decide (3 < (x.toNat : Int)) = true := by simp; omega
          go_enter Try.func18, Try.ntmps18
          go_wp2
          go_quiet (fail)
          go_wp2
          go_ret2
          exact ⟨none, 0, rfl, BS.empty _ _, by simp, by simp, Drawn.below ⟨_, rfl⟩⟩
        · have hf : Stamp.openOk bs = true := by rw [hok]; apply decide_eq_true; exact ⟨rfl, by omega, by omega⟩
          rw [hR, hf]
          have hd3 : decide (3 < (x.toNat : Int)) = false := by simp; omega
          obtain ⟨i0, hi0, hz0, hz1, hz2⟩ := info_parts sinfo8
          have HI := Lib.hid (And.intro hi0 (And.intro hz0 (And.intro hz1 hz2)))
          have H := Lib.hid (And.intro hcut (Stamp.openB_length bs hl))
          clear hR hok hcut hob hl hbs hc hi0 hz0 hz1 hz2 hf
          go_enter Try.func18, Try.ntmps18
          go_wp2
          go_quiet (fail)
          have hB2 : BS ((w.drewN nq).alloc (.cells #[] 5)) (some ⟨b, off + 1, none⟩) 254 (Stamp.openB bs) := (H.out.1.below (Drawn.below ⟨nq, rfl⟩)).keep (by simp) (fun b hb => Below.heap_alloc _ _ _ hb)
          have ho : ((w.drewN nq).alloc (.cells #[] 5)).ownsRow w.heap.size 5 1 (.slice (some ⟨w.heap.size, 0, none⟩) 0 0) 0 [] := World.ownsRow_made (w.drewN nq) #[] 0 (Nat.le_refl _) (by simp [maxLen]) (by simp)
          have H2 := Lib.hid (And.intro hB2 ho)
          clear hB2 ho
          go_wp2_with (at_builtin; refine wpList_append_bs _ rfl _ _ 22 rfl w.heap.size 5 i0 Try.underlying22 HI.out.1 HI.out.2.1 HI.out.2.2.1 HI.out.2.2.2 (.slice (some ⟨w.heap.size, 0, none⟩) 0 0) 0 [] rfl H2.out.2 (some ⟨b, off + 1, none⟩) 254 (cap - 1) (Stamp.openB bs) rfl H2.out.1 (by omega) (by simp) ?_; intro v' w1 hown hg hat)
          go_ret2
          have hb0 : Below w.heap.size w (w.drewN nq) := Drawn.below ⟨nq, rfl⟩
          have hb1 : Below w.heap.size w w1 := (hb0.alloc (Nat.le_refl _) _).grown hg (by simp) (by simp [Value.ownBlock])
          exact bytesE_own H.out.2 (by simpa using hown) hb1
    · rw [show decide (x ≠ y) = true by simp [hxy]] at hne
      have hf : Stamp.openOk bs = false := by rw [hok]; apply decide_eq_false; exact fun h => hxy h.1
      rw [hR, hf]
      clear hR hok hcut hob hl hbs hc hxy
      go_enter Try.func18, Try.ntmps18
      go_wp2
      go_quiet (fail)
      go_wp2
      go_ret2
      exact ⟨none, 0, rfl, BS.empty _ _, by simp, by simp, Drawn.below ⟨_, rfl⟩⟩
  · have hR : Stamp.openR bs = ([], 12) := by unfold Stamp.openR; rw [if_pos (by omega)]
    rw [hR]
    clear hR hl hbs
    have hg : ((n : Int) != 256) = true := by rw [bne_iff_ne]; omega
    go_enter Try.func18, Try.ntmps18
    go_wp2
    go_ret2
    exact bytesE_nil w 12

theorem wrap_fill (m : UInt8) (p : List UInt8) (k : Nat) : m :: (p ++ List.replicate k 0) ++ [0] = m :: (p ++ List.replicate (k + 1) 0) := by
  rw [List.replicate_succ']
  simp
set_option maxRecDepth 100000 in
set_option maxHeartbeats 1000000 in
theorem refWrap_any (m : UInt8) (A : Option Addr) (n cap : Nat) (p : List UInt8) (w : World) (hbs : BS w A n p) (hn : n ≤ 140737488351232) :
    Calls Try.prog 21 #[.int .u8 m.toNat, .slice A n cap] w (BytesE w (Stamp.wrapR m p)) := by
  have hl := hbs.1
  have hm8 := m.toNat_lt
  by_cases h1 : m.toNat < 1
  · have hR : Stamp.wrapR m p = ([], 1) := by unfold Stamp.wrapR; rw [if_pos (by omega)]
    rw [hR]
    clear hR hl hbs
    have hd : decide ((m.toNat : Int) < 1) = true := by simp; omega
    go_enter Try.func21, Try.ntmps21
    go_wp2
    go_ret2
    exact bytesE_nil w 1
  · have hd : decide ((m.toNat : Int) < 1) = false := by simp; omega
    by_cases h3 : 3 < m.toNat
    · have hR : Stamp.wrapR m p = ([], 1) := by unfold Stamp.wrapR; rw [if_pos (by omega)]
      rw [hR]
      clear hR hl hbs
      have hd3 : decide (3 < (m.toNat : Int)) = true := by simp; omega
      go_enter Try.func21, Try.ntmps21
      go_wp2
      go_ret2
      exact bytesE_nil w 1
    · have hd3 : decide (3 < (m.toNat : Int)) = false := by simp; omega
      by_cases h254 : 254 < n
      · have hR : Stamp.wrapR m p = ([], 12) := by unfold Stamp.wrapR; rw [if_neg (by omega), if_pos (by omega)]
        rw [hR]
        clear hR hl hbs
        have hd4 : decide (254 < (n : Int)) = true := by simp; omega
        go_enter Try.func21, Try.ntmps21
        go_wp2
        go_ret2
        exact bytesE_nil w 12
      · have hR : Stamp.wrapR m p = (Stamp.wrapB m p, 0) := by unfold Stamp.wrapR; rw [if_neg (by omega), if_neg (by omega)]
        rw [hR]
        have hd4 : decide (254 < (n : Int)) = false := by simp; omega
        obtain ⟨i0, hi0, hz0, hz1, hz2⟩ := info_parts sinfo8
        have hB2 : BS (w.alloc (.cells #[u8 m] 5)) A n p := hbs.keep (by simp) (fun b hb => Below.heap_alloc _ _ _ hb)
        have ho2 : (w.alloc (.cells #[u8 m] 5)).ownsRow w.heap.size 5 1 (.slice (some ⟨w.heap.size, 0, none⟩) 1 1) 1 (u8s [m]) := World.ownsRow_lit w _ 1 (Nat.le_refl _) (by simp [maxLen]) (by simp)
        have HI := Lib.hid (And.intro hi0 (And.intro hz0 (And.intro hz1 hz2)))
        have H := Lib.hid (And.intro hB2 (And.intro ho2 (And.intro hl (Stamp.wrapB_length m p (by omega)))))
        clear hR hl hbs hi0 hz0 hz1 hz2 hB2 ho2
        go_enter Try.func21, Try.ntmps21
        go_wp2_with (at_builtin; refine wpList_append_bs _ rfl (.tmp 18) (.tmp 19) 22 rfl w.heap.size 5 i0 Try.underlying22 HI.out.1 HI.out.2.1 HI.out.2.2.1 HI.out.2.2.2 (.slice (some ⟨w.heap.size, 0, none⟩) 1 1) 1 (u8s [m]) rfl H.out.2.1 A n cap p rfl H.out.1 (by omega) (by simp) ?_; intro v' w1 hown hg hat)
        have hb1 : Below w.heap.size w w1 := ((Below.refl _ _).alloc (Nat.le_refl _) _).grown hg (by simp) (by simp [Value.ownBlock])
        rw [← u8s_append] at hown
        have H1 := Lib.hid (And.intro hown hb1)
        clear hown hb1 hg hat
        go_loopw [6] (fun v wr => ∃ (L k : Nat), L ≤ 255 ∧ Hid (L = 1 + n + k) ∧ wr.ownsRow w.heap.size 5 1 v L (u8s (m :: (p ++ List.replicate k 0))) ∧ Below w.heap.size w wr) (fun v _ => 255 - sliceLen v)
        case atStart => exact ⟨1 + n, 0, by omega, (show 1 + n = 1 + n + 0 from rfl), by simpa using H1.out.1, H1.out.2⟩
        case round =>
          obtain ⟨L, k, hk, hL, ho, hb⟩ := hrel
          obtain ⟨A1, c1, rfl⟩ := own_slice ho
          generalize hcur : u8s (m :: (p ++ List.replicate k 0)) = cur at *
          have HC := Lib.hid hcur
          clear hcur
          by_cases hlt : L < 255
          · have hB0 : BS (wr.alloc (.cells #[Value.int .u8 0] 5)) (some ⟨wr.heap.size, 0, none⟩) 1 [0] := BS.made wr _ _ _ [0] rfl
            have HO := Lib.hid (And.intro (ho.alloc (.cells #[Value.int .u8 0] 5)) (And.intro hb hB0))
            clear ho hb hB0
            have hs := HO.out.2.1.size
            go_wp2_with (at_builtin; refine wpList_append_bs _ rfl (.tmp 24) (.tmp 25) 22 rfl w.heap.size 5 i0 Try.underlying22 HI.out.1 HI.out.2.1 HI.out.2.2.1 HI.out.2.2.2 (.slice A1 L c1) L cur rfl HO.out.1 (some ⟨wr.heap.size, 0, none⟩) 1 1 [0] rfl HO.out.2.2 (by omega) (by simp; omega) ?_; intro v2 w2 hown2 hg2 hat2)
            obtain ⟨A2, c2, rfl⟩ := own_slice hown2
            go_roundw
            case rel =>
              refine ⟨L + 1, k + 1, by omega, (show L + 1 = 1 + n + (k + 1) from by rw [hL.out]; omega), ?_, ?_⟩
              · rw [← HC.out, ← u8s_append, wrap_fill] at hown2
                exact hown2
              · exact (HO.out.2.1.alloc hs _).grown hg2 (by simp; omega) (fun j hj => (HO.out.1.lt j hj).1)
            case measure => simp [sliceLen]; omega
          · obtain rfl : L = 255 := by omega
            have hB0 : BS (wr.alloc (.cells #[u8 m] 5)) (some ⟨wr.heap.size, 0, none⟩) 1 [m] := BS.made wr _ _ _ [m] rfl
            have HO := Lib.hid (And.intro (ho.alloc (.cells #[u8 m] 5)) (And.intro hb hB0))
            clear ho hb hB0
            have hs := HO.out.2.1.size
            go_wp2_with (at_builtin; refine wpList_append_bs _ rfl (.tmp 27) (.tmp 29) 22 rfl w.heap.size 5 i0 Try.underlying22 HI.out.1 HI.out.2.1 HI.out.2.2.1 HI.out.2.2.2 (.slice A1 255 c1) 255 cur rfl HO.out.1 (some ⟨wr.heap.size, 0, none⟩) 1 1 [m] rfl HO.out.2.2 (by omega) (by simp; omega) ?_; intro v2 w2 hown2 hg2 hat2)
            go_ret2
            have hb2 : Below w.heap.size w w2 := (HO.out.2.1.alloc hs _).grown hg2 (by simp; omega) (fun j hj => (HO.out.1.lt j hj).1)
            rw [← HC.out, ← u8s_append] at hown2
            have e : m :: (p ++ List.replicate k 0) ++ [m] = Stamp.wrapB m p := by
              unfold Stamp.wrapB
              rw [show k = 254 - p.length from by have := hL.out; have := H.out.2.2.1; omega]
            rw [e] at hown2
            exact bytesE_own H.out.2.2.2 hown2 hb2

set_option maxRecDepth 100000 in
set_option maxHeartbeats 1000000 in
theorem refNext_any (A : Option Addr) (n cap : Nat) (bs : List UInt8) (w : World) (hbs : BS w A n bs) :
    Calls Try.prog 23 #[.slice A n cap] w (MarkE w (Stamp.nextR bs)) := by
  have hl := hbs.1
  by_cases h256 : n = 256
  · subst h256
    obtain ⟨b, off, rfl, hlt, hc⟩ := hbs.2 (by omega)
    have c0 := hc 0 (by omega)
    have c255 := hc 255 (by omega)
    rw [Nat.add_zero] at c0
    have hR : Stamp.nextR bs = (Stamp.nextB bs, 0) := by unfold Stamp.nextR; rw [if_neg (by omega)]
    rw [hR]
    have hN := nextB_go (bs.getD 0 0) (bs.getD 255 0) bs rfl rfl
    generalize Stamp.nextB bs = r at *
    generalize bs.getD 0 0 = x at *
    generalize bs.getD 255 0 = y at *
    have ne1 : ∀ z : UInt8, ((z.toNat : Int) != 1) = decide (z ≠ 1) := fun z => byteNe z 1
    have ne2 : ∀ z : UInt8, ((z.toNat : Int) != 2) = decide (z ≠ 2) := fun z => byteNe z 2
    have x1 := ne1 x
    have x2 := ne2 x
    have y1 := ne1 y
    have y2 := ne2 y
    clear hR hl hbs hc ne1 ne2
    by_cases a1 : x = 1
    · rw [decide_eq_false (not_not_intro a1)] at x1
      have a2 : x ≠ 2 := by rw [a1]; decide
      rw [decide_eq_true a2] at x2
      by_cases b2 : y = 2
      · rw [decide_eq_false (not_not_intro b2)] at y2
        have hr : r = 3 := by rw [hN, if_neg (fun h => h.1 a1), if_neg (fun h => h.2 b2)]
        subst hr
        clear hN y1 a1 a2 b2
        go_enter Try.func23, Try.ntmps23
        go_wp2
        go_ret2
        exact ⟨rfl, rfl⟩
      · rw [decide_eq_true b2] at y2
        have hr : r = 2 := by rw [hN, if_neg (fun h => h.1 a1), if_pos ⟨a2, b2⟩]
        subst hr
        clear hN y1 a1 a2 b2
        go_enter Try.func23, Try.ntmps23
        go_wp2
        go_ret2
        exact ⟨rfl, rfl⟩
    · rw [decide_eq_true a1] at x1
      by_cases b1 : y = 1
      · rw [decide_eq_false (not_not_intro b1)] at y1
        have b2 : y ≠ 2 := by rw [b1]; decide
        rw [decide_eq_true b2] at y2
        by_cases a2 : x = 2
        · rw [decide_eq_false (not_not_intro a2)] at x2
          have hr : r = 3 := by rw [hN, if_neg (fun h => h.2 b1), if_neg (fun h => h.1 a2)]
          subst hr
          clear hN a1 a2 b1 b2
          go_enter Try.func23, Try.ntmps23
          go_wp2
          go_ret2
          exact ⟨rfl, rfl⟩
        · rw [decide_eq_true a2] at x2
          have hr : r = 2 := by rw [hN, if_neg (fun h => h.2 b1), if_pos ⟨a2, b2⟩]
          subst hr
          clear hN a1 a2 b1 b2
          go_enter Try.func23, Try.ntmps23
          go_wp2
          go_ret2
          exact ⟨rfl, rfl⟩
      · rw [decide_eq_true b1] at y1
        have hr : r = 1 := by rw [hN, if_pos ⟨a1, b1⟩]
        subst hr
        clear hN a1 b1 x2 y2
        go_enter Try.func23, Try.ntmps23
        go_wp2
        go_ret2
        exact ⟨rfl, rfl⟩
  · have hR : Stamp.nextR bs = (0, 12) := by unfold Stamp.nextR; rw [if_pos (by omega)]
    rw [hR]
    clear hR hl hbs
    have hg : ((n : Int) != 256) = true := by rw [bne_iff_ne]; omega
    go_enter Try.func23, Try.ntmps23
    go_wp2
    go_ret2
    exact ⟨rfl, rfl⟩

set_option maxRecDepth 100000 in
set_option maxHeartbeats 1000000 in
theorem awake05_any (w : World) : Calls Try.prog 15 #[] w fun e w' => e = .returned (.bool true) ∧ Below w.heap.size w w' := by
  have hBa : BS (w.alloc (.cells #[Value.int .u8 97] 5)) (some ⟨w.heap.size, 0, none⟩) 1 [97] := BS.made w _ _ _ [97] rfl
  have HB := Lib.hid hBa
  clear hBa
  have hwr : Stamp.wrapR 2 [97] = (Stamp.wrapB 2 [97], 0) := rfl
  have hl := Stamp.wrapB_length 2 [97] (by simp)
  have hop : Stamp.openR (Stamp.wrapB 2 [97]) = (Stamp.openB (Stamp.wrapB 2 [97]), 0) := by
    unfold Stamp.openR
    rw [if_neg (by omega), Stamp.openOk_wrapB 2 [97] (by simp) (by decide) (by decide), if_pos rfl]
  have hol := Stamp.openB_length _ hl
  have hh := Stamp.wrapB_head 2 [97]
  have ht := Stamp.wrapB_last 2 [97] (by simp)
  have hoh : (Stamp.openB (Stamp.wrapB 2 [97])).getD 0 0 = 97 := by rw [Stamp.openB_wrapB 2 [97] (by simp)]; rfl
  generalize Stamp.openB (Stamp.wrapB 2 [97]) = q at *
  generalize Stamp.wrapB 2 [97] = s at *
  have HM := Lib.hid (And.intro hwr (And.intro hop (And.intro hl (And.intro hol (And.intro hh (And.intro ht hoh))))))
  clear hwr hop hl hol hh ht hoh
  go_enter Try.func15, Try.ntmps15
  go_wp2_with fail
  refine (wrap_any 2 _ 1 1 [97] _ HB.out (by omega)).mono ?_
  rw [HM.out.1]
  rintro e w1 ⟨A1, c1, rfl, hB1, hc1, hm1, hb1⟩
  simp only [HM.out.2.2.1] at hB1 hc1 ⊢
  have H1 := Lib.hid (And.intro hB1 hb1)
  clear hB1 hb1
  go_wp2_with fail
  refine (open_any A1 256 c1 s w1 H1.out.1 (by omega) hc1 hm1).mono ?_
  rw [HM.out.2.1]
  rintro e w2 ⟨A2, c2, rfl, hB2, hc2, hm2, hb2⟩
  simp only [HM.out.2.2.2.1] at hB2 hc2 ⊢
  have hB1' := H1.out.1.below hb2
  obtain ⟨b, off, rfl, _, hcell⟩ := hB1'.2 (by omega)
  have d0 := hcell 0 (by rw [HM.out.2.2.1]; omega)
  have d255 := hcell 255 (by rw [HM.out.2.2.1]; omega)
  rw [HM.out.2.2.2.2.1, Nat.add_zero] at d0
  rw [HM.out.2.2.2.2.2.1] at d255
  obtain ⟨b2, off2, rfl, _, hcell2⟩ := hB2.2 (by omega)
  have f0 := hcell2 0 (by rw [HM.out.2.2.2.1]; omega)
  rw [HM.out.2.2.2.2.2.2, Nat.add_zero] at f0
  have H2 := Lib.hid hb2
  clear hcell hcell2 hB1' hB2 hb2
  have d0' : w2.cell? ⟨b, off, none⟩ = some (.int .u8 2) := d0
  have d255' : w2.cell? ⟨b, off + 255, none⟩ = some (.int .u8 2) := d255
  have f0' : w2.cell? ⟨b2, off2, none⟩ = some (.int .u8 97) := f0
  clear d0 d255 f0
  go_wp2
  go_ret
  refine ⟨rfl, ?_⟩
  have h0 : Below w.heap.size w (w.alloc (.cells #[Value.int .u8 97] 5)) := (Below.refl _ _).alloc (Nat.le_refl _) _
  have h1 := h0.trans (H1.out.2.mono h0.size)
  exact h1.trans (H2.out.mono h1.size)
end Go.Proofs.Ytaooimhodoefoaa
