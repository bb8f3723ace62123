/- The document's functions of layer 5: Next, Wrap, Open; and the law's awake. -/
import Derived.Test.YtfcmlfcpgboigaaStampWalks
import Derived.Test.YtfcmlfcpgboigaaSame
namespace Go.Proofs.Ytfcmlfcpgboigaa
open Go.RowKit Mem
set_option linter.unusedVariables false

set_option maxHeartbeats 1000000 in
theorem refOpen_any (A : Option Addr) (n cap : Nat) (bs : List UInt8) (w : World) (hbs : BS w A n bs) (hn : n ≤ 140737488351232) (hnc : n ≤ cap) (hcm : cap ≤ 9223372036854775807) :
    Calls Try.prog 98 #[.slice A n cap] w (BytesE w (Stamp.openR bs)) := by
  have hl := hbs.1
  by_cases h256 : n = 256
  · subst h256
    obtain ⟨b, off, rfl, hlt, hc⟩ := hbs.2 (by omega)
    have c0 := hc 0 (by omega)
    have c255 := hc 255 (by omega)
    rw [Nat.add_zero] at c0
    have hR : Stamp.openR bs = if Stamp.openOk bs then (Stamp.openB bs, 0) else ([], 50) := by unfold Stamp.openR; rw [if_neg (by omega)]
    have hne := byteNe (bs.getD 0 0) (bs.getD 255 0)
    have hok : Stamp.openOk bs = decide (bs.getD 0 0 = bs.getD 255 0 ∧ 1 ≤ (bs.getD 0 0).toNat ∧ (bs.getD 0 0).toNat ≤ 3) := rfl
    have hcut := BS.cut_ hbs 1 255 (by omega) (by omega)
    have hob : (bs.drop 1).take (255 - 1) = Stamp.openB bs := rfl
    rw [hob] at hcut
    generalize bs.getD 0 0 = x at *
    generalize bs.getD 255 0 = y at *
    have hx8 := x.toNat_lt
    by_cases hxy : x = y
    · subst hxy
      rw [show decide (x ≠ x) = false by simp] at hne
      by_cases hr1 : x.toNat < 1
      · have hf : Stamp.openOk bs = false := by rw [hok]; apply decide_eq_false; omega
        rw [hR, hf]
        clear hR hok hcut hob hl hbs hc
        have hd : decide ((x.toNat : Int) < 1) = true := by simp; omega
        go_enter Try.func98, Try.ntmps98
        go_wp2
        go_quiet (fail)
        go_wp2
        go_ret2
        exact ⟨none, 0, rfl, BS.empty _ _, by simp, by simp, Drawn.below ⟨_, rfl⟩⟩
      · have hd : decide ((x.toNat : Int) < 1) = false := by simp; omega
        by_cases hr3 : 3 < x.toNat
        · have hf : Stamp.openOk bs = false := by rw [hok]; apply decide_eq_false; omega
          rw [hR, hf]
          clear hR hok hcut hob hl hbs hc
          have hd3 : decide (3 < (x.toNat : Int)) = true := by simp; omega
          go_enter Try.func98, Try.ntmps98
          go_wp2
          go_quiet (fail)
          go_wp2
          go_ret2
          exact ⟨none, 0, rfl, BS.empty _ _, by simp, by simp, Drawn.below ⟨_, rfl⟩⟩
        · have hf : Stamp.openOk bs = true := by rw [hok]; apply decide_eq_true; exact ⟨rfl, by omega, by omega⟩
          rw [hR, hf]
          have hd3 : decide (3 < (x.toNat : Int)) = false := by simp; omega
          obtain ⟨i0, hi0, hz0, hz1, hz2⟩ := info_parts sinfo8
          have HI := Lib.hid (And.intro hi0 (And.intro hz0 (And.intro hz1 hz2)))
          have H := Lib.hid (And.intro hcut (Stamp.openB_length bs hl))
          clear hR hok hcut hob hl hbs hc hi0 hz0 hz1 hz2 hf
          go_enter Try.func98, Try.ntmps98
          go_wp2
          go_quiet (fail)
          have hB2 : BS ((w.drewN nq).alloc (.cells #[] 5)) (some ⟨b, off + 1, none⟩) 254 (Stamp.openB bs) := (H.out.1.below (Drawn.below ⟨nq, rfl⟩)).keep (by simp) (fun b hb => Below.heap_alloc _ _ _ hb)
          have ho : ((w.drewN nq).alloc (.cells #[] 5)).ownsRow w.heap.size 5 1 (.slice (some ⟨w.heap.size, 0, none⟩) 0 0) 0 [] := World.ownsRow_made (w.drewN nq) #[] 0 (Nat.le_refl _) (by simp [maxLen]) (by simp)
          have H2 := Lib.hid (And.intro hB2 ho)
          clear hB2 ho
          go_wp2_with (at_builtin; refine wpList_append_bs _ rfl _ _ 42 rfl w.heap.size 5 i0 Try.underlying42 HI.out.1 HI.out.2.1 HI.out.2.2.1 HI.out.2.2.2 (.slice (some ⟨w.heap.size, 0, none⟩) 0 0) 0 [] rfl H2.out.2 (some ⟨b, off + 1, none⟩) 254 (cap - 1) (Stamp.openB bs) rfl H2.out.1 (by omega) (by simp) ?_; intro v' w1 hown hg hat)
          go_ret2
          have hb0 : Below w.heap.size w (w.drewN nq) := Drawn.below ⟨nq, rfl⟩
          have hb1 : Below w.heap.size w w1 := (hb0.alloc (Nat.le_refl _) _).grown hg (by simp) (by simp [Value.ownBlock])
          exact bytesE_own H.out.2 (by simpa using hown) hb1
    · rw [show decide (x ≠ y) = true by simp [hxy]] at hne
      have hf : Stamp.openOk bs = false := by rw [hok]; apply decide_eq_false; exact fun h => hxy h.1
      rw [hR, hf]
      clear hR hok hcut hob hl hbs hc hxy
      go_enter Try.func98, Try.ntmps98
      go_wp2
      go_quiet (fail)
      go_wp2
      go_ret2
      exact ⟨none, 0, rfl, BS.empty _ _, by simp, by simp, Drawn.below ⟨_, rfl⟩⟩
  · have hR : Stamp.openR bs = ([], 12) := by unfold Stamp.openR; rw [if_pos (by omega)]
    rw [hR]
    clear hR hl hbs
    have hg : ((n : Int) != 256) = true := by rw [bne_iff_ne]; omega
    go_enter Try.func98, Try.ntmps98
    go_wp2
    go_ret2
    exact bytesE_nil w 12

theorem wrap_fill (m : UInt8) (p : List UInt8) (k : Nat) : m :: (p ++ List.replicate k 0) ++ [0] = m :: (p ++ List.replicate (k + 1) 0) := by
  rw [List.replicate_succ']
  simp
set_option maxRecDepth 100000 in
set_option maxHeartbeats 1000000 in
theorem refWrap_any (m : UInt8) (A : Option Addr) (n cap : Nat) (p : List UInt8) (w : World) (hbs : BS w A n p) (hn : n ≤ 140737488351232) :
    Calls Try.prog 36 #[.int .u8 m.toNat, .slice A n cap] w (BytesE w (Stamp.wrapR m p)) := by
  have hl := hbs.1
  have hm8 := m.toNat_lt
  by_cases h1 : m.toNat < 1
  · have hR : Stamp.wrapR m p = ([], 1) := by unfold Stamp.wrapR; rw [if_pos (by omega)]
    rw [hR]
    clear hR hl hbs
    have hd : decide ((m.toNat : Int) < 1) = true := by simp; omega
    go_enter Try.func36, Try.ntmps36
    go_wp2
    go_ret2
    exact bytesE_nil w 1
  · have hd : decide ((m.toNat : Int) < 1) = false := by simp; omega
    by_cases h3 : 3 < m.toNat
    · have hR : Stamp.wrapR m p = ([], 1) := by unfold Stamp.wrapR; rw [if_pos (by omega)]
      rw [hR]
      clear hR hl hbs
      have hd3 : decide (3 < (m.toNat : Int)) = true := by simp; omega
      go_enter Try.func36, Try.ntmps36
      go_wp2
      go_ret2
      exact bytesE_nil w 1
    · have hd3 : decide (3 < (m.toNat : Int)) = false := by simp; omega
      by_cases h254 : 254 < n
      · have hR : Stamp.wrapR m p = ([], 12) := by unfold Stamp.wrapR; rw [if_neg (by omega), if_pos (by omega)]
        rw [hR]
        clear hR hl hbs
        have hd4 : decide (254 < (n : Int)) = true := by simp; omega
        go_enter Try.func36, Try.ntmps36
        go_wp2
        go_ret2
        exact bytesE_nil w 12
      · have hR : Stamp.wrapR m p = (Stamp.wrapB m p, 0) := by unfold Stamp.wrapR; rw [if_neg (by omega), if_neg (by omega)]
        rw [hR]
        have hd4 : decide (254 < (n : Int)) = false := by simp; omega
        obtain ⟨i0, hi0, hz0, hz1, hz2⟩ := info_parts sinfo8
        have hB2 : BS (w.alloc (.cells #[u8 m] 5)) A n p := hbs.keep (by simp) (fun b hb => Below.heap_alloc _ _ _ hb)
        have ho2 : (w.alloc (.cells #[u8 m] 5)).ownsRow w.heap.size 5 1 (.slice (some ⟨w.heap.size, 0, none⟩) 1 1) 1 (u8s [m]) := World.ownsRow_lit w _ 1 (Nat.le_refl _) (by simp [maxLen]) (by simp)
        have HI := Lib.hid (And.intro hi0 (And.intro hz0 (And.intro hz1 hz2)))
        have H := Lib.hid (And.intro hB2 (And.intro ho2 (And.intro hl (Stamp.wrapB_length m p (by omega)))))
        clear hR hl hbs hi0 hz0 hz1 hz2 hB2 ho2
        go_enter Try.func36, Try.ntmps36
        go_wp2_with (at_builtin; refine wpList_append_bs _ rfl (.tmp 18) (.tmp 19) 42 rfl w.heap.size 5 i0 Try.underlying42 HI.out.1 HI.out.2.1 HI.out.2.2.1 HI.out.2.2.2 (.slice (some ⟨w.heap.size, 0, none⟩) 1 1) 1 (u8s [m]) rfl H.out.2.1 A n cap p rfl H.out.1 (by omega) (by simp) ?_; intro v' w1 hown hg hat)
        have hb1 : Below w.heap.size w w1 := ((Below.refl _ _).alloc (Nat.le_refl _) _).grown hg (by simp) (by simp [Value.ownBlock])
        rw [← u8s_append] at hown
        have H1 := Lib.hid (And.intro hown hb1)
        clear hown hb1 hg hat
        go_loopw [6] (fun v wr => ∃ (L k : Nat), L ≤ 255 ∧ Hid (L = 1 + n + k) ∧ wr.ownsRow w.heap.size 5 1 v L (u8s (m :: (p ++ List.replicate k 0))) ∧ Below w.heap.size w wr) (fun v _ => 255 - sliceLen v)
        case atStart => exact ⟨1 + n, 0, by omega, (show 1 + n = 1 + n + 0 from rfl), by simpa using H1.out.1, H1.out.2⟩
        case round =>
          obtain ⟨L, k, hk, hL, ho, hb⟩ := hrel
          obtain ⟨A1, c1, rfl⟩ := own_slice ho
          generalize hcur : u8s (m :: (p ++ List.replicate k 0)) = cur at *
          have HC := Lib.hid hcur
          clear hcur
          by_cases hlt : L < 255
          · have hB0 : BS (wr.alloc (.cells #[Value.int .u8 0] 5)) (some ⟨wr.heap.size, 0, none⟩) 1 [0] := BS.made wr _ _ _ [0] rfl
            have HO := Lib.hid (And.intro (ho.alloc (.cells #[Value.int .u8 0] 5)) (And.intro hb hB0))
            clear ho hb hB0
            have hs := HO.out.2.1.size
            go_wp2_with (at_builtin; refine wpList_append_bs _ rfl (.tmp 24) (.tmp 25) 42 rfl w.heap.size 5 i0 Try.underlying42 HI.out.1 HI.out.2.1 HI.out.2.2.1 HI.out.2.2.2 (.slice A1 L c1) L cur rfl HO.out.1 (some ⟨wr.heap.size, 0, none⟩) 1 1 [0] rfl HO.out.2.2 (by omega) (by simp; omega) ?_; intro v2 w2 hown2 hg2 hat2)
            obtain ⟨A2, c2, rfl⟩ := own_slice hown2
            go_roundw
            case rel =>
              refine ⟨L + 1, k + 1, by omega, (show L + 1 = 1 + n + (k + 1) from by rw [hL.out]; omega), ?_, ?_⟩
              · rw [← HC.out, ← u8s_append, wrap_fill] at hown2
                exact hown2
              · exact (HO.out.2.1.alloc hs _).grown hg2 (by simp; omega) (fun j hj => (HO.out.1.lt j hj).1)
            case measure => simp [sliceLen]; omega
          · obtain rfl : L = 255 := by omega
            have hB0 : BS (wr.alloc (.cells #[u8 m] 5)) (some ⟨wr.heap.size, 0, none⟩) 1 [m] := BS.made wr _ _ _ [m] rfl
            have HO := Lib.hid (And.intro (ho.alloc (.cells #[u8 m] 5)) (And.intro hb hB0))
            clear ho hb hB0
            have hs := HO.out.2.1.size
            go_wp2_with (at_builtin; refine wpList_append_bs _ rfl (.tmp 27) (.tmp 29) 42 rfl w.heap.size 5 i0 Try.underlying42 HI.out.1 HI.out.2.1 HI.out.2.2.1 HI.out.2.2.2 (.slice A1 255 c1) 255 cur rfl HO.out.1 (some ⟨wr.heap.size, 0, none⟩) 1 1 [m] rfl HO.out.2.2 (by omega) (by simp; omega) ?_; intro v2 w2 hown2 hg2 hat2)
            go_ret2
            have hb2 : Below w.heap.size w w2 := (HO.out.2.1.alloc hs _).grown hg2 (by simp; omega) (fun j hj => (HO.out.1.lt j hj).1)
            rw [← HC.out, ← u8s_append] at hown2
            have e : m :: (p ++ List.replicate k 0) ++ [m] = Stamp.wrapB m p := by
              unfold Stamp.wrapB
              rw [show k = 254 - p.length from by have := hL.out; have := H.out.2.2.1; omega]
            rw [e] at hown2
            exact bytesE_own H.out.2.2.2 hown2 hb2

end Go.Proofs.Ytfcmlfcpgboigaa
