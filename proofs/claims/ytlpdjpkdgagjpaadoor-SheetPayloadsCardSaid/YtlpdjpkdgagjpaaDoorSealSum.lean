/- What layer 3 does with sums: sum, Seal, Open. -/
import Derived.Test.YtlpdjpkdgagjpaaDoorSealWrite
import Derived.Test.YtlpdjpkdgagjpaaDoorSealRead2
import Derived.Test.YtlpdjpkdgagjpaaDoorCrcWalks
import Derived.Test.YtlpdjpkdgagjpaaDoorSteps2
import Derived.LoopN
import Derived.Deep.RegionHeld3
import Derived.Deep.DrawnRows
namespace Go.Proofs.YtlpdjpkdgagjpaaDoor
open Go.RowKit Mem
set_option maxRecDepth 100000
set_option linter.unusedVariables false
set_option linter.unusedSimpArgs false

set_option maxHeartbeats 1000000 in
theorem rev4 (base g cap : Nat) (a b c d : UInt8) (w : World) (ho : w.ownsRow base 5 1 (.slice (some ⟨g, 0, none⟩) 4 cap) 4 (u8s [a, b, c, d])) :
    Calls Tryd.prog 89 #[.slice (some ⟨g, 0, none⟩) 4 cap] w fun e w' => e = .returned (.tuple #[]) ∧ w'.ownsRow base 5 1 (.slice (some ⟨g, 0, none⟩) 4 cap) 4 (u8s [d, c, b, a]) ∧ Fr (fun k => k = g) w w' := by
  have c0 : w.cell? ⟨g, 0, none⟩ = some (u8 a) := ho.cellAt 0 (by omega)
  have c1 : w.cell? ⟨g, 1, none⟩ = some (u8 b) := ho.cellAt 1 (by omega)
  have c2 : w.cell? ⟨g, 2, none⟩ = some (u8 c) := ho.cellAt 2 (by omega)
  have c3 : w.cell? ⟨g, 3, none⟩ = some (u8 d) := ho.cellAt 3 (by omega)
  have f0 := ho.frozenAt 0
  have f1 := ho.frozenAt 1
  have f2 := ho.frozenAt 2
  have f3 := ho.frozenAt 3
  have H := Lib.hid ho
  clear ho
  go_enter Tryd.func89, Tryd.ntmps89
  go_wp2
  refine wp_loop_rounds 3 ?_
  rw [rounds_succ]
  go_wp2
  go_region
  all_goals go_wp2
  rw [rounds_succ]
  go_wp2
  go_region
  all_goals go_wp2
  rw [rounds_succ]
  go_wp2
  go_end0
  have h1 := (H.out.stored 0 (u8 d)).1
  have h2 := (h1.stored 3 (u8 a)).1
  have h3 := (h2.stored 1 (u8 c)).1
  have h4 := (h3.stored 2 (u8 b)).1
  refine ⟨rfl, own_keep h4 (fun _ _ => rfl), ?_⟩
  have hf : Fr (fun k => k = g) w ((((w.setCell ⟨g, 0, none⟩ (u8 d)).setCell ⟨g, 3, none⟩ (u8 a)).setCell ⟨g, 1, none⟩ (u8 c)).setCell ⟨g, 2, none⟩ (u8 b)) :=
    ((((Fr.refl (fun k => k = g) w).setCell ⟨g, 0, none⟩ (u8 d) (fun _ => rfl)).setCell ⟨g, 3, none⟩ (u8 a) (fun _ => rfl)).setCell ⟨g, 1, none⟩ (u8 c) (fun _ => rfl)).setCell ⟨g, 2, none⟩ (u8 b) (fun _ => rfl)
  exact (hf.drew 1).drew 1
theorem own_raise {w : World} {e : TypeId} {size n : Nat} {v : Value} {xs : List Value} {base B : Nat} (h : w.ownsRow base e size v n xs) (hk : ∀ k, v.ownBlock = some k → B ≤ k) : w.ownsRow B e size v n xs := by
  refine ⟨h.1, ?_⟩
  rcases h.2 with h2 | ⟨g, cap, cur, rfl, hb, r⟩
  · exact .inl h2
  · exact .inr ⟨g, cap, cur, rfl, hk g rfl, r⟩
theorem wide4 (n : Nat) : ∃ a b c d, Num.wideB n 4 = [a, b, c, d] := by
  have h := Num.wideB_length 4 n
  match hw : Num.wideB n 4, h with
  | [a, b, c, d], _ => exact ⟨a, b, c, d, rfl⟩
theorem wrap_u64_32 (c : BitVec 32) : IntKind.u64.wrap (c.toNat : Int) = (c.toNat : Int) := by
  have := c.isLt
  rw [IntKind.wrap_u64]; omega
set_option maxHeartbeats 1000000 in
theorem sum_any (A : Option Addr) (n cap : Nat) (bs : List UInt8) (w : World) (hbs : BS w A n bs) (hn : n ≤ 140737488351232) (ht : Half w) :
    Calls Tryd.prog 64 #[.slice A n cap] w (OwnB 5 w (Sl.sum4 (Crc.sum bs))) := by
  have hcr := crcSum_any A n cap bs w hbs hn ht
  generalize Crc.sum bs = c at *
  have hlt := c.isLt
  have hwd := wide_ok c.toNat 4 w (by omega) (by omega) (by omega) (by omega)
  have hw4 := Sl.sum4_wide c
  obtain ⟨x0, x1, x2, x3, hx⟩ := wide4 c.toNat
  rw [hx] at hwd hw4
  have H := Lib.hid (And.intro hcr (And.intro hwd hw4))
  clear hcr hwd hw4 hbs hn ht hx
  go_enter Tryd.func64, Tryd.ntmps64
  go_wp2_with fail
  refine H.out.1.mono ?_
  rintro e w1 ⟨rfl, rfl⟩
  go_wp2_with fail
  refine H.out.2.1.mono ?_
  rintro e w1 ⟨v, rfl, ho, hb⟩
  obtain ⟨g, cp, rfl, hge, hgl⟩ := ho.form (by simp)
  have H1 := Lib.hid (And.intro ho (And.intro hb hge))
  clear ho hb
  go_wp2_with fail
  refine (rev4 w.heap.size g cp x0 x1 x2 x3 w1 H1.out.1).mono ?_
  rintro e w2 ⟨rfl, ho2, hf2⟩
  have H2 := Lib.hid (And.intro ho2 hf2)
  clear ho2 hf2
  go_wp2
  go_ret
  refine ⟨_, rfl, ?_, ?_⟩
  · rw [← H.out.2.2]; exact H2.out.1
  · exact H1.out.2.1.trans (H2.out.2.below H1.out.2.1.size (fun k e => by have := H1.out.2.2; omega))
/-- bytes of one's own, and an error -/
def SealP (w : World) (r : List UInt8 × Nat) (e : Ending) (w' : World) : Prop :=
  ∃ v, e = .returned (.tuple #[v, .int .i64 (r.2 : Int)]) ∧ w'.ownsRow w.heap.size 5 1 v r.1.length (u8s r.1) ∧ Below w.heap.size w w'
attribute [local go_sem ↓] Go.wp_at_zero Go.wp_at_succ
set_option maxRecDepth 100000 in
set_option maxHeartbeats 4000000 in
theorem seal_any (A : Option Addr) (n cap : Nat) (bs : List UInt8) (w : World) (hbs : BS w A n bs) (hn : n ≤ 140737488351232) (ht : Half w) :
    Calls Tryd.prog 39 #[.slice A n cap] w (SealP w (Sl.sealE bs)) := by
  unfold Sl.sealE
  rw [hbs.1]
  by_cases hl : 4096 < n
  · rw [if_pos hl]
    clear hbs ht
    go_enter Tryd.func39, Tryd.ntmps39
    go_wp2
    go_ret2
    exact ⟨_, rfl, ⟨rfl, .inl ⟨rfl, rfl⟩⟩, Below.refl _ _⟩
  · rw [if_neg hl]
    obtain ⟨i0, hi0, hz0, hz1, hz2⟩ := info_parts ninfo8
    have HI := Lib.hid (And.intro hi0 (And.intro hz0 (And.intro hz1 hz2)))
    have hbW : Below w.heap.size w (w.alloc (.cells #[.slice none 0 0] 93)) := (Below.refl _ _).alloc (Nat.le_refl _) _
    have hcv := conv_bytes0 (hbs.below hbW) cap _ (fun _ => rfl)
    have hwr := WrAt.new w
    have hlen := hbs.1
    have H := Lib.hid (And.intro hwr (And.intro hbW (And.intro ht hlen)))
    clear hi0 hz0 hz1 hz2 hwr hbW ht hbs hlen
    unfold str at hcv
    go_enter Tryd.func39, Tryd.ntmps39
    go_wp2_with fail
    refine (wtext_any w.heap.size [] _ bs _ H.out.1 (by simp; rw [H.out.2.2.2]; omega)).mono ?_
    rintro e w1 ⟨rfl, F1, h1, hf1, hF1⟩
    rw [List.nil_append] at h1
    obtain ⟨v, g1, g2, g3, g4, g5⟩ := h1
    obtain ⟨A1, c1, rfl⟩ := own_slice g2
    have hc0 : w1.cell? ⟨w.heap.size, 0, none⟩ = some (.slice A1 (Sl.textB bs).length c1) := g1.cell 0
    have hb1 : Below w.heap.size w w1 := H.out.2.1.trans (hf1.below H.out.2.1.size (fun k e => by omega))
    have hge : ∀ k, (Value.slice A1 (Sl.textB bs).length c1).ownBlock = some k → w.heap.size ≤ k := fun k e => by
      rcases hF1 k (g4 k e) with x | x
      · omega
      · have := H.out.2.1.size; omega
    have ho1 := own_raise g2 hge
    have hlt : (Sl.textB bs).length ≤ 5000 := by
      have := numB_le bs.length
      rw [Sl.textB, List.length_append]
      have := H.out.2.2.2
      omega
    have ht1 : Half w1.drew := fun i hi => H.out.2.2.1.below hb1 i hi
    have ho1d : w1.drew.ownsRow w.heap.size 5 1 (.slice A1 (Sl.textB bs).length c1) (Sl.textB bs).length (u8s (Sl.textB bs)) := own_keep ho1 (fun _ _ => rfl)
    have hb1d : Below w.heap.size w w1.drew := ⟨hb1.os, hb1.tape, hb1.output, hb1.size, hb1.block⟩
    have H1 := Lib.hid (And.intro g1 (And.intro ho1d (And.intro hb1d (And.intro ht1 hlt))))
    clear g1 g2 g3 g4 g5 hf1 hF1 hb1 hge ho1 hlt hcv ht1 ho1d hb1d
    go_wp2_with fail
    have hkp : ∀ w2, Below w1.drew.heap.size w1.drew w2 → w2.cell? ⟨w.heap.size, 0, none⟩ = some (.slice A1 (Sl.textB bs).length c1) := fun w2 hb => (hb.cell (p := ⟨w.heap.size, 0, none⟩) H1.out.1.lt).trans hc0
    have hkq : ∀ w2 w3, Below w1.drew.heap.size w1.drew w2 → w2.grownBy w3 (Value.slice A1 (Sl.textB bs).length c1).ownBlock → w3.cell? ⟨w.heap.size, 0, none⟩ = some (.slice A1 (Sl.textB bs).length c1) := fun w2 w3 hb hg => by
      refine (World.cell?_of_block (hg.block w.heap.size (Nat.lt_of_lt_of_le H1.out.1.lt hb.size) (fun e => ?_))).trans (hkp w2 hb)
      obtain ⟨cur, hcur⟩ := own_block H1.out.2.1 e.symm
      have hblk := H1.out.1
      unfold Blk at hblk
      have : w1.heap[w.heap.size]? = some (.cells cur 5 (0, 0)) := hcur
      rw [this] at hblk
      injection hblk with hblk
      injection hblk with _ hblk
      exact absurd hblk (by decide)
    have HK := Lib.hid (And.intro hkp hkq)
    clear hkp hkq
    go_region_held3 (fun w' => w'.cell? ⟨w.heap.size, 0, none⟩ = some (.slice A1 (Sl.textB bs).length c1)) ((first | assumption | exact HS | exact hc0))
      (first
        | (go_at_call 64; go_must (refine (sum_any _ _ _ (Sl.textB bs) _ (BS.of_own H1.out.2.1) (by have := H1.out.2.2.2.2; omega) H1.out.2.2.2.1).mono ?_; rintro e w2 ⟨v2, rfl, ho2, hb2⟩; obtain ⟨A2, c2, rfl⟩ := own_slice ho2; have HS := HK.out.1 w2 hb2; have H2 := Lib.hid (And.intro ho2 hb2); clear ho2 hb2))
        | (refine step_app_bs (by rfl) (.tmp 12) (.tmp 15) 38 (by rfl) w.heap.size 5 i0 Tryd.underlying38 HI.out.1 HI.out.2.1 HI.out.2.2.1 HI.out.2.2.2 (.slice A1 (Sl.textB bs).length c1) (Sl.textB bs).length (u8s (Sl.textB bs)) (by rfl) (own_below H1.out.2.1 H2.out.2) A2 4 c2 (Sl.sum4 (Crc.sum (Sl.textB bs))) (by rfl) (BS.of_own H2.out.1) (by have := H1.out.2.2.2.2; omega) (Nat.le_trans H1.out.2.2.1.size H2.out.2.size) ?_; intro A3 c3 w3 ho3 hg3 hat3; have HS3 := HK.out.2 _ w3 H2.out.2 hg3; have H3 := Lib.hid (And.intro ho3 (And.intro hg3 hat3)); clear ho3 hg3 hat3))
    go_wp2
    go_ret2
    have hb2 : Below w.heap.size w w2 := H1.out.2.2.1.trans (H2.out.2.mono H1.out.2.2.1.size)
    refine ⟨_, rfl, ?_, ?_⟩
    · have := H3.out.1
      rw [← u8s_append] at this
      have hl : (Sl.sealB bs).length = (Sl.textB bs).length + 4 := by rw [Sl.sealB, List.length_append, Sl.sum4_length]
      rw [hl]
      exact this
    · have hge : ∀ k, (Value.slice A1 (Sl.textB bs).length c1).ownBlock = some k → w.heap.size ≤ k := fun k e => by
        rcases H1.out.2.1.2 with ⟨e0, _⟩ | ⟨g, cp, cur, e0, hg, _⟩
        · rw [e0] at e; simp [Value.ownBlock] at e
        · rw [e0] at e; simp [Value.ownBlock] at e; omega
      have hf3 : Fr (fun k => (Value.slice A1 (Sl.textB bs).length c1).ownBlock = some k) w2 w3 := (Fr.refl _ _).grown H3.out.2.1 (fun k e _ => e)
      exact hb2.trans (hf3.below hb2.size hge)
/-- a body, how many bytes, an error -/
def OpenP (w : World) (r : List UInt8 × Nat × Nat) (e : Ending) (w' : World) : Prop :=
  ∃ A c, e = .returned (.tuple #[.slice A r.1.length c, .int .i64 r.2.1, .int .i64 r.2.2]) ∧ BS w' A r.1.length r.1 ∧ r.1.length ≤ c ∧ c ≤ 9223372036854775807 ∧ Below w.heap.size w w' ∧
    (0 < r.1.length → ∃ g, A = some ⟨g, 0, none⟩ ∧ w.heap.size ≤ g ∧ ∀ j, j < r.1.length → w'.frozen? ⟨g, j, none⟩ = false)
theorem openP_nil {w w' : World} (h : Below w.heap.size w w') (n k : Nat) : OpenP w ([], n, k) (.returned (.tuple #[.slice none 0 0, .int .i64 (n : Int), .int .i64 (k : Int)])) w' := ⟨none, 0, rfl, BS.empty _ _, by simp, by simp, h, by simp⟩
theorem openP_str {w w0 : World} (s : List UInt8) (n : Nat) (hs : s.length ≤ 100000) (hb : Below w0.heap.size w0 w) : OpenP w0 (s, n, 0) (.returned (.tuple #[.slice (some ⟨w.heap.size, 0, none⟩) s.length (grownCap w s.length 0 5), .int .i64 (n : Int), .int .i64 0])) (Lib.bytesWorld w 5 ⟨s.toArray⟩) := by
  refine ⟨_, _, rfl, bytesWorld_bs w _ s, grownCap_ge _ _ _ _, ?_, hb.trans ((bytesWorld_below w _ _).mono hb.size), fun _ => ⟨_, rfl, hb.size, fun j hj => ?_⟩⟩
  · have := grownCap_le_maxLen w s.length 0 5 (by unfold maxLen; omega)
    simpa [maxLen] using this
  · have h1 := Lib.bytesWorld_at_new w 5 ⟨s.toArray⟩
    have h2 : j < (Lib.bytesCells w 5 ⟨s.toArray⟩).size := by
      have hc := Lib.bytesWorld_cell w 5 ⟨s.toArray⟩ j (by rw [ba_size]; exact hj)
      unfold World.cell? at hc
      rw [h1] at hc
      rcases Nat.lt_or_ge j (Lib.bytesCells w 5 ⟨s.toArray⟩).size with hlt | hge
      · exact hlt
      · simp [Array.getElem?_eq_none hge] at hc
    simp [World.frozen?, h1]
    omega
set_option maxHeartbeats 4000000 in
theorem open_any (A : Option Addr) (n cap : Nat) (bs : List UInt8) (w : World) (hbs : BS w A n bs) (hn : n ≤ 140737488351232) (hnc : n ≤ cap) (hcm : cap ≤ 9223372036854775807) (ht : Half w) :
    Calls Tryd.prog 55 #[.slice A n cap] w (OpenP w (Sl.openB bs)) := by
  have hlen := hbs.1
  have hle := Sl.textF_le bs 4096
  have hmost := Sl.textF_err bs 4096
  have H := Lib.hid (And.intro hbs (And.intro ht hlen))
  clear hbs ht hlen
  go_enter Tryd.func55, Tryd.ntmps55
  go_wp2_with fail
  refine (read_new A n cap bs w H.out.1 hn).mono ?_
  rintro e w1 ⟨q, F, rfl, hr, hb1, hF⟩
  have H1 := Lib.hid (And.intro hr (And.intro hb1 hF))
  clear hr hb1 hF
  go_wp2_with fail
  refine (rtext_any q ⟨bs, 0⟩ F 4096 w1 H1.out.1 (by omega) (by rw [H.out.2.2]; omega)).mono ?_
  rintro e w2 ⟨rfl, hr2, hf2⟩
  have hbd : RdAt w2 q (Sl.try_ ⟨bs, 0⟩ (Sl.textF bs 4096).2) F := hr2
  have hb2 : Below w.heap.size w w2 := H1.out.2.1.trans (hf2.below H1.out.2.1.size (fun k e => by subst e; exact H1.out.2.2 _ H1.out.1.self))
  have hbsw := H.out.1.below hb2
  have htw := H.out.2.1.below hb2
  have hOp : Sl.openB bs = if (Sl.textF bs 4096).2.2 ≠ 0 then ([], 0, (Sl.textF bs 4096).2.2) else if bs.length - (Sl.textF bs 4096).2.1 < 4 then ([], 0, 10)
      else if Sl.sum4 (Crc.sum (bs.take (Sl.textF bs 4096).2.1)) ≠ (bs.drop (Sl.textF bs 4096).2.1).take 4 then ([], 0, 30) else ((Sl.textF bs 4096).1, (Sl.textF bs 4096).2.1 + 4, 0) := rfl
  generalize Sl.openB bs = R at *
  have hout : Sl.out (⟨bs, 0⟩ : Sl.R) [] (Sl.textF bs 4096).1 = (Sl.textF bs 4096).1 := rfl
  rw [hout]
  have hslen : (Sl.textF bs 4096).1.length ≤ 100000 := Sl.textF_short bs 4096 (by omega)
  generalize Sl.textF bs 4096 = t at *
  obtain ⟨s, k, er⟩ := t
  simp only at hle hmost hOp hslen hbd ⊢
  have hlen := H.out.2.2
  rw [hlen] at hle hOp
  clear hr2 hf2 hout
  obtain ⟨A2, n2, c2, g1, g2, g3, g4, g5, g6, g7⟩ := id hbd
  have cc1 : w2.cell? ⟨q, 1, none⟩ = some (.int .i64 (Sl.try_ ⟨bs, 0⟩ (k, er)).e) := g1.cell 1
  by_cases he : er = 0
  · subst he
    rw [if_neg (by simp)] at hOp
    have htr : Sl.try_ ⟨bs, 0⟩ (k, 0) = ⟨bs.drop k, 0⟩ := rfl
    rw [htr] at cc1 hbd
    simp only at cc1
    have hleft := rleft_any q _ F w2 hbd
    rw [show (bs.drop k).length = n - k from by rw [List.length_drop, hlen]] at hleft
    have H2 := Lib.hid (And.intro hbd (And.intro hb2 (And.intro hbsw (And.intro htw (And.intro hlen hleft)))))
    clear g1 g2 g3 g4 g5 g6 g7 hbd hb2 hbsw htw hlen hleft htr
    by_cases h4 : n - k < 4
    · rw [if_pos h4] at hOp
      subst hOp
      unfold str
      go_wp2_with (go_at_call 80; refine H2.out.2.2.2.2.2.mono ?_; rintro e w3 ⟨rfl, rfl⟩)
      go_ret3
      exact openP_nil H2.out.2.1 _ _
    · rw [if_neg h4] at hOp
      unfold str
      have HO := Lib.hid hOp
      clear hOp
      go_wp2_with (go_at_call 80; refine H2.out.2.2.2.2.2.mono ?_; rintro e w3 ⟨rfl, rfl⟩)
      rw [show ((n : Int) - ((n - k : Nat) : Int)) = (k : Int) by omega]
      have hcutA := fun W => cut_h A n cap k (k : Int) rfl (by omega) W
      have hcutB := fun W => cut_lh A n cap k (k + 4) (k : Int) ((k : Int) + 4) rfl (by omega) (by omega) (by omega) W
      rw [show k + 4 - k = 4 by omega] at hcutB
      have hBd : BS w2.drew A n bs := ⟨H2.out.2.2.1.1, H2.out.2.2.1.2⟩
      have htd : Half w2.drew := fun i hi => H2.out.2.2.2.1 i hi
      have hBk : BS w2.drew A k (bs.take k) := hBd.take_ k (by omega)
      have hB4 : BS w2.drew (subA A cap k) 4 ((bs.drop k).take 4) := by
        have := subA_bs hBd cap k (k + 4) (by omega) (by omega) hnc
        rwa [show k + 4 - k = 4 by omega] at this
      have hcv4 : ∀ w', (∀ a : Addr, a.block < w2.heap.size → w'.cell? a = w2.cell? a) → (convert 38 9 (.slice (subA A cap k) 4 (cap - k))).run Tryd.prog w' = .ok (str ((bs.drop k).take 4)) w' := by
        intro w' hw'
        refine conv_bytes0 (w := w') ⟨hB4.1, fun hp => ?_⟩ (cap - k) w' (fun _ => rfl)
        obtain ⟨b, off, hA, hlt, hc⟩ := hB4.2 hp
        have h1 := hc 0 (by rw [hB4.1]; omega)
        refine ⟨b, off, hA, ?_, fun j hj => ?_⟩
        · have h2 := hw' ⟨b, off + 0, none⟩ hlt
          exact World.block_lt_of_cell? w' ⟨b, off + 0, none⟩ (h2.trans h1)
        · exact (hw' ⟨b, off + j, none⟩ hlt).trans (hc j hj)
      have hS0 := hcv4 w2.drew (fun _ _ => rfl)
      have hk1 : (0 : Int) ≤ (k : Int) := by omega
      have hk2 : IntKind.i64.wrap ((k : Int) + 4) = (k : Int) + 4 := IntWalk.i64_in _ (by omega)
      generalize ((bs.drop k).take 4) = l4 at *
      generalize bs.take k = lk at *
      have H3 := Lib.hid (And.intro hBk (And.intro htd hcv4))
      clear hBk htd hcv4 hBd hB4
      unfold str at hS0
      go_region_with (first
          | (go_at_call 64; go_must (refine (sum_any A k cap lk _ H3.out.1 (by omega) H3.out.2.1).mono ?_; rintro e w3 ⟨v3, rfl, ho3, hb3⟩; obtain ⟨A3, c3, rfl⟩ := own_slice ho3; have hcv3 := conv_bytes0 (BS.of_own ho3) c3 w3 (fun _ => rfl); have HS3 := H3.out.2.2 w3 (fun a ha => hb3.cell ha); unfold str at HS3 hcv3; have HB3 := Lib.hid hb3; clear ho3 hb3)))
      all_goals
        have hb3 : Below w.heap.size w w3 := by
          have h2 : Below w.heap.size w w2.drew := ⟨H2.out.2.1.os, H2.out.2.1.tape, H2.out.2.1.output, H2.out.2.1.size, H2.out.2.1.block⟩
          exact h2.trans (HB3.out.mono h2.size)
        have HB := Lib.hid hb3
        clear hb3 hk2 HS3 hS0 hcutA hcutB hcv3
        have hcs := conv_str s w3
        unfold str at hcs
        go_wp2
        · rename_i hq
          have hR := HO.out
          rw [if_pos (by simpa using hq)] at hR
          subst hR
          go_ret3
          exact openP_nil HB.out 0 30
        · rename_i hq
          have hR := HO.out
          rw [if_neg (by simpa using hq)] at hR
          subst hR
          go_ret3
          exact openP_str s (k + 4) hslen HB.out
  · have hne : ((er : Int) != 0) = true := by rw [bne_iff_ne]; omega
    rw [if_pos he] at hOp
    have htr : Sl.try_ ⟨bs, 0⟩ (k, er) = ⟨bs, er⟩ := by unfold Sl.try_; rw [if_neg (by simp), if_pos he]
    rw [htr] at cc1
    simp only at cc1
    subst hOp
    have H2 := Lib.hid hb2
    clear g1 g2 g3 g4 g5 g6 g7 hbd hb2 hbsw htw hlen htr he
    unfold str
    go_wp2
    go_region
    all_goals go_wp2
    all_goals go_ret3
    all_goals exact openP_nil (w' := w2.drew) ⟨H2.out.os, H2.out.tape, H2.out.output, H2.out.size, H2.out.block⟩ 0 er
end Go.Proofs.YtlpdjpkdgagjpaaDoor
