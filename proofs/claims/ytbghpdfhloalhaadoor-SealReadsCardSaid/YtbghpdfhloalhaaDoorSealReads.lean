/- SealReads: whatever is asked of whatever bytes, in whatever order, a reader answers as the document says; no condition. -/
import Derived.Test.YtbghpdfhloalhaaDoorLaw03
import Derived.Test.YtbghpdfhloalhaaDoorRowsOf
import Derived.Test.YtbghpdfhloalhaaDoorSealRefs
import Derived.Test.YtbghpdfhloalhaaDoorLift
import Derived.Test.YtbghpdfhloalhaaDoorCards
import Derived.Test.YtbghpdfhloalhaaDoorTie
import Derived.Lib.LaidTab
import Derived.Deep.RegionHeld3
namespace Go.Proofs.YtbghpdfhloalhaaDoor.sealReads
open Go.ChangeShapes Go.WideShapes Go.ChangeAt Go.RowKit Mem Lift
set_option linter.unusedVariables false
set_option linter.unusedSimpArgs false

theorem rd_drew {T : TypeId} {w : World} {q : Nat} {r : Sl.R} {F : Nat → Prop} (h : RdT T w q r F) : RdT T w.drew q r F := h.keep (Nat.le_refl _) (fun _ _ => rfl)
theorem fr_undrew {F : Nat → Prop} {w w' : World} (h : Fr F w.drew w') : Fr F w w' := ⟨h.os, h.tape, h.output, h.size, h.block⟩
theorem cell_fr {w w' : World} {q b o : Nat} {v : Value} (h : Fr (fun k => k = q) w w') (hb : b < w.heap.size) (hq : b ≠ q) (hc : w.cell? ⟨b, o, none⟩ = some v) : w'.cell? ⟨b, o, none⟩ = some v := (World.cell?_of_block (h.block b hb hq)).trans hc
theorem try_le (r : Sl.R) (x : Nat × Nat) : (Sl.try_ r x).b.length ≤ r.b.length := by
  unfold Sl.try_
  split
  · exact Nat.le_refl _
  · split
    · exact Nat.le_refl _
    · simp
/-- both readers, side by side -/
structure Two (w0 : World) (q p : Nat) (F G : Nat → Prop) (r s : Sl.R) (w : World) : Prop where
  a : RdAt w q r F
  b : RfAt w p s G
  l : r.b.length ≤ 2000 ∧ s.b.length ≤ 2000
  below : Below w0.heap.size w0 w
  q0 : w0.heap.size ≤ q
  p0 : w0.heap.size ≤ p
  fp : ∀ k, F k → k ≠ p
  gq : ∀ k, G k → k ≠ q
theorem Two.drew {w0 w : World} {q p : Nat} {F G : Nat → Prop} {r s : Sl.R} (h : Two w0 q p F G r s w) : Two w0 q p F G r s w.drew :=
  ⟨rd_drew h.a, rd_drew h.b, h.l, h.below.trans ⟨rfl, rfl, rfl, Nat.le_refl _, fun _ _ => rfl⟩, h.q0, h.p0, h.fp, h.gq⟩
theorem Two.one {w0 w w' : World} {q p : Nat} {F G : Nat → Prop} {r s : Sl.R} {v : Value} {x : Nat × Nat} {e : Ending} (h : Two w0 q p F G r s w) (hr : RdTo w F q v (Sl.try_ r x) e w') :
    e = .returned v ∧ Two w0 q p F G (Sl.try_ r x) s w' ∧ ∀ b o u, b < w0.heap.size → w.cell? ⟨b, o, none⟩ = some u → w'.cell? ⟨b, o, none⟩ = some u := by
  obtain ⟨h1, h2, h3⟩ := hr
  have hs := h.below.size
  have hq := h.q0
  refine ⟨h1, ⟨h2, h.b.fr h3 (fun k hk => h.gq k hk), ⟨Nat.le_trans (try_le r x) h.l.1, h.l.2⟩, h.below.trans (h3.below hs (fun i hi => by omega)), h.q0, h.p0, h.fp, h.gq⟩, fun b o u hb hc => cell_fr h3 (by omega) (by omega) hc⟩
theorem Two.two {w0 w w' : World} {q p : Nat} {F G : Nat → Prop} {r s : Sl.R} {v : Value} {x : Nat × Nat} {e : Ending} (h : Two w0 q p F G r s w) (hr : RfTo w G p v (Sl.try_ s x) e w') :
    e = .returned v ∧ Two w0 q p F G r (Sl.try_ s x) w' ∧ ∀ b o u, b < w0.heap.size → w.cell? ⟨b, o, none⟩ = some u → w'.cell? ⟨b, o, none⟩ = some u := by
  obtain ⟨h1, h2, h3⟩ := hr
  have hs := h.below.size
  have hq := h.p0
  refine ⟨h1, ⟨h.a.fr h3 (fun k hk => h.fp k hk), h2, ⟨h.l.1, Nat.le_trans (try_le s x) h.l.2⟩, h.below.trans (h3.below hs (fun i hi => by omega)), h.q0, h.p0, h.fp, h.gq⟩, fun b o u hb hc => cell_fr h3 (by omega) (by omega) hc⟩
set_option maxRecDepth 100000 in
set_option maxHeartbeats 4000000 in
theorem walk (A : Option Addr) (n c : Nat) (bs : List UInt8) (B : Option Addr) (m d : Nat) (ks : List Int) (C : Option Addr) (m2 d2 : Nat) (ms : List Int) (w : World) (hA : BS w A n bs) (hn : n ≤ c) (hc : c ≤ maxLen)
    (hB : IS w B m ks ∧ ∀ k ∈ ks, -9223372036854775808 ≤ k ∧ k ≤ 9223372036854775807) (hm : m ≤ d) (hd : d ≤ maxLen) (hC : IS w C m2 ms ∧ ∀ k ∈ ms, -9223372036854775808 ≤ k ∧ k ≤ 9223372036854775807) (hm2 : m2 ≤ d2) (hd2 : d2 ≤ maxLen) (ht : Half w) :
    Calls Tryd.prog 8 #[.slice A n c, .slice B m d, .slice C m2 d2] w fun e w' => e = .returned (.bool true) ∧ Below w.heap.size w w' := by
  unfold maxLen at hc hd hd2
  have hawake : ∀ w1, Below w.heap.size w w1 → Calls Tryd.prog 11 #[] w1 fun e w' => e = .returned (.bool true) ∧ Below w.heap.size w w' := fun w1 hb =>
    (awake03_any w1 (ht.below hb)).mono (fun e w2 ⟨h1, h2⟩ => ⟨h1, below_then hb h2⟩)
  have HW := Lib.hid hawake
  clear hawake ht
  by_cases h1 : 2000 < n
  · have hg1 : decide (2000 < (n : Int)) = true := by simp; omega
    clear hA hB hC
    go_enter Tryd.func8, Tryd.ntmps8
    go_wp2_with fail
    refine (HW.out w (Below.refl _ _)).mono ?_
    rintro e w1 ⟨rfl, hb1⟩
    have H1 := Lib.hid hb1
    clear hb1
    go_wp2
    go_ret
    exact ⟨rfl, H1.out⟩
  have hg1 : decide (2000 < (n : Int)) = false := by simp; omega
  by_cases h2 : 40 < m
  · have hg2 : decide (40 < (m : Int)) = true := by simp; omega
    clear hA hB hC
    go_enter Tryd.func8, Tryd.ntmps8
    go_wp2_with fail
    refine (HW.out w (Below.refl _ _)).mono ?_
    rintro e w1 ⟨rfl, hb1⟩
    have H1 := Lib.hid hb1
    clear hb1
    go_wp2
    go_ret
    exact ⟨rfl, H1.out⟩
  have hg2 : decide (40 < (m : Int)) = false := by simp; omega
  by_cases h3 : m2 < m
  · have hg3 : decide ((m2 : Int) < (m : Int)) = true := by simp; omega
    clear hA hB hC
    go_enter Tryd.func8, Tryd.ntmps8
    go_wp2_with fail
    refine (HW.out w (Below.refl _ _)).mono ?_
    rintro e w1 ⟨rfl, hb1⟩
    have H1 := Lib.hid hb1
    clear hb1
    go_wp2
    go_ret
    exact ⟨rfl, H1.out⟩
  have hg3 : decide ((m2 : Int) < (m : Int)) = false := by simp; omega
  have HA := Lib.hid (And.intro hA (And.intro hB hC))
  clear hA hB hC
  go_enter Tryd.func8, Tryd.ntmps8
  go_wp2_with fail
  refine (own03_any A n c bs w HA.out.1 (by omega)).mono ?_
  rintro e w1 ⟨v1, rfl, ho1, hb1⟩
  rw [HA.out.1.1] at ho1
  obtain ⟨B1, d1, rfl⟩ := own_slice ho1
  have H1 := Lib.hid (And.intro ho1 hb1)
  clear ho1 hb1
  go_wp2_with fail
  refine (read_new B1 n d1 bs w1 (BS.of_own H1.out.1) (by omega)).mono ?_
  rintro e w3 ⟨q, F, rfl, hr3, hb3, hF3⟩
  have hbw3 := below_then H1.out.2 hb3
  have hT : Two w q w3.heap.size F (fun k => k = w3.heap.size ∨ k < w.heap.size) ⟨bs, 0⟩ ⟨bs, 0⟩ (w3.alloc (.cells #[.slice A n c, .int .i64 0] 58)) := by
    have hs1 := H1.out.2.size
    have hs3 := hbw3.size
    have hF := hr3.bound
    have hl := HA.out.1.1
    have hq := hF q hr3.self
    have hq2 := hF3 q hr3.self
    refine ⟨hr3.below ((Below.refl _ _).alloc (Nat.le_refl _) _), ⟨A, n, c, Blk.new _ _ _, ?_, hn, hc, .inl rfl, fun a ha e => ?_, fun k hk => ?_⟩, ⟨by simp only; omega, by simp only; omega⟩, below_then hbw3 ((Below.refl _ _).alloc (Nat.le_refl _) _), by omega, hs3, fun k hk e => ?_, fun k hk e => ?_⟩
    · exact (HA.out.1.below hbw3).below ((Below.refl _ _).alloc (Nat.le_refl _) _)
    · obtain ⟨b, off, rfl, hb, _⟩ := HA.out.1.2 ha
      injection e with e
      subst e
      exact ⟨.inr hb, by simp only; omega⟩
    · simp
      rcases hk with rfl | hk
      · omega
      · omega
    · have := hF k hk
      omega
    · rcases hk with rfl | hk
      · omega
      · omega
  have H3 := Lib.hid hT
  clear hT hr3 hb3 hF3 hbw3
  generalize (fun k => k = w3.heap.size ∨ k < w.heap.size) = G at *
  go_wp2_with fail
  generalize w3.heap.size = p at *
  go_loopw [9, 10] (fun i _ wr => ∃ (k : Nat) (r : Sl.R), k ≤ m ∧ i = .int .i64 k ∧ Two w q p F G r r wr) (fun i _ _ => m - (intOf i).toNat)
  case atStart => exact ⟨0, ⟨bs, 0⟩, by omega, rfl, H3.out⟩
  case round =>
    obtain ⟨k, r, hk, rfl, htw⟩ := hrel
    by_cases hlt : k < m
    · obtain ⟨b, off, hBe, hblt, hcb⟩ := HA.out.2.1.1.2 (by omega)
      subst hBe
      obtain ⟨b2, off2, hCe, hblt2, hcb2⟩ := HA.out.2.2.1.2 (by omega)
      subst hCe
      have hlk := HA.out.2.1.1.1
      have hlm := HA.out.2.2.1.1
      have c0 : wr.cell? ⟨b, off + k, none⟩ = some (.int .i64 (ks.getD k 0)) := (World.cell?_of_block (htw.below.block b hblt)).trans (hcb k (by omega))
      have c1 : wr.cell? ⟨b2, off2 + k, none⟩ = some (.int .i64 (ms.getD k 0)) := (World.cell?_of_block (htw.below.block b2 hblt2)).trans (hcb2 k (by omega))
      have hmb := HA.out.2.2.2 (ms.getD k 0) (by rw [List.getD_eq_getElem?_getD, List.getElem?_eq_getElem (by omega)]; simp)
      generalize ks.getD k 0 = x at *
      generalize ms.getD k 0 = y at *
      clear hcb hcb2 hlk hlm
      have hlt2 : k < m2 := by omega
      have HT := Lib.hid (And.intro htw htw.drew)
      have hps := htw.below.size
      clear htw
      have HE : ∀ r' w5, Two w q p F G r' r' w5 → (∃ (A5 : Option Addr) (n5 c5 : Nat), w5.cell? ⟨p, 0, none⟩ = some (.slice A5 n5 c5) ∧ n5 = r'.b.length ∧ w5.cell? ⟨p, 1, none⟩ = some (.int .i64 (r'.e : Nat))) := by
        intro r' w5 h5
        obtain ⟨A5, n5, c5, g1, g2, _⟩ := h5.b
        exact ⟨A5, n5, c5, g1.cell 0, g2.1.symm, g1.cell 1⟩
      have HEE := Lib.hid HE
      clear HE
      by_cases k0 : x = 0
      · have hg10 : (x == 0) = true := by simp [k0]
        have HS := c1
        go_wp2
        go_region_held3 (fun w' => w'.cell? ⟨b2, off2 + k, none⟩ = some (.int .i64 y)) ((first | exact HS | (simp only [World.cell?_drew]; assumption))) (first
          | (go_at_call 27; go_must (refine (rnum_any q r F y wr.drew HT.out.2.a hmb (by have := HT.out.2.l; omega)).mono ?_; intro e w4 h4; obtain ⟨rfl, h5, h6⟩ := HT.out.2.one h4; have HS := h6 _ _ _ hblt2 c1; have H4 := Lib.hid h5; clear h4 h5 h6))
          | (go_at_call 28; go_must (refine (refRNum_any p r G y w4 H4.out.b hmb (by have := H4.out.l; omega)).mono ?_; intro e w5 h4; obtain ⟨rfl, h5, h6⟩ := H4.out.two h4; have HS := h6 _ _ _ hblt2 HS; have H5 := Lib.hid h5; clear h4 h5 h6)))
        all_goals
          obtain ⟨A5, n5, c5, g0, g1, g2⟩ := HEE.out _ _ H5.out
          subst g1
          have herr := Lib.hid (rerr_any q _ F w5.drew H5.out.drew.a)
          have hleft := Lib.hid (rleft_any q _ F w5.drew H5.out.drew.a)
          generalize Sl.try_ r (Sl.number r.b y).2 = r' at *
          have HX : w5.cell? ⟨p, 0, none⟩ = some (.slice A5 r'.b.length c5) ∧ w5.cell? ⟨p, 1, none⟩ = some (.int .i64 (r'.e : Nat)) := ⟨g0, g2⟩
          clear g0 g2
          go_wp2
          go_region_held3 (fun w' => w'.cell? ⟨p, 0, none⟩ = some (.slice A5 r'.b.length c5) ∧ w'.cell? ⟨p, 1, none⟩ = some (.int .i64 (r'.e : Nat))) ((first | exact HX | (simp only [World.cell?_drew]; assumption))) (first
            | (go_at_call 35; go_must (refine herr.out.mono ?_; rintro e w6 ⟨rfl, rfl⟩))
            | (go_at_call 36; go_must (refine hleft.out.mono ?_; rintro e w6 ⟨rfl, rfl⟩)))
          all_goals
            go_wp2
            go_roundw
            case rel => exact ⟨k + 1, r', by omega, by go_num, H5.out.drew⟩
            case measure => simp [intOf]; omega
      have hg10 : (x == 0) = false := by simp [k0]
      by_cases k1 : x = 1
      · have hg11 : (x == 1) = true := by simp [k1]
        go_wp2_with fail
        refine (rbyte_any q r F wr HT.out.1.a (by have := HT.out.1.l; omega)).mono ?_
        intro e w4 h4
        obtain ⟨rfl, h5, h6⟩ := HT.out.1.one h4
        have H4 := Lib.hid h5
        clear h4 h5 h6
        go_wp2_with fail
        refine (refRByte_any p r G w4 H4.out.b (by have := H4.out.l; omega)).mono ?_
        intro e w5 h4
        obtain ⟨rfl, h5, h6⟩ := H4.out.two h4
        have H5 := Lib.hid h5
        clear h4 h5 h6
        obtain ⟨A5, n5, c5, g0, g1, g2⟩ := HEE.out _ _ H5.out
        subst g1
        have herr := Lib.hid (rerr_any q _ F w5.drew H5.out.drew.a)
        have hleft := Lib.hid (rleft_any q _ F w5.drew H5.out.drew.a)
        generalize Sl.try_ r (Sl.byteF r.b).2 = r' at *
        have HX : w5.cell? ⟨p, 0, none⟩ = some (.slice A5 r'.b.length c5) ∧ w5.cell? ⟨p, 1, none⟩ = some (.int .i64 (r'.e : Nat)) := ⟨g0, g2⟩
        clear g0 g2
        go_wp2
        go_region_held3 (fun w' => w'.cell? ⟨p, 0, none⟩ = some (.slice A5 r'.b.length c5) ∧ w'.cell? ⟨p, 1, none⟩ = some (.int .i64 (r'.e : Nat))) ((first | exact HX | (simp only [World.cell?_drew]; assumption))) (first
          | (go_at_call 35; go_must (refine herr.out.mono ?_; rintro e w6 ⟨rfl, rfl⟩))
          | (go_at_call 36; go_must (refine hleft.out.mono ?_; rintro e w6 ⟨rfl, rfl⟩)))
        all_goals
          go_wp2
          go_roundw
          case rel => exact ⟨k + 1, r', by omega, by go_num, H5.out.drew⟩
          case measure => simp [intOf]; omega
      have hg11 : (x == 1) = false := by simp [k1]
      by_cases k2 : x = 2
      · have hg12 : (x == 2) = true := by simp [k2]
        go_wp2_with fail
        refine (rflag_any q r F wr HT.out.1.a (by have := HT.out.1.l; omega)).mono ?_
        intro e w4 h4
        obtain ⟨rfl, h5, h6⟩ := HT.out.1.one h4
        have H4 := Lib.hid h5
        clear h4 h5 h6
        go_wp2_with fail
        refine (refRFlag_any p r G w4 H4.out.b (by have := H4.out.l; omega)).mono ?_
        intro e w5 h4
        obtain ⟨rfl, h5, h6⟩ := H4.out.two h4
        have H5 := Lib.hid h5
        clear h4 h5 h6
        obtain ⟨A5, n5, c5, g0, g1, g2⟩ := HEE.out _ _ H5.out
        subst g1
        have herr := Lib.hid (rerr_any q _ F w5.drew H5.out.drew.a)
        have hleft := Lib.hid (rleft_any q _ F w5.drew H5.out.drew.a)
        generalize Sl.try_ r (Sl.flagF r.b).2 = r' at *
        have HX : w5.cell? ⟨p, 0, none⟩ = some (.slice A5 r'.b.length c5) ∧ w5.cell? ⟨p, 1, none⟩ = some (.int .i64 (r'.e : Nat)) := ⟨g0, g2⟩
        clear g0 g2
        go_wp2
        go_region_held3 (fun w' => w'.cell? ⟨p, 0, none⟩ = some (.slice A5 r'.b.length c5) ∧ w'.cell? ⟨p, 1, none⟩ = some (.int .i64 (r'.e : Nat))) ((first | exact HX | (simp only [World.cell?_drew]; assumption))) (first
          | (go_at_call 35; go_must (refine herr.out.mono ?_; rintro e w6 ⟨rfl, rfl⟩))
          | (go_at_call 36; go_must (refine hleft.out.mono ?_; rintro e w6 ⟨rfl, rfl⟩)))
        all_goals
          go_wp2
          go_roundw
          case rel => exact ⟨k + 1, r', by omega, by go_num, H5.out.drew⟩
          case measure => simp [intOf]; omega
      have hg12 : (x == 2) = false := by simp [k2]
      by_cases k3 : x = 3
      · have hg13 : (x == 3) = true := by simp [k3]
        have HS := c1
        go_wp2
        go_region_held3 (fun w' => w'.cell? ⟨b2, off2 + k, none⟩ = some (.int .i64 y)) ((first | exact HS | (simp only [World.cell?_drew]; assumption))) (first
          | (go_at_call 25; go_must (refine (rtext_any q r F y wr.drew HT.out.2.a hmb (by have := HT.out.2.l; omega)).mono ?_; intro e w4 h4; obtain ⟨rfl, h5, h6⟩ := HT.out.2.one h4; have HS := h6 _ _ _ hblt2 c1; have H4 := Lib.hid h5; clear h4 h5 h6; unfold str))
          | (go_at_call 33; go_must (refine (refRText_any p r G y w4 H4.out.b hmb (by have := H4.out.l; omega)).mono ?_; intro e w5 h4; obtain ⟨rfl, h5, h6⟩ := H4.out.two h4; have HS := h6 _ _ _ hblt2 HS; have H5 := Lib.hid h5; clear h4 h5 h6; unfold str)))
        all_goals
          obtain ⟨A5, n5, c5, g0, g1, g2⟩ := HEE.out _ _ H5.out
          subst g1
          have herr := Lib.hid (rerr_any q _ F w5.drew H5.out.drew.a)
          have hleft := Lib.hid (rleft_any q _ F w5.drew H5.out.drew.a)
          generalize Sl.try_ r (Sl.textF r.b y).2 = r' at *
          have HX : w5.cell? ⟨p, 0, none⟩ = some (.slice A5 r'.b.length c5) ∧ w5.cell? ⟨p, 1, none⟩ = some (.int .i64 (r'.e : Nat)) := ⟨g0, g2⟩
          clear g0 g2
          go_wp2
          go_region_held3 (fun w' => w'.cell? ⟨p, 0, none⟩ = some (.slice A5 r'.b.length c5) ∧ w'.cell? ⟨p, 1, none⟩ = some (.int .i64 (r'.e : Nat))) ((first | exact HX | (simp only [World.cell?_drew]; assumption))) (first
            | (go_at_call 35; go_must (refine herr.out.mono ?_; rintro e w6 ⟨rfl, rfl⟩))
            | (go_at_call 36; go_must (refine hleft.out.mono ?_; rintro e w6 ⟨rfl, rfl⟩)))
          all_goals
            go_wp2
            go_roundw
            case rel => exact ⟨k + 1, r', by omega, by go_num, H5.out.drew⟩
            case measure => simp [intOf]; omega
      have hg13 : (x == 3) = false := by simp [k3]
      go_wp2_with fail
      refine (rend_any q r F wr HT.out.1.a (by have := HT.out.1.l; omega)).mono ?_
      intro e w4 h4
      obtain ⟨rfl, h5, h6⟩ := HT.out.1.one h4
      have H4 := Lib.hid h5
      clear h4 h5 h6
      go_wp2_with fail
      refine (refREnd_any p r G w4 H4.out.b (by have := H4.out.l; omega)).mono ?_
      intro e w5 h4
      obtain ⟨rfl, h5, h6⟩ := H4.out.two h4
      have H5 := Lib.hid h5
      clear h4 h5 h6
      obtain ⟨A5, n5, c5, g0, g1, g2⟩ := HEE.out _ _ H5.out
      subst g1
      have herr := Lib.hid (rerr_any q _ F w5.drew H5.out.drew.a)
      have hleft := Lib.hid (rleft_any q _ F w5.drew H5.out.drew.a)
      generalize Sl.try_ r (Sl.endF r.b) = r' at *
      have HX : w5.cell? ⟨p, 0, none⟩ = some (.slice A5 r'.b.length c5) ∧ w5.cell? ⟨p, 1, none⟩ = some (.int .i64 (r'.e : Nat)) := ⟨g0, g2⟩
      clear g0 g2
      go_wp2
      go_region_held3 (fun w' => w'.cell? ⟨p, 0, none⟩ = some (.slice A5 r'.b.length c5) ∧ w'.cell? ⟨p, 1, none⟩ = some (.int .i64 (r'.e : Nat))) ((first | exact HX | (simp only [World.cell?_drew]; assumption))) (first
        | (go_at_call 35; go_must (refine herr.out.mono ?_; rintro e w6 ⟨rfl, rfl⟩))
        | (go_at_call 36; go_must (refine hleft.out.mono ?_; rintro e w6 ⟨rfl, rfl⟩)))
      all_goals
        go_wp2
        go_roundw
        case rel => exact ⟨k + 1, r', by omega, by go_num, H5.out.drew⟩
        case measure => simp [intOf]; omega
    · obtain rfl : k = m := by omega
      have H := Lib.hid htw.below
      clear htw
      go_wp2_with fail
      refine (HW.out wr H.out).mono ?_
      rintro e w1 ⟨rfl, hb1⟩
      have H1 := Lib.hid hb1
      clear hb1
      go_wp2
      go_ret
      exact ⟨rfl, H1.out⟩

theorem own : ownKnob Tryd.prog.godebug = none := by kernel_rfl
theorem laidOut : laidOutB Tryd.prog = true := by kernel_rfl
theorem params_ok : ∀ t ∈ Tryd.f8.params.toList, Tryd.prog.readableRec t = true ∧ t < Tryd.prog.types.size := by
  rw [Tryd.params8]
  intro t ht
  have ht' : t = 22 ∨ t = 55 := by
    simpa using ht
  rcases ht' with rfl | rfl
  · exact ⟨(show Tryd.prog.readableRec 22 = true by kernel_rfl), of_decide_eq_true (show decide (22 < Tryd.prog.types.size) = true by kernel_rfl)⟩
  · exact ⟨(show Tryd.prog.readableRec 55 = true by kernel_rfl), of_decide_eq_true (show decide (55 < Tryd.prog.types.size) = true by kernel_rfl)⟩
theorem gTab : Tryd.prog.globalNamed "troth/crc.half" = some 0 := by kernel_rfl
theorem gTabType : (Tryd.prog.globals[0]?).map (·.type) = some 87 := by kernel_rfl
theorem cellsTab : Tryd.prog.cellsOf 87 = 16 := by kernel_rfl
theorem cells32 : Tryd.prog.cellsOf 36 = 1 := by kernel_rfl
theorem table {W : World} (h : laidMetH Tryd.prog Rows.sealReadsRow.laid W) : Half W := by
  have h1 : Lib.TabIs Tryd.prog W "troth/crc.half" .u32 (Crc.tab.map (fun n : Nat => (n : Int))) :=
    Lib.tabIs_of_head (rest := []) gTab gTabType Tryd.underlying87 Tryd.underlying36 cells32 cellsTab h
  intro i hi
  have h2 := h1.cell gTab i (by rw [List.length_map]; exact hi)
  rw [h2]
  have hi' : i < Crc.tab.length := hi
  rw [List.getD_eq_getElem?_getD, List.getElem?_map, List.getD_eq_getElem?_getD, List.getElem?_eq_getElem hi']
  rfl

set_option maxRecDepth 100000 in
theorem contract (H : Type) (enc : TypeId × Value → H) (W : World) (base : Nat) (args : Array Value) (ds gs : List (DataW H)) (before : List MemPlace)
    (hval : ∀ (j : Nat) t v, Tryd.f8.params[j]? = some t → args[j]? = some v → Value.okWide Tryd.prog W .any base t v)
    (hW : DataW.Whole enc Tryd.prog Tryd.f8.params.toList Rows.sealReadsSpec.vars false W args.toList ds gs before) (hL : laidMetH Tryd.prog Rows.sealReadsRow.laid W) :
    Calls Tryd.prog 8 args W fun e W' => ∃ v, e = .returned v ∧ Rows.sealReadsSpec.post enc Tryd.prog Tryd.f8 false true false false W args v W' := by
  have hW' := hW
  obtain ⟨p, q, hA0, hV, rfl, hfz, hnd⟩ := hW
  have hA : DataW.TrodAll enc Tryd.prog W 0 (fun _ => true) true Tryd.f8.params.toList args.toList ds p := hA0
  rw [Tryd.params8] at hA hval
  obtain ⟨v0, vs0, d0, ds0, p0, q0, hargs, rfl, rfl, h0, r0⟩ := trodAll_cons hA
  obtain ⟨v1, vs1, d1, ds1, p1, q1, rfl, rfl, rfl, h1, r1⟩ := trodAll_cons r0
  obtain ⟨v2, vs2, d2, ds2, p2, q2, rfl, rfl, rfl, h2, r2⟩ := trodAll_cons r1
  obtain ⟨rfl, rfl, rfl⟩ := trodAll_nil r2
  obtain rfl : args = #[v0, v1, v2] := by cases args; simp_all
  obtain ⟨rfl, rfl⟩ := trodVars_none hV
  obtain ⟨A0, n0, c0, bs0, rfl, bs0h, nc0, cm0, dd0⟩ := open_bytes Tryd.underlying22 Tryd.underlying5 (show Tryd.prog.cellsOf 5 = 1 by kernel_rfl) (hval 0 22 v0 rfl rfl) h0
  obtain ⟨A1, n1, c1, l1, rfl, lh1, nc1, cm1⟩ := open_intsA Tryd.underlying55 Tryd.underlying3 (show Tryd.prog.cellsOf 3 = 1 by kernel_rfl) (hval 1 55 v1 rfl rfl) h1
  obtain ⟨A2, n2, c2, l2, rfl, lh2, nc2, cm2⟩ := open_intsA Tryd.underlying55 Tryd.underlying3 (show Tryd.prog.cellsOf 3 = 1 by kernel_rfl) (hval 2 55 v2 rfl rfl) h2
  refine (walk A0 n0 c0 bs0 A1 n1 c1 l1 A2 n2 c2 l2 W bs0h nc0 cm0 lh1 nc1 cm1 lh2 nc2 cm2 (table hL)).mono fun e W' ⟨he, bel⟩ => ?_
  exact ⟨_, he, post_true laidOut Tryd.underlying4 (show Tryd.f8.resultTypes = #[4] from rfl) params_ok rfl hW' rfl bel⟩

noncomputable def laidWorld (os : Os) : World :=
  { World.holding Tryd.prog os ⟨#[], #[], []⟩ with heap := (World.holding Tryd.prog os ⟨#[], #[], []⟩).heap.modify 0 fun
      | .cells _ t frozen => .cells #[.int .u32 0, .int .u32 498536548, .int .u32 997073096, .int .u32 651767980, .int .u32 1994146192, .int .u32 1802195444, .int .u32 1303535960, .int .u32 1342533948, .int .u32 3988292384, .int .u32 4027552580, .int .u32 3604390888, .int .u32 3412177804, .int .u32 2607071920, .int .u32 2262029012, .int .u32 2685067896, .int .u32 3183342108] t frozen
      | o => o }
theorem laid_met (os : Os) : laidMet Tryd.prog Rows.sealReadsRow.laid ((laidWorld os).forCall (fun _ _ => 0) ⟨#[], #[.slice none 0 0, .slice none 0 0, .slice none 0 0], []⟩).memory :=
  laidMet_of_run' 8 (by kernel_rfl) (by kernel_rfl)
theorem reads (os : Os) {H : Type} (enc : TypeId × Value → H) : ∃ places, DataW.whole enc Tryd.prog ((laidWorld os).forCall (fun _ _ => 0) ⟨#[], #[.slice none 0 0, .slice none 0 0, .slice none 0 0], []⟩).memory Tryd.f8.params.toList Rows.sealReadsSpec.vars false (#[Value.slice none 0 0, Value.slice none 0 0, Value.slice none 0 0] : Array Value).toList 8 = some ([.nil, .nil, .nil], [], places) :=
  ⟨[], by kernel_rfl⟩
set_option maxRecDepth 100000 in
theorem lifted (os : Os) (started : os.Started) (H : Type) (enc : TypeId × Value → H) (F : Stop.Interp) :
    ReturnsInHanded {} Tryd.checked os 8 .any ((OpenSpec.ofChange Rows.sealReadsSpec).preRow enc Tryd.prog Tryd.f8 Rows.sealReadsRow.domain false Rows.sealReadsRow.laid) (((OpenSpec.ofChange Rows.sealReadsSpec).at F).post enc Tryd.prog Tryd.f8 false true false false) := by
  obtain ⟨places, hx⟩ := reads os enc
  refine returnsInHanded_of_row (C := Tryd.checked) (s := OpenSpec.ofChange Rows.sealReadsSpec) own started (by kernel_rfl) Tryd.func8
    (witness_row_at (enc := enc) (C := Tryd.checked) false (laidWorld os) #[.slice none 0 0, .slice none 0 0, .slice none 0 0] rfl (by kernel_rfl) (by kernel_rfl) (by kernel_rfl)
      (OpenSpec.preRow_of_cond 8 hx (by kernel_rfl) (fun k hk => by cases hk) (by kernel_rfl) (laid_met os))) ?_
  intro W base args ds gs before hval hW _ _ hsz hL _ _
  exact contract H enc W base args ds gs before hval hW hL
theorem said : Rows.SealReadsSaid :=
  OpenClaim.holds_of_cond 8 Tryd.f8 rfl rfl rfl rfl rfl rfl rfl ⟨rfl, rfl, rfl, rfl, rfl⟩ rfl rfl rfl rfl rfl (by kernel_rfl) Tryd.func8 (by kernel_rfl)
    (of_decide_eq_true (by kernel_rfl)) (by unfold Func.isWrapper; first | (rw [if_pos (by decide +kernel)]; kernel_rfl) | (rw [if_neg (by decide +kernel)]; exact ⟨rfl, rfl⟩))
    (fun os started H enc _ F => by rw [OpenClaim.pre_eq_preRow]; exact lifted os started H enc F)
theorem plain (f : FuncId) (fn : Func) (hf : Tryd.pinned.checked.prog.funcNamed "troth/trothlaw03.SealReads" = some f) (hfn : Tryd.pinned.checked.prog.funcs[f]? = some fn) :
    false = Tryd.pinned.checked.prog.looks [] ∧ ∀ (j : Nat) t, fn.params[j]? = some t → Tryd.pinned.checked.prog.wantsStandIn t = false := by
  obtain rfl : f = 8 := Option.some.inj ((show Tryd.prog.funcNamed "troth/trothlaw03.SealReads" = some 8 by kernel_rfl).symm.trans hf) |>.symm
  obtain rfl : fn = Tryd.f8 := (Option.some.inj (Tryd.func8.symm.trans hfn)).symm
  refine ⟨by kernel_rfl, fun j t ht => ?_⟩
  rw [Tryd.params8] at ht
  have ht' : t = 22 ∨ t = 55 := by simpa using Array.mem_of_getElem? ht
  rcases ht' with rfl | rfl
  · exact (show Tryd.prog.wantsStandIn 22 = false by kernel_rfl)
  · exact (show Tryd.prog.wantsStandIn 55 = false by kernel_rfl)
theorem card : Rows.SealReadsCardSaid :=
  Claim7.holds_tied_plain_at .later [] _ _ _ _ said (fun _ h => by cases h) (by kernel_rfl) (fun _ h => by cases h) sealReads_row_tie rfl ⟨rfl, rfl⟩ (by kernel_rfl) rfl plain (by kernel_rfl)
#print axioms card
end Go.Proofs.YtbghpdfhloalhaaDoor.sealReads
