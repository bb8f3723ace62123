/- PageWrites: a page's payload, and the page of whatever payload, are the document's, or the error; there and back; no condition. -/
import Derived.Test.YtfcmlfcpgboigaaPageMath4
import Derived.Test.YtfcmlfcpgboigaaPageCopy
import Derived.Test.YtfcmlfcpgboigaaPageOpen
import Derived.Test.YtfcmlfcpgboigaaPageRefEnc
import Derived.Test.YtfcmlfcpgboigaaPageRefDec
import Derived.Test.YtfcmlfcpgboigaaSame
import Derived.Test.YtfcmlfcpgboigaaLift
namespace Go.Proofs.Ytfcmlfcpgboigaa.pageWrites
open Go.ChangeShapes Go.WideShapes Go.ChangeAt Go.RowKit Mem Lift
set_option maxRecDepth 100000
set_option linter.unusedVariables false
set_option linter.unusedSimpArgs false

theorem ninfo8 : (Try.prog.info? 5).map (fun i => (i.zero, i.size, i.bytes)) = some (some (.int .u8 0), 1, 1) := by kernel_rfl
abbrev pgCells (lsn : Int) (A : Option Addr) (n c : Nat) : Array Value := #[.int .i64 lsn, .slice A n c]
theorem great_not {l : List Pg.C} (h : Pg.great l = false) : l.length ≤ 20 := by
  unfold Pg.great at h
  rw [Bool.or_eq_false_iff] at h
  simpa using h.1
theorem own_v {w : World} {base : Nat} {S : List UInt8} {v : Value} (h : w.ownsRow base 5 1 v S.length (u8s S)) : ∃ A' d', v = .slice A' S.length d' := own_slice h
theorem of_row {w : World} {base lsn : Nat} {l : List Pg.C} {A : Option Addr} {c : Nat} (h : w.ownsRow base 40 3 (.slice A l.length c) l.length (rowOf cellK l)) (hok : ∀ x ∈ l, cellK.ok w x) : ST cellK w A l.length l := ST.of_own cellK_len (by decide) h hok
set_option maxHeartbeats 16000000 in
theorem walk (lsn : Int) (A : Option Addr) (n c : Nat) (l : List Pg.C) (B : Option Addr) (m cap : Nat) (bs : List UInt8) (w : World)
    (hl : ST cellK w A n l) (hnc : n ≤ c) (hcm : c ≤ maxLen) (hl1 : -9223372036854775808 ≤ lsn) (hl2 : lsn ≤ 9223372036854775807) (hbs : BS w B m bs) (hmc : m ≤ cap) (hcap : cap ≤ maxLen) :
    Calls Try.prog 10 #[pVal lsn A n c, .slice B m cap] w fun e w' => e = .returned (.bool true) ∧ Below w.heap.size w w' := by
  unfold maxLen at hcm hcap
  have hb0 : Below w.heap.size w (w.alloc (.cells (pgCells lsn A n c) 24)) := (Below.refl _ _).alloc (Nat.le_refl _) _
  have hk0 := Blk.new w 24 (pgCells lsn A n c)
  have hgr := great10_any lsn A n c l (w.alloc (.cells (pgCells lsn A n c) 24)) (hl.below hb0)
  have H := Lib.hid (And.intro hb0 (And.intro hk0 (And.intro hgr (And.intro hl (And.intro hl.len (And.intro hbs hbs.1))))))
  clear hb0 hk0 hgr hl hbs
  cases hg : Pg.great l with
  | true =>
    have HG := Lib.hid hg
    clear hg
    go_enter Try.func10, Try.ntmps10
    go_wp2_with fail
    refine H.out.2.2.1.mono ?_
    rw [HG.out]
    rintro e w1 ⟨rfl, hb1⟩
    have H1 := Lib.hid (H.out.1.trans (hb1.mono H.out.1.size))
    clear hb1
    go_wp2_with fail
    refine (awake10_any w1).mono ?_
    rintro e w2 ⟨rfl, hb2⟩
    have H2 := Lib.hid (H1.out.trans (hb2.mono H1.out.size))
    clear hb2
    go_wp2_with fail
    go_ret
    exact ⟨rfl, H2.out⟩
  | false =>
    have HG := Lib.hid hg
    clear hg
    have hn20 : n ≤ 20 := by rw [← H.out.2.2.2.2.1]; exact great_not HG.out
    by_cases h5 : 500 < m
    · have hd5 : decide ((500 : Int) < (m : Int)) = true := by simp; omega
      clear h5
      go_enter Try.func10, Try.ntmps10
      go_wp2_with fail
      refine H.out.2.2.1.mono ?_
      rw [HG.out]
      rintro e w1 ⟨rfl, hb1⟩
      have H1 := Lib.hid (H.out.1.trans (hb1.mono H.out.1.size))
      clear hb1
      go_wp2_with fail
      refine (awake10_any w1).mono ?_
      rintro e w2 ⟨rfl, hb2⟩
      have H2 := Lib.hid (H1.out.trans (hb2.mono H1.out.size))
      clear hb2
      go_wp2_with fail
      go_ret
      exact ⟨rfl, H2.out⟩
    · have hd5 : decide ((500 : Int) < (m : Int)) = false := by simp; omega
      have hecase := Pg.enc_cases lsn l
      obtain ⟨E, hE⟩ : ∃ E, Pg.enc lsn l = E := ⟨_, rfl⟩
      rw [hE] at hecase
      obtain ⟨S, ec⟩ := E
      have hecase2 : (S.length = 0 ∧ ec = 1) ∨ (S.length ≤ 211 ∧ ec = 0 ∧ Pg.dec S = (lsn, l, 0)) := by
        rcases hecase with ⟨h1, h2⟩ | ⟨h1, h2, h3, h4⟩
        · injection h2 with h2 h3; exact .inl ⟨by rw [h2]; rfl, h3⟩
        · injection h2 with h2 h5; rw [← h2] at h3 h4; exact .inr ⟨h3, h5, h4⟩
      clear hecase
      have hS : S.length ≤ 211 := by rcases hecase2 with ⟨h, _⟩ | ⟨h, _⟩ <;> omega
      have hdcase := Pg.dec_cases bs
      obtain ⟨D, hD⟩ : ∃ D, Pg.dec bs = D := ⟨_, rfl⟩
      rw [hD] at hdcase
      obtain ⟨lsn2, l2, dc⟩ := D
      simp only at hdcase
      have hok2 : ∀ W x, x ∈ l2 → cellK.ok W x := by
        intro W x hx
        rcases hdcase with ⟨_, _, h⟩ | ⟨_, h, _⟩
        · rw [h] at hx; cases hx
        · exact Pg.may_ok h W x hx
      have hl2n : l2.length ≤ 4 := by
        rcases hdcase with ⟨_, _, h⟩ | ⟨_, h, _⟩
        · rw [h]; simp
        · exact (Pg.may_parts h).2.2.2
      have hlb2 : -9223372036854775808 ≤ lsn2 ∧ lsn2 ≤ 9223372036854775807 := by
        rcases hdcase with ⟨_, h, _⟩ | ⟨_, h, _⟩
        · rw [h]; omega
        · have := Pg.may_parts h; omega
      obtain ⟨i0, hi0, hz0, hz1, hz2⟩ := info_parts ninfo8
      have HI := Lib.hid (And.intro hi0 (And.intro hz0 (And.intro hz1 hz2)))
      have HE := Lib.hid (And.intro hE (And.intro hecase2 (And.intro hD (And.intro hdcase (And.intro hok2 (And.intro hl2n hlb2))))))
      clear hE hecase2 hD hdcase hok2 hi0 hz0 hz1 hz2
      go_enter Try.func10, Try.ntmps10
      go_wp2_with fail
      generalize hW0 : w.alloc (.cells (pgCells lsn A n c) 24) = W0 at *
      clear hW0
      refine H.out.2.2.1.mono ?_
      rw [HG.out]
      rintro e w1 ⟨rfl, hb1⟩
      have hk1 := H.out.2.1.below hb1 H.out.2.1.lt
      have hbw1 := H.out.1.trans (hb1.mono H.out.1.size)
      have c0 : w1.cell? ⟨w.heap.size, 0, none⟩ = some (.int .i64 lsn) := hk1.cell 0
      have c1 : w1.cell? ⟨w.heap.size, 1, none⟩ = some (.slice A n c) := hk1.cell 1
      have H1 := Lib.hid (And.intro hk1 hbw1)
      clear hb1 hk1 hbw1
      go_wp2_with fail
      refine (copy10_any lsn A n c l w1 (H.out.2.2.2.1.below H1.out.2) (by omega)).mono ?_
      rintro e w2 ⟨A2, d2, rfl, ho2, hb2⟩
      have hst2 := ST.of_own cellK_len (by decide) ho2 (fun x hx => H.out.2.2.2.1.ok x hx)
      simp only [H.out.2.2.2.2.1] at hst2 ⊢
      have hbw2 := H1.out.2.trans (hb2.mono H1.out.2.size)
      have H2 := Lib.hid (And.intro hst2 (And.intro (H1.out.1.below hb2 H1.out.1.lt) hbw2))
      clear ho2 hst2 hb2 hbw2 c0 c1
      go_wp2_with fail
      have hen := penc_any lsn A2 n d2 l w2 H2.out.1 (by omega) ⟨hl1, hl2⟩
      rw [HE.out.1] at hen
      refine hen.mono ?_
      clear hen
      rintro e w3 ⟨v3, rfl, ho3, hb3⟩
      obtain ⟨B3, d3, rfl⟩ := own_slice ho3
      have hk3 := H2.out.2.1.below hb3 H2.out.2.1.lt
      have hbw3 := H2.out.2.2.trans (hb3.mono H2.out.2.2.size)
      have c0 : w3.cell? ⟨w.heap.size, 0, none⟩ = some (.int .i64 lsn) := hk3.cell 0
      have c1 : w3.cell? ⟨w.heap.size, 1, none⟩ = some (.slice A n c) := hk3.cell 1
      have H3 := Lib.hid (And.intro hk3 (And.intro (BS.of_own ho3) hbw3))
      clear ho3 hb3 hk3 hbw3
      go_wp2_with fail
      have hen := penc10_any lsn A n c l w3 (H.out.2.2.2.1.below H3.out.2.2) (by omega) ⟨hl1, hl2⟩
      rw [HE.out.1] at hen
      refine hen.mono ?_
      clear hen
      rintro e w4 ⟨v4, rfl, ho4, hb4⟩
      obtain ⟨B4, d4, rfl⟩ := own_slice ho4
      have hbw4 := H3.out.2.2.trans (hb4.mono H3.out.2.2.size)
      have H4 := Lib.hid (And.intro (H3.out.1.below hb4 H3.out.1.lt) (And.intro (H3.out.2.1.below hb4) (And.intro (BS.of_own ho4) hbw4)))
      clear ho4 hb4 hbw4 c0 c1
      have hb40 : Below w4.heap.size w4 (w4.alloc (.cells #[] 5)) := (Below.refl _ w4).alloc (Nat.le_refl _) _
      have ho40 : (w4.alloc (.cells #[] 5)).ownsRow w4.heap.size 5 1 (.slice (some ⟨w4.heap.size, 0, none⟩) 0 0) 0 [] := World.ownsRow_made w4 #[] 0 (Nat.le_refl _) (by simp [maxLen]) (by simp)
      have H40 := Lib.hid (And.intro hb40 (And.intro ho40 ((H.out.2.2.2.2.2.1.below H4.out.2.2.2).below hb40)))
      clear hb40 ho40
      go_upto_region 5 with fail
      go_wp2_with (at_builtin; refine wpList_append_bs _ rfl (.tmp 37) (.tmp 38) 42 rfl w4.heap.size 5 i0 Try.underlying42 HI.out.1 HI.out.2.1 HI.out.2.2.1 HI.out.2.2.2 (.slice (some ⟨w4.heap.size, 0, none⟩) 0 0) 0 [] rfl H40.out.2.1 B m cap bs rfl H40.out.2.2 (by omega) (by simp) ?_; intro v5 w5 hown5 hg5 hat5; obtain ⟨B5, d5, rfl⟩ := own_slice hown5; have hb5 : Below w4.heap.size w4 w5 := H40.out.1.grown hg5 (by simp) (by simp [Value.ownBlock]); have H5 := Lib.hid (And.intro hown5 hb5); clear hown5 hg5 hat5 hb5)
      have hbs5 := H5.out.1
      rw [Nat.zero_add, List.nil_append] at hbs5
      have hde := pdec_any B5 m d5 bs w5 (BS.of_own hbs5) (by omega)
      rw [HE.out.2.2.1] at hde
      refine hde.mono ?_
      clear hde hbs5
      rintro e w6 ⟨A6, d6, rfl, ho6, hb6⟩
      simp only at ho6 ⊢
      have hb46 := H5.out.2.trans (hb6.mono H5.out.2.size)
      have hb7 : Below w6.heap.size w6 (w6.alloc (.cells (pgCells lsn2 A6 l2.length d6) 24)) := (Below.refl _ _).alloc (Nat.le_refl _) _
      have hb47 := hb46.trans (hb7.mono hb46.size)
      have H7 := Lib.hid (And.intro ((ST.of_own cellK_len (by decide) ho6 (HE.out.2.2.2.2.1 _)).below hb7) (And.intro (Blk.new w6 24 (pgCells lsn2 A6 l2.length d6)) (And.intro (H4.out.1.below hb47 H4.out.1.lt) (And.intro (H4.out.2.1.below hb47) (And.intro (H4.out.2.2.1.below hb47) (H4.out.2.2.2.trans (hb47.mono H4.out.2.2.2.size)))))))
      have hq1 : w.heap.size < w6.heap.size := by have := H4.out.1.lt; have := hb46.size; omega
      clear ho6 hb6 hb46 hb7 hb47
      go_wp2_with fail
      generalize w6.alloc (.cells (pgCells lsn2 A6 l2.length d6) 24) = w7 at *
      generalize w6.heap.size = q1 at *
      have hde := pdec10_any B m cap bs w7 (H.out.2.2.2.2.2.1.below H7.out.2.2.2.2.2) (by omega) hmc (by omega)
      rw [HE.out.2.2.1] at hde
      refine hde.mono ?_
      clear hde
      rintro e w8 ⟨A8, d8, rfl, ho8, hb8⟩
      simp only at ho8 ⊢
      have hb9 : Below w8.heap.size w8 (w8.alloc (.cells (pgCells lsn2 A8 l2.length d8) 24)) := (Below.refl _ _).alloc (Nat.le_refl _) _
      have hb79 := hb8.trans (hb9.mono hb8.size)
      have hq2 : q1 < w8.heap.size := by have := H7.out.2.1.lt; have := hb8.size; omega
      have hkq2 := Blk.new w8 24 (pgCells lsn2 A8 l2.length d8)
      have hkq1 := H7.out.2.1.below hb79 H7.out.2.1.lt
      have a0 : (w8.alloc (.cells (pgCells lsn2 A8 l2.length d8) 24)).cell? ⟨q1, 0, none⟩ = some (.int .i64 lsn2) := hkq1.cell 0
      have a1 : (w8.alloc (.cells (pgCells lsn2 A8 l2.length d8) 24)).cell? ⟨q1, 1, none⟩ = some (.slice A6 l2.length d6) := hkq1.cell 1
      have b0 : (w8.alloc (.cells (pgCells lsn2 A8 l2.length d8) 24)).cell? ⟨w8.heap.size, 0, none⟩ = some (.int .i64 lsn2) := hkq2.cell 0
      have b1 : (w8.alloc (.cells (pgCells lsn2 A8 l2.length d8) 24)).cell? ⟨w8.heap.size, 1, none⟩ = some (.slice A8 l2.length d8) := hkq2.cell 1
      have H9 := Lib.hid (And.intro ((ST.of_own cellK_len (by decide) ho8 (HE.out.2.2.2.2.1 _)).below hb9) (And.intro (H7.out.1.below hb79) (And.intro hkq1 (And.intro hkq2 (And.intro (H7.out.2.2.1.below hb79 H7.out.2.2.1.lt) (And.intro (H7.out.2.2.2.1.below hb79) (And.intro (H7.out.2.2.2.2.1.below hb79) (H7.out.2.2.2.2.2.trans (hb79.mono H7.out.2.2.2.2.2.size)))))))))
      clear ho8 hb8 hb9 hb79 hkq1 hkq2
      go_wp2_with fail
      refine (same_any B3 B4 S.length S.length d3 d4 S S _ H9.out.2.2.2.2.2.1 H9.out.2.2.2.2.2.2.1 (by omega) (by omega)).mono ?_
      rw [decide_eq_true rfl]
      rintro e w10 ⟨rfl, hd10⟩
      have hb10 := hd10.below
      have hk10q1 := H9.out.2.2.1.below hb10 H9.out.2.2.1.lt
      have hk10q2 := H9.out.2.2.2.1.below hb10 H9.out.2.2.2.1.lt
      have hk10 := H9.out.2.2.2.2.1.below hb10 H9.out.2.2.2.2.1.lt
      have a0 : w10.cell? ⟨q1, 0, none⟩ = some (.int .i64 lsn2) := hk10q1.cell 0
      have a1 : w10.cell? ⟨q1, 1, none⟩ = some (.slice A6 l2.length d6) := hk10q1.cell 1
      have b0 : w10.cell? ⟨w8.heap.size, 0, none⟩ = some (.int .i64 lsn2) := hk10q2.cell 0
      have b1 : w10.cell? ⟨w8.heap.size, 1, none⟩ = some (.slice A8 l2.length d8) := hk10q2.cell 1
      have H10 := Lib.hid (And.intro (H9.out.1.below hb10) (And.intro (H9.out.2.1.below hb10) (And.intro hk10q1 (And.intro hk10 (And.intro (H9.out.2.2.2.2.2.1.below hb10) (H9.out.2.2.2.2.2.2.2.trans (hb10.mono H9.out.2.2.2.2.2.2.2.size)))))))
      clear hd10 hb10 hk10q1 hk10q2 hk10
      go_wp2_with fail
      refine (same10_eq lsn2 A6 A8 l2.length d6 d8 l2 w10 H10.out.2.1 H10.out.1 (by omega)).mono ?_
      rintro e w11 ⟨rfl, hb11⟩
      have hk11q1 := H10.out.2.2.1.below hb11 H10.out.2.2.1.lt
      have hk11 := H10.out.2.2.2.1.below hb11 H10.out.2.2.2.1.lt
      have a0 : w11.cell? ⟨q1, 0, none⟩ = some (.int .i64 lsn2) := hk11q1.cell 0
      have a1 : w11.cell? ⟨q1, 1, none⟩ = some (.slice A6 l2.length d6) := hk11q1.cell 1
      have H11 := Lib.hid (And.intro (H10.out.2.1.below hb11) (And.intro hk11q1 (And.intro hk11 (And.intro (H10.out.2.2.2.2.1.below hb11) (H10.out.2.2.2.2.2.trans (hb11.mono H10.out.2.2.2.2.2.size))))))
      clear hb11 hk11q1 hk11 b0 b1
      have hsplit := And.intro HE.out.2.1 HE.out.2.2.2.1
      obtain ⟨he2, hd2⟩ := hsplit
      rcases he2 with ⟨g1, g2⟩ | ⟨g1, g2, g3⟩
      · have e1 : ((ec : Int) == 0) = false := by rw [g2]; rfl
        clear g1 g2
        rcases hd2 with ⟨f1, f2, f3⟩ | ⟨f1, f2, f3, f4, f5⟩
        · have e2 : ((dc : Int) == 0) = false := by rw [beq_eq_false_iff_ne]; omega
          clear f1 f2 f3
          go_wp2_with fail
          refine (awake10_any w11).mono ?_
          rintro e w20 ⟨rfl, hb20⟩
          have hz := H11.out.2.2.2.2
          have H20 := Lib.hid (hz.trans (hb20.mono hz.size))
          clear hb20 hz
          go_wp2_with fail
          go_ret
          exact ⟨rfl, H20.out⟩
        · have e2 : ((dc : Int) == 0) = true := by rw [f1]; rfl
          have HF := Lib.hid (And.intro f2 (And.intro f3 (And.intro f4 f5)))
          clear f1 f2 f3 f4 f5
          go_wp2_with fail
          have hen := penc_any lsn2 A6 l2.length d6 l2 w11 H11.out.1 (by omega) HE.out.2.2.2.2.2.2
          rw [HF.out.2.1] at hen
          refine hen.mono ?_
          clear hen
          rintro e w15 ⟨v15, rfl, ho15, hb15⟩
          obtain ⟨B15, d15, rfl⟩ := own_slice ho15
          have hbw15 := H11.out.2.2.2.2.trans (hb15.mono H11.out.2.2.2.2.size)
          have hlen15 : (Pg.body lsn2 l2).length ≤ m := by rw [← H.out.2.2.2.2.2.2]; exact HF.out.2.2.1
          have htk : BS w15 B (Pg.body lsn2 l2).length (Pg.body lsn2 l2) := by
            have := (H.out.2.2.2.2.2.1.below hbw15).take_ (Pg.body lsn2 l2).length hlen15
            rwa [HF.out.2.2.2] at this
          have H15 := Lib.hid (And.intro (BS.of_own ho15) (And.intro htk hbw15))
          clear ho15 hb15 hbw15 htk
          simp only at hlen15 ⊢
          generalize Pg.body lsn2 l2 = Z at *
          have hz1 : (Z.length : Int) ≤ (m : Int) := by omega
          have hz2 : Z.length ≤ cap := by omega
          go_wp2_with fail
          refine (same_any B15 B Z.length Z.length d15 _ Z Z w15 H15.out.1 H15.out.2.1 (by omega) (by omega)).mono ?_
          rw [decide_eq_true rfl]
          rintro e w16 ⟨rfl, hd16⟩
          have H16 := Lib.hid (H15.out.2.2.trans (hd16.below.mono H15.out.2.2.size))
          clear hd16
          go_wp2_with fail
          refine (awake10_any w16).mono ?_
          rintro e w20 ⟨rfl, hb20⟩
          have H20 := Lib.hid (H16.out.trans (hb20.mono H16.out.size))
          clear hb20
          go_wp2_with fail
          go_ret
          exact ⟨rfl, H20.out⟩
      · have e1 : ((ec : Int) == 0) = true := by rw [g2]; rfl
        have hde := pdec_any B3 S.length d3 S w11 H11.out.2.2.2.1 (by omega)
        rw [g3] at hde
        have HDE := Lib.hid hde
        clear g1 g2 g3 hde
        go_wp2_with fail
        refine HDE.out.mono ?_
        rintro e w12 ⟨A12, d12, rfl, ho12, hb12⟩
        simp only [H.out.2.2.2.2.1] at ho12 ⊢
        have hb13 : Below w12.heap.size w12 (w12.alloc (.cells (pgCells lsn A12 n d12) 24)) := (Below.refl _ _).alloc (Nat.le_refl _) _
        have hb11 := hb12.trans (hb13.mono hb12.size)
        have hk13q1 := H11.out.2.1.below hb11 H11.out.2.1.lt
        have hk13 := H11.out.2.2.1.below hb11 H11.out.2.2.1.lt
        have hk13z := Blk.new w12 24 (pgCells lsn A12 n d12)
        have a0 : (w12.alloc (.cells (pgCells lsn A12 n d12) 24)).cell? ⟨q1, 0, none⟩ = some (.int .i64 lsn2) := hk13q1.cell 0
        have a1 : (w12.alloc (.cells (pgCells lsn A12 n d12) 24)).cell? ⟨q1, 1, none⟩ = some (.slice A6 l2.length d6) := hk13q1.cell 1
        have c0 : (w12.alloc (.cells (pgCells lsn A12 n d12) 24)).cell? ⟨w.heap.size, 0, none⟩ = some (.int .i64 lsn) := hk13.cell 0
        have c1 : (w12.alloc (.cells (pgCells lsn A12 n d12) 24)).cell? ⟨w.heap.size, 1, none⟩ = some (.slice A n c) := hk13.cell 1
        have z0 : (w12.alloc (.cells (pgCells lsn A12 n d12) 24)).cell? ⟨w12.heap.size, 0, none⟩ = some (.int .i64 lsn) := hk13z.cell 0
        have z1 : (w12.alloc (.cells (pgCells lsn A12 n d12) 24)).cell? ⟨w12.heap.size, 1, none⟩ = some (.slice A12 n d12) := hk13z.cell 1
        have hst12 : ST cellK w12 A12 n l := by
          have := ST.of_own (K := cellK) (l := l) cellK_len (by decide) ho12 (fun x hx => H.out.2.2.2.1.ok x hx)
          exact this
        have hz13 := H11.out.2.2.2.2.trans (hb11.mono H11.out.2.2.2.2.size)
        have H13 := Lib.hid (And.intro (hst12.below hb13) (And.intro hk13q1 (And.intro (H11.out.1.below hb11) hz13)))
        clear ho12 hb12 hb13 hb11 hk13q1 hk13 hk13z hst12 hz13
        go_wp2_with fail
        refine (same10_eq lsn A12 A n d12 c l _ H13.out.1 (H.out.2.2.2.1.below H13.out.2.2.2) (by omega)).mono ?_
        rintro e w14 ⟨rfl, hb14⟩
        have hk14q1 := H13.out.2.1.below hb14 H13.out.2.1.lt
        have a0 : w14.cell? ⟨q1, 0, none⟩ = some (.int .i64 lsn2) := hk14q1.cell 0
        have a1 : w14.cell? ⟨q1, 1, none⟩ = some (.slice A6 l2.length d6) := hk14q1.cell 1
        have H11 := Lib.hid (And.intro (H13.out.2.2.1.below hb14) (And.intro hk14q1 (And.intro trivial (And.intro trivial (H13.out.2.2.2.trans (hb14.mono H13.out.2.2.2.size))))))
        clear hb14 hk14q1 c0 c1 z0 z1
        have hS254 : (S.length : Int) ≤ 254 := by omega
        generalize w14 = w11 at *
        rcases hd2 with ⟨f1, f2, f3⟩ | ⟨f1, f2, f3, f4, f5⟩
        · have e2 : ((dc : Int) == 0) = false := by rw [beq_eq_false_iff_ne]; omega
          clear f1 f2 f3
          go_wp2_with fail
          refine (awake10_any w11).mono ?_
          rintro e w20 ⟨rfl, hb20⟩
          have hz := H11.out.2.2.2.2
          have H20 := Lib.hid (hz.trans (hb20.mono hz.size))
          clear hb20 hz
          go_wp2_with fail
          go_ret
          exact ⟨rfl, H20.out⟩
        · have e2 : ((dc : Int) == 0) = true := by rw [f1]; rfl
          have HF := Lib.hid (And.intro f2 (And.intro f3 (And.intro f4 f5)))
          clear f1 f2 f3 f4 f5
          go_wp2_with fail
          have hen := penc_any lsn2 A6 l2.length d6 l2 w11 H11.out.1 (by omega) HE.out.2.2.2.2.2.2
          rw [HF.out.2.1] at hen
          refine hen.mono ?_
          clear hen
          rintro e w15 ⟨v15, rfl, ho15, hb15⟩
          obtain ⟨B15, d15, rfl⟩ := own_slice ho15
          have hbw15 := H11.out.2.2.2.2.trans (hb15.mono H11.out.2.2.2.2.size)
          have hlen15 : (Pg.body lsn2 l2).length ≤ m := by rw [← H.out.2.2.2.2.2.2]; exact HF.out.2.2.1
          have htk : BS w15 B (Pg.body lsn2 l2).length (Pg.body lsn2 l2) := by
            have := (H.out.2.2.2.2.2.1.below hbw15).take_ (Pg.body lsn2 l2).length hlen15
            rwa [HF.out.2.2.2] at this
          have H15 := Lib.hid (And.intro (BS.of_own ho15) (And.intro htk hbw15))
          clear ho15 hb15 hbw15 htk
          simp only at hlen15 ⊢
          generalize Pg.body lsn2 l2 = Z at *
          have hz1 : (Z.length : Int) ≤ (m : Int) := by omega
          have hz2 : Z.length ≤ cap := by omega
          go_wp2_with fail
          refine (same_any B15 B Z.length Z.length d15 _ Z Z w15 H15.out.1 H15.out.2.1 (by omega) (by omega)).mono ?_
          rw [decide_eq_true rfl]
          rintro e w16 ⟨rfl, hd16⟩
          have H16 := Lib.hid (H15.out.2.2.trans (hd16.below.mono H15.out.2.2.size))
          clear hd16
          go_wp2_with fail
          refine (awake10_any w16).mono ?_
          rintro e w20 ⟨rfl, hb20⟩
          have H20 := Lib.hid (H16.out.trans (hb20.mono H16.out.size))
          clear hb20
          go_wp2_with fail
          go_ret
          exact ⟨rfl, H20.out⟩

theorem own : ownKnob Try.prog.godebug = none := by kernel_rfl
theorem laidOut : laidOutB Try.prog = true := by kernel_rfl
theorem params_ok : ∀ t ∈ Try.f10.params.toList, Try.prog.readableRec t = true ∧ t < Try.prog.types.size := by
  rw [Try.params10]
  intro t ht
  have ht' : t = 24 ∨ t = 42 := by
    simpa using ht
  rcases ht' with rfl | rfl
  · exact ⟨(show Try.prog.readableRec 24 = true by kernel_rfl), of_decide_eq_true (show decide (24 < Try.prog.types.size) = true by kernel_rfl)⟩
  · exact ⟨(show Try.prog.readableRec 42 = true by kernel_rfl), of_decide_eq_true (show decide (42 < Try.prog.types.size) = true by kernel_rfl)⟩

set_option maxRecDepth 100000 in
theorem contract (H : Type) (enc : TypeId × Value → H) (W : World) (base : Nat) (args : Array Value) (ds gs : List (DataW H)) (before : List MemPlace)
    (hval : ∀ (j : Nat) t v, Try.f10.params[j]? = some t → args[j]? = some v → Value.okWide Try.prog W .any base t v)
    (hW : DataW.Whole enc Try.prog Try.f10.params.toList Rows.pageWritesSpec.vars false W args.toList ds gs before) :
    Calls Try.prog 10 args W fun e W' => ∃ v, e = .returned v ∧ Rows.pageWritesSpec.post enc Try.prog Try.f10 false true false false W args v W' := by
  have hW' := hW
  obtain ⟨p, q, hA0, hV, rfl, hfz, hnd⟩ := hW
  have hA : DataW.TrodAll enc Try.prog W 0 (fun _ => true) true Try.f10.params.toList args.toList ds p := hA0
  rw [Try.params10] at hA hval
  obtain ⟨v0, vs0, d0, ds0, p0, q0, hargs, rfl, rfl, h0, r0⟩ := trodAll_cons hA
  obtain ⟨v1, vs1, d1, ds1, p1, q1, rfl, rfl, rfl, h1, r1⟩ := trodAll_cons r0
  obtain ⟨rfl, rfl, rfl⟩ := trodAll_nil r1
  obtain rfl : args = #[v0, v1] := by cases args; simp_all
  obtain ⟨rfl, rfl⟩ := trodVars_none hV
  obtain ⟨x0, A0, n0, c0, l0, rfl, xb0, lh0, nc0, cm0⟩ := open_page (hval 0 24 v0 rfl rfl) h0
  obtain ⟨A1, n1, c1, bs1, rfl, bs1h, nc1, cm1, dd1⟩ := open_bytes Try.underlying42 Try.underlying5 (show Try.prog.cellsOf 5 = 1 by kernel_rfl) (hval 1 42 v1 rfl rfl) h1
  refine (walk x0 A0 n0 c0 l0 A1 n1 c1 bs1 W lh0 nc0 cm0 xb0.1 xb0.2 bs1h nc1 cm1).mono fun e W' ⟨he, bel⟩ => ?_
  exact ⟨_, he, post_true laidOut Try.underlying4 (show Try.f10.resultTypes = #[4] from rfl) params_ok rfl hW' rfl bel⟩

theorem laid_met (os : Os) : laidMet Try.prog Rows.pageWritesRow.laid ((World.holding Try.prog os ⟨#[], #[], []⟩).forCall (fun _ _ => 0) ⟨#[], #[.agg #[.int .i64 0, .slice none 0 0], .slice none 0 0], []⟩).memory :=
  laidMet_of_run' 8 (by kernel_rfl) (by kernel_rfl)
theorem reads (os : Os) {H : Type} (enc : TypeId × Value → H) : ∃ places, DataW.whole enc Try.prog ((World.holding Try.prog os ⟨#[], #[], []⟩).forCall (fun _ _ => 0) ⟨#[], #[.agg #[.int .i64 0, .slice none 0 0], .slice none 0 0], []⟩).memory Try.f10.params.toList Rows.pageWritesSpec.vars false (#[Value.agg #[.int .i64 0, .slice none 0 0], Value.slice none 0 0] : Array Value).toList 8 = some ([.agg [.lit (.int .i64 0), .nil], .nil], [], places) :=
  ⟨[], by kernel_rfl⟩
set_option maxRecDepth 100000 in
theorem lifted (os : Os) (started : os.Started) (H : Type) (enc : TypeId × Value → H) (F : Stop.Interp) :
    ReturnsInHanded {} Try.checked os 10 .any ((OpenSpec.ofChange Rows.pageWritesSpec).preRow enc Try.prog Try.f10 Rows.pageWritesRow.domain false Rows.pageWritesRow.laid) (((OpenSpec.ofChange Rows.pageWritesSpec).at F).post enc Try.prog Try.f10 false true false false) := by
  obtain ⟨places, hx⟩ := reads os enc
  refine returnsInHanded_of_row (C := Try.checked) (s := OpenSpec.ofChange Rows.pageWritesSpec) own started (by kernel_rfl) Try.func10
    (witness_row_at (enc := enc) (C := Try.checked) false (World.holding Try.prog os ⟨#[], #[], []⟩) #[.agg #[.int .i64 0, .slice none 0 0], .slice none 0 0] rfl (by kernel_rfl) (by kernel_rfl) (by kernel_rfl)
      (OpenSpec.preRow_of_cond 8 hx (by kernel_rfl) (fun k hk => by cases hk) (by kernel_rfl) (laid_met os))) ?_
  intro W base args ds gs before hval hW _ _ hsz hL _ _
  exact contract H enc W base args ds gs before hval hW
theorem said : Rows.PageWritesSaid :=
  OpenClaim.holds_of_cond 10 Try.f10 rfl rfl rfl rfl rfl rfl rfl ⟨rfl, rfl, rfl, rfl, rfl⟩ rfl rfl rfl rfl rfl (by kernel_rfl) Try.func10 (by kernel_rfl)
    (of_decide_eq_true (by kernel_rfl)) (by unfold Func.isWrapper; first | (rw [if_pos (by decide +kernel)]; kernel_rfl) | (rw [if_neg (by decide +kernel)]; exact ⟨rfl, rfl⟩))
    (fun os started H enc _ F => by rw [OpenClaim.pre_eq_preRow]; exact lifted os started H enc F)
#print axioms said
end Go.Proofs.Ytfcmlfcpgboigaa.pageWrites
