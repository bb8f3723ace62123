/- A sheet's payload is written, as the document says. -/
import Derived.Test.YtlpdjpkdgagjpaaDoorSheetEnc
namespace Go.Proofs.YtlpdjpkdgagjpaaDoor
open Go.RowKit Mem Lift
set_option linter.unusedVariables false
set_option linter.unusedSimpArgs false
set_option maxRecDepth 100000

set_option maxHeartbeats 4000000 in
theorem rsenc_any (s : Sh.Sd) (w : World) (hi : -9223372036854775808 ≤ s.inc ∧ s.inc ≤ 9223372036854775807) (hp : -9223372036854775808 ≤ s.pos ∧ s.pos ≤ 9223372036854775807) (hf : -9223372036854775808 ≤ s.first ∧ s.first ≤ 9223372036854775807) (hd : s.data.length ≤ 1000) :
    Calls Tryd.prog 25 #[sdVal s] w (SealP w (Sh.encS s)) := by
  have hmy := fun W => rmay8_any s W hf
  have hb0 : Below w.heap.size w (w.alloc (.cells (sdCells s) 47)) := (Below.refl _ _).alloc (Nat.le_refl _) _
  have hk0 := Blk.new w 47 (sdCells s)
  by_cases hgood : Sh.mayS s = true ∧ Sh.topS s = false
  · obtain ⟨hm, ht⟩ := hgood
    have hr : Sh.encS s = (Sh.bodyS s, 0) := by unfold Sh.encS; rw [if_pos ⟨hm, ht⟩]
    rw [hr]
    obtain ⟨p1, p2, p3, p4, p5, _⟩ := Sh.may_parts hm
    obtain ⟨t1, t2⟩ := Sh.top_parts ht
    obtain ⟨q1, q2⟩ := Sh.first_255 hm
    have hhc := head_cells hm
    have hbl := Sh.body_len s
    have hbd : Sh.bodyS s = Num.wideB s.inc.toNat 5 ++ Num.wideB s.pos.toNat 5 ++ Sh.headS s ++ s.data := rfl
    obtain ⟨hh, hhe⟩ : ∃ hh, hh = Sh.headS s := ⟨_, rfl⟩
    have hhl : hh.length = 2 := by rw [hhe]; rfl
    rw [← hhe] at hhc hbd
    rw [hm] at hmy
    generalize Sh.bodyS s = R at *
    obtain ⟨inc, pos, first, data⟩ := s
    simp only [sdVal, sdCells] at hmy hb0 hk0 hi hp hf hd p1 p2 p3 p4 p5 t1 t2 q1 q2 hhc hbd hbl ⊢
    obtain ⟨n, rfl⟩ := Int.eq_ofNat_of_zero_le p1
    obtain ⟨m, rfl⟩ := Int.eq_ofNat_of_zero_le p3
    rw [Int.toNat_natCast, Int.toNat_natCast] at hbd
    have hw1 : ∀ W, Calls Tryd.prog 46 #[.int .u64 n, .int .i64 5] W (OwnBE 5 W (Num.wideB n 5)) := fun W => (refWide_any n 5 W (by omega) (by omega) (by omega)).mono fun e w' h => h.1 (by show n < 256 ^ 5; omega)
    have hw2 : ∀ W, Calls Tryd.prog 46 #[.int .u64 m, .int .i64 5] W (OwnBE 5 W (Num.wideB m 5)) := fun W => (refWide_any m 5 W (by omega) (by omega) (by omega)).mono fun e w' h => h.1 (by show m < 256 ^ 5; omega)
    have l1 := Num.wideB_length 5 n
    have l2 := Num.wideB_length 5 m
    generalize Num.wideB n 5 = X at *
    generalize Num.wideB m 5 = Y at *
    have hsz := ba_size data
    obtain ⟨B, hB⟩ : ∃ B : ByteArray, B = ⟨data.toArray⟩ := ⟨_, rfl⟩
    have hbc : Lib.strCells B = u8s data := by rw [hB]; exact strCells_u8s data
    rw [← hB] at hsz hmy hb0 hk0 ⊢
    rw [← hsz] at hhc
    obtain ⟨i8, hi8, hz0, hz1, hz2⟩ := info_parts ninfo8
    have HI := Lib.hid (And.intro hi8 (And.intro hz0 (And.intro hz1 hz2)))
    have H := Lib.hid (And.intro hmy (And.intro hb0 (And.intro hk0 (And.intro hw1 (And.intro hw2 (And.intro l1 (And.intro l2 (And.intro hbd (And.intro hhc (And.intro hhl (And.intro hbl (And.intro hbc hsz))))))))))))
    have e1 : ((n : Int) == 1099511627776) = false := by rw [beq_eq_false_iff_ne]; exact t1
    have e2 : ((m : Int) == 1099511627776) = false := by rw [beq_eq_false_iff_ne]; exact t2
    clear hmy hb0 hk0 hw1 hw2 l1 l2 hbd hhc hhl hbl hm ht hr hi8 hz0 hz1 hz2 hB hhe hbc t1 t2
    have hB242 : (B.size : Int) ≤ 242 := by omega
    clear hsz
    go_enter Tryd.func25, Tryd.ntmps25
    go_wp2_with fail
    generalize w.alloc (.cells #[.int .i64 (n : Int), .int .i64 (m : Int), .int .i64 first, .string B] 47) = w1 at *
    refine (H.out.1 _).mono ?_
    rintro e w2 ⟨rfl, hb2⟩
    have hk2 := H.out.2.2.1.below hb2 H.out.2.2.1.lt
    have c0 : w2.cell? ⟨w.heap.size, 0, none⟩ = some (.int .i64 (n : Int)) := hk2.cell 0
    have c1 : w2.cell? ⟨w.heap.size, 1, none⟩ = some (.int .i64 (m : Int)) := hk2.cell 1
    have H2 := Lib.hid (And.intro hk2 (below_of H.out.2.1 H.out.2.1.size hb2))
    clear hk2 hb2
    go_wp2_with fail
    refine (H.out.2.2.2.1 _).mono ?_
    rintro e w3 ⟨v, rfl, ho3, hb3⟩
    rw [H.out.2.2.2.2.2.1] at ho3
    obtain ⟨A3, k3, rfl⟩ := own_slice ho3
    have hk3 := H2.out.1.below hb3 H2.out.1.lt
    have d1 : w3.cell? ⟨w.heap.size, 1, none⟩ = some (.int .i64 (m : Int)) := hk3.cell 1
    have H3 := Lib.hid (And.intro hk3 (And.intro (below_of H2.out.2 H2.out.2.size hb3) (own_base ho3 H2.out.2.size)))
    clear hk3 hb3 ho3 c0 c1
    go_wp2_with fail
    refine (H.out.2.2.2.2.1 _).mono ?_
    rintro e w4 ⟨v, rfl, ho4, hb4⟩
    rw [H.out.2.2.2.2.2.2.1] at ho4
    obtain ⟨A4, k4, rfl⟩ := own_slice ho4
    have hk4 := H3.out.1.below hb4 H3.out.1.lt
    have H4 := Lib.hid (And.intro hk4 (And.intro (below_of H3.out.2.1 H3.out.2.1.size hb4) (And.intro (own_below H3.out.2.2 hb4) (BS.of_own ho4))))
    clear hk4 hb4 ho4 d1
    go_wp2_with (first
      | (at_builtin; refine wpList_append_bs _ rfl (.tmp 35) (.tmp 36) 38 rfl w.heap.size 5 i8 Tryd.underlying38 HI.out.1 HI.out.2.1 HI.out.2.2.1 HI.out.2.2.2 (.slice A3 5 k3) 5 (u8s X) rfl H4.out.2.2.1 A4 5 k4 Y rfl H4.out.2.2.2 (by omega) H4.out.2.1.size ?_
         intro v1 w5 hown5 hg5 hat5
         rw [← u8s_append] at hown5
         obtain ⟨A5, k5, rfl⟩ := own_slice hown5
         have hk5 := blk_grown H4.out.1 H4.out.2.2.1 (by decide) hg5
         have e52 : w5.cell? ⟨w.heap.size, 2, none⟩ = some (.int .i64 first) := hk5.cell 2
         have e53 : w5.cell? ⟨w.heap.size, 3, none⟩ = some (.string B) := hk5.cell 3
         have hbb5 : Below w.heap.size w w5 := H4.out.2.1.grown hg5 H4.out.2.1.size (fun j hj => own_ge H4.out.2.2.1 hj)
         have ha5 : Below w5.heap.size w5 (w5.alloc (.cells #[.int .u8 first, .int .u8 (B.size : Int)] 5)) := (Below.refl _ _).alloc (Nat.le_refl _) _
         have hx5 : BS (w5.alloc (.cells #[.int .u8 first, .int .u8 (B.size : Int)] 5)) (some ⟨w5.heap.size, 0, none⟩) 2 hh := by
           have h := BS.made w5 #[.int .u8 first, .int .u8 (B.size : Int)] 5 (0, 0) hh H.out.2.2.2.2.2.2.2.2.1
           rw [H.out.2.2.2.2.2.2.2.2.2.1] at h
           exact h
         have H5 := Lib.hid (And.intro (own_below hown5 ha5) (And.intro (hbb5.trans (ha5.mono hbb5.size)) (And.intro (hk5.below ha5 hk5.lt) hx5)))
         clear hown5 hg5 hbb5 hk5 ha5 hx5 hat5)
      | (at_builtin; refine wpList_append_bs _ rfl (.tmp 38) (.tmp 46) 38 rfl w.heap.size 5 i8 Tryd.underlying38 HI.out.1 HI.out.2.1 HI.out.2.2.1 HI.out.2.2.2 (.slice A5 10 k5) 10 (u8s (X ++ Y)) (by first | rfl | simp) H5.out.1 (some ⟨w5.heap.size, 0, none⟩) 2 2 hh rfl H5.out.2.2.2 (by omega) H5.out.2.1.size ?_
         intro v1 w6 hown6 hg6 hat6
         rw [← u8s_append] at hown6
         obtain ⟨A6, k6, rfl⟩ := own_slice hown6
         have hk6 := blk_grown H5.out.2.2.1 H5.out.1 (by decide) hg6
         have e63 : w6.cell? ⟨w.heap.size, 3, none⟩ = some (.string B) := hk6.cell 3
         have hbb6 : Below w.heap.size w w6 := H5.out.2.1.grown hg6 H5.out.2.1.size (fun j hj => own_ge H5.out.1 hj)
         have H6 := Lib.hid (And.intro hown6 hbb6)
         clear hown6 hg6 hbb6 hk6 hat6)
      | (at_builtin; refine Lib.wpList_append_own_string _ (by rfl) (.tmp 48) (.tmp 50) 38 9 (by rfl) w.heap.size 5 i8 Tryd.underlying38 Tryd.underlying9 HI.out.1 HI.out.2.1 HI.out.2.2.1 HI.out.2.2.2 (.slice A6 12 k6) 12 (u8s (X ++ Y ++ hh)) (by first | rfl | simp) H6.out.1 B (by rfl) (by unfold maxLen; omega) (by omega) H6.out.2.size ?_; intro v' w7 ho7 hg7 _; rw [H.out.2.2.2.2.2.2.2.2.2.2.2.1, ← u8s_append] at ho7; have H7 := Lib.hid (And.intro ho7 (H6.out.2.grown hg7 H6.out.2.size (fun j hj => own_ge H6.out.1 hj))); clear ho7 hg7))
    go_ret2
    refine ⟨v', rfl, ?_, H7.out.2⟩
    have h7 := H7.out.1
    rw [H.out.2.2.2.2.2.2.2.2.2.2.1]
    rw [H.out.2.2.2.2.2.2.2.2.2.2.2.2] at h7
    rw [H.out.2.2.2.2.2.2.2.1]
    exact h7
  · have hr : Sh.encS s = ([], 1) := by unfold Sh.encS; rw [if_neg hgood]
    rw [hr]
    have hways : Sh.mayS s = false ∨ Sh.mayS s = true ∧ ((s.inc == 1099511627776) = true ∨ (s.inc == 1099511627776) = false ∧ (s.pos == 1099511627776) = true) := by
      cases hm : Sh.mayS s with
      | false => exact .inl rfl
      | true =>
        refine .inr ⟨rfl, ?_⟩
        cases ht : Sh.topS s with
        | false => exact absurd ⟨hm, ht⟩ hgood
        | true =>
          unfold Sh.topS at ht
          simp only [Bool.or_eq_true, decide_eq_true_eq] at ht
          by_cases h : s.inc = 1099511627776
          · exact .inl (by rw [beq_iff_eq]; exact h)
          · exact .inr ⟨by rw [beq_eq_false_iff_ne]; exact h, by rw [beq_iff_eq]; omega⟩
    obtain ⟨R, hR⟩ : ∃ R, R = Sh.mayS s := ⟨_, rfl⟩
    rw [← hR] at hways hmy
    obtain ⟨inc, pos, first, data⟩ := s
    simp only [sdVal, sdCells] at hmy hb0 hk0 hi hp hf hd hways ⊢
    have H := Lib.hid (And.intro hmy (And.intro hb0 hk0))
    clear hmy hb0 hk0 hgood hR hr
    go_enter Tryd.func25, Tryd.ntmps25
    go_wp2_with fail
    generalize w.alloc (.cells #[.int .i64 inc, .int .i64 pos, .int .i64 first, .string ⟨data.toArray⟩] 47) = w1 at *
    refine (H.out.1 _).mono ?_
    rintro e w2 ⟨rfl, hb2⟩
    have hk2 := H.out.2.2.below hb2 H.out.2.2.lt
    have c0 : w2.cell? ⟨w.heap.size, 0, none⟩ = some (.int .i64 inc) := hk2.cell 0
    have c1 : w2.cell? ⟨w.heap.size, 1, none⟩ = some (.int .i64 pos) := hk2.cell 1
    have H2 := Lib.hid (below_of H.out.2.1 H.out.2.1.size hb2)
    clear hk2 hb2
    rcases hways with rfl | ⟨rfl, g | ⟨g, g2⟩⟩
    all_goals
      go_wp2_with fail
      go_ret2
      exact sealP_nil w _ 1 H2.out
end Go.Proofs.YtlpdjpkdgagjpaaDoor
