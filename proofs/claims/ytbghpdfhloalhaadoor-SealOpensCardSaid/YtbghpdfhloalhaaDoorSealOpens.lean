/- SealOpens: a sealed body, and the body of whatever bytes, are the document's; there and back, whatever stands behind it; no condition. -/
import Derived.Test.YtbghpdfhloalhaaDoorLaw03
import Derived.Test.YtbghpdfhloalhaaDoorSealRefs
import Derived.Test.YtbghpdfhloalhaaDoorLift
import Derived.Test.YtbghpdfhloalhaaDoorCards
import Derived.Test.YtbghpdfhloalhaaDoorTie
import Derived.Lib.LaidTab
namespace Go.Proofs.YtbghpdfhloalhaaDoor.sealOpens
open Go.ChangeShapes Go.WideShapes Go.ChangeAt Go.RowKit Mem Lift
set_option linter.unusedVariables false
set_option linter.unusedSimpArgs false

theorem seal_facts (s : List UInt8) (hs : s.length ≤ 5000) : (Sl.sealE s).1.length ≤ 6000 ∧ ((Sl.sealE s).2 = 0 ∧ s.length ≤ 4096 ∧ (Sl.sealE s).1 = Sl.sealB s ∨ (Sl.sealE s).2 = 12) := by
  have := sealB_bound s
  unfold Sl.sealE
  split
  · exact ⟨by simp, .inr rfl⟩
  · exact ⟨by simp only; omega, .inl ⟨rfl, by omega, rfl⟩⟩
theorem open_facts (b : List UInt8) (hb : b.length ≤ 5000) : (Sl.openB b).1.length ≤ 5000 ∧ (Sl.openB b).2.1 ≤ 5000 ∧ ((Sl.openB b).2.2 = 0 → (Sl.openB b).1.length ≤ 4096 ∧ (Sl.openB b).2.1 ≤ b.length ∧ Sl.sealB (Sl.openB b).1 = b.take (Sl.openB b).2.1) := by
  by_cases hz : (Sl.openB b).2.2 = 0
  · have h := Sl.seal_of_open b (Sl.openB b).1 (Sl.openB b).2.1 (by rw [← hz])
    exact ⟨by omega, by omega, fun _ => h⟩
  · have h := Sl.open_err b hz
    rw [h]
    exact ⟨by simp, by simp, fun e => absurd e hz⟩
set_option maxHeartbeats 1000000 in
theorem walk (A0 : Option Addr) (n0 c0 : Nat) (bs0 : List UInt8) (A1 : Option Addr) (n1 c1 : Nat) (bs1 : List UInt8) (w : World) (hb0 : BS w A0 n0 bs0) (hnc0 : n0 ≤ c0) (hm0 : c0 ≤ maxLen) (hb1 : BS w A1 n1 bs1) (hnc1 : n1 ≤ c1) (hm1 : c1 ≤ maxLen) (ht : Half w) :
    Calls Tryd.prog 3 #[.slice A0 n0 c0, .slice A1 n1 c1] w fun e w' => e = .returned (.bool true) ∧ Below w.heap.size w w' := by
  unfold maxLen at hm0 hm1
  by_cases hl : n0 ≤ 5000 ∧ n1 ≤ 5000
  · obtain ⟨hl0, hl1⟩ := hl
    have hg : decide ((5000 : Int) < (n0 : Int)) = false := by simp; omega
    have hg2 : decide ((5000 : Int) < (n1 : Int)) = false := by simp; omega
    have hsf := seal_facts bs0 (by rw [hb0.1]; exact hl0)
    have hof := open_facts bs1 (by rw [hb1.1]; exact hl1)
    have H := Lib.hid (And.intro hb0 (And.intro hb1 (And.intro ht (And.intro hsf hof))))
    clear hb0 hb1 ht hsf hof
    go_enter Tryd.func3, Tryd.ntmps3
    go_wp2_with fail
    refine (own03_any A0 n0 c0 bs0 w H.out.1 (by omega)).mono ?_
    rintro e w1 ⟨v, rfl, ho1, hb1⟩
    rw [H.out.1.1] at ho1
    obtain ⟨B1, d1, rfl⟩ := own_slice ho1
    have H1 := Lib.hid (And.intro hb1 (BS.of_own ho1))
    clear ho1 hb1
    go_wp2_with fail
    refine (seal_any B1 n0 d1 bs0 w1 H1.out.2 (by omega) (H.out.2.2.1.below H1.out.1)).mono ?_
    rintro e w2 ⟨v, rfl, ho2, hb2⟩
    obtain ⟨B2, d2, rfl⟩ := own_slice ho2
    have H2 := Lib.hid (And.intro (below_then H1.out.1 hb2) (And.intro ho2 (own_cap ho2)))
    clear ho2 hb2 H1
    go_wp2_with fail
    refine (refSeal_any A0 n0 c0 bs0 w2 (H.out.1.below H2.out.1) (by omega)).mono ?_
    rintro e w3 ⟨v, rfl, ho3, hb3⟩
    obtain ⟨B3, d3, rfl⟩ := own_slice ho3
    have H3 := Lib.hid (And.intro (below_then H2.out.1 hb3) (And.intro ho3 (own_below H2.out.2.1 hb3)))
    clear ho3 hb3
    go_wp2_with fail
    refine (own03_any A1 n1 c1 bs1 w3 (H.out.2.1.below H3.out.1) (by omega)).mono ?_
    rintro e w4 ⟨v, rfl, ho4, hb4⟩
    rw [H.out.2.1.1] at ho4
    obtain ⟨B4, d4, rfl⟩ := own_slice ho4
    have hcap4 := own_cap ho4
    have H4 := Lib.hid (And.intro (below_then H3.out.1 hb4) (And.intro (BS.of_own ho4) (And.intro (own_below H3.out.2.1 hb4) (own_below H3.out.2.2 hb4))))
    clear ho4 hb4 H3
    go_wp2_with fail
    refine (open_any B4 n1 d4 bs1 w4 H4.out.2.1 (by omega) hcap4.1 hcap4.2 (H.out.2.2.1.below H4.out.1)).mono ?_
    rintro e w5 ⟨B5, d5, rfl, hb5, hnc5, hm5, hbl5, _⟩
    have H5 := Lib.hid (And.intro (below_then H4.out.1 hbl5) (And.intro hb5 (And.intro (own_below H4.out.2.2.1 hbl5) (own_below H4.out.2.2.2 hbl5))))
    clear hb5 hbl5 H4
    go_wp2_with fail
    refine (refOpen_any A1 n1 c1 bs1 w5 (H.out.2.1.below H5.out.1) (by omega) hnc1 hm1).mono ?_
    rintro e w6 ⟨B6, d6, rfl, hb6, hnc6, hm6, hbl6, _⟩
    have H6 := Lib.hid (And.intro (below_then H5.out.1 hbl6) (And.intro hb6 (And.intro (H5.out.2.1.below hbl6) (And.intro (own_below H5.out.2.2.1 hbl6) (own_below H5.out.2.2.2 hbl6)))))
    clear hb6 hbl6 H5
    have HF := H.out.2.2.2.1
    have HG := H.out.2.2.2.2
    generalize hsx : Sl.sealE bs0 = sx at *
    obtain ⟨xs, er⟩ := sx
    generalize hox : Sl.openB bs1 = ox at *
    obtain ⟨ys, k, g⟩ := ox
    have HX := Lib.hid (And.intro hsx hox)
    have HE := Lib.hid (And.intro HF HG)
    clear hsx hox HF HG
    simp only at H2 H6 HE hnc5 hnc6 ⊢
    have hxl := HE.out.1.1
    have hyl := HE.out.2.1
    have hkl := HE.out.2.2.1
    go_wp2_with fail
    refine (same_any B2 B3 _ _ d2 d3 xs xs w6 (BS.of_own H6.out.2.2.2.2) (BS.of_own H6.out.2.2.2.1) (by omega) (by omega)).mono ?_
    rintro e w7 ⟨rfl, hd7⟩
    have H7 := Lib.hid (And.intro (below_then H6.out.1 hd7.below) (And.intro (H6.out.2.1.below hd7.below) (And.intro (H6.out.2.2.1.below hd7.below) (own_below H6.out.2.2.2.2 hd7.below))))
    clear hd7 H6
    go_wp2_with fail
    refine (same_any B5 B6 _ _ d5 d6 ys ys w7 H7.out.2.2.1 H7.out.2.1 (by omega) (by omega)).mono ?_
    rintro e w8 ⟨rfl, hd8⟩
    have H8 := Lib.hid (And.intro (below_then H7.out.1 hd8.below) (And.intro (H7.out.2.2.1.below hd8.below) (own_below H7.out.2.2.2 hd8.below)))
    clear hd8 H7
    obtain ⟨i0, hi0, hz0, hz1, hz2⟩ := info_parts ninfo8
    have HI := Lib.hid (And.intro hi0 (And.intro hz0 (And.intro hz1 hz2)))
    clear hi0 hz0 hz1 hz2
    rcases HE.out.1.2 with ⟨her, hes, hex⟩ | her
    · subst her
      have HS := Lib.hid (And.intro hes hex)
      clear hes hex
      go_wp2_with fail
      refine (own03_any B2 _ d2 xs w8 (BS.of_own H8.out.2.2) (by omega)).mono ?_
      rintro e w9 ⟨v, rfl, ho9, hb9⟩
      obtain ⟨B9, d9, rfl⟩ := own_slice ho9
      have hhs := H8.out.1.size
      have H9 := Lib.hid (And.intro (below_then H8.out.1 hb9) (And.intro ho9 (And.intro (H8.out.2.1.below hb9) (And.intro (H.out.2.1.below (below_then H8.out.1 hb9)) H8.out.2.1))))
      have hs9 := hb9.size
      clear ho9 hb9 H8
      go_wp2_with (at_builtin; refine wpList_append_bs _ rfl (.tmp 82) (.tmp 83) 22 rfl w8.heap.size 5 i0 Tryd.underlying22 HI.out.1 HI.out.2.1 HI.out.2.2.1 HI.out.2.2.2 (.slice B9 xs.length d9) xs.length (u8s xs) rfl H9.out.2.1 A1 n1 c1 bs1 rfl H9.out.2.2.2.1 (by omega) (by omega) ?_; intro v10 w10 hown10 hg10 hob10)
      rw [← u8s_append] at hown10
      obtain ⟨B10, d10, rfl⟩ := own_slice hown10
      have hcap10 := own_cap hown10
      have hbw : Below w.heap.size w w10 := H9.out.1.grown hg10 H9.out.1.size (fun j hj => by have := own_ge H9.out.2.1 hj; omega)
      have hy10 : BS w10 B5 ys.length ys := by
        refine ⟨rfl, fun hn => ?_⟩
        obtain ⟨b, off, rfl, hb, hc⟩ := H9.out.2.2.2.2.2 hn
        obtain ⟨b', off', e, _, hc'⟩ := H9.out.2.2.1.2 hn
        injection e with e
        injection e with e1 e2 _
        subst e1
        subst e2
        have hsz := hg10.size
        exact ⟨b, off, rfl, by omega, fun j hj => (World.cell?_of_block (hg10.block b (by omega) (fun e => by have := own_ge H9.out.2.1 e.symm; omega))).trans (hc' j hj)⟩
      have hop := open_any B10 _ d10 (xs ++ bs1) w10 (BS.of_own hown10) (by omega) hcap10.1 hcap10.2 (H.out.2.2.1.below hbw)
      have hope : Sl.openB (xs ++ bs1) = (bs0, xs.length, 0) := by rw [HS.out.2]; exact Sl.open_seal bs0 bs1 HS.out.1
      rw [hope] at hop
      clear hope
      have H10 := Lib.hid (And.intro hbw (And.intro hop hy10))
      clear hown10 hg10 hob10 hbw hop hy10
      go_wp2_with fail
      refine H10.out.2.1.mono ?_
      rintro e w11 ⟨B11, d11, rfl, hb11, _, _, hbl11, _⟩
      simp only at hb11
      rw [H.out.1.1] at hb11 ⊢
      have H11 := Lib.hid (And.intro (below_then H10.out.1 hbl11) (And.intro hb11 (H10.out.2.2.below hbl11)))
      clear hb11 hbl11 H10 H9
      go_wp2_with fail
      refine (same_any B11 A0 n0 n0 d11 c0 bs0 bs0 w11 H11.out.2.1 (H.out.1.below H11.out.1) (by omega) (by omega)).mono ?_
      rintro e w12 ⟨rfl, hd12⟩
      have H12 := Lib.hid (And.intro (below_then H11.out.1 hd12.below) (H11.out.2.2.below hd12.below))
      clear hd12 H11
      by_cases hgz : g = 0
      · have hgg : ((g : Int) == 0) = true := by rw [beq_iff_eq]; omega
        have HGZ := Lib.hid hgz
        clear hgz
        go_wp2_with fail
        refine (seal_any B5 _ d5 ys w12 H12.out.2 (by omega) (H.out.2.2.1.below H12.out.1)).mono ?_
        rw [sealE_ok (HE.out.2.2.2 HGZ.out).1]
        rintro e w20 ⟨v, rfl, ho20, hb20⟩
        obtain ⟨B20, d20, rfl⟩ := own_slice ho20
        simp only at ho20
        have hk20 := (HE.out.2.2.2 HGZ.out).2.1
        rw [H.out.2.1.1] at hk20
        have hbx20 := (H.out.2.1.below (below_then H12.out.1 hb20)).take_ k hk20
        rw [← (HE.out.2.2.2 HGZ.out).2.2] at hbx20
        have hz20 : (Sl.sealB ys).length ≤ 6000 := by have := sealB_bound ys; omega
        have hch := fun W => cut_h A1 n1 c1 k (k : Int) rfl (by omega) W
        have H20 := Lib.hid (And.intro (below_then H12.out.1 hb20) (And.intro (BS.of_own ho20) hbx20))
        clear ho20 hb20 hbx20
        go_wp2_with fail
        refine (same_any B20 A1 _ k d20 c1 (Sl.sealB ys) (Sl.sealB ys) w20 H20.out.2.1 H20.out.2.2 (by omega) (by omega)).mono ?_
        rintro e w21 ⟨rfl, hd21⟩
        have H21 := Lib.hid (below_then H20.out.1 hd21.below)
        clear hd21 H20
        go_wp2_with fail
        refine (awake03_any w21 (H.out.2.2.1.below H21.out)).mono ?_
        rintro e w22 ⟨rfl, hb22⟩
        have H22 := Lib.hid (below_then H21.out hb22)
        clear hb22
        go_wp2
        go_ret
        exact ⟨rfl, H22.out⟩
      · have hgg : ((g : Int) == 0) = false := by rw [beq_eq_false_iff_ne]; omega
        clear hgz
        go_wp2_with fail
        refine (awake03_any w12 (H.out.2.2.1.below H12.out.1)).mono ?_
        rintro e w22 ⟨rfl, hb22⟩
        have H22 := Lib.hid (below_then H12.out.1 hb22)
        clear hb22
        go_wp2
        go_ret
        exact ⟨rfl, H22.out⟩
    · subst her
      by_cases hgz : g = 0
      · have hgg : ((g : Int) == 0) = true := by rw [beq_iff_eq]; omega
        have HGZ := Lib.hid hgz
        clear hgz
        go_wp2_with fail
        refine (seal_any B5 _ d5 ys w8 H8.out.2.1 (by omega) (H.out.2.2.1.below H8.out.1)).mono ?_
        rw [sealE_ok (HE.out.2.2.2 HGZ.out).1]
        rintro e w20 ⟨v, rfl, ho20, hb20⟩
        obtain ⟨B20, d20, rfl⟩ := own_slice ho20
        simp only at ho20
        have hk20 := (HE.out.2.2.2 HGZ.out).2.1
        rw [H.out.2.1.1] at hk20
        have hbx20 := (H.out.2.1.below (below_then H8.out.1 hb20)).take_ k hk20
        rw [← (HE.out.2.2.2 HGZ.out).2.2] at hbx20
        have hz20 : (Sl.sealB ys).length ≤ 6000 := by have := sealB_bound ys; omega
        have hch := fun W => cut_h A1 n1 c1 k (k : Int) rfl (by omega) W
        have H20 := Lib.hid (And.intro (below_then H8.out.1 hb20) (And.intro (BS.of_own ho20) hbx20))
        clear ho20 hb20 hbx20
        go_wp2_with fail
        refine (same_any B20 A1 _ k d20 c1 (Sl.sealB ys) (Sl.sealB ys) w20 H20.out.2.1 H20.out.2.2 (by omega) (by omega)).mono ?_
        rintro e w21 ⟨rfl, hd21⟩
        have H21 := Lib.hid (below_then H20.out.1 hd21.below)
        clear hd21 H20
        go_wp2_with fail
        refine (awake03_any w21 (H.out.2.2.1.below H21.out)).mono ?_
        rintro e w22 ⟨rfl, hb22⟩
        have H22 := Lib.hid (below_then H21.out hb22)
        clear hb22
        go_wp2
        go_ret
        exact ⟨rfl, H22.out⟩
      · have hgg : ((g : Int) == 0) = false := by rw [beq_eq_false_iff_ne]; omega
        clear hgz
        go_wp2_with fail
        refine (awake03_any w8 (H.out.2.2.1.below H8.out.1)).mono ?_
        rintro e w22 ⟨rfl, hb22⟩
        have H22 := Lib.hid (below_then H8.out.1 hb22)
        clear hb22
        go_wp2
        go_ret
        exact ⟨rfl, H22.out⟩
  · have H := Lib.hid ht
    clear hb0 hb1 ht
    have hca : decide ((5000 : Int) < (n0 : Int)) = true ∨ (decide ((5000 : Int) < (n0 : Int)) = false ∧ decide ((5000 : Int) < (n1 : Int)) = true) := by
      by_cases h3 : n0 ≤ 5000
      · right; exact ⟨by simp; omega, by simp; omega⟩
      · left; simp; omega
    clear hl
    rcases hca with hg | ⟨hg, hg2⟩
    all_goals
      go_enter Tryd.func3, Tryd.ntmps3
      go_wp2_with fail
      refine (awake03_any w H.out).mono ?_
      rintro e w4 ⟨rfl, hb4⟩
      have H4 := Lib.hid hb4
      clear hb4
      go_wp2
      go_ret
      exact ⟨rfl, H4.out⟩

theorem own : ownKnob Tryd.prog.godebug = none := by kernel_rfl
theorem laidOut : laidOutB Tryd.prog = true := by kernel_rfl
theorem params_ok : ∀ t ∈ Tryd.f3.params.toList, Tryd.prog.readableRec t = true ∧ t < Tryd.prog.types.size := by
  rw [Tryd.params3]
  intro t ht
  have ht' : t = 22 := by
    simpa using ht
  subst ht'
  exact ⟨(show Tryd.prog.readableRec 22 = true by kernel_rfl), of_decide_eq_true (show decide (22 < Tryd.prog.types.size) = true by kernel_rfl)⟩
theorem gTab : Tryd.prog.globalNamed "troth/crc.half" = some 0 := by kernel_rfl
theorem gTabType : (Tryd.prog.globals[0]?).map (·.type) = some 87 := by kernel_rfl
theorem cellsTab : Tryd.prog.cellsOf 87 = 16 := by kernel_rfl
theorem cells32 : Tryd.prog.cellsOf 36 = 1 := by kernel_rfl
theorem table {W : World} (h : laidMetH Tryd.prog Rows.sealOpensRow.laid W) : Half W := by
  have h1 : Lib.TabIs Tryd.prog W "troth/crc.half" .u32 (Crc.tab.map (fun n : Nat => (n : Int))) :=
    Lib.tabIs_of_head (rest := []) gTab gTabType Tryd.underlying87 Tryd.underlying36 cells32 cellsTab h
  intro i hi
  have h2 := h1.cell gTab i (by rw [List.length_map]; exact hi)
  rw [h2]
  have hi' : i < Crc.tab.length := hi
  rw [List.getD_eq_getElem?_getD, List.getElem?_map, List.getD_eq_getElem?_getD, List.getElem?_eq_getElem hi']
  rfl

set_option maxRecDepth 100000 in
theorem contract (H : Type) (enc : TypeId × Value → H) (W : World) (base : Nat) (args : Array Value) (ds gs : List (DataW H)) (before : List MemPlace)
    (hval : ∀ (j : Nat) t v, Tryd.f3.params[j]? = some t → args[j]? = some v → Value.okWide Tryd.prog W .any base t v)
    (hW : DataW.Whole enc Tryd.prog Tryd.f3.params.toList Rows.sealOpensSpec.vars false W args.toList ds gs before) (hL : laidMetH Tryd.prog Rows.sealOpensRow.laid W) :
    Calls Tryd.prog 3 args W fun e W' => ∃ v, e = .returned v ∧ Rows.sealOpensSpec.post enc Tryd.prog Tryd.f3 false true false false W args v W' := by
  have hW' := hW
  obtain ⟨p, q, hA0, hV, rfl, hfz, hnd⟩ := hW
  have hA : DataW.TrodAll enc Tryd.prog W 0 (fun _ => true) true Tryd.f3.params.toList args.toList ds p := hA0
  rw [Tryd.params3] at hA hval
  obtain ⟨v0, vs0, d0, ds0, p0, q0, hargs, rfl, rfl, h0, r0⟩ := trodAll_cons hA
  obtain ⟨v1, vs1, d1, ds1, p1, q1, rfl, rfl, rfl, h1, r1⟩ := trodAll_cons r0
  obtain ⟨rfl, rfl, rfl⟩ := trodAll_nil r1
  obtain rfl : args = #[v0, v1] := by cases args; simp_all
  obtain ⟨rfl, rfl⟩ := trodVars_none hV
  obtain ⟨A0, n0, c0, bs0, rfl, bs0h, nc0, cm0, dd0⟩ := open_bytes Tryd.underlying22 Tryd.underlying5 (show Tryd.prog.cellsOf 5 = 1 by kernel_rfl) (hval 0 22 v0 rfl rfl) h0
  obtain ⟨A1, n1, c1, bs1, rfl, bs1h, nc1, cm1, dd1⟩ := open_bytes Tryd.underlying22 Tryd.underlying5 (show Tryd.prog.cellsOf 5 = 1 by kernel_rfl) (hval 1 22 v1 rfl rfl) h1
  refine (walk A0 n0 c0 bs0 A1 n1 c1 bs1 W bs0h nc0 cm0 bs1h nc1 cm1 (table hL)).mono fun e W' ⟨he, bel⟩ => ?_
  exact ⟨_, he, post_true laidOut Tryd.underlying4 (show Tryd.f3.resultTypes = #[4] from rfl) params_ok rfl hW' rfl bel⟩

noncomputable def laidWorld (os : Os) : World :=
  { World.holding Tryd.prog os ⟨#[], #[], []⟩ with heap := (World.holding Tryd.prog os ⟨#[], #[], []⟩).heap.modify 0 fun
      | .cells _ t frozen => .cells #[.int .u32 0, .int .u32 498536548, .int .u32 997073096, .int .u32 651767980, .int .u32 1994146192, .int .u32 1802195444, .int .u32 1303535960, .int .u32 1342533948, .int .u32 3988292384, .int .u32 4027552580, .int .u32 3604390888, .int .u32 3412177804, .int .u32 2607071920, .int .u32 2262029012, .int .u32 2685067896, .int .u32 3183342108] t frozen
      | o => o }
theorem laid_met (os : Os) : laidMet Tryd.prog Rows.sealOpensRow.laid ((laidWorld os).forCall (fun _ _ => 0) ⟨#[], #[.slice none 0 0, .slice none 0 0], []⟩).memory :=
  laidMet_of_run' 8 (by kernel_rfl) (by kernel_rfl)
theorem reads (os : Os) {H : Type} (enc : TypeId × Value → H) : ∃ places, DataW.whole enc Tryd.prog ((laidWorld os).forCall (fun _ _ => 0) ⟨#[], #[.slice none 0 0, .slice none 0 0], []⟩).memory Tryd.f3.params.toList Rows.sealOpensSpec.vars false (#[Value.slice none 0 0, Value.slice none 0 0] : Array Value).toList 8 = some ([.nil, .nil], [], places) :=
  ⟨[], by kernel_rfl⟩
set_option maxRecDepth 100000 in
theorem lifted (os : Os) (started : os.Started) (H : Type) (enc : TypeId × Value → H) (F : Stop.Interp) :
    ReturnsInHanded {} Tryd.checked os 3 .any ((OpenSpec.ofChange Rows.sealOpensSpec).preRow enc Tryd.prog Tryd.f3 Rows.sealOpensRow.domain false Rows.sealOpensRow.laid) (((OpenSpec.ofChange Rows.sealOpensSpec).at F).post enc Tryd.prog Tryd.f3 false true false false) := by
  obtain ⟨places, hx⟩ := reads os enc
  refine returnsInHanded_of_row (C := Tryd.checked) (s := OpenSpec.ofChange Rows.sealOpensSpec) own started (by kernel_rfl) Tryd.func3
    (witness_row_at (enc := enc) (C := Tryd.checked) false (laidWorld os) #[.slice none 0 0, .slice none 0 0] rfl (by kernel_rfl) (by kernel_rfl) (by kernel_rfl)
      (OpenSpec.preRow_of_cond 8 hx (by kernel_rfl) (fun k hk => by cases hk) (by kernel_rfl) (laid_met os))) ?_
  intro W base args ds gs before hval hW _ _ hsz hL _ _
  exact contract H enc W base args ds gs before hval hW hL
theorem said : Rows.SealOpensSaid :=
  OpenClaim.holds_of_cond 3 Tryd.f3 rfl rfl rfl rfl rfl rfl rfl ⟨rfl, rfl, rfl, rfl, rfl⟩ rfl rfl rfl rfl rfl (by kernel_rfl) Tryd.func3 (by kernel_rfl)
    (of_decide_eq_true (by kernel_rfl)) (by unfold Func.isWrapper; first | (rw [if_pos (by decide +kernel)]; kernel_rfl) | (rw [if_neg (by decide +kernel)]; exact ⟨rfl, rfl⟩))
    (fun os started H enc _ F => by rw [OpenClaim.pre_eq_preRow]; exact lifted os started H enc F)
theorem plain (f : FuncId) (fn : Func) (hf : Tryd.pinned.checked.prog.funcNamed "troth/trothlaw03.SealOpens" = some f) (hfn : Tryd.pinned.checked.prog.funcs[f]? = some fn) :
    false = Tryd.pinned.checked.prog.looks [] ∧ ∀ (j : Nat) t, fn.params[j]? = some t → Tryd.pinned.checked.prog.wantsStandIn t = false := by
  obtain rfl : f = 3 := Option.some.inj ((show Tryd.prog.funcNamed "troth/trothlaw03.SealOpens" = some 3 by kernel_rfl).symm.trans hf) |>.symm
  obtain rfl : fn = Tryd.f3 := (Option.some.inj (Tryd.func3.symm.trans hfn)).symm
  refine ⟨by kernel_rfl, fun j t ht => ?_⟩
  rw [Tryd.params3] at ht
  have ht' : t = 22 := by simpa using Array.mem_of_getElem? ht
  subst ht'
  exact (show Tryd.prog.wantsStandIn 22 = false by kernel_rfl)
theorem card : Rows.SealOpensCardSaid :=
  Claim7.holds_tied_plain_at .later [] _ _ _ _ said (fun _ h => by cases h) (by kernel_rfl) (fun _ h => by cases h) sealOpens_row_tie rfl ⟨rfl, rfl⟩ (by kernel_rfl) rfl plain (by kernel_rfl)
#print axioms card
end Go.Proofs.YtbghpdfhloalhaaDoor.sealOpens
