/- DiskApart: a crash is a disk of its own; nor does who writes into what was handed in, or answered, change it; no condition. -/
import Derived.Test.YtaooimhodoefoaaPlayed
namespace Go.Proofs.Ytaooimhodoefoaa.diskApart
open Go.ChangeShapes Go.WideShapes Go.ChangeAt Go.RowKit Mem Lift
set_option linter.unusedVariables false
set_option linter.unusedSimpArgs false
attribute [local go_sem ↓] Go.wp_at_zero Go.wp_at_succ

theorem read_on {d : Dk.D} {n : Int} (h0 : d.down = false) (h1 : 0 ≤ n) (h2 : n < d.size) : Dk.read d n = (Dk.cur d n, 0) := by
  unfold Dk.read
  rw [if_neg (by unfold Dk.at_; rw [if_neg (by omega)]; simp), h0]
  rfl
theorem pl_crash {k : Nat} {d : Dk.D} (h : Dk.PL k d) (ks : List Int) (torn : Bool) (cut : Int) : Dk.PL 0 (Dk.crash d ks torn cut) :=
  ⟨Dk.crash_ok h.ok ks torn cut, Dk.nw_crash d ks torn cut, h.size, Nat.le_refl _, Int.le_refl _, rfl, rfl⟩
theorem set_fr (w : World) (g i : Nat) (u : Value) (v : Value) (hv : v.ownBlock = some g) : Fr (fun k => v.ownBlock = some k) w (w.setCell ⟨g, i, none⟩ u) := (Fr.refl _ w).setCell _ _ (fun _ => hv)
theorem sep_byt {w0 w : World} {Rs : List Res} (h : Sep w0 w Rs) {j : Nat} {A : Option Addr} {c : Nat} {bs : List UInt8} (hj : Rs[j]? = some (.byt (.slice A 256 c) 256 bs)) : ∃ g b, A = some ⟨g, 0, none⟩ ∧ w.cell? ⟨g, 0, none⟩ = some (.int .u8 (b : Int)) ∧ 0 ≤ b ∧ b ≤ 255 ∧ w.frozen? ⟨g, 0, none⟩ = false ∧ 256 ≤ c := by
  obtain ⟨F, ⟨ho, _⟩, _⟩ := h.open_ j _ hj
  obtain ⟨g, cap, e, _, _⟩ := ho.form (by omega)
  injection e with e _ e2
  subst e
  have hl := own_len ho
  have hb := BS.of_own ho
  obtain ⟨b, off, e, hc⟩ := hb.at_ (k := 0) (by omega)
  injection e with e
  injection e with e1 e2 _
  subst e1 e2
  rcases ho.2 with ⟨x, _⟩ | ⟨g', c', cur, x, _, hg, hcc, _⟩
  · cases x
  · injection x with x _ x2
    injection x with x
    injection x with x
    subst x
    refine ⟨g, _, rfl, hc, by omega, by have := byte_lt (bs.getD 0 0); omega, by simp [World.frozen?, hg], by omega⟩
set_option maxRecDepth 100000 in
set_option maxHeartbeats 8000000 in
theorem walk_main (A : Option Addr) (m cap : Nat) (l : List CallD) (B : Option Addr) (m2 cap2 : Nat) (l2 : List CallD) (AK : Option Addr) (nk ck : Nat) (torn : Bool) (cut : Int) (ks : List Int) (w : World) (hl : CS w A m l) (hmc : m ≤ cap) (hcm : cap ≤ maxLen)
    (hl2 : CS w B m2 l2) (hmc2 : m2 ≤ cap2) (hcm2 : cap2 ≤ maxLen) (hK : IS w AK nk ks) (hlong : longB l = false) (hlong2 : longB l2 = false) (hnk : nk ≤ 60) :
    Calls Try.prog 9 #[.slice A m cap, .slice B m2 cap2, .agg #[.slice AK nk ck, .bool torn, .int .i64 cut]] w fun e w' => e = .returned (.bool true) ∧ Below w.heap.size w w' := by
  have hcm' := hcm
  unfold maxLen at hcm hcm2
  have hm60 : m ≤ 60 := by have := (longB_false hlong).1; rw [hl.len] at this; exact this
  have hm602 : m2 ≤ 60 := by have := (longB_false hlong2).1; rw [hl2.len] at this; exact this
  have hd60 : decide (60 < (nk : Int)) = false := by simp; omega
  have hb1 : Below w.heap.size w (w.alloc (.cells #[.slice AK nk ck, .bool torn, .int .i64 cut] 52)) := (Below.refl _ _).alloc (Nat.le_refl _) _
  have hq1 : Blk (w.alloc (.cells #[.slice AK nk ck, .bool torn, .int .i64 cut] 52)) w.heap.size 52 #[.slice AK nk ck, .bool torn, .int .i64 cut] := Blk.new w _ _
  go_enter Try.func9, Try.ntmps9
  have HB := Lib.hid (And.intro (hl.below hb1) (And.intro (hl2.below hb1) (And.intro (hK.below hb1) (And.intro hb1 (And.intro hq1 (And.intro hlong (And.intro hlong2 hcm')))))))
  clear hl hl2 hK hb1 hq1 hlong hlong2 hcm'
  go_wp2_with fail
  generalize w.alloc (.cells #[.slice AK nk ck, .bool torn, .int .i64 cut] 52) = w1 at *
  have k0 := HB.out.2.2.2.2.1.cell 0
  refine (long_any A m cap l w1 HB.out.1 hmc hcm).mono ?_
  rintro e w0 ⟨rfl, hw⟩
  subst hw
  rw [HB.out.2.2.2.2.2.1]
  go_wp2_with fail
  refine (long_any B m2 cap2 l2 w1 HB.out.2.1 hmc2 hcm2).mono ?_
  rintro e w0 ⟨rfl, hw⟩
  subst hw
  rw [HB.out.2.2.2.2.2.2.1]
  go_wp2_with fail
  refine (played_any A m cap l w1 HB.out.1 hmc HB.out.2.2.2.2.2.2.2 (by omega)).mono ?_
  rintro e w2 ⟨p, q, rfl, h2⟩
  have hpl := Dk.pl_play l m
  generalize Dk.playTo l m = d at *
  have hplen := hpl.pend
  have hq2 := HB.out.2.2.2.2.1.below h2.1 HB.out.2.2.2.2.1.lt
  have HS : w2.cell? ⟨w.heap.size, 0, none⟩ = some (.slice AK nk ck) ∧ w2.cell? ⟨w.heap.size, 1, none⟩ = some (.bool torn) ∧ w2.cell? ⟨w.heap.size, 2, none⟩ = some (.int .i64 cut) := ⟨hq2.cell 0, hq2.cell 1, hq2.cell 2⟩
  have HA := Lib.hid h2.drew
  have HP := Lib.hid hpl
  clear h2 hpl k0 hq2
  go_upto_region 4 with fail
  go_cut [9, 10] (fun s9 s10 wx => ∃ x y, s9 = .pointer (some ⟨x, 0, none⟩) ∧ s10 = .pointer (some ⟨y, 0, none⟩) ∧ Sep w1 wx [.dsk p d, .ref q d, .dsk x (Dk.crash d ks torn cut), .ref y (Dk.crash d ks torn cut)])
  case first =>
    go_region_held3 (fun w' => w'.cell? ⟨w.heap.size, 0, none⟩ = some (.slice AK nk ck) ∧ w'.cell? ⟨w.heap.size, 1, none⟩ = some (.bool torn) ∧ w'.cell? ⟨w.heap.size, 2, none⟩ = some (.int .i64 cut)) ((first | exact HS)) (first
      | (go_at_call 32; go_must (refine (own04_any AK nk ck ks torn cut _ (HB.out.2.2.1.below HA.out.1) (by omega)).mono ?_; rintro e w3 ⟨A3, c3, rfl, his, hb3⟩; have hS3 := HA.out.grow hb3; have hq3 := HB.out.2.2.2.2.1.below hS3.1 HB.out.2.2.2.2.1.lt; have HS : w3.cell? ⟨w.heap.size, 0, none⟩ = some (.slice AK nk ck) ∧ w3.cell? ⟨w.heap.size, 1, none⟩ = some (.bool torn) ∧ w3.cell? ⟨w.heap.size, 2, none⟩ = some (.int .i64 cut) := ⟨hq3.cell 0, hq3.cell 1, hq3.cell 2⟩; have HA := Lib.hid hS3; have HO := Lib.hid his; clear his hb3 hS3 hq3))
      | (go_at_call 31; go_must (refine (sep_crash HA.out (i := 0) rfl HP.out.ok (by omega) A3 nk c3 ks torn cut HO.out (by omega)).mono ?_; rintro e w4 ⟨x, rfl, hb4, hS4⟩; have hq3 := HB.out.2.2.2.2.1.below hS4.1 HB.out.2.2.2.2.1.lt; have HS : w4.cell? ⟨w.heap.size, 0, none⟩ = some (.slice AK nk ck) ∧ w4.cell? ⟨w.heap.size, 1, none⟩ = some (.bool torn) ∧ w4.cell? ⟨w.heap.size, 2, none⟩ = some (.int .i64 cut) := ⟨hq3.cell 0, hq3.cell 1, hq3.cell 2⟩; have HA := Lib.hid hS4; clear hb4 hS4 hq3))
      | (go_at_call 34; go_must (refine (sep_rcrash HA.out (i := 1) rfl HP.out.ok (by omega) AK nk ck ks torn cut (HB.out.2.2.1.below HA.out.1) (by omega)).mono ?_; rintro e w5 ⟨y, rfl, hb5, hS5⟩; have hq3 := HB.out.2.2.2.2.1.below hS5.1 HB.out.2.2.2.2.1.lt; have HS : w5.cell? ⟨w.heap.size, 0, none⟩ = some (.slice AK nk ck) ∧ w5.cell? ⟨w.heap.size, 1, none⟩ = some (.bool torn) ∧ w5.cell? ⟨w.heap.size, 2, none⟩ = some (.int .i64 cut) := ⟨hq3.cell 0, hq3.cell 1, hq3.cell 2⟩; have HA := Lib.hid hS5; (try (have HO := Lib.hid (HO.out.below hb5))); clear hb5 hS5 hq3)))
    all_goals
      go_wp2_with fail
      go_meet
      case rel => first | exact ⟨x, y, rfl, rfl, HA.out⟩ | exact ⟨x, y, rfl, rfl, Sep.swap23 HA.out⟩
  case rest =>
    obtain ⟨x, y, rfl, rfl, hS⟩ := hcut
    have HX := Lib.hid (And.intro hS (pl_crash HP.out ks torn cut))
    clear hS HA HS
    generalize Dk.crash d ks torn cut = dx at *
    go_wp2_with fail
    go_loopg [11] m2 (fun gk s11 wr => ∃ (i : Nat) (d dx : Dk.D), i ≤ m2 ∧ gk = m2 - i ∧ s11 = .int .i64 i ∧ Dk.PL (m + i) d ∧ Dk.PL i dx ∧ Sep w1 wr [.dsk p d, .ref q d, .dsk x dx, .ref y dx])
    case atStart => exact ⟨0, d, dx, by omega, by omega, rfl, HP.out, HX.out.2, HX.out.1⟩
    case round =>
      clear HX HP
      obtain ⟨i, d, dx, hi, rfl, rfl, hpd, hpx, hS⟩ := hrel
      by_cases hlt : i < m2
      · obtain ⟨b, off, rfl, _, c1, c2, _⟩ := (HB.out.2.1.below hS.1).at_ hlt
        obtain ⟨b', off', e', _, d1, d2, _⟩ := HB.out.2.1.at_ hlt
        obtain ⟨b'', off'', e'', hbw, _⟩ := HB.out.2.1.mem (by omega)
        injection e'' with e''
        injection e'' with e1 e2 _
        subst e1 e2
        injection e' with e'
        injection e' with e1 e2 _
        subst e1 e2
        generalize l2.getD i .zero = z at *
        have HW := Lib.hid (And.intro d1 d2)
        have HD := Lib.hid (And.intro hS (And.intro hpd hpx))
        clear d1 d2 hS hpd hpx
        have him : (i : Int) < (m2 : Int) := by omega
        go_wp2_with fail
        refine (sep_full HD.out.1 z.b).mono ?_
        rintro e w3 ⟨A3, k3, rfl, h3⟩
        have c13 := cell_below h3.1 hbw HW.out.1
        have H3 := Lib.hid (show Sep w1 w3 [.dsk p d, .ref q d, .dsk x dx, .ref y dx, .byt (.slice A3 256 k3) 256 (Dk.full z.b)] from h3)
        clear h3 c1 c2
        by_cases hev : i % 2 = 0
        · have hed : ((i : Int) % 2 == 0) = true := by rw [beq_iff_eq]; omega
          go_wp2_with fail
          refine (sep_write H3.out (i := 2) rfl HD.out.2.2.ok (by have := HD.out.2.2.pend; omega) z.n (j := 4) (A := A3) (m := 256) (cap := k3) (bs := Dk.full z.b) rfl (by omega)).mono ?_
          rintro e w4 ⟨rfl, h4⟩
          have c14 := cell_below h4.1 hbw HW.out.1
          have H4 := Lib.hid h4
          clear h4 c13 H3
          go_wp2_with fail
          refine (sep_rwrite H4.out (i := 3) rfl HD.out.2.2.ok (by have := HD.out.2.2.pend; omega) z.n (j := 4) (A := A3) (m := 256) (cap := k3) (bs := Dk.full z.b) rfl (by omega)).mono ?_
          rintro e w5 ⟨rfl, h5⟩
          obtain ⟨g, bb, rfl, hcb, hbl, hbh, hfz, hk3⟩ := sep_byt h5 (j := 4) rfl
          have H5 := Lib.hid h5
          clear h5 c14 H4
          go_wp2_with fail
          go_roundg (m2 - (i + 1))
          case measure => omega
          case rel => exact ⟨i + 1, d, _, by omega, rfl, by go_num, by have := Dk.pl_more HD.out.2.1; rwa [Nat.add_assoc] at this, Dk.pl_write HD.out.2.2 z.n (Dk.full z.b), Sep.left (Rs' := [.non]) (H5.out.free 4 rfl (set_fr _ g 0 _ _ rfl))⟩
        · have hed : ((i : Int) % 2 == 0) = false := by rw [beq_eq_false_iff_ne]; omega
          go_wp2_with fail
          refine (sep_write H3.out (i := 0) rfl HD.out.2.1.ok (by have := HD.out.2.1.pend; omega) z.n (j := 4) (A := A3) (m := 256) (cap := k3) (bs := Dk.full z.b) rfl (by omega)).mono ?_
          rintro e w4 ⟨rfl, h4⟩
          have c14 := cell_below h4.1 hbw HW.out.1
          have H4 := Lib.hid h4
          clear h4 c13 H3
          go_wp2_with fail
          refine (sep_rwrite H4.out (i := 1) rfl HD.out.2.1.ok (by have := HD.out.2.1.pend; omega) z.n (j := 4) (A := A3) (m := 256) (cap := k3) (bs := Dk.full z.b) rfl (by omega)).mono ?_
          rintro e w5 ⟨rfl, h5⟩
          obtain ⟨g, bb, rfl, hcb, hbl, hbh, hfz, hk3⟩ := sep_byt h5 (j := 4) rfl
          have H5 := Lib.hid h5
          clear h5 c14 H4
          go_wp2_with fail
          go_roundg (m2 - (i + 1))
          case measure => omega
          case rel => exact ⟨i + 1, _, dx, by omega, rfl, by go_num, by have := Dk.pl_write HD.out.2.1 z.n (Dk.full z.b); rwa [Nat.add_assoc] at this, Dk.pl_more HD.out.2.2, Sep.left (Rs' := [.non]) (H5.out.free 4 rfl (set_fr _ g 0 _ _ rfl))⟩
      · obtain rfl : i = m2 := by omega
        have HD := Lib.hid (And.intro hS (And.intro hpd hpx))
        clear hS hpd hpx
        go_wp2_with fail
        go_loopg [13] 4 (fun gk s13 wr => ∃ (n : Nat), n ≤ 4 ∧ gk = 4 - n ∧ s13 = .int .i64 n ∧ Sep w1 wr [.dsk p d, .ref q d, .dsk x dx, .ref y dx])
        case atStart => exact ⟨0, by omega, by omega, rfl, HD.out.1⟩
        case round =>
          obtain ⟨n, hn, rfl, rfl, hS⟩ := hrel
          have HP := Lib.hid HD.out.2
          clear HD
          by_cases hlt : n < 4
          · have hn4 : (n : Int) < d.size := by have := HP.out.1.size; omega
            have hn4x : (n : Int) < dx.size := by have := HP.out.2.size; omega
            have e1 := read_on (d := d) (n := (n : Int)) HP.out.1.down (by omega) hn4
            have e2 := read_on (d := dx) (n := (n : Int)) HP.out.2.down (by omega) hn4x
            have l1 := Dk.cur_length HP.out.1.ok n
            have l2 := Dk.cur_length HP.out.2.ok n
            have HS := Lib.hid (And.intro hS (And.intro e1 (And.intro e2 (And.intro l1 (And.intro l2 (And.intro hn4 hn4x))))))
            clear hS e1 e2 l1 l2 hn4 hn4x
            go_wp2_with fail
            refine (sep_read HS.out.1 (i := 0) rfl HP.out.1.ok n).mono ?_
            rw [HS.out.2.1]
            rintro e w5 ⟨A5, c5, rfl, hB5, hc5, _, hb5, hf5⟩
            simp only [HS.out.2.2.2.1] at hB5 hc5 hf5 ⊢
            obtain ⟨g5, rfl, hg5, hfr5⟩ := hf5 (by omega)
            obtain ⟨b5, o5, eA, hcell⟩ := hB5.at_ (k := 0) (by omega)
            injection eA with eA
            injection eA with ea1 ea2 _
            subst ea1 ea2
            have hfz := hfr5 0 (by omega)
            have hbl : (0 : Int) ≤ ((Dk.cur d n).getD 0 0).toNat := by omega
            have hbh : (((Dk.cur d n).getD 0 0).toNat : Int) ≤ 255 := by have := byte_lt ((Dk.cur d n).getD 0 0); omega
            have H5 := Lib.hid (And.intro hb5 hg5)
            clear hB5 hfr5 hb5 hg5
            generalize (Dk.cur d n).getD 0 0 = bz at *
            go_wp2_with fail
            refine (sep_read (HS.out.1.grow (H5.out.1.setCell (p := ⟨g5, 0, none⟩) H5.out.2 _)) (i := 0) rfl HP.out.1.ok n).mono ?_
            rw [HS.out.2.1]
            rintro e w6 ⟨A6, c6, rfl, hB6, _, _, hb6, _⟩
            simp only [HS.out.2.2.2.1] at hB6 ⊢
            have hS6 := (HS.out.1.grow (H5.out.1.setCell (p := ⟨g5, 0, none⟩) H5.out.2 _)).grow hb6
            have H6 := Lib.hid (And.intro hB6 hS6)
            clear hB6 hb6 hS6 H5 hcell hfz
            go_wp2_with fail
            refine (sep_read H6.out.2 (i := 2) rfl HP.out.2.ok n).mono ?_
            rw [HS.out.2.2.1]
            rintro e w7 ⟨A7, c7, rfl, hB7, _, _, hb7, _⟩
            simp only [HS.out.2.2.2.2.1] at hB7 ⊢
            have H7 := Lib.hid (And.intro (H6.out.1.below hb7) (And.intro hB7 (H6.out.2.grow hb7)))
            clear hB7 hb7 H6
            go_wp2_with fail
            refine (sep_rnow H7.out.2.2 (i := 1) rfl HP.out.1.ok HP.out.1.nw n HS.out.2.2.2.2.2.1 (by have := HP.out.1.pend; omega)).mono ?_
            rintro e w8 ⟨v8, rfl, hown8, hb8⟩
            rw [HS.out.2.2.2.1] at hown8
            obtain ⟨A8, c8, rfl⟩ := own_slice hown8
            have H8 := Lib.hid (And.intro (H7.out.1.below hb8) (And.intro (H7.out.2.1.below hb8) (And.intro (BS.of_own hown8) (H7.out.2.2.grow hb8))))
            clear hown8 hb8 H7
            go_wp2_with fail
            refine (same_any A6 A8 256 256 c6 c8 _ _ w8 H8.out.1 H8.out.2.2.1 (by omega) (by omega)).mono ?_
            rintro e w9 ⟨rfl, hd9⟩
            rw [decide_eq_true rfl]
            have H9 := Lib.hid (And.intro (H8.out.2.1.below hd9.below) (H8.out.2.2.2.grow hd9.below))
            clear hd9 H8
            go_wp2_with fail
            refine (sep_rnow H9.out.2 (i := 3) rfl HP.out.2.ok HP.out.2.nw n HS.out.2.2.2.2.2.2 (by have := HP.out.2.pend; omega)).mono ?_
            rintro e w10 ⟨v10, rfl, hown10, hb10⟩
            rw [HS.out.2.2.2.2.1] at hown10
            obtain ⟨A10, c10, rfl⟩ := own_slice hown10
            have H10 := Lib.hid (And.intro (H9.out.1.below hb10) (And.intro (BS.of_own hown10) (H9.out.2.grow hb10)))
            clear hown10 hb10 H9
            go_wp2_with fail
            refine (same_any A7 A10 256 256 c7 c10 _ _ w10 H10.out.1 H10.out.2.1 (by omega) (by omega)).mono ?_
            rintro e w11 ⟨rfl, hd11⟩
            rw [decide_eq_true rfl]
            have H11 := Lib.hid (H10.out.2.2.grow hd11.below)
            clear hd11 H10
            go_wp2_with fail
            go_roundg (4 - (n + 1))
            case measure => omega
            case rel => exact ⟨n + 1, by omega, rfl, by go_num, H11.out⟩
          · obtain rfl : n = 4 := by omega
            have HX := Lib.hid hS.1
            clear hS HP
            go_wp2_with fail
            refine (awake04_any wr).mono ?_
            rintro e w9 ⟨rfl, hb9⟩
            have H9 := Lib.hid (HX.out.trans (hb9.mono HX.out.size))
            clear hb9 HX
            go_wp2
            go_ret
            exact ⟨rfl, HB.out.2.2.2.1.trans (H9.out.mono HB.out.2.2.2.1.size)⟩


set_option maxHeartbeats 2000000 in
theorem walk (A : Option Addr) (m cap : Nat) (l : List CallD) (B : Option Addr) (m2 cap2 : Nat) (l2 : List CallD) (AK : Option Addr) (nk ck : Nat) (torn : Bool) (cut : Int) (ks : List Int) (w : World) (hl : CS w A m l) (hmc : m ≤ cap) (hcm : cap ≤ maxLen)
    (hl2 : CS w B m2 l2) (hmc2 : m2 ≤ cap2) (hcm2 : cap2 ≤ maxLen) (hK : IS w AK nk ks) (hkc : nk ≤ ck) (hkm : ck ≤ maxLen) (hc0 : -9223372036854775808 ≤ cut) (hc1 : cut ≤ 9223372036854775807) :
    Calls Try.prog 9 #[.slice A m cap, .slice B m2 cap2, .agg #[.slice AK nk ck, .bool torn, .int .i64 cut]] w fun e w' => e = .returned (.bool true) ∧ Below w.heap.size w w' := by
  by_cases hall : longB l = false ∧ longB l2 = false ∧ nk ≤ 60
  · exact walk_main A m cap l B m2 cap2 l2 AK nk ck torn cut ks w hl hmc hcm hl2 hmc2 hcm2 hK hall.1 hall.2.1 hall.2.2
  · unfold maxLen at hcm hcm2
    have hb1 : Below w.heap.size w (w.alloc (.cells #[.slice AK nk ck, .bool torn, .int .i64 cut] 52)) := (Below.refl _ _).alloc (Nat.le_refl _) _
    have hq1 : Blk (w.alloc (.cells #[.slice AK nk ck, .bool torn, .int .i64 cut] 52)) w.heap.size 52 #[.slice AK nk ck, .bool torn, .int .i64 cut] := Blk.new w _ _
    have HB := Lib.hid (And.intro (hl.below hb1) (And.intro (hl2.below hb1) (And.intro hb1 hq1)))
    clear hl hl2 hK hb1 hq1 hkm hc0 hc1
    go_enter Try.func9, Try.ntmps9
    go_wp2_with fail
    generalize w.alloc (.cells #[.slice AK nk ck, .bool torn, .int .i64 cut] 52) = w1 at *
    have k0 := HB.out.2.2.2.cell 0
    refine (long_any A m cap l w1 HB.out.1 hmc hcm).mono ?_
    rintro e w0 ⟨rfl, hw⟩
    subst hw
    cases hlo : longB l with
    | true =>
      clear hall
      go_wp2_with fail
      refine (awake04_any w1).mono ?_
      rintro e w9 ⟨rfl, hb9⟩
      have H9 := Lib.hid (HB.out.2.2.1.trans (hb9.mono HB.out.2.2.1.size))
      clear hb9
      go_wp2
      go_ret
      exact ⟨rfl, H9.out⟩
    | false =>
      go_wp2_with fail
      refine (long_any B m2 cap2 l2 w1 HB.out.2.1 hmc2 hcm2).mono ?_
      rintro e w0 ⟨rfl, hw⟩
      subst hw
      cases hlo2 : longB l2 with
      | true =>
        clear hall
        go_wp2_with fail
        refine (awake04_any w1).mono ?_
        rintro e w9 ⟨rfl, hb9⟩
        have H9 := Lib.hid (HB.out.2.2.1.trans (hb9.mono HB.out.2.2.1.size))
        clear hb9
        go_wp2
        go_ret
        exact ⟨rfl, H9.out⟩
      | false =>
        have hd60 : decide (60 < (nk : Int)) = true := by
          simp
          rcases Nat.lt_or_ge 60 nk with h | h
          · omega
          · exact absurd ⟨hlo, hlo2, h⟩ hall
        clear hall
        go_wp2_with fail
        refine (awake04_any w1).mono ?_
        rintro e w9 ⟨rfl, hb9⟩
        have H9 := Lib.hid (HB.out.2.2.1.trans (hb9.mono HB.out.2.2.1.size))
        clear hb9
        go_wp2
        go_ret
        exact ⟨rfl, H9.out⟩

theorem own : ownKnob Try.prog.godebug = none := by kernel_rfl
theorem laidOut : laidOutB Try.prog = true := by kernel_rfl
theorem params_ok : ∀ t ∈ Try.f9.params.toList, Try.prog.readableRec t = true ∧ t < Try.prog.types.size := by
  rw [Try.params9]
  intro t ht
  have ht' : t = 49 ∨ t = 52 := by
    simpa using ht
  rcases ht' with rfl | rfl
  · exact ⟨(show Try.prog.readableRec 49 = true by kernel_rfl), of_decide_eq_true (show decide (49 < Try.prog.types.size) = true by kernel_rfl)⟩
  · exact ⟨(show Try.prog.readableRec 52 = true by kernel_rfl), of_decide_eq_true (show decide (52 < Try.prog.types.size) = true by kernel_rfl)⟩

set_option maxRecDepth 100000 in
theorem contract (H : Type) (enc : TypeId × Value → H) (W : World) (base : Nat) (args : Array Value) (ds gs : List (DataW H)) (before : List MemPlace)
    (hval : ∀ (j : Nat) t v, Try.f9.params[j]? = some t → args[j]? = some v → Value.okWide Try.prog W .any base t v)
    (hW : DataW.Whole enc Try.prog Try.f9.params.toList Rows.diskApartSpec.vars false W args.toList ds gs before) :
    Calls Try.prog 9 args W fun e W' => ∃ v, e = .returned v ∧ Rows.diskApartSpec.post enc Try.prog Try.f9 false true false false W args v W' := by
  have hW' := hW
  obtain ⟨p, q, hA0, hV, rfl, hfz, hnd⟩ := hW
  have hA : DataW.TrodAll enc Try.prog W 0 (fun _ => true) true Try.f9.params.toList args.toList ds p := hA0
  rw [Try.params9] at hA hval
  obtain ⟨v0, vs0, d0, ds0, p0, q0, hargs, rfl, rfl, h0, r0⟩ := trodAll_cons hA
  obtain ⟨v1, vs1, d1, ds1, p1, q1, rfl, rfl, rfl, h1, r1⟩ := trodAll_cons r0
  obtain ⟨v2, vs2, d2, ds2, p2, q2, rfl, rfl, rfl, h2, r2⟩ := trodAll_cons r1
  obtain ⟨rfl, rfl, rfl⟩ := trodAll_nil r2
  obtain rfl : args = #[v0, v1, v2] := by cases args; simp_all
  obtain ⟨rfl, rfl⟩ := trodVars_none hV
  obtain ⟨A0, n0, c0, l0, rfl, lh0, nc0, cm0⟩ := open_calls (hval 0 49 v0 rfl rfl) h0
  obtain ⟨A1, n1, c1, l1, rfl, lh1, nc1, cm1⟩ := open_calls (hval 1 49 v1 rfl rfl) h1
  obtain ⟨A2, n2, c2, tn2, ct2, ks2, rfl, ksh2, nc2, cm2, cb2⟩ := open_crash (hval 2 52 v2 rfl rfl) h2
  refine (walk A0 n0 c0 l0 A1 n1 c1 l1 A2 n2 c2 tn2 ct2 ks2 W lh0 nc0 cm0 lh1 nc1 cm1 ksh2 nc2 cm2 cb2.1 cb2.2).mono fun e W' ⟨he, bel⟩ => ?_
  exact ⟨_, he, post_true laidOut Try.underlying4 (show Try.f9.resultTypes = #[4] from rfl) params_ok rfl hW' rfl bel⟩

theorem laid_met (os : Os) : laidMet Try.prog Rows.diskApartRow.laid ((World.holding Try.prog os ⟨#[], #[], []⟩).forCall (fun _ _ => 0) ⟨#[], #[.slice none 0 0, .slice none 0 0, .agg #[.slice none 0 0, .bool false, .int .i64 0]], []⟩).memory :=
  laidMet_of_run' 8 (by kernel_rfl) (by kernel_rfl)
theorem reads (os : Os) {H : Type} (enc : TypeId × Value → H) : ∃ places, DataW.whole enc Try.prog ((World.holding Try.prog os ⟨#[], #[], []⟩).forCall (fun _ _ => 0) ⟨#[], #[.slice none 0 0, .slice none 0 0, .agg #[.slice none 0 0, .bool false, .int .i64 0]], []⟩).memory Try.f9.params.toList Rows.diskApartSpec.vars false (#[Value.slice none 0 0, Value.slice none 0 0, Value.agg #[.slice none 0 0, .bool false, .int .i64 0]] : Array Value).toList 8 = some ([.nil, .nil, .agg [.nil, .lit (.bool false), .lit (.int .i64 0)]], [], places) :=
  ⟨[], by kernel_rfl⟩
set_option maxRecDepth 100000 in
theorem lifted (os : Os) (started : os.Started) (H : Type) (enc : TypeId × Value → H) (F : Stop.Interp) :
    ReturnsInHanded {} Try.checked os 9 .any ((OpenSpec.ofChange Rows.diskApartSpec).preRow enc Try.prog Try.f9 Rows.diskApartRow.domain false Rows.diskApartRow.laid) (((OpenSpec.ofChange Rows.diskApartSpec).at F).post enc Try.prog Try.f9 false true false false) := by
  obtain ⟨places, hx⟩ := reads os enc
  refine returnsInHanded_of_row (C := Try.checked) (s := OpenSpec.ofChange Rows.diskApartSpec) own started (by kernel_rfl) Try.func9
    (witness_row_at (enc := enc) (C := Try.checked) false (World.holding Try.prog os ⟨#[], #[], []⟩) #[.slice none 0 0, .slice none 0 0, .agg #[.slice none 0 0, .bool false, .int .i64 0]] rfl (by kernel_rfl) (by kernel_rfl) (by kernel_rfl)
      (OpenSpec.preRow_of_cond 8 hx (by kernel_rfl) (fun k hk => by cases hk) (by kernel_rfl) (laid_met os))) ?_
  intro W base args ds gs before hval hW _ _ hsz hL _ _
  exact contract H enc W base args ds gs before hval hW
theorem said : Rows.DiskApartSaid :=
  OpenClaim.holds_of_cond 9 Try.f9 rfl rfl rfl rfl rfl rfl rfl ⟨rfl, rfl, rfl, rfl, rfl⟩ rfl rfl rfl rfl rfl (by kernel_rfl) Try.func9 (by kernel_rfl)
    (of_decide_eq_true (by kernel_rfl)) (by unfold Func.isWrapper; first | (rw [if_pos (by decide +kernel)]; kernel_rfl) | (rw [if_neg (by decide +kernel)]; exact ⟨rfl, rfl⟩))
    (fun os started H enc _ F => by rw [OpenClaim.pre_eq_preRow]; exact lifted os started H enc F)
#print axioms said
end Go.Proofs.Ytaooimhodoefoaa.diskApart
