/- The document's reader of sealed bytes. -/
import Derived.Test.YtlijfnekopjogaaSealRefW
import Derived.Test.YtlijfnekopjogaaNumRefs
import Derived.Lib.AppendStr
import Derived.Test.YtlijfnekopjogaaSealRead2
import Derived.Test.YtlijfnekopjogaaSealWrite
namespace Go.Proofs.Ytlijfnekopjogaa
open Go.RowKit Mem
set_option linter.unusedVariables false
set_option linter.unusedSimpArgs false

set_option maxHeartbeats 1000000 in
abbrev RfAt := RdT 78
abbrev RfTo := RdToT 78
section
variable {w w' : World} {q : Nat} {r : Sl.R} {F : Nat → Prop} {T : TypeId} {v : Value}
theorem RdToT.same (h : RdT T w q r F) : RdToT T w F q v r (.returned v) w := ⟨rfl, h, Fr.refl _ _⟩
end
set_option maxHeartbeats 2000000 in
theorem refRNum_any (q : Nat) (r : Sl.R) (F : Nat → Prop) (most : Int) (w : World) (hr : RfAt w q r F) (hm : -9223372036854775808 ≤ most ∧ most ≤ 9223372036854775807) (hl : r.b.length ≤ 140737488351232) :
    Calls Try.prog 48 #[.pointer (some ⟨q, 0, none⟩), .int .i64 most] w (RfTo w F q (.int .i64 ((Sl.out r 0 (Sl.number r.b most).1 : Nat) : Int)) (Sl.try_ r (Sl.number r.b most).2)) := by
  have hr' := hr
  obtain ⟨A, n, c, h1, h2, h3, h4, h5, h6, h7⟩ := hr
  have c0 : w.cell? ⟨q, 0, none⟩ = some (.slice A n c) := h1.cell 0
  have c1 : w.cell? ⟨q, 1, none⟩ = some (.int .i64 r.e) := h1.cell 1
  have f0 := h1.free 0
  have f1 := h1.free 1
  have hn : n ≤ 140737488351232 := by rw [← h2.1]; exact hl
  by_cases he : r.e = 0
  · have hts := refTakeShort_any A n c r.b w h2 hn
    have hb := Num.takeGo_bounds r.b 0 0 (by omega)
    rw [Nat.zero_add, show Num.takeGo 0 0 r.b = Num.takeShort r.b from rfl, h2.1] at hb
    have hnum : Sl.number r.b most = if (Num.takeShort r.b).2.2 ≠ 0 then (0, 0, (Num.takeShort r.b).2.2) else if most < 0 ∨ most < ((Num.takeShort r.b).1 : Int) then (0, 0, 12) else Num.takeShort r.b := rfl
    have hou : Sl.out r 0 (Sl.number r.b most).1 = (Sl.number r.b most).1 := by unfold Sl.out; rw [if_neg (by omega)]
    rw [hou]
    have htr := fun x hx => RdT.tried (x := x) (w' := w.setCell ⟨q, 0, none⟩ (.slice (subA A c x.1) (n - x.1) (c - x.1))) (w1 := w) h1 h2 h3 h4 h5 h6 h7 (fun _ => hx) 
    have hte := fun x => RdT.tried (x := x) (w' := w.setCell ⟨q, 1, none⟩ (.int .i64 x.2)) (w1 := w) h1 h2 h3 h4 h5 h6 h7 
    generalize Sl.number r.b most = t at *
    generalize Num.takeShort r.b = u at *
    obtain ⟨z, k, e⟩ := u
    simp only at hb hnum
    rw [he] at c1
    have H := Lib.hid (And.intro hts (And.intro hr' (And.intro htr (And.intro hte he))))
    clear hts hr' h1 h2 h3 h4 h5 h6 h7 hl htr hte he hou
    by_cases hz : e = 0
    · subst hz
      rw [if_neg (by simp)] at hnum
      by_cases hneg : most < 0
      · rw [if_pos (.inl hneg)] at hnum
        subst hnum
        have hg : decide (most < 0) = true := by simpa using hneg
        go_enter Try.func48, Try.ntmps48
        go_wp2_with fail
        refine H.out.1.mono ?_
        rintro e1 w1 ⟨rfl, rfl⟩
        go_wp2
        go_ret
        obtain ⟨hR, hF, _⟩ := H.out.2.2.2.1 (0, 12) (fun h => by simp at h) (.inr (.inl ⟨H.out.2.2.2.2, by simp, by first | rfl | trivial⟩))
        exact ⟨rfl, hR, hF⟩
      · have hg : decide (most < 0) = false := by simpa using hneg
        obtain ⟨m, rfl⟩ := Int.eq_ofNat_of_zero_le (show 0 ≤ most by omega)
        have hz64 := hb.1
        by_cases hmz : m < z
        · rw [if_pos (.inr (by omega))] at hnum
          subst hnum
          have hg2 : decide (m < z) = true := by simpa using hmz
          go_enter Try.func48, Try.ntmps48
          go_wp2_with fail
          refine H.out.1.mono ?_
          rintro e1 w1 ⟨rfl, rfl⟩
          go_wp2
          go_ret
          obtain ⟨hR, hF, _⟩ := H.out.2.2.2.1 (0, 12) (fun h => by simp at h) (.inr (.inl ⟨H.out.2.2.2.2, by simp, by first | rfl | trivial⟩))
          exact ⟨rfl, hR, hF⟩
        · rw [if_neg (by omega)] at hnum
          subst hnum
          have hg2 : decide (m < z) = false := by simpa using hmz
          have hcut := fun W => cut_l A n c k k rfl hb.2.1 W
          go_enter Try.func48, Try.ntmps48
          go_wp2_with fail
          refine H.out.1.mono ?_
          rintro e1 w1 ⟨rfl, rfl⟩
          go_wp2
          go_ret
          obtain ⟨hR, hF, _⟩ := H.out.2.2.1 (k, 0) hb.2.1 (.inr (.inr ⟨H.out.2.2.2.2, rfl, by first | rfl | trivial⟩))
          exact ⟨rfl, hR, hF⟩
    · rw [if_pos hz] at hnum
      subst hnum
      have hg : ((e : Int) != 0) = true := by rw [bne_iff_ne]; omega
      have HZ := Lib.hid hz
      clear hz
      go_enter Try.func48, Try.ntmps48
      go_wp2_with fail
      refine H.out.1.mono ?_
      rintro e1 w1 ⟨rfl, rfl⟩
      go_wp2
      go_ret
      obtain ⟨hR, hF, _⟩ := H.out.2.2.2.1 (0, e) (fun h => absurd h HZ.out) (.inr (.inl ⟨H.out.2.2.2.2, HZ.out, by first | rfl | trivial⟩))
      exact ⟨rfl, hR, hF⟩
  · have hou : Sl.out r 0 (Sl.number r.b most).1 = 0 := by unfold Sl.out; rw [if_pos he]
    have htr : Sl.try_ r (Sl.number r.b most).2 = r := by unfold Sl.try_; rw [if_pos he]
    rw [hou, htr]
    have hg : ((r.e : Int) != 0) = true := by rw [bne_iff_ne]; omega
    have H := Lib.hid hr'
    clear hr' h1 h2 h3 h4 h5 h6 h7 hl hou htr he
    go_enter Try.func48, Try.ntmps48
    go_wp2
    go_ret
    exact RdToT.same H.out
set_option maxHeartbeats 2000000 in
theorem refRByte_any (q : Nat) (r : Sl.R) (F : Nat → Prop) (w : World) (hr : RfAt w q r F) (hl : r.b.length ≤ 140737488351232) :
    Calls Try.prog 107 #[.pointer (some ⟨q, 0, none⟩)] w (RfTo w F q (u8 (Sl.out r 0 (Sl.byteF r.b).1)) (Sl.try_ r (Sl.byteF r.b).2)) := by
  have hr' := hr
  obtain ⟨A, n, c, h1, h2, h3, h4, h5, h6, h7⟩ := hr
  have c0 : w.cell? ⟨q, 0, none⟩ = some (.slice A n c) := h1.cell 0
  have c1 : w.cell? ⟨q, 1, none⟩ = some (.int .i64 r.e) := h1.cell 1
  have f0 := h1.free 0
  have f1 := h1.free 1
  have hn : n ≤ 140737488351232 := by rw [← h2.1]; exact hl
  by_cases he : r.e = 0
  · have hou : Sl.out r 0 (Sl.byteF r.b).1 = (Sl.byteF r.b).1 := by unfold Sl.out; rw [if_neg (by omega)]
    rw [hou]
    have htr := fun x hx => RdT.tried (x := x) (w' := w.setCell ⟨q, 0, none⟩ (.slice (subA A c x.1) (n - x.1) (c - x.1))) (w1 := w) h1 h2 h3 h4 h5 h6 h7 (fun _ => hx) 
    have hte := fun x => RdT.tried (x := x) (w' := w.setCell ⟨q, 1, none⟩ (.int .i64 x.2)) (w1 := w) h1 h2 h3 h4 h5 h6 h7 
    rw [he] at c1
    by_cases h0 : n = 0
    · subst h0
      have e : Sl.byteF r.b = (0, 0, 10) := by unfold Sl.byteF; rw [if_pos h2.1]
      rw [e]
      have H := Lib.hid (And.intro hte he)
      clear hr' h1 h2 h3 h4 h5 h6 h7 hl htr hte he hou e
      go_enter Try.func107, Try.ntmps107
      go_wp2
      go_ret
      obtain ⟨hR, hF, _⟩ := H.out.1 (0, 10) (fun h => by simp at h) (.inr (.inl ⟨H.out.2, by simp, by first | rfl | trivial⟩))
      exact ⟨rfl, hR, hF⟩
    · have e : Sl.byteF r.b = (r.b.getD 0 0, 1, 0) := by unfold Sl.byteF; rw [if_neg (by rw [h2.1]; exact h0)]
      rw [e]
      obtain ⟨b, off, hA, hc⟩ := h2.at_ (k := 0) (by omega)
      rw [Nat.add_zero] at hc
      have hn0 : 0 < n := by omega
      have hg : ((n : Int) == 0) = false := by rw [beq_eq_false_iff_ne]; omega
      have hcut := fun W => cut_l A n c 1 1 rfl hn0 W
      generalize r.b.getD 0 0 = x at *
      have H := Lib.hid (And.intro htr he)
      clear hr' h1 h2 h3 h4 h5 h6 h7 hl htr hte he hou e h0
      subst hA
      go_enter Try.func107, Try.ntmps107
      go_wp2
      go_ret
      obtain ⟨hR, hF, _⟩ := H.out.1 (1, 0) hn0 (.inr (.inr ⟨H.out.2, rfl, by first | rfl | trivial⟩))
      exact ⟨rfl, hR, hF⟩
  · have hou : Sl.out r 0 (Sl.byteF r.b).1 = 0 := by unfold Sl.out; rw [if_pos he]
    have htr : Sl.try_ r (Sl.byteF r.b).2 = r := by unfold Sl.try_; rw [if_pos he]
    rw [hou, htr]
    have hg : ((r.e : Int) != 0) = true := by rw [bne_iff_ne]; omega
    have H := Lib.hid hr'
    clear hr' h1 h2 h3 h4 h5 h6 h7 hl hou htr he
    go_enter Try.func107, Try.ntmps107
    go_wp2
    go_ret
    exact RdToT.same H.out
set_option maxHeartbeats 2000000 in
theorem refRFlag_any (q : Nat) (r : Sl.R) (F : Nat → Prop) (w : World) (hr : RfAt w q r F) (hl : r.b.length ≤ 140737488351232) :
    Calls Try.prog 95 #[.pointer (some ⟨q, 0, none⟩)] w (RfTo w F q (.bool (Sl.out r false (Sl.flagF r.b).1)) (Sl.try_ r (Sl.flagF r.b).2)) := by
  have hby := refRByte_any q r F w hr hl
  obtain ⟨A, n, c, h1, h2, h3, h4, h5, h6, h7⟩ := hr
  have c0 : w.cell? ⟨q, 0, none⟩ = some (.slice A n c) := h1.cell 0
  have hfl : Sl.flagF r.b = if 1 < (Sl.byteF r.b).1.toNat then (false, 0, 11) else (decide ((Sl.byteF r.b).1.toNat = 1), (Sl.byteF r.b).2) := by
    unfold Sl.flagF Sl.byteF
    by_cases h0 : r.b.length = 0
    · rw [if_pos h0, if_pos h0]; rfl
    · rw [if_neg h0, if_neg h0]
  by_cases hbig : r.e = 0 ∧ 1 < (Sl.byteF r.b).1.toNat
  · obtain ⟨he, hb1⟩ := hbig
    have hlen : 0 < n := by
      rcases Nat.eq_zero_or_pos n with h0 | h0
      · exfalso
        unfold Sl.byteF at hb1
        rw [if_pos (by rw [h2.1]; exact h0)] at hb1
        simp at hb1
      · exact h0
    have hbf : (Sl.byteF r.b).2 = (1, 0) := by unfold Sl.byteF; rw [if_neg (by rw [h2.1]; omega)]
    rw [if_pos hb1] at hfl
    rw [hfl]
    have e1 : Sl.out r false (false, 0, 11).1 = false := by unfold Sl.out; split <;> rfl
    have e2 : Sl.try_ r (false, 0, 11).2 = ⟨r.b, 11⟩ := by unfold Sl.try_; rw [if_neg (by omega), if_pos (by simp)]
    have e3 : Sl.out r 0 (Sl.byteF r.b).1 = (Sl.byteF r.b).1 := by unfold Sl.out; rw [if_neg (by omega)]
    have e4 : Sl.try_ r (Sl.byteF r.b).2 = ⟨r.b.drop 1, 0⟩ := by rw [hbf]; unfold Sl.try_; rw [if_neg (by omega), if_neg (by simp)]
    rw [e1, e2]
    rw [e3, e4] at hby
    generalize (Sl.byteF r.b).1 = x at *
    have hxl := x.toNat_lt
    have hg : decide (1 < (x.toNat : Int)) = true := by simp; omega
    have hg2 : ((x.toNat : Int) == 1) = false := by rw [beq_eq_false_iff_ne]; omega
    have H := Lib.hid (And.intro hby (And.intro h1 (And.intro h2 (And.intro h3 (And.intro h4 (And.intro h5 (And.intro h6 h7)))))))
    clear hby h1 h2 h3 h4 h5 h6 h7 hl e1 e2 e3 e4 hbf hfl hb1 he
    go_enter Try.func95, Try.ntmps95
    go_wp2_with fail
    refine H.out.1.mono ?_
    rintro e w1 ⟨rfl, hR, hF⟩
    obtain ⟨A1, n1, cc1, g1, g2, g3, g4, g5, g6, g7⟩ := hR
    have d0 : w1.cell? ⟨q, 0, none⟩ = some (.slice A1 n1 cc1) := g1.cell 0
    have d1 : w1.cell? ⟨q, 1, none⟩ = some (.int .i64 0) := g1.cell 1
    have f0 := g1.free 0
    have f1 := g1.free 1
    have H1 := Lib.hid (And.intro g1 (And.intro hF g7))
    clear g1 g2 g3 g4 g5 g6 g7 hF
    go_wp2
    go_ret
    have hf2 : Fr (fun k => k = q) w ((w1.setCell ⟨q, 1, none⟩ (.int .i64 11)).setCell ⟨q, 0, none⟩ (.slice A n c)) := (H1.out.2.1.setCell ⟨q, 1, none⟩ (.int .i64 11) (fun _ => rfl)).setCell ⟨q, 0, none⟩ (.slice A n c) (fun _ => rfl)
    refine ⟨rfl, ⟨A, n, c, (H1.out.1.put 1 (.int .i64 11)).put 0 (.slice A n c), ?_, H.out.2.2.2.1, H.out.2.2.2.2.1, H.out.2.2.2.2.2.1, H.out.2.2.2.2.2.2.1, fun k x => ?_⟩, hf2⟩
    · exact BS.fr H.out.2.2.1 hf2 (fun a e x => (H.out.2.2.2.2.2.2.1 a hlen e).2 x)
    · rw [setCell_size', setCell_size']; exact H1.out.2.2 k x
  · have hx1 : ¬ (1 < (Sl.out r 0 (Sl.byteF r.b).1).toNat) := by
      unfold Sl.out
      by_cases he : r.e = 0
      · rw [if_neg (by omega)]; exact fun h => hbig ⟨he, h⟩
      · rw [if_pos he]; simp
    have ev : Sl.out r false (Sl.flagF r.b).1 = decide ((Sl.out r 0 (Sl.byteF r.b).1).toNat = 1) := by
      unfold Sl.out
      by_cases he : r.e = 0
      · rw [if_neg (by omega), if_neg (by omega), hfl, if_neg (fun h => hbig ⟨he, h⟩)]
      · rw [if_pos he, if_pos he]; rfl
    have et : Sl.try_ r (Sl.flagF r.b).2 = Sl.try_ r (Sl.byteF r.b).2 := by
      by_cases he : r.e = 0
      · rw [hfl, if_neg (fun h => hbig ⟨he, h⟩)]
      · unfold Sl.try_; rw [if_pos he, if_pos he]
    rw [ev, et]
    generalize Sl.out r 0 (Sl.byteF r.b).1 = x at *
    have hxl := x.toNat_lt
    have hg : decide (1 < (x.toNat : Int)) = false := by simp; omega
    have hd : decide (x.toNat = 1) = ((x.toNat : Int) == 1) := by
      by_cases h : x.toNat = 1
      · rw [h]; rfl
      · rw [decide_eq_false h]; symm; rw [beq_eq_false_iff_ne]; omega
    rw [hd]
    generalize hb : ((x.toNat : Int) == 1) = bb
    have H := Lib.hid hby
    clear hby h1 h2 h3 h4 h5 h6 h7 hl hfl hbig ev et hx1 hd
    go_enter Try.func95, Try.ntmps95
    go_wp2_with fail
    refine H.out.mono ?_
    rintro e w1 ⟨rfl, hR, hF⟩
    have H1 := Lib.hid (And.intro hR hF)
    clear hR hF
    go_wp2
    go_ret
    exact ⟨rfl, H1.out.1, H1.out.2⟩
set_option maxHeartbeats 2000000 in
theorem refREnd_any (q : Nat) (r : Sl.R) (F : Nat → Prop) (w : World) (hr : RfAt w q r F) (hl : r.b.length ≤ 140737488351232) :
    Calls Try.prog 54 #[.pointer (some ⟨q, 0, none⟩)] w (RfTo w F q (.int .i64 ((Sl.try_ r (Sl.endF r.b)).e : Nat)) (Sl.try_ r (Sl.endF r.b))) := by
  have hr' := hr
  obtain ⟨A, n, c, h1, h2, h3, h4, h5, h6, h7⟩ := hr
  have c0 : w.cell? ⟨q, 0, none⟩ = some (.slice A n c) := h1.cell 0
  have c1 : w.cell? ⟨q, 1, none⟩ = some (.int .i64 r.e) := h1.cell 1
  have f1 := h1.free 1
  have hn : n ≤ 140737488351232 := by rw [← h2.1]; exact hl
  by_cases he : r.e = 0 ∧ 0 < n
  · obtain ⟨he, hn0⟩ := he
    have e : Sl.try_ r (Sl.endF r.b) = ⟨r.b, 13⟩ := by
      have e0 : Sl.endF r.b = (0, 13) := by unfold Sl.endF; rw [if_pos (by rw [h2.1]; exact hn0)]
      unfold Sl.try_
      rw [e0, if_neg (by omega), if_pos (by simp)]
    have hte := RdT.tried (x := (0, 13)) (w' := w.setCell ⟨q, 1, none⟩ (.int .i64 13)) (w1 := w) h1 h2 h3 h4 h5 h6 h7 (fun h => by simp at h) (.inr (.inl ⟨he, by simp, rfl⟩))
    have e2 : Sl.try_ r (0, 13) = ⟨r.b, 13⟩ := by unfold Sl.try_; rw [if_neg (by omega), if_pos (by simp)]
    rw [e2] at hte
    rw [e]
    rw [he] at c1
    have hg : decide (0 < (n : Int)) = true := by simp; omega
    have H := Lib.hid hte
    clear hr' h1 h2 h3 h4 h5 h6 h7 hl hte he e e2
    go_enter Try.func54, Try.ntmps54
    go_wp2
    go_ret
    exact ⟨rfl, H.out.1, H.out.2.1⟩
  · have e : Sl.try_ r (Sl.endF r.b) = r := by
      unfold Sl.try_
      by_cases h0 : r.e = 0
      · have hz : ¬ 0 < n := fun h => he ⟨h0, h⟩
        have hb : r.b = [] := List.eq_nil_of_length_eq_zero (by rw [h2.1]; omega)
        have e2 : Sl.endF r.b = (0, 0) := by unfold Sl.endF; rw [if_neg (by rw [h2.1]; omega)]
        rw [if_neg (by omega), e2, if_neg (by simp)]
        cases r
        simp only at h0 hb
        subst h0
        rw [hb]
        rfl
      · rw [if_pos h0]
    rw [e]
    have H := Lib.hid hr'
    have hcase : (((r.e : Int) == 0) = true ∧ n = 0) ∨ ((r.e : Int) == 0) = false := by
      by_cases h0 : r.e = 0
      · exact .inl ⟨by rw [h0]; rfl, by have := fun h => he ⟨h0, h⟩; omega⟩
      · right; rw [beq_eq_false_iff_ne]; omega
    clear hr' h1 h2 h3 h4 h5 h6 h7 hl e he
    rcases hcase with ⟨hg, rfl⟩ | hg
    all_goals
      go_enter Try.func54, Try.ntmps54
      go_wp2
      go_ret
      exact RdToT.same H.out
set_option maxHeartbeats 4000000 in
theorem refRText_any (q : Nat) (r : Sl.R) (F : Nat → Prop) (most : Int) (w : World) (hr : RfAt w q r F) (hm : -9223372036854775808 ≤ most ∧ most ≤ 9223372036854775807) (hl : r.b.length ≤ 140737488351232) :
    Calls Try.prog 50 #[.pointer (some ⟨q, 0, none⟩), .int .i64 most] w (RfTo w F q (str (Sl.out r [] (Sl.textF r.b most).1)) (Sl.try_ r (Sl.textF r.b most).2)) := by
  have hr' := hr
  obtain ⟨A, n, c, h1, h2, h3, h4, h5, h6, h7⟩ := hr
  have c0 : w.cell? ⟨q, 0, none⟩ = some (.slice A n c) := h1.cell 0
  have c1 : w.cell? ⟨q, 1, none⟩ = some (.int .i64 r.e) := h1.cell 1
  have f0 := h1.free 0
  have f1 := h1.free 1
  have hn : n ≤ 140737488351232 := by rw [← h2.1]; exact hl
  by_cases he : r.e = 0
  · have hts := refTakeShort_any A n c r.b w h2 hn
    have hb := Num.takeGo_bounds r.b 0 0 (by omega)
    rw [Nat.zero_add, show Num.takeGo 0 0 r.b = Num.takeShort r.b from rfl, h2.1] at hb
    have hnum : Sl.number r.b most = if (Num.takeShort r.b).2.2 ≠ 0 then (0, 0, (Num.takeShort r.b).2.2) else if most < 0 ∨ most < ((Num.takeShort r.b).1 : Int) then (0, 0, 12) else Num.takeShort r.b := rfl
    have htx : Sl.textF r.b most = if (Sl.number r.b most).2.2 ≠ 0 then ([], 0, (Sl.number r.b most).2.2) else if n - (Sl.number r.b most).2.1 < (Sl.number r.b most).1 then ([], 0, 10)
        else ((r.b.drop (Sl.number r.b most).2.1).take (Sl.number r.b most).1, (Sl.number r.b most).2.1 + (Sl.number r.b most).1, 0) := by rw [← h2.1]; rfl
    have hou : Sl.out r [] (Sl.textF r.b most).1 = (Sl.textF r.b most).1 := by unfold Sl.out; rw [if_neg (by omega)]
    rw [hou]
    have htr := fun x hx => RdT.tried (x := x) (w' := w.setCell ⟨q, 0, none⟩ (.slice (subA A c x.1) (n - x.1) (c - x.1))) (w1 := w) h1 h2 h3 h4 h5 h6 h7 (fun _ => hx) 
    have hte := fun x => RdT.tried (x := x) (w' := w.setCell ⟨q, 1, none⟩ (.int .i64 x.2)) (w1 := w) h1 h2 h3 h4 h5 h6 h7 
    generalize Sl.textF r.b most = tx at *
    generalize Sl.number r.b most = t at *
    generalize Num.takeShort r.b = u at *
    obtain ⟨z, k, e⟩ := u
    simp only at hb hnum
    rw [he] at c1
    have H := Lib.hid (And.intro hts (And.intro hr' (And.intro htr (And.intro hte he))))
    clear hts hr' h1 h3 h4 h5 h6 h7 hl htr hte hou
    by_cases hz : e = 0
    · subst hz
      rw [if_neg (by simp)] at hnum
      by_cases hneg : most < 0
      · rw [if_pos (.inl hneg)] at hnum
        subst hnum
        rw [if_pos (by simp)] at htx
        subst htx
        have hg : decide (most < 0) = true := by simpa using hneg
        clear h2 he
        unfold str
        go_enter Try.func50, Try.ntmps50
        go_wp2_with fail
        refine H.out.1.mono ?_
        rintro e1 w1 ⟨rfl, rfl⟩
        go_wp2
        go_ret
        obtain ⟨hR, hF, _⟩ := H.out.2.2.2.1 (0, 12) (fun h => by simp at h) (.inr (.inl ⟨H.out.2.2.2.2, by simp, by first | rfl | trivial⟩))
        exact ⟨rfl, hR, hF⟩
      · have hg : decide (most < 0) = false := by simpa using hneg
        obtain ⟨m, rfl⟩ := Int.eq_ofNat_of_zero_le (show 0 ≤ most by omega)
        have hz64 := hb.1
        by_cases hmz : m < z
        · rw [if_pos (.inr (by omega))] at hnum
          subst hnum
          rw [if_pos (by simp)] at htx
          subst htx
          have hg2 : decide (m < z) = true := by simpa using hmz
          clear h2 he
          unfold str
          go_enter Try.func50, Try.ntmps50
          go_wp2_with fail
          refine H.out.1.mono ?_
          rintro e1 w1 ⟨rfl, rfl⟩
          go_wp2
          go_ret
          obtain ⟨hR, hF, _⟩ := H.out.2.2.2.1 (0, 12) (fun h => by simp at h) (.inr (.inl ⟨H.out.2.2.2.2, by simp, by first | rfl | trivial⟩))
          exact ⟨rfl, hR, hF⟩
        · rw [if_neg (by omega)] at hnum
          subst hnum
          rw [if_neg (by simp)] at htx
          simp only at htx
          have hg2 : decide (m < z) = false := by simpa using hmz
          have hkn := hb.2.1
          have hu : IntKind.u64.wrap ((n : Int) - (k : Int)) = ((n - k : Nat) : Int) := by rw [IntKind.wrap_u64]; omega
          by_cases hsh : n - k < z
          · rw [if_pos hsh] at htx
            subst htx
            have hg3 : decide ((n : Int) - (k : Int) < (z : Int)) = true := by simp; omega
            clear h2 he
            unfold str
            go_enter Try.func50, Try.ntmps50
            go_wp2_with fail
            refine H.out.1.mono ?_
            rintro e1 w1 ⟨rfl, rfl⟩
            go_wp2
            go_ret
            obtain ⟨hR, hF, _⟩ := H.out.2.2.2.1 (0, 10) (fun h => by simp at h) (.inr (.inl ⟨H.out.2.2.2.2, by simp, by first | rfl | trivial⟩))
            exact ⟨rfl, hR, hF⟩
          · rw [if_neg hsh] at htx
            subst htx
            have hg3 : decide ((n : Int) - (k : Int) < (z : Int)) = false := by simp; omega
            have hcut := fun W => cut_lh A n c k (k + z) (k : Int) ((k : Int) + (z : Int)) rfl (by omega) (by omega) (by have := H.out.2.1; obtain ⟨_, _, _, g1, _, g3, _⟩ := this; have := (g1.cell 0).symm.trans c0; simp at this; omega) W
            have hcut2 := fun W => cut_l A n c (k + z) ((k : Int) + (z : Int)) (by omega) (by omega) W
            have hcv := conv_bytes0 (subA_bs h2 c k (k + z) (by omega) (by omega) (by have := H.out.2.1; obtain ⟨_, _, _, g1, _, g3, _⟩ := this; have := (g1.cell 0).symm.trans c0; simp at this; omega)) (c - k) w (fun _ => rfl)
            rw [show k + z - k = z by omega] at hcut hcv
            generalize ((r.b.drop k).take z) = l at *
            clear h2 he
            unfold str at hcv ⊢
            go_enter Try.func50, Try.ntmps50
            go_wp2_with fail
            refine H.out.1.mono ?_
            rintro e1 w1 ⟨rfl, rfl⟩
            go_wp2
            go_ret
            obtain ⟨hR, hF, _⟩ := H.out.2.2.1 (k + z, 0) (by omega) (.inr (.inr ⟨H.out.2.2.2.2, rfl, by first | rfl | trivial⟩))
            exact ⟨rfl, hR, hF⟩
    · rw [if_pos hz] at hnum
      subst hnum
      rw [if_pos hz] at htx
      subst htx
      have hg : ((e : Int) != 0) = true := by rw [bne_iff_ne]; omega
      have HZ := Lib.hid hz
      clear hz h2 he
      unfold str
      go_enter Try.func50, Try.ntmps50
      go_wp2_with fail
      refine H.out.1.mono ?_
      rintro e1 w1 ⟨rfl, rfl⟩
      go_wp2
      go_ret
      obtain ⟨hR, hF, _⟩ := H.out.2.2.2.1 (0, e) (fun h => absurd h HZ.out) (.inr (.inl ⟨H.out.2.2.2.2, HZ.out, by first | rfl | trivial⟩))
      exact ⟨rfl, hR, hF⟩
  · have hou : Sl.out r [] (Sl.textF r.b most).1 = [] := by unfold Sl.out; rw [if_pos he]
    have htr : Sl.try_ r (Sl.textF r.b most).2 = r := by unfold Sl.try_; rw [if_pos he]
    rw [hou, htr]
    have hg : ((r.e : Int) != 0) = true := by rw [bne_iff_ne]; omega
    have H := Lib.hid hr'
    clear hr' h1 h2 h3 h4 h5 h6 h7 hl hou htr he
    unfold str
    go_enter Try.func50, Try.ntmps50
    go_wp2
    go_ret
    exact RdToT.same H.out
end Go.Proofs.Ytlijfnekopjogaa
