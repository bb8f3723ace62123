/- The document's functions of layer 3. -/
import Derived.Test.YtbghpdfhloalhaaDoorSealSum
import Derived.Test.YtbghpdfhloalhaaDoorNumRefs
import Derived.Lib.AppendStr
namespace Go.Proofs.YtbghpdfhloalhaaDoor
open Go.RowKit Mem
set_option linter.unusedVariables false
set_option linter.unusedSimpArgs false

set_option maxHeartbeats 1000000 in
theorem refNum_any (n : Int) (w : World) (hn : -9223372036854775808 ≤ n ∧ n ≤ 9223372036854775807) :
    Calls Tryd.prog 19 #[.int .i64 n] w (OwnB 5 w (Sl.numB n)) := by
  rcases Int.lt_or_le n 0 with h0 | h0
  · rw [numB_neg n h0]
    go_enter Tryd.func19, Tryd.ntmps19
    go_wp2_with fail
    refine (refShort_any 0 w (by omega)).mono ?_
    rintro e w1 ⟨v, rfl, ho, hb⟩
    obtain ⟨A, c, rfl⟩ := own_slice ho
    have H1 := Lib.hid (And.intro ho hb)
    clear ho hb
    go_wp2
    go_ret
    exact ⟨_, rfl, H1.out.1, H1.out.2⟩
  · obtain ⟨m, rfl⟩ := Int.eq_ofNat_of_zero_le h0
    rw [numB_nat m]
    go_enter Tryd.func19, Tryd.ntmps19
    go_wp2_with fail
    refine (refShort_any m w (by omega)).mono ?_
    rintro e w1 ⟨v, rfl, ho, hb⟩
    obtain ⟨A, c, rfl⟩ := own_slice ho
    have H1 := Lib.hid (And.intro ho hb)
    clear ho hb
    go_wp2
    go_ret
    exact ⟨_, rfl, H1.out.1, H1.out.2⟩
theorem strCells_u8s (s : List UInt8) : Lib.strCells ⟨s.toArray⟩ = u8s s := by simp [Lib.strCells, u8s]
theorem own_ge {w : World} {e : TypeId} {size n : Nat} {v : Value} {xs : List Value} {base k : Nat} (h : w.ownsRow base e size v n xs) (hv : v.ownBlock = some k) : base ≤ k := by
  rcases h.2 with ⟨rfl, _⟩ | ⟨g, cap, cur, rfl, hb, _⟩
  · simp [Value.ownBlock] at hv
  · simp [Value.ownBlock] at hv
    omega
theorem grown_below {w w1 w2 : World} {e : TypeId} {size n : Nat} {v : Value} {xs : List Value} (hb : Below w.heap.size w w1) (ho : w1.ownsRow w.heap.size e size v n xs) (hg : w1.grownBy w2 v.ownBlock) : Below w.heap.size w w2 := by
  have hf : Fr (fun k => v.ownBlock = some k) w1 w2 := (Fr.refl _ _).grown hg (fun k e _ => e)
  exact hb.trans (hf.below hb.size (fun k e => own_ge ho e))
set_option maxHeartbeats 1000000 in
theorem refText_any (s : List UInt8) (w : World) (hs : s.length ≤ 140737488351232) :
    Calls Tryd.prog 20 #[str s] w (OwnB 5 w (Sl.textB s)) := by
  obtain ⟨i0, hi0, hz0, hz1, hz2⟩ := info_parts ninfo8
  have HI := Lib.hid (And.intro hi0 (And.intro hz0 (And.intro hz1 hz2)))
  have hl11 := numB_le s.length
  have hsz := ba_size s
  have HS := Lib.hid (And.intro hl11 hsz)
  clear hi0 hz0 hz1 hz2 hl11 hsz
  unfold str
  go_enter Tryd.func20, Tryd.ntmps20
  go_wp2_with fail
  refine (refNum_any s.length w (by omega)).mono ?_
  rintro e w1 ⟨v, rfl, ho, hb⟩
  obtain ⟨A, c, rfl⟩ := own_slice ho
  have H1 := Lib.hid (And.intro ho hb)
  clear ho hb
  go_wp2_with (at_builtin; refine Lib.wpList_append_own_string _ rfl _ _ 22 9 rfl w.heap.size 5 i0 Tryd.underlying22 Tryd.underlying9 HI.out.1 HI.out.2.1 HI.out.2.2.1 HI.out.2.2.2 (.slice A (Sl.numB s.length).length c) _ _ rfl H1.out.1 ⟨s.toArray⟩ rfl (by rw [HS.out.2]; have := HS.out.1; unfold maxLen; omega) (by rw [HS.out.2]; have := HS.out.1; omega) H1.out.2.size ?_; intro v' w2 hown hg _)
  go_ret
  refine ⟨v', rfl, ?_, grown_below H1.out.2 H1.out.1 hg⟩
  rw [strCells_u8s, ← u8s_append, HS.out.2] at hown
  rw [show (Sl.textB s).length = (Sl.numB s.length).length + s.length by rw [Sl.textB, List.length_append]]
  exact hown

abbrev RfAt := RdT 58
abbrev RfTo := RdToT 58
section
variable {w w' : World} {q : Nat} {r : Sl.R} {F : Nat → Prop} {T : TypeId} {v : Value}
theorem RdToT.same (h : RdT T w q r F) : RdToT T w F q v r (.returned v) w := ⟨rfl, h, Fr.refl _ _⟩
end
set_option maxHeartbeats 2000000 in
theorem refRNum_any (q : Nat) (r : Sl.R) (F : Nat → Prop) (most : Int) (w : World) (hr : RfAt w q r F) (hm : -9223372036854775808 ≤ most ∧ most ≤ 9223372036854775807) (hl : r.b.length ≤ 140737488351232) :
    Calls Tryd.prog 28 #[.pointer (some ⟨q, 0, none⟩), .int .i64 most] w (RfTo w F q (.int .i64 ((Sl.out r 0 (Sl.number r.b most).1 : Nat) : Int)) (Sl.try_ r (Sl.number r.b most).2)) := by
  have hr' := hr
  obtain ⟨A, n, c, h1, h2, h3, h4, h5, h6, h7⟩ := hr
  have c0 : w.cell? ⟨q, 0, none⟩ = some (.slice A n c) := h1.cell 0
  have c1 : w.cell? ⟨q, 1, none⟩ = some (.int .i64 r.e) := h1.cell 1
  have f0 := h1.free 0
  have f1 := h1.free 1
  have hn : n ≤ 140737488351232 := by rw [← h2.1]; exact hl
  by_cases he : r.e = 0
  · have hts := refTakeShort_any A n c r.b w h2 hn
    have hb := Num.takeGo_bounds r.b 0 0 (by omega)
    rw [Nat.zero_add, show Num.takeGo 0 0 r.b = Num.takeShort r.b from rfl, h2.1] at hb
    have hnum : Sl.number r.b most = if (Num.takeShort r.b).2.2 ≠ 0 then (0, 0, (Num.takeShort r.b).2.2) else if most < 0 ∨ most < ((Num.takeShort r.b).1 : Int) then (0, 0, 12) else Num.takeShort r.b := rfl
    have hou : Sl.out r 0 (Sl.number r.b most).1 = (Sl.number r.b most).1 := by unfold Sl.out; rw [if_neg (by omega)]
    rw [hou]
    have htr := fun x hx => RdT.tried (x := x) (w' := w.setCell ⟨q, 0, none⟩ (.slice (subA A c x.1) (n - x.1) (c - x.1))) (w1 := w) h1 h2 h3 h4 h5 h6 h7 (fun _ => hx) 
    have hte := fun x => RdT.tried (x := x) (w' := w.setCell ⟨q, 1, none⟩ (.int .i64 x.2)) (w1 := w) h1 h2 h3 h4 h5 h6 h7 
    generalize Sl.number r.b most = t at *
    generalize Num.takeShort r.b = u at *
    obtain ⟨z, k, e⟩ := u
    simp only at hb hnum
    rw [he] at c1
    have H := Lib.hid (And.intro hts (And.intro hr' (And.intro htr (And.intro hte he))))
    clear hts hr' h1 h2 h3 h4 h5 h6 h7 hl htr hte he hou
    by_cases hz : e = 0
    · subst hz
      rw [if_neg (by simp)] at hnum
      by_cases hneg : most < 0
      · rw [if_pos (.inl hneg)] at hnum
        subst hnum
        have hg : decide (most < 0) = true := by simpa using hneg
        go_enter Tryd.func28, Tryd.ntmps28
        go_wp2_with fail
        refine H.out.1.mono ?_
        rintro e1 w1 ⟨rfl, rfl⟩
        go_wp2
        go_ret
        obtain ⟨hR, hF, _⟩ := H.out.2.2.2.1 (0, 12) (fun h => by simp at h) (.inr (.inl ⟨H.out.2.2.2.2, by simp, by first | rfl | trivial⟩))
        exact ⟨rfl, hR, hF⟩
      · have hg : decide (most < 0) = false := by simpa using hneg
        obtain ⟨m, rfl⟩ := Int.eq_ofNat_of_zero_le (show 0 ≤ most by omega)
        have hz64 := hb.1
        by_cases hmz : m < z
        · rw [if_pos (.inr (by omega))] at hnum
          subst hnum
          have hg2 : decide (m < z) = true := by simpa using hmz
          go_enter Tryd.func28, Tryd.ntmps28
          go_wp2_with fail
          refine H.out.1.mono ?_
          rintro e1 w1 ⟨rfl, rfl⟩
          go_wp2
          go_ret
          obtain ⟨hR, hF, _⟩ := H.out.2.2.2.1 (0, 12) (fun h => by simp at h) (.inr (.inl ⟨H.out.2.2.2.2, by simp, by first | rfl | trivial⟩))
          exact ⟨rfl, hR, hF⟩
        · rw [if_neg (by omega)] at hnum
          subst hnum
          have hg2 : decide (m < z) = false := by simpa using hmz
          have hcut := fun W => cut_l A n c k k rfl hb.2.1 W
          go_enter Tryd.func28, Tryd.ntmps28
          go_wp2_with fail
          refine H.out.1.mono ?_
          rintro e1 w1 ⟨rfl, rfl⟩
          go_wp2
          go_ret
          obtain ⟨hR, hF, _⟩ := H.out.2.2.1 (k, 0) hb.2.1 (.inr (.inr ⟨H.out.2.2.2.2, rfl, by first | rfl | trivial⟩))
          exact ⟨rfl, hR, hF⟩
    · rw [if_pos hz] at hnum
      subst hnum
      have hg : ((e : Int) != 0) = true := by rw [bne_iff_ne]; omega
      have HZ := Lib.hid hz
      clear hz
      go_enter Tryd.func28, Tryd.ntmps28
      go_wp2_with fail
      refine H.out.1.mono ?_
      rintro e1 w1 ⟨rfl, rfl⟩
      go_wp2
      go_ret
      obtain ⟨hR, hF, _⟩ := H.out.2.2.2.1 (0, e) (fun h => absurd h HZ.out) (.inr (.inl ⟨H.out.2.2.2.2, HZ.out, by first | rfl | trivial⟩))
      exact ⟨rfl, hR, hF⟩
  · have hou : Sl.out r 0 (Sl.number r.b most).1 = 0 := by unfold Sl.out; rw [if_pos he]
    have htr : Sl.try_ r (Sl.number r.b most).2 = r := by unfold Sl.try_; rw [if_pos he]
    rw [hou, htr]
    have hg : ((r.e : Int) != 0) = true := by rw [bne_iff_ne]; omega
    have H := Lib.hid hr'
    clear hr' h1 h2 h3 h4 h5 h6 h7 hl hou htr he
    go_enter Tryd.func28, Tryd.ntmps28
    go_wp2
    go_ret
    exact RdToT.same H.out
set_option maxHeartbeats 2000000 in
theorem refRByte_any (q : Nat) (r : Sl.R) (F : Nat → Prop) (w : World) (hr : RfAt w q r F) (hl : r.b.length ≤ 140737488351232) :
    Calls Tryd.prog 30 #[.pointer (some ⟨q, 0, none⟩)] w (RfTo w F q (u8 (Sl.out r 0 (Sl.byteF r.b).1)) (Sl.try_ r (Sl.byteF r.b).2)) := by
  have hr' := hr
  obtain ⟨A, n, c, h1, h2, h3, h4, h5, h6, h7⟩ := hr
  have c0 : w.cell? ⟨q, 0, none⟩ = some (.slice A n c) := h1.cell 0
  have c1 : w.cell? ⟨q, 1, none⟩ = some (.int .i64 r.e) := h1.cell 1
  have f0 := h1.free 0
  have f1 := h1.free 1
  have hn : n ≤ 140737488351232 := by rw [← h2.1]; exact hl
  by_cases he : r.e = 0
  · have hou : Sl.out r 0 (Sl.byteF r.b).1 = (Sl.byteF r.b).1 := by unfold Sl.out; rw [if_neg (by omega)]
    rw [hou]
    have htr := fun x hx => RdT.tried (x := x) (w' := w.setCell ⟨q, 0, none⟩ (.slice (subA A c x.1) (n - x.1) (c - x.1))) (w1 := w) h1 h2 h3 h4 h5 h6 h7 (fun _ => hx) 
    have hte := fun x => RdT.tried (x := x) (w' := w.setCell ⟨q, 1, none⟩ (.int .i64 x.2)) (w1 := w) h1 h2 h3 h4 h5 h6 h7 
    rw [he] at c1
    by_cases h0 : n = 0
    · subst h0
      have e : Sl.byteF r.b = (0, 0, 10) := by unfold Sl.byteF; rw [if_pos h2.1]
      rw [e]
      have H := Lib.hid (And.intro hte he)
      clear hr' h1 h2 h3 h4 h5 h6 h7 hl htr hte he hou e
      go_enter Tryd.func30, Tryd.ntmps30
      go_wp2
      go_ret
      obtain ⟨hR, hF, _⟩ := H.out.1 (0, 10) (fun h => by simp at h) (.inr (.inl ⟨H.out.2, by simp, by first | rfl | trivial⟩))
      exact ⟨rfl, hR, hF⟩
    · have e : Sl.byteF r.b = (r.b.getD 0 0, 1, 0) := by unfold Sl.byteF; rw [if_neg (by rw [h2.1]; exact h0)]
      rw [e]
      obtain ⟨b, off, hA, hc⟩ := h2.at_ (k := 0) (by omega)
      rw [Nat.add_zero] at hc
      have hn0 : 0 < n := by omega
      have hg : ((n : Int) == 0) = false := by rw [beq_eq_false_iff_ne]; omega
      have hcut := fun W => cut_l A n c 1 1 rfl hn0 W
      generalize r.b.getD 0 0 = x at *
      have H := Lib.hid (And.intro htr he)
      clear hr' h1 h2 h3 h4 h5 h6 h7 hl htr hte he hou e h0
      subst hA
      go_enter Tryd.func30, Tryd.ntmps30
      go_wp2
      go_ret
      obtain ⟨hR, hF, _⟩ := H.out.1 (1, 0) hn0 (.inr (.inr ⟨H.out.2, rfl, by first | rfl | trivial⟩))
      exact ⟨rfl, hR, hF⟩
  · have hou : Sl.out r 0 (Sl.byteF r.b).1 = 0 := by unfold Sl.out; rw [if_pos he]
    have htr : Sl.try_ r (Sl.byteF r.b).2 = r := by unfold Sl.try_; rw [if_pos he]
    rw [hou, htr]
    have hg : ((r.e : Int) != 0) = true := by rw [bne_iff_ne]; omega
    have H := Lib.hid hr'
    clear hr' h1 h2 h3 h4 h5 h6 h7 hl hou htr he
    go_enter Tryd.func30, Tryd.ntmps30
    go_wp2
    go_ret
    exact RdToT.same H.out
set_option maxHeartbeats 2000000 in
theorem refRFlag_any (q : Nat) (r : Sl.R) (F : Nat → Prop) (w : World) (hr : RfAt w q r F) (hl : r.b.length ≤ 140737488351232) :
    Calls Tryd.prog 32 #[.pointer (some ⟨q, 0, none⟩)] w (RfTo w F q (.bool (Sl.out r false (Sl.flagF r.b).1)) (Sl.try_ r (Sl.flagF r.b).2)) := by
  have hby := refRByte_any q r F w hr hl
  obtain ⟨A, n, c, h1, h2, h3, h4, h5, h6, h7⟩ := hr
  have c0 : w.cell? ⟨q, 0, none⟩ = some (.slice A n c) := h1.cell 0
  have hfl : Sl.flagF r.b = if 1 < (Sl.byteF r.b).1.toNat then (false, 0, 11) else (decide ((Sl.byteF r.b).1.toNat = 1), (Sl.byteF r.b).2) := by
    unfold Sl.flagF Sl.byteF
    by_cases h0 : r.b.length = 0
    · rw [if_pos h0, if_pos h0]; rfl
    · rw [if_neg h0, if_neg h0]
  by_cases hbig : r.e = 0 ∧ 1 < (Sl.byteF r.b).1.toNat
  · obtain ⟨he, hb1⟩ := hbig
    have hlen : 0 < n := by
      rcases Nat.eq_zero_or_pos n with h0 | h0
      · exfalso
        unfold Sl.byteF at hb1
        rw [if_pos (by rw [h2.1]; exact h0)] at hb1
        simp at hb1
      · exact h0
    have hbf : (Sl.byteF r.b).2 = (1, 0) := by unfold Sl.byteF; rw [if_neg (by rw [h2.1]; omega)]
    rw [if_pos hb1] at hfl
    rw [hfl]
    have e1 : Sl.out r false (false, 0, 11).1 = false := by unfold Sl.out; split <;> rfl
    have e2 : Sl.try_ r (false, 0, 11).2 = ⟨r.b, 11⟩ := by unfold Sl.try_; rw [if_neg (by omega), if_pos (by simp)]
    have e3 : Sl.out r 0 (Sl.byteF r.b).1 = (Sl.byteF r.b).1 := by unfold Sl.out; rw [if_neg (by omega)]
    have e4 : Sl.try_ r (Sl.byteF r.b).2 = ⟨r.b.drop 1, 0⟩ := by rw [hbf]; unfold Sl.try_; rw [if_neg (by omega), if_neg (by simp)]
    rw [e1, e2]
    rw [e3, e4] at hby
    generalize (Sl.byteF r.b).1 = x at *
    have hxl := x.toNat_lt
    have hg : decide (1 < (x.toNat : Int)) = true := by simp; omega
    have hg2 : ((x.toNat : Int) == 1) = false := by rw [beq_eq_false_iff_ne]; omega
    have H := Lib.hid (And.intro hby (And.intro h1 (And.intro h2 (And.intro h3 (And.intro h4 (And.intro h5 (And.intro h6 h7)))))))
    clear hby h1 h2 h3 h4 h5 h6 h7 hl e1 e2 e3 e4 hbf hfl hb1 he
    go_enter Tryd.func32, Tryd.ntmps32
    go_wp2_with fail
    refine H.out.1.mono ?_
    rintro e w1 ⟨rfl, hR, hF⟩
    obtain ⟨A1, n1, cc1, g1, g2, g3, g4, g5, g6, g7⟩ := hR
    have d0 : w1.cell? ⟨q, 0, none⟩ = some (.slice A1 n1 cc1) := g1.cell 0
    have d1 : w1.cell? ⟨q, 1, none⟩ = some (.int .i64 0) := g1.cell 1
    have f0 := g1.free 0
    have f1 := g1.free 1
    have H1 := Lib.hid (And.intro g1 (And.intro hF g7))
    clear g1 g2 g3 g4 g5 g6 g7 hF
    go_wp2
    go_ret
    have hf2 : Fr (fun k => k = q) w ((w1.setCell ⟨q, 1, none⟩ (.int .i64 11)).setCell ⟨q, 0, none⟩ (.slice A n c)) := (H1.out.2.1.setCell ⟨q, 1, none⟩ (.int .i64 11) (fun _ => rfl)).setCell ⟨q, 0, none⟩ (.slice A n c) (fun _ => rfl)
    refine ⟨rfl, ⟨A, n, c, (H1.out.1.put 1 (.int .i64 11)).put 0 (.slice A n c), ?_, H.out.2.2.2.1, H.out.2.2.2.2.1, H.out.2.2.2.2.2.1, H.out.2.2.2.2.2.2.1, fun k x => ?_⟩, hf2⟩
    · exact BS.fr H.out.2.2.1 hf2 (fun a e x => (H.out.2.2.2.2.2.2.1 a hlen e).2 x)
    · rw [setCell_size', setCell_size']; exact H1.out.2.2 k x
  · have hx1 : ¬ (1 < (Sl.out r 0 (Sl.byteF r.b).1).toNat) := by
      unfold Sl.out
      by_cases he : r.e = 0
      · rw [if_neg (by omega)]; exact fun h => hbig ⟨he, h⟩
      · rw [if_pos he]; simp
    have ev : Sl.out r false (Sl.flagF r.b).1 = decide ((Sl.out r 0 (Sl.byteF r.b).1).toNat = 1) := by
      unfold Sl.out
      by_cases he : r.e = 0
      · rw [if_neg (by omega), if_neg (by omega), hfl, if_neg (fun h => hbig ⟨he, h⟩)]
      · rw [if_pos he, if_pos he]; rfl
    have et : Sl.try_ r (Sl.flagF r.b).2 = Sl.try_ r (Sl.byteF r.b).2 := by
      by_cases he : r.e = 0
      · rw [hfl, if_neg (fun h => hbig ⟨he, h⟩)]
      · unfold Sl.try_; rw [if_pos he, if_pos he]
    rw [ev, et]
    generalize Sl.out r 0 (Sl.byteF r.b).1 = x at *
    have hxl := x.toNat_lt
    have hg : decide (1 < (x.toNat : Int)) = false := by simp; omega
    have hd : decide (x.toNat = 1) = ((x.toNat : Int) == 1) := by
      by_cases h : x.toNat = 1
      · rw [h]; rfl
      · rw [decide_eq_false h]; symm; rw [beq_eq_false_iff_ne]; omega
    rw [hd]
    generalize hb : ((x.toNat : Int) == 1) = bb
    have H := Lib.hid hby
    clear hby h1 h2 h3 h4 h5 h6 h7 hl hfl hbig ev et hx1 hd
    go_enter Tryd.func32, Tryd.ntmps32
    go_wp2_with fail
    refine H.out.mono ?_
    rintro e w1 ⟨rfl, hR, hF⟩
    have H1 := Lib.hid (And.intro hR hF)
    clear hR hF
    go_wp2
    go_ret
    exact ⟨rfl, H1.out.1, H1.out.2⟩
set_option maxHeartbeats 2000000 in
theorem refREnd_any (q : Nat) (r : Sl.R) (F : Nat → Prop) (w : World) (hr : RfAt w q r F) (hl : r.b.length ≤ 140737488351232) :
    Calls Tryd.prog 34 #[.pointer (some ⟨q, 0, none⟩)] w (RfTo w F q (.int .i64 ((Sl.try_ r (Sl.endF r.b)).e : Nat)) (Sl.try_ r (Sl.endF r.b))) := by
  have hr' := hr
  obtain ⟨A, n, c, h1, h2, h3, h4, h5, h6, h7⟩ := hr
  have c0 : w.cell? ⟨q, 0, none⟩ = some (.slice A n c) := h1.cell 0
  have c1 : w.cell? ⟨q, 1, none⟩ = some (.int .i64 r.e) := h1.cell 1
  have f1 := h1.free 1
  have hn : n ≤ 140737488351232 := by rw [← h2.1]; exact hl
  by_cases he : r.e = 0 ∧ 0 < n
  · obtain ⟨he, hn0⟩ := he
    have e : Sl.try_ r (Sl.endF r.b) = ⟨r.b, 13⟩ := by
      have e0 : Sl.endF r.b = (0, 13) := by unfold Sl.endF; rw [if_pos (by rw [h2.1]; exact hn0)]
      unfold Sl.try_
      rw [e0, if_neg (by omega), if_pos (by simp)]
    have hte := RdT.tried (x := (0, 13)) (w' := w.setCell ⟨q, 1, none⟩ (.int .i64 13)) (w1 := w) h1 h2 h3 h4 h5 h6 h7 (fun h => by simp at h) (.inr (.inl ⟨he, by simp, rfl⟩))
    have e2 : Sl.try_ r (0, 13) = ⟨r.b, 13⟩ := by unfold Sl.try_; rw [if_neg (by omega), if_pos (by simp)]
    rw [e2] at hte
    rw [e]
    rw [he] at c1
    have hg : decide (0 < (n : Int)) = true := by simp; omega
    have H := Lib.hid hte
    clear hr' h1 h2 h3 h4 h5 h6 h7 hl hte he e e2
    go_enter Tryd.func34, Tryd.ntmps34
    go_wp2
    go_ret
    exact ⟨rfl, H.out.1, H.out.2.1⟩
  · have e : Sl.try_ r (Sl.endF r.b) = r := by
      unfold Sl.try_
      by_cases h0 : r.e = 0
      · have hz : ¬ 0 < n := fun h => he ⟨h0, h⟩
        have hb : r.b = [] := List.eq_nil_of_length_eq_zero (by rw [h2.1]; omega)
        have e2 : Sl.endF r.b = (0, 0) := by unfold Sl.endF; rw [if_neg (by rw [h2.1]; omega)]
        rw [if_neg (by omega), e2, if_neg (by simp)]
        cases r
        simp only at h0 hb
        subst h0
        rw [hb]
        rfl
      · rw [if_pos h0]
    rw [e]
    have H := Lib.hid hr'
    have hcase : (((r.e : Int) == 0) = true ∧ n = 0) ∨ ((r.e : Int) == 0) = false := by
      by_cases h0 : r.e = 0
      · exact .inl ⟨by rw [h0]; rfl, by have := fun h => he ⟨h0, h⟩; omega⟩
      · right; rw [beq_eq_false_iff_ne]; omega
    clear hr' h1 h2 h3 h4 h5 h6 h7 hl e he
    rcases hcase with ⟨hg, rfl⟩ | hg
    all_goals
      go_enter Tryd.func34, Tryd.ntmps34
      go_wp2
      go_ret
      exact RdToT.same H.out
set_option maxHeartbeats 4000000 in
theorem refRText_any (q : Nat) (r : Sl.R) (F : Nat → Prop) (most : Int) (w : World) (hr : RfAt w q r F) (hm : -9223372036854775808 ≤ most ∧ most ≤ 9223372036854775807) (hl : r.b.length ≤ 140737488351232) :
    Calls Tryd.prog 33 #[.pointer (some ⟨q, 0, none⟩), .int .i64 most] w (RfTo w F q (str (Sl.out r [] (Sl.textF r.b most).1)) (Sl.try_ r (Sl.textF r.b most).2)) := by
  have hr' := hr
  obtain ⟨A, n, c, h1, h2, h3, h4, h5, h6, h7⟩ := hr
  have c0 : w.cell? ⟨q, 0, none⟩ = some (.slice A n c) := h1.cell 0
  have c1 : w.cell? ⟨q, 1, none⟩ = some (.int .i64 r.e) := h1.cell 1
  have f0 := h1.free 0
  have f1 := h1.free 1
  have hn : n ≤ 140737488351232 := by rw [← h2.1]; exact hl
  by_cases he : r.e = 0
  · have hts := refTakeShort_any A n c r.b w h2 hn
    have hb := Num.takeGo_bounds r.b 0 0 (by omega)
    rw [Nat.zero_add, show Num.takeGo 0 0 r.b = Num.takeShort r.b from rfl, h2.1] at hb
    have hnum : Sl.number r.b most = if (Num.takeShort r.b).2.2 ≠ 0 then (0, 0, (Num.takeShort r.b).2.2) else if most < 0 ∨ most < ((Num.takeShort r.b).1 : Int) then (0, 0, 12) else Num.takeShort r.b := rfl
    have htx : Sl.textF r.b most = if (Sl.number r.b most).2.2 ≠ 0 then ([], 0, (Sl.number r.b most).2.2) else if n - (Sl.number r.b most).2.1 < (Sl.number r.b most).1 then ([], 0, 10)
        else ((r.b.drop (Sl.number r.b most).2.1).take (Sl.number r.b most).1, (Sl.number r.b most).2.1 + (Sl.number r.b most).1, 0) := by rw [← h2.1]; rfl
    have hou : Sl.out r [] (Sl.textF r.b most).1 = (Sl.textF r.b most).1 := by unfold Sl.out; rw [if_neg (by omega)]
    rw [hou]
    have htr := fun x hx => RdT.tried (x := x) (w' := w.setCell ⟨q, 0, none⟩ (.slice (subA A c x.1) (n - x.1) (c - x.1))) (w1 := w) h1 h2 h3 h4 h5 h6 h7 (fun _ => hx) 
    have hte := fun x => RdT.tried (x := x) (w' := w.setCell ⟨q, 1, none⟩ (.int .i64 x.2)) (w1 := w) h1 h2 h3 h4 h5 h6 h7 
    generalize Sl.textF r.b most = tx at *
    generalize Sl.number r.b most = t at *
    generalize Num.takeShort r.b = u at *
    obtain ⟨z, k, e⟩ := u
    simp only at hb hnum
    rw [he] at c1
    have H := Lib.hid (And.intro hts (And.intro hr' (And.intro htr (And.intro hte he))))
    clear hts hr' h1 h3 h4 h5 h6 h7 hl htr hte hou
    by_cases hz : e = 0
    · subst hz
      rw [if_neg (by simp)] at hnum
      by_cases hneg : most < 0
      · rw [if_pos (.inl hneg)] at hnum
        subst hnum
        rw [if_pos (by simp)] at htx
        subst htx
        have hg : decide (most < 0) = true := by simpa using hneg
        clear h2 he
        unfold str
        go_enter Tryd.func33, Tryd.ntmps33
        go_wp2_with fail
        refine H.out.1.mono ?_
        rintro e1 w1 ⟨rfl, rfl⟩
        go_wp2
        go_ret
        obtain ⟨hR, hF, _⟩ := H.out.2.2.2.1 (0, 12) (fun h => by simp at h) (.inr (.inl ⟨H.out.2.2.2.2, by simp, by first | rfl | trivial⟩))
        exact ⟨rfl, hR, hF⟩
      · have hg : decide (most < 0) = false := by simpa using hneg
        obtain ⟨m, rfl⟩ := Int.eq_ofNat_of_zero_le (show 0 ≤ most by omega)
        have hz64 := hb.1
        by_cases hmz : m < z
        · rw [if_pos (.inr (by omega))] at hnum
          subst hnum
          rw [if_pos (by simp)] at htx
          subst htx
          have hg2 : decide (m < z) = true := by simpa using hmz
          clear h2 he
          unfold str
          go_enter Tryd.func33, Tryd.ntmps33
          go_wp2_with fail
          refine H.out.1.mono ?_
          rintro e1 w1 ⟨rfl, rfl⟩
          go_wp2
          go_ret
          obtain ⟨hR, hF, _⟩ := H.out.2.2.2.1 (0, 12) (fun h => by simp at h) (.inr (.inl ⟨H.out.2.2.2.2, by simp, by first | rfl | trivial⟩))
          exact ⟨rfl, hR, hF⟩
        · rw [if_neg (by omega)] at hnum
          subst hnum
          rw [if_neg (by simp)] at htx
          simp only at htx
          have hg2 : decide (m < z) = false := by simpa using hmz
          have hkn := hb.2.1
          have hu : IntKind.u64.wrap ((n : Int) - (k : Int)) = ((n - k : Nat) : Int) := by rw [IntKind.wrap_u64]; omega
          by_cases hsh : n - k < z
          · rw [if_pos hsh] at htx
            subst htx
            have hg3 : decide ((n : Int) - (k : Int) < (z : Int)) = true := by simp; omega
            clear h2 he
            unfold str
            go_enter Tryd.func33, Tryd.ntmps33
            go_wp2_with fail
            refine H.out.1.mono ?_
            rintro e1 w1 ⟨rfl, rfl⟩
            go_wp2
            go_ret
            obtain ⟨hR, hF, _⟩ := H.out.2.2.2.1 (0, 10) (fun h => by simp at h) (.inr (.inl ⟨H.out.2.2.2.2, by simp, by first | rfl | trivial⟩))
            exact ⟨rfl, hR, hF⟩
          · rw [if_neg hsh] at htx
            subst htx
            have hg3 : decide ((n : Int) - (k : Int) < (z : Int)) = false := by simp; omega
            have hcut := fun W => cut_lh A n c k (k + z) (k : Int) ((k : Int) + (z : Int)) rfl (by omega) (by omega) (by have := H.out.2.1; obtain ⟨_, _, _, g1, _, g3, _⟩ := this; have := (g1.cell 0).symm.trans c0; simp at this; omega) W
            have hcut2 := fun W => cut_l A n c (k + z) ((k : Int) + (z : Int)) (by omega) (by omega) W
            have hcv := conv_bytes0 (subA_bs h2 c k (k + z) (by omega) (by omega) (by have := H.out.2.1; obtain ⟨_, _, _, g1, _, g3, _⟩ := this; have := (g1.cell 0).symm.trans c0; simp at this; omega)) (c - k) w (fun _ => rfl)
            rw [show k + z - k = z by omega] at hcut hcv
            generalize ((r.b.drop k).take z) = l at *
            clear h2 he
            unfold str at hcv ⊢
            go_enter Tryd.func33, Tryd.ntmps33
            go_wp2_with fail
            refine H.out.1.mono ?_
            rintro e1 w1 ⟨rfl, rfl⟩
            go_wp2
            go_ret
            obtain ⟨hR, hF, _⟩ := H.out.2.2.1 (k + z, 0) (by omega) (.inr (.inr ⟨H.out.2.2.2.2, rfl, by first | rfl | trivial⟩))
            exact ⟨rfl, hR, hF⟩
    · rw [if_pos hz] at hnum
      subst hnum
      rw [if_pos hz] at htx
      subst htx
      have hg : ((e : Int) != 0) = true := by rw [bne_iff_ne]; omega
      have HZ := Lib.hid hz
      clear hz h2 he
      unfold str
      go_enter Tryd.func33, Tryd.ntmps33
      go_wp2_with fail
      refine H.out.1.mono ?_
      rintro e1 w1 ⟨rfl, rfl⟩
      go_wp2
      go_ret
      obtain ⟨hR, hF, _⟩ := H.out.2.2.2.1 (0, e) (fun h => absurd h HZ.out) (.inr (.inl ⟨H.out.2.2.2.2, HZ.out, by first | rfl | trivial⟩))
      exact ⟨rfl, hR, hF⟩
  · have hou : Sl.out r [] (Sl.textF r.b most).1 = [] := by unfold Sl.out; rw [if_pos he]
    have htr : Sl.try_ r (Sl.textF r.b most).2 = r := by unfold Sl.try_; rw [if_pos he]
    rw [hou, htr]
    have hg : ((r.e : Int) != 0) = true := by rw [bne_iff_ne]; omega
    have H := Lib.hid hr'
    clear hr' h1 h2 h3 h4 h5 h6 h7 hl hou htr he
    unfold str
    go_enter Tryd.func33, Tryd.ntmps33
    go_wp2
    go_ret
    exact RdToT.same H.out
/-- the first bytes of a sum -/
theorem sum4_take (c : BitVec 32) (k : Nat) (hk : k < 4) : (Sl.sum4 c).take (k + 1) = (Sl.sum4 c).take k ++ [UInt8.ofNat (c.toNat / 256 ^ k % 256)] := by
  match k, hk with
  | 0, _ => simp [Sl.sum4]
  | 1, _ => simp [Sl.sum4]
  | 2, _ => simp [Sl.sum4]
  | 3, _ => simp [Sl.sum4]
set_option maxHeartbeats 2000000 in
theorem refSumOf_any (A : Option Addr) (n cap : Nat) (bs : List UInt8) (w : World) (hbs : BS w A n bs) (hn : n ≤ 140737488351232) :
    Calls Tryd.prog 41 #[.slice A n cap] w (OwnB 5 w (Sl.sum4 (Crc.sum bs))) := by
  obtain ⟨i0, hi0, hz0, hz1, hz2⟩ := info_parts ninfo8
  have HI := Lib.hid (And.intro hi0 (And.intro hz0 (And.intro hz1 hz2)))
  clear hi0 hz0 hz1 hz2
  have hcr := refSum_any A n cap bs w hbs hn
  generalize Crc.sum bs = c at *
  have hlt := c.isLt
  have H := Lib.hid hcr
  clear hcr hbs
  go_enter Tryd.func41, Tryd.ntmps41
  go_wp2_with fail
  refine H.out.mono ?_
  rintro e w1 ⟨rfl, rfl⟩
  go_wp2
  go_loopw [3, 4, 5] (fun x o i wr => ∃ (k : Nat), k ≤ 4 ∧ i = .int .i64 k ∧ x = .int .u32 ((c.toNat / 256 ^ k : Nat) : Int) ∧ wr.ownsRow w.heap.size 5 1 o k (u8s ((Sl.sum4 c).take k)) ∧ Below w.heap.size w wr) (fun _ _ i _ => 4 - (intOf i).toNat)
  case atStart => exact ⟨0, by omega, rfl, by simp, ⟨rfl, .inl ⟨rfl, rfl⟩⟩, Below.refl _ _⟩
  case round =>
    obtain ⟨k, hk, rfl, rfl, ho, hb⟩ := hrel
    by_cases hlt4 : k < 4
    · have hst := sum4_take c k hlt4
      have hdv : c.toNat / 256 ^ (k + 1) = c.toNat / 256 ^ k / 256 := by rw [Nat.pow_succ, Nat.div_div_eq_div_mul]
      have hdl : c.toNat / 256 ^ k < 4294967296 := Nat.lt_of_le_of_lt (Nat.div_le_self _ _) hlt
      generalize c.toNat / 256 ^ k = d at *
      have hby : ((d : Int) % 256) % 256 = ((UInt8.ofNat (d % 256)).toNat : Int) := by rw [UInt8.toNat_ofNat']; omega
      have hbd : (d : Int) % 256 = ((UInt8.ofNat (d % 256)).toNat : Int) := by rw [UInt8.toNat_ofNat']; omega
      have hb1 := BS.made wr #[Mem.u8 (UInt8.ofNat (d % 256))] 5 (0, 0) [UInt8.ofNat (d % 256)] rfl
      generalize UInt8.ofNat (d % 256) = y at *
      have hbl : Below w.heap.size w (wr.alloc (.cells #[Mem.u8 y] 5)) := hb.alloc hb.size _
      have hoa := own_below ho ((Below.refl _ _).alloc (Nat.le_refl _) (Obj.cells #[Mem.u8 y] 5))
      obtain ⟨A1, c1, rfl⟩ := own_slice ho
      have HR := Lib.hid (And.intro hoa (And.intro hbl (And.intro hst (And.intro hb1 hdv))))
      clear ho hb hst hb1 hdv hoa hbl
      go_wp2_with (at_builtin; refine wpList_append_bs _ rfl _ _ 22 rfl w.heap.size 5 i0 Tryd.underlying22 HI.out.1 HI.out.2.1 HI.out.2.2.1 HI.out.2.2.2 (.slice A1 k c1) k _ rfl HR.out.1 (some ⟨wr.heap.size, 0, none⟩) 1 1 [y] rfl HR.out.2.2.2.1 (by omega) HR.out.2.1.size ?_; intro v' w2 hown hg _; obtain ⟨A2, c2, rfl⟩ := own_slice hown; have H2 := Lib.hid (And.intro hown hg); clear hown hg)
      go_roundw
      case rel =>
        refine ⟨k + 1, by omega, by go_num, by rw [HR.out.2.2.2.2]; rfl, ?_, ?_⟩
        · rw [HR.out.2.2.1, u8s_append]; exact H2.out.1
        · exact grown_below HR.out.2.1 HR.out.1 H2.out.2
      case measure => simp [intOf]; omega
    · obtain rfl : k = 4 := by omega
      rw [show (Sl.sum4 c).take 4 = Sl.sum4 c from List.take_of_length_le (by rw [Sl.sum4_length]; omega)] at ho
      obtain ⟨A1, c1, rfl⟩ := own_slice ho
      have HR := Lib.hid (And.intro ho hb)
      clear ho hb
      go_wp2
      go_ret
      exact ⟨_, rfl, HR.out.1, HR.out.2⟩
/-- bytes of one's own, and an error -/
theorem sealB_len (bs : List UInt8) : (Sl.sealB bs).length = (Sl.textB bs).length + 4 := by rw [Sl.sealB, List.length_append, Sl.sum4_length]
set_option maxHeartbeats 4000000 in
theorem refSeal_any (A : Option Addr) (n cap : Nat) (bs : List UInt8) (w : World) (hbs : BS w A n bs) (hn : n ≤ 140737488351232) :
    Calls Tryd.prog 14 #[.slice A n cap] w (SealP w (Sl.sealE bs)) := by
  unfold Sl.sealE
  rw [hbs.1]
  by_cases hl : 4096 < n
  · rw [if_pos hl]
    clear hbs
    go_enter Tryd.func14, Tryd.ntmps14
    go_wp2
    go_ret2
    exact ⟨_, rfl, ⟨rfl, .inl ⟨rfl, rfl⟩⟩, Below.refl _ _⟩
  · rw [if_neg hl]
    obtain ⟨i0, hi0, hz0, hz1, hz2⟩ := info_parts ninfo8
    have HI := Lib.hid (And.intro hi0 (And.intro hz0 (And.intro hz1 hz2)))
    have hcv := conv_bytes0 hbs cap _ (fun _ => rfl)
    have hlen := hbs.1
    have hlt : (Sl.textB bs).length ≤ 5000 := by
      have := numB_le bs.length
      rw [Sl.textB, List.length_append]
      omega
    have H := Lib.hid (And.intro hlen hlt)
    clear hi0 hz0 hz1 hz2 hbs hlen hlt
    unfold str at hcv
    go_enter Tryd.func14, Tryd.ntmps14
    go_wp2_with fail
    refine (refText_any bs w (by rw [H.out.1]; omega)).mono ?_
    rintro e w1 ⟨v1, rfl, ho1, hb1⟩
    obtain ⟨A1, c1, rfl⟩ := own_slice ho1
    have H1 := Lib.hid (And.intro ho1 hb1)
    clear ho1 hb1 hcv
    go_wp2_with fail
    refine (refSumOf_any A1 _ c1 (Sl.textB bs) w1 (BS.of_own H1.out.1) (by have := H.out.2; omega)).mono ?_
    rintro e w2 ⟨v2, rfl, ho2, hb2⟩
    obtain ⟨A2, c2, rfl⟩ := own_slice ho2
    have H2 := Lib.hid (And.intro (own_below H1.out.1 hb2) (And.intro ho2 (H1.out.2.trans (hb2.mono H1.out.2.size))))
    clear ho2 hb2
    go_wp2_with (at_builtin; refine wpList_append_bs _ rfl _ _ 22 rfl w.heap.size 5 i0 Tryd.underlying22 HI.out.1 HI.out.2.1 HI.out.2.2.1 HI.out.2.2.2 (.slice A1 (Sl.textB bs).length c1) _ _ rfl H2.out.1 A2 (Sl.sum4 (Crc.sum (Sl.textB bs))).length c2 _ rfl (BS.of_own H2.out.2.1) (by have := H.out.2; rw [Sl.sum4_length]; omega) H2.out.2.2.size ?_; intro v' w3 hown hg _)
    go_ret2
    refine ⟨_, rfl, ?_, grown_below H2.out.2.2 H2.out.1 hg⟩
    rw [sealB_len, Sl.sealB, u8s_append]
    exact hown
set_option maxHeartbeats 4000000 in
theorem refOpen_any (A : Option Addr) (n cap : Nat) (bs : List UInt8) (w : World) (hbs : BS w A n bs) (hn : n ≤ 140737488351232) (hnc : n ≤ cap) (hcm : cap ≤ 9223372036854775807) :
    Calls Tryd.prog 16 #[.slice A n cap] w (OpenP w (Sl.openB bs)) := by
  have hlen := hbs.1
  have hle := Sl.textF_le bs 4096
  have hmost := Sl.textF_err bs 4096
  have hslen : (Sl.textF bs 4096).1.length ≤ 100000 := Sl.textF_short bs 4096 (by omega)
  have hR0 : RfAt (w.alloc (.cells #[.slice A n cap, .int .i64 0] 58)) w.heap.size ⟨bs, 0⟩ (fun k => k < w.heap.size + 1) := by
    refine ⟨A, n, cap, Blk.new _ _ _, hbs.below ((Below.refl _ _).alloc (Nat.le_refl _) _), hnc, hcm, by omega, fun a hp e => ?_, fun k hk => by simpa using hk⟩
    obtain ⟨b, off, hA, hlt, _⟩ := hbs.2 hp
    rw [hA] at e
    injection e with e
    subst e
    exact ⟨by simp; omega, by simp; omega⟩
  have hb0 : Below w.heap.size w (w.alloc (.cells #[.slice A n cap, .int .i64 0] 58)) := (Below.refl _ _).alloc (Nat.le_refl _) _
  have hOp : Sl.openB bs = if (Sl.textF bs 4096).2.2 ≠ 0 then ([], 0, (Sl.textF bs 4096).2.2) else if bs.length - (Sl.textF bs 4096).2.1 < 4 then ([], 0, 10)
      else if Sl.sum4 (Crc.sum (bs.take (Sl.textF bs 4096).2.1)) ≠ (bs.drop (Sl.textF bs 4096).2.1).take 4 then ([], 0, 30) else ((Sl.textF bs 4096).1, (Sl.textF bs 4096).2.1 + 4, 0) := rfl
  generalize Sl.openB bs = R at *
  have htx := refRText_any w.heap.size ⟨bs, 0⟩ _ 4096 _ hR0 (by omega) (by rw [hlen]; exact hn)
  have hout : Sl.out (⟨bs, 0⟩ : Sl.R) [] (Sl.textF bs 4096).1 = (Sl.textF bs 4096).1 := rfl
  rw [hout] at htx
  generalize Sl.textF bs 4096 = t at *
  obtain ⟨s, k, er⟩ := t
  simp only at hle hmost hOp hslen htx
  rw [hlen] at hle hOp
  have H := Lib.hid (And.intro htx (And.intro hb0 (And.intro hbs hlen)))
  have HOp := Lib.hid hOp
  clear htx hb0 hbs hlen hout hR0 hOp
  go_enter Tryd.func16, Tryd.ntmps16
  go_wp2_with fail
  refine H.out.1.mono ?_
  rintro e w2 ⟨rfl, hbd, hf2⟩
  have hb2 : Below w.heap.size w w2 := H.out.2.1.trans (hf2.below H.out.2.1.size (fun k e => by omega))
  have hbsw := H.out.2.2.1.below hb2
  have hlen := H.out.2.2.2
  obtain ⟨A2, n2, c2, g1, g2, g3, g4, g5, g6, g7⟩ := id hbd
  have cc0 : w2.cell? ⟨w.heap.size, 0, none⟩ = some (.slice A2 n2 c2) := g1.cell 0
  have cc1 : w2.cell? ⟨w.heap.size, 1, none⟩ = some (.int .i64 (Sl.try_ ⟨bs, 0⟩ (k, er)).e) := g1.cell 1
  have hOp := HOp.out
  clear HOp
  have hqlt := g1.lt
  generalize hqq : w.heap.size = q at cc0 cc1 g1 hqlt ⊢
  have HQ := Lib.hid hqq
  clear hqq
  by_cases he : er = 0
  · subst he
    rw [if_neg (by simp)] at hOp
    have htr : Sl.try_ ⟨bs, 0⟩ (k, 0) = ⟨bs.drop k, 0⟩ := rfl
    rw [htr] at cc1 g2
    simp only at cc1 g2
    have hn2 : n2 = n - k := by rw [← g2.1, List.length_drop, hlen]
    subst hn2
    have H2 := Lib.hid (And.intro g2 (And.intro hb2 (And.intro hbsw (And.intro hlen g1))))
    clear g1 g2 g4 g5 g6 g7 hbd hb2 hbsw hlen htr hf2
    by_cases h4 : n - k < 4
    · rw [if_pos h4] at hOp
      subst hOp
      unfold str
      go_wp2
      go_ret3
      exact openP_nil H2.out.2.1 _ _
    · rw [if_neg h4] at hOp
      unfold str
      have HO := Lib.hid hOp
      clear hOp
      go_wp2
      rw [show ((n : Int) - ((n - k : Nat) : Int)) = (k : Int) by omega]
      have hcutA := fun W => cut_h A n cap k (k : Int) rfl (by omega) W
      have hcutB := fun W => cut_h A2 (n - k) c2 4 4 rfl (by omega) W
      have hBd : BS w2.drew A n bs := ⟨H2.out.2.2.1.1, H2.out.2.2.1.2⟩
      have hBk : BS w2.drew A k (bs.take k) := hBd.take_ k (by omega)
      have hB4 : BS w2.drew A2 4 ((bs.drop k).take 4) := by
        have : BS w2.drew A2 (n - k) (bs.drop k) := ⟨H2.out.1.1, H2.out.1.2⟩
        exact this.take_ 4 (by omega)
      have hk1 : (0 : Int) ≤ (k : Int) := by omega
      have hk4 : (4 : Int) ≤ (c2 : Int) := by omega
      generalize ((bs.drop k).take 4) = l4 at *
      generalize bs.take k = lk at *
      have H3 := Lib.hid (And.intro hBk hB4)
      have hkp : ∀ w3, Below w2.drew.heap.size w2.drew w3 → w3.cell? ⟨q, 0, none⟩ = some (.slice A2 (n - k) c2) := fun w3 hb => (hb.cell (p := ⟨q, 0, none⟩) (H2.out.2.2.2.2.lt)).trans cc0
      have HK := Lib.hid hkp
      clear hBk hBd hB4 hkp
      go_region_held3 (fun w' => w'.cell? ⟨q, 0, none⟩ = some (.slice A2 (n - k) c2)) ((first | assumption | exact cc0 | exact HS3 | exact HS4))
        (first
          | (go_at_call 41; go_must (refine (refSumOf_any A k cap lk _ H3.out.1 (by omega)).mono ?_; rintro e w3 ⟨v3, rfl, ho3, hb3⟩; obtain ⟨A3, c3, rfl⟩ := own_slice ho3; have HS3 := HK.out w3 hb3; have HB3 := Lib.hid (And.intro ho3 hb3); clear ho3 hb3))
          | (go_at_call 17; go_must (refine (same_any A3 A2 _ 4 c3 c2 _ _ _ (BS.of_own HB3.out.1) (H3.out.2.below HB3.out.2) (by simp [Sl.sum4_length]) (by omega)).mono ?_; rintro e w4 ⟨rfl, hd4⟩; have HS4 : w4.cell? ⟨q, 0, none⟩ = some (.slice A2 (n - k) c2) := (hd4.below.cell (p := ⟨q, 0, none⟩) (World.block_lt_of_cell? _ _ HS3)).trans HS3; have HB4 := Lib.hid hd4; clear hd4)))
      have hb4 : Below w.heap.size w w4 := by
        have h2 : Below w.heap.size w w2.drew := ⟨H2.out.2.1.os, H2.out.2.1.tape, H2.out.2.1.output, H2.out.2.1.size, H2.out.2.1.block⟩
        have h3 := h2.trans (HB3.out.2.mono h2.size)
        exact h3.trans (HB4.out.below.mono h3.size)
      have HB := Lib.hid hb4
      clear hb4 HS3 HS4 hcutA hcutB cc0 cc1
      by_cases hsum : Sl.sum4 (Crc.sum lk) = l4
      · have hR := HO.out
        rw [if_neg (fun h => h hsum)] at hR
        subst hR
        rw [decide_eq_true hsum]
        clear HO hsum
        have hcs := conv_str s w4
        unfold str at hcs
        go_wp2
        go_ret3
        exact openP_str s (k + 4) hslen HB.out
      · have hR := HO.out
        rw [if_pos hsum] at hR
        subst hR
        rw [decide_eq_false hsum]
        clear HO hsum
        go_wp2
        go_ret3
        exact openP_nil HB.out 0 30
  · have hne : ((er : Int) != 0) = true := by rw [bne_iff_ne]; omega
    rw [if_pos he] at hOp
    have htr : Sl.try_ ⟨bs, 0⟩ (k, er) = ⟨bs, er⟩ := by unfold Sl.try_; rw [if_neg (by simp), if_pos he]
    rw [htr] at cc1
    simp only at cc1
    subst hOp
    have H2 := Lib.hid hb2
    clear g1 g2 g3 g4 g5 g6 g7 hbd hb2 hbsw hlen htr he hf2
    unfold str
    go_wp2
    go_region
    all_goals go_wp2
    all_goals go_ret3
    all_goals exact openP_nil (w' := w2.drew) ⟨H2.out.os, H2.out.tape, H2.out.output, H2.out.size, H2.out.block⟩ 0 er
end Go.Proofs.YtbghpdfhloalhaaDoor
