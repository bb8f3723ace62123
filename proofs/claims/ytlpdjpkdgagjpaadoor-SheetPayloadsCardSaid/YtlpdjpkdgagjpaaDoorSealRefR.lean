/- The document's layer 3, what is written and read: Num, Text, the reader. -/
import Derived.Test.YtlpdjpkdgagjpaaDoorNumRefs
import Derived.Lib.AppendStr
import Derived.Test.YtlpdjpkdgagjpaaDoorSealRead2
import Derived.Test.YtlpdjpkdgagjpaaDoorSealWrite
namespace Go.Proofs.YtlpdjpkdgagjpaaDoor
open Go.RowKit Mem
set_option linter.unusedVariables false
set_option linter.unusedSimpArgs false

set_option maxHeartbeats 1000000 in
theorem refNum_any (n : Int) (w : World) (hn : -9223372036854775808 ≤ n ∧ n ≤ 9223372036854775807) :
    Calls Tryd.prog 52 #[.int .i64 n] w (OwnB 5 w (Sl.numB n)) := by
  rcases Int.lt_or_le n 0 with h0 | h0
  · rw [numB_neg n h0]
    go_enter Tryd.func52, Tryd.ntmps52
    go_wp2_with fail
    refine (refShort_any 0 w (by omega)).mono ?_
    rintro e w1 ⟨v, rfl, ho, hb⟩
    obtain ⟨A, c, rfl⟩ := own_slice ho
    have H1 := Lib.hid (And.intro ho hb)
    clear ho hb
    go_wp2
    go_ret
    exact ⟨_, rfl, H1.out.1, H1.out.2⟩
  · obtain ⟨m, rfl⟩ := Int.eq_ofNat_of_zero_le h0
    rw [numB_nat m]
    go_enter Tryd.func52, Tryd.ntmps52
    go_wp2_with fail
    refine (refShort_any m w (by omega)).mono ?_
    rintro e w1 ⟨v, rfl, ho, hb⟩
    obtain ⟨A, c, rfl⟩ := own_slice ho
    have H1 := Lib.hid (And.intro ho hb)
    clear ho hb
    go_wp2
    go_ret
    exact ⟨_, rfl, H1.out.1, H1.out.2⟩
theorem strCells_u8s (s : List UInt8) : Lib.strCells ⟨s.toArray⟩ = u8s s := by simp [Lib.strCells, u8s]
theorem own_ge {w : World} {e : TypeId} {size n : Nat} {v : Value} {xs : List Value} {base k : Nat} (h : w.ownsRow base e size v n xs) (hv : v.ownBlock = some k) : base ≤ k := by
  rcases h.2 with ⟨rfl, _⟩ | ⟨g, cap, cur, rfl, hb, _⟩
  · simp [Value.ownBlock] at hv
  · simp [Value.ownBlock] at hv
    omega
theorem grown_below {w w1 w2 : World} {e : TypeId} {size n : Nat} {v : Value} {xs : List Value} (hb : Below w.heap.size w w1) (ho : w1.ownsRow w.heap.size e size v n xs) (hg : w1.grownBy w2 v.ownBlock) : Below w.heap.size w w2 := by
  have hf : Fr (fun k => v.ownBlock = some k) w1 w2 := (Fr.refl _ _).grown hg (fun k e _ => e)
  exact hb.trans (hf.below hb.size (fun k e => own_ge ho e))
set_option maxHeartbeats 1000000 in
theorem refText_any (s : List UInt8) (w : World) (hs : s.length ≤ 140737488351232) :
    Calls Tryd.prog 65 #[str s] w (OwnB 5 w (Sl.textB s)) := by
  obtain ⟨i0, hi0, hz0, hz1, hz2⟩ := info_parts ninfo8
  have HI := Lib.hid (And.intro hi0 (And.intro hz0 (And.intro hz1 hz2)))
  have hl11 := numB_le s.length
  have hsz := ba_size s
  have HS := Lib.hid (And.intro hl11 hsz)
  clear hi0 hz0 hz1 hz2 hl11 hsz
  unfold str
  go_enter Tryd.func65, Tryd.ntmps65
  go_wp2_with fail
  refine (refNum_any s.length w (by omega)).mono ?_
  rintro e w1 ⟨v, rfl, ho, hb⟩
  obtain ⟨A, c, rfl⟩ := own_slice ho
  have H1 := Lib.hid (And.intro ho hb)
  clear ho hb
  go_wp2_with (at_builtin; refine Lib.wpList_append_own_string _ rfl _ _ 38 9 rfl w.heap.size 5 i0 Tryd.underlying38 Tryd.underlying9 HI.out.1 HI.out.2.1 HI.out.2.2.1 HI.out.2.2.2 (.slice A (Sl.numB s.length).length c) _ _ rfl H1.out.1 ⟨s.toArray⟩ rfl (by rw [HS.out.2]; have := HS.out.1; unfold maxLen; omega) (by rw [HS.out.2]; have := HS.out.1; omega) H1.out.2.size ?_; intro v' w2 hown hg _)
  go_ret
  refine ⟨v', rfl, ?_, grown_below H1.out.2 H1.out.1 hg⟩
  rw [strCells_u8s, ← u8s_append, HS.out.2] at hown
  rw [show (Sl.textB s).length = (Sl.numB s.length).length + s.length by rw [Sl.textB, List.length_append]]
  exact hown

abbrev RfAt := RdT 121
abbrev RfTo := RdToT 121
section
variable {w w' : World} {q : Nat} {r : Sl.R} {F : Nat → Prop} {T : TypeId} {v : Value}
theorem RdToT.same (h : RdT T w q r F) : RdToT T w F q v r (.returned v) w := ⟨rfl, h, Fr.refl _ _⟩
end
set_option maxHeartbeats 2000000 in
theorem refRNum_any (q : Nat) (r : Sl.R) (F : Nat → Prop) (most : Int) (w : World) (hr : RfAt w q r F) (hm : -9223372036854775808 ≤ most ∧ most ≤ 9223372036854775807) (hl : r.b.length ≤ 140737488351232) :
    Calls Tryd.prog 61 #[.pointer (some ⟨q, 0, none⟩), .int .i64 most] w (RfTo w F q (.int .i64 ((Sl.out r 0 (Sl.number r.b most).1 : Nat) : Int)) (Sl.try_ r (Sl.number r.b most).2)) := by
  have hr' := hr
  obtain ⟨A, n, c, h1, h2, h3, h4, h5, h6, h7⟩ := hr
  have c0 : w.cell? ⟨q, 0, none⟩ = some (.slice A n c) := h1.cell 0
  have c1 : w.cell? ⟨q, 1, none⟩ = some (.int .i64 r.e) := h1.cell 1
  have f0 := h1.free 0
  have f1 := h1.free 1
  have hn : n ≤ 140737488351232 := by rw [← h2.1]; exact hl
  by_cases he : r.e = 0
  · have hts := refTakeShort_any A n c r.b w h2 hn
    have hb := Num.takeGo_bounds r.b 0 0 (by omega)
    rw [Nat.zero_add, show Num.takeGo 0 0 r.b = Num.takeShort r.b from rfl, h2.1] at hb
    have hnum : Sl.number r.b most = if (Num.takeShort r.b).2.2 ≠ 0 then (0, 0, (Num.takeShort r.b).2.2) else if most < 0 ∨ most < ((Num.takeShort r.b).1 : Int) then (0, 0, 12) else Num.takeShort r.b := rfl
    have hou : Sl.out r 0 (Sl.number r.b most).1 = (Sl.number r.b most).1 := by unfold Sl.out; rw [if_neg (by omega)]
    rw [hou]
    have htr := fun x hx => RdT.tried (x := x) (w' := w.setCell ⟨q, 0, none⟩ (.slice (subA A c x.1) (n - x.1) (c - x.1))) (w1 := w) h1 h2 h3 h4 h5 h6 h7 (fun _ => hx) 
    have hte := fun x => RdT.tried (x := x) (w' := w.setCell ⟨q, 1, none⟩ (.int .i64 x.2)) (w1 := w) h1 h2 h3 h4 h5 h6 h7 
    generalize Sl.number r.b most = t at *
    generalize Num.takeShort r.b = u at *
    obtain ⟨z, k, e⟩ := u
    simp only at hb hnum
    rw [he] at c1
    have H := Lib.hid (And.intro hts (And.intro hr' (And.intro htr (And.intro hte he))))
    clear hts hr' h1 h2 h3 h4 h5 h6 h7 hl htr hte he hou
    by_cases hz : e = 0
    · subst hz
      rw [if_neg (by simp)] at hnum
      by_cases hneg : most < 0
      · rw [if_pos (.inl hneg)] at hnum
        subst hnum
        have hg : decide (most < 0) = true := by simpa using hneg
        go_enter Tryd.func61, Tryd.ntmps61
        go_wp2_with fail
        refine H.out.1.mono ?_
        rintro e1 w1 ⟨rfl, rfl⟩
        go_wp2
        go_ret
        obtain ⟨hR, hF, _⟩ := H.out.2.2.2.1 (0, 12) (fun h => by simp at h) (.inr (.inl ⟨H.out.2.2.2.2, by simp, by first | rfl | trivial⟩))
        exact ⟨rfl, hR, hF⟩
      · have hg : decide (most < 0) = false := by simpa using hneg
        obtain ⟨m, rfl⟩ := Int.eq_ofNat_of_zero_le (show 0 ≤ most by omega)
        have hz64 := hb.1
        by_cases hmz : m < z
        · rw [if_pos (.inr (by omega))] at hnum
          subst hnum
          have hg2 : decide (m < z) = true := by simpa using hmz
          go_enter Tryd.func61, Tryd.ntmps61
          go_wp2_with fail
          refine H.out.1.mono ?_
          rintro e1 w1 ⟨rfl, rfl⟩
          go_wp2
          go_ret
          obtain ⟨hR, hF, _⟩ := H.out.2.2.2.1 (0, 12) (fun h => by simp at h) (.inr (.inl ⟨H.out.2.2.2.2, by simp, by first | rfl | trivial⟩))
          exact ⟨rfl, hR, hF⟩
        · rw [if_neg (by omega)] at hnum
          subst hnum
          have hg2 : decide (m < z) = false := by simpa using hmz
          have hcut := fun W => cut_l A n c k k rfl hb.2.1 W
          go_enter Tryd.func61, Tryd.ntmps61
          go_wp2_with fail
          refine H.out.1.mono ?_
          rintro e1 w1 ⟨rfl, rfl⟩
          go_wp2
          go_ret
          obtain ⟨hR, hF, _⟩ := H.out.2.2.1 (k, 0) hb.2.1 (.inr (.inr ⟨H.out.2.2.2.2, rfl, by first | rfl | trivial⟩))
          exact ⟨rfl, hR, hF⟩
    · rw [if_pos hz] at hnum
      subst hnum
      have hg : ((e : Int) != 0) = true := by rw [bne_iff_ne]; omega
      have HZ := Lib.hid hz
      clear hz
      go_enter Tryd.func61, Tryd.ntmps61
      go_wp2_with fail
      refine H.out.1.mono ?_
      rintro e1 w1 ⟨rfl, rfl⟩
      go_wp2
      go_ret
      obtain ⟨hR, hF, _⟩ := H.out.2.2.2.1 (0, e) (fun h => absurd h HZ.out) (.inr (.inl ⟨H.out.2.2.2.2, HZ.out, by first | rfl | trivial⟩))
      exact ⟨rfl, hR, hF⟩
  · have hou : Sl.out r 0 (Sl.number r.b most).1 = 0 := by unfold Sl.out; rw [if_pos he]
    have htr : Sl.try_ r (Sl.number r.b most).2 = r := by unfold Sl.try_; rw [if_pos he]
    rw [hou, htr]
    have hg : ((r.e : Int) != 0) = true := by rw [bne_iff_ne]; omega
    have H := Lib.hid hr'
    clear hr' h1 h2 h3 h4 h5 h6 h7 hl hou htr he
    go_enter Tryd.func61, Tryd.ntmps61
    go_wp2
    go_ret
    exact RdToT.same H.out
set_option maxHeartbeats 2000000 in
theorem refREnd_any (q : Nat) (r : Sl.R) (F : Nat → Prop) (w : World) (hr : RfAt w q r F) (hl : r.b.length ≤ 140737488351232) :
    Calls Tryd.prog 62 #[.pointer (some ⟨q, 0, none⟩)] w (RfTo w F q (.int .i64 ((Sl.try_ r (Sl.endF r.b)).e : Nat)) (Sl.try_ r (Sl.endF r.b))) := by
  have hr' := hr
  obtain ⟨A, n, c, h1, h2, h3, h4, h5, h6, h7⟩ := hr
  have c0 : w.cell? ⟨q, 0, none⟩ = some (.slice A n c) := h1.cell 0
  have c1 : w.cell? ⟨q, 1, none⟩ = some (.int .i64 r.e) := h1.cell 1
  have f1 := h1.free 1
  have hn : n ≤ 140737488351232 := by rw [← h2.1]; exact hl
  by_cases he : r.e = 0 ∧ 0 < n
  · obtain ⟨he, hn0⟩ := he
    have e : Sl.try_ r (Sl.endF r.b) = ⟨r.b, 13⟩ := by
      have e0 : Sl.endF r.b = (0, 13) := by unfold Sl.endF; rw [if_pos (by rw [h2.1]; exact hn0)]
      unfold Sl.try_
      rw [e0, if_neg (by omega), if_pos (by simp)]
    have hte := RdT.tried (x := (0, 13)) (w' := w.setCell ⟨q, 1, none⟩ (.int .i64 13)) (w1 := w) h1 h2 h3 h4 h5 h6 h7 (fun h => by simp at h) (.inr (.inl ⟨he, by simp, rfl⟩))
    have e2 : Sl.try_ r (0, 13) = ⟨r.b, 13⟩ := by unfold Sl.try_; rw [if_neg (by omega), if_pos (by simp)]
    rw [e2] at hte
    rw [e]
    rw [he] at c1
    have hg : decide (0 < (n : Int)) = true := by simp; omega
    have H := Lib.hid hte
    clear hr' h1 h2 h3 h4 h5 h6 h7 hl hte he e e2
    go_enter Tryd.func62, Tryd.ntmps62
    go_wp2
    go_ret
    exact ⟨rfl, H.out.1, H.out.2.1⟩
  · have e : Sl.try_ r (Sl.endF r.b) = r := by
      unfold Sl.try_
      by_cases h0 : r.e = 0
      · have hz : ¬ 0 < n := fun h => he ⟨h0, h⟩
        have hb : r.b = [] := List.eq_nil_of_length_eq_zero (by rw [h2.1]; omega)
        have e2 : Sl.endF r.b = (0, 0) := by unfold Sl.endF; rw [if_neg (by rw [h2.1]; omega)]
        rw [if_neg (by omega), e2, if_neg (by simp)]
        cases r
        simp only at h0 hb
        subst h0
        rw [hb]
        rfl
      · rw [if_pos h0]
    rw [e]
    have H := Lib.hid hr'
    have hcase : (((r.e : Int) == 0) = true ∧ n = 0) ∨ ((r.e : Int) == 0) = false := by
      by_cases h0 : r.e = 0
      · exact .inl ⟨by rw [h0]; rfl, by have := fun h => he ⟨h0, h⟩; omega⟩
      · right; rw [beq_eq_false_iff_ne]; omega
    clear hr' h1 h2 h3 h4 h5 h6 h7 hl e he
    rcases hcase with ⟨hg, rfl⟩ | hg
    all_goals
      go_enter Tryd.func62, Tryd.ntmps62
      go_wp2
      go_ret
      exact RdToT.same H.out
set_option maxHeartbeats 4000000 in
theorem refRText_any (q : Nat) (r : Sl.R) (F : Nat → Prop) (most : Int) (w : World) (hr : RfAt w q r F) (hm : -9223372036854775808 ≤ most ∧ most ≤ 9223372036854775807) (hl : r.b.length ≤ 140737488351232) :
    Calls Tryd.prog 86 #[.pointer (some ⟨q, 0, none⟩), .int .i64 most] w (RfTo w F q (str (Sl.out r [] (Sl.textF r.b most).1)) (Sl.try_ r (Sl.textF r.b most).2)) := by
  have hr' := hr
  obtain ⟨A, n, c, h1, h2, h3, h4, h5, h6, h7⟩ := hr
  have c0 : w.cell? ⟨q, 0, none⟩ = some (.slice A n c) := h1.cell 0
  have c1 : w.cell? ⟨q, 1, none⟩ = some (.int .i64 r.e) := h1.cell 1
  have f0 := h1.free 0
  have f1 := h1.free 1
  have hn : n ≤ 140737488351232 := by rw [← h2.1]; exact hl
  by_cases he : r.e = 0
  · have hts := refTakeShort_any A n c r.b w h2 hn
    have hb := Num.takeGo_bounds r.b 0 0 (by omega)
    rw [Nat.zero_add, show Num.takeGo 0 0 r.b = Num.takeShort r.b from rfl, h2.1] at hb
    have hnum : Sl.number r.b most = if (Num.takeShort r.b).2.2 ≠ 0 then (0, 0, (Num.takeShort r.b).2.2) else if most < 0 ∨ most < ((Num.takeShort r.b).1 : Int) then (0, 0, 12) else Num.takeShort r.b := rfl
    have htx : Sl.textF r.b most = if (Sl.number r.b most).2.2 ≠ 0 then ([], 0, (Sl.number r.b most).2.2) else if n - (Sl.number r.b most).2.1 < (Sl.number r.b most).1 then ([], 0, 10)
        else ((r.b.drop (Sl.number r.b most).2.1).take (Sl.number r.b most).1, (Sl.number r.b most).2.1 + (Sl.number r.b most).1, 0) := by rw [← h2.1]; rfl
    have hou : Sl.out r [] (Sl.textF r.b most).1 = (Sl.textF r.b most).1 := by unfold Sl.out; rw [if_neg (by omega)]
    rw [hou]
    have htr := fun x hx => RdT.tried (x := x) (w' := w.setCell ⟨q, 0, none⟩ (.slice (subA A c x.1) (n - x.1) (c - x.1))) (w1 := w) h1 h2 h3 h4 h5 h6 h7 (fun _ => hx) 
    have hte := fun x => RdT.tried (x := x) (w' := w.setCell ⟨q, 1, none⟩ (.int .i64 x.2)) (w1 := w) h1 h2 h3 h4 h5 h6 h7 
    generalize Sl.textF r.b most = tx at *
    generalize Sl.number r.b most = t at *
    generalize Num.takeShort r.b = u at *
    obtain ⟨z, k, e⟩ := u
    simp only at hb hnum
    rw [he] at c1
    have H := Lib.hid (And.intro hts (And.intro hr' (And.intro htr (And.intro hte he))))
    clear hts hr' h1 h3 h4 h5 h6 h7 hl htr hte hou
    by_cases hz : e = 0
    · subst hz
      rw [if_neg (by simp)] at hnum
      by_cases hneg : most < 0
      · rw [if_pos (.inl hneg)] at hnum
        subst hnum
        rw [if_pos (by simp)] at htx
        subst htx
        have hg : decide (most < 0) = true := by simpa using hneg
        clear h2 he
        unfold str
        go_enter Tryd.func86, Tryd.ntmps86
        go_wp2_with fail
        refine H.out.1.mono ?_
        rintro e1 w1 ⟨rfl, rfl⟩
        go_wp2
        go_ret
        obtain ⟨hR, hF, _⟩ := H.out.2.2.2.1 (0, 12) (fun h => by simp at h) (.inr (.inl ⟨H.out.2.2.2.2, by simp, by first | rfl | trivial⟩))
        exact ⟨rfl, hR, hF⟩
      · have hg : decide (most < 0) = false := by simpa using hneg
        obtain ⟨m, rfl⟩ := Int.eq_ofNat_of_zero_le (show 0 ≤ most by omega)
        have hz64 := hb.1
        by_cases hmz : m < z
        · rw [if_pos (.inr (by omega))] at hnum
          subst hnum
          rw [if_pos (by simp)] at htx
          subst htx
          have hg2 : decide (m < z) = true := by simpa using hmz
          clear h2 he
          unfold str
          go_enter Tryd.func86, Tryd.ntmps86
          go_wp2_with fail
          refine H.out.1.mono ?_
          rintro e1 w1 ⟨rfl, rfl⟩
          go_wp2
          go_ret
          obtain ⟨hR, hF, _⟩ := H.out.2.2.2.1 (0, 12) (fun h => by simp at h) (.inr (.inl ⟨H.out.2.2.2.2, by simp, by first | rfl | trivial⟩))
          exact ⟨rfl, hR, hF⟩
        · rw [if_neg (by omega)] at hnum
          subst hnum
          rw [if_neg (by simp)] at htx
          simp only at htx
          have hg2 : decide (m < z) = false := by simpa using hmz
          have hkn := hb.2.1
          have hu : IntKind.u64.wrap ((n : Int) - (k : Int)) = ((n - k : Nat) : Int) := by rw [IntKind.wrap_u64]; omega
          by_cases hsh : n - k < z
          · rw [if_pos hsh] at htx
            subst htx
            have hg3 : decide ((n : Int) - (k : Int) < (z : Int)) = true := by simp; omega
            clear h2 he
            unfold str
            go_enter Tryd.func86, Tryd.ntmps86
            go_wp2_with fail
            refine H.out.1.mono ?_
            rintro e1 w1 ⟨rfl, rfl⟩
            go_wp2
            go_ret
            obtain ⟨hR, hF, _⟩ := H.out.2.2.2.1 (0, 10) (fun h => by simp at h) (.inr (.inl ⟨H.out.2.2.2.2, by simp, by first | rfl | trivial⟩))
            exact ⟨rfl, hR, hF⟩
          · rw [if_neg hsh] at htx
            subst htx
            have hg3 : decide ((n : Int) - (k : Int) < (z : Int)) = false := by simp; omega
            have hcut := fun W => cut_lh A n c k (k + z) (k : Int) ((k : Int) + (z : Int)) rfl (by omega) (by omega) (by have := H.out.2.1; obtain ⟨_, _, _, g1, _, g3, _⟩ := this; have := (g1.cell 0).symm.trans c0; simp at this; omega) W
            have hcut2 := fun W => cut_l A n c (k + z) ((k : Int) + (z : Int)) (by omega) (by omega) W
            have hcv := conv_bytes0 (subA_bs h2 c k (k + z) (by omega) (by omega) (by have := H.out.2.1; obtain ⟨_, _, _, g1, _, g3, _⟩ := this; have := (g1.cell 0).symm.trans c0; simp at this; omega)) (c - k) w (fun _ => rfl)
            rw [show k + z - k = z by omega] at hcut hcv
            generalize ((r.b.drop k).take z) = l at *
            clear h2 he
            unfold str at hcv ⊢
            go_enter Tryd.func86, Tryd.ntmps86
            go_wp2_with fail
            refine H.out.1.mono ?_
            rintro e1 w1 ⟨rfl, rfl⟩
            go_wp2
            go_ret
            obtain ⟨hR, hF, _⟩ := H.out.2.2.1 (k + z, 0) (by omega) (.inr (.inr ⟨H.out.2.2.2.2, rfl, by first | rfl | trivial⟩))
            exact ⟨rfl, hR, hF⟩
    · rw [if_pos hz] at hnum
      subst hnum
      rw [if_pos hz] at htx
      subst htx
      have hg : ((e : Int) != 0) = true := by rw [bne_iff_ne]; omega
      have HZ := Lib.hid hz
      clear hz h2 he
      unfold str
      go_enter Tryd.func86, Tryd.ntmps86
      go_wp2_with fail
      refine H.out.1.mono ?_
      rintro e1 w1 ⟨rfl, rfl⟩
      go_wp2
      go_ret
      obtain ⟨hR, hF, _⟩ := H.out.2.2.2.1 (0, e) (fun h => absurd h HZ.out) (.inr (.inl ⟨H.out.2.2.2.2, HZ.out, by first | rfl | trivial⟩))
      exact ⟨rfl, hR, hF⟩
  · have hou : Sl.out r [] (Sl.textF r.b most).1 = [] := by unfold Sl.out; rw [if_pos he]
    have htr : Sl.try_ r (Sl.textF r.b most).2 = r := by unfold Sl.try_; rw [if_pos he]
    rw [hou, htr]
    have hg : ((r.e : Int) != 0) = true := by rw [bne_iff_ne]; omega
    have H := Lib.hid hr'
    clear hr' h1 h2 h3 h4 h5 h6 h7 hl hou htr he
    unfold str
    go_enter Tryd.func86, Tryd.ntmps86
    go_wp2
    go_ret
    exact RdToT.same H.out
end Go.Proofs.YtlpdjpkdgagjpaaDoor
