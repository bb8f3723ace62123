/- The bodies of sheets. -/
import Derived.Test.YtlpdjpkdgagjpaaDoorSheetBegins
import Derived.Test.YtlpdjpkdgagjpaaDoorSheetLayM
namespace Go.Proofs.YtlpdjpkdgagjpaaDoor
open Go.RowKit Mem Lift
set_option linter.unusedVariables false
set_option linter.unusedSimpArgs false
set_option maxRecDepth 100000

theorem ba_extract' (s : List UInt8) (i j : Nat) : (⟨s.toArray⟩ : ByteArray).extract i j = ⟨((s.drop i).take (j - i)).toArray⟩ := by
  apply ByteArray.ext
  simp [ByteArray.data_extract]
section
variable {P : Program}
theorem bslice_to (t : TypeId) (ht : P.underlying t = some .string) (s : List UInt8) (B : ByteArray) (hB : B = ⟨s.toArray⟩) (c : Nat) (x : Int) (hx : x = (c : Int)) (hc : c ≤ s.length) (w : World) : (Instr.slice t (.string B) none (some (.int .i64 x)) none).run P w = .ok (.string ⟨(s.take c).toArray⟩) w := by
  subst hB hx
  rw [run_slice_string_to_if w t _ .i64 (c : Int) ht, ba_size, if_pos (by omega), ba_extract']
  simp
theorem bslice_from (t : TypeId) (ht : P.underlying t = some .string) (s : List UInt8) (B : ByteArray) (hB : B = ⟨s.toArray⟩) (c : Nat) (x : Int) (hx : x = (c : Int)) (hc : c ≤ s.length) (w : World) : (Instr.slice t (.string B) (some (.int .i64 x)) none none).run P w = .ok (.string ⟨(s.drop c).toArray⟩) w := by
  subst hB hx
  rw [run_slice_string_from_if w t _ .i64 (c : Int) ht, ba_size, if_pos (by omega), ba_extract', List.take_of_length_le (by simp)]
  simp
end
abbrev sdCells (s : Sh.Sd) : Array Value := #[.int .i64 s.inc, .int .i64 s.pos, .int .i64 s.first, .string ⟨s.data.toArray⟩]
/-- a sheet in memory -/
def sheetK : Kind_ Sh.Sd where
  zero := Sh.sd0
  k := 4
  cells := fun s => [.int .i64 s.inc, .int .i64 s.pos, .int .i64 s.first, .string ⟨s.data.toArray⟩]
  ok := fun _ s => s.data.length ≤ 242
  keep := fun h _ => h
theorem sheetK_len : ∀ x, (sheetK.cells x).length = sheetK.k := fun _ => rfl
theorem sheetK_one : ∀ x, ∀ u ∈ sheetK.cells x, u.oneCell' = true := by
  intro x u hu
  simp only [sheetK, List.mem_cons, List.not_mem_nil, or_false] at hu
  rcases hu with rfl | rfl | rfl | rfl <;> rfl
theorem sheet_at {w : World} {A : Option Addr} {n : Nat} {l : List Sh.Sd} (h : ST sheetK w A n l) {i : Nat} (hi : i < n) : ∃ b off, A = some ⟨b, off, none⟩ ∧ b < w.heap.size ∧ w.cell? ⟨b, off + i * 4, none⟩ = some (.int .i64 (l.getD i Sh.sd0).inc) ∧ w.cell? ⟨b, off + i * 4 + 1, none⟩ = some (.int .i64 (l.getD i Sh.sd0).pos) ∧ w.cell? ⟨b, off + i * 4 + 2, none⟩ = some (.int .i64 (l.getD i Sh.sd0).first) ∧ w.cell? ⟨b, off + i * 4 + 3, none⟩ = some (.string ⟨(l.getD i Sh.sd0).data.toArray⟩) ∧ (l.getD i Sh.sd0).data.length ≤ 242 := by
  obtain ⟨b, off, e, hb, hc, ho⟩ := h.at_ hi
  exact ⟨b, off, e, hb, hc 0 (by decide), hc 1 (by decide), hc 2 (by decide), hc 3 (by decide), ho⟩
namespace Sh
def heads (l : List Sd) : List (Int × List UInt8) := l.map fun s => (s.first, s.data)
theorem step_is (f : F) {p : Nat} {xd : List UInt8} (hp : p ≤ xd.length) (i : Nat) : step f ((p : Int), xd) i = if (goesOn f (xd.take p)).2 = false then ((goesOn f (xd.take p)).1, false) else begins (goesOn f (xd.take p)).1 (xd.drop p) i := by
  have hc : cutAt (p : Int) xd.length = p := by
    unfold cutAt
    rw [if_pos (isF_nat hp)]
    omega
  unfold step
  simp only [hc]
  rw [if_pos (isF_nat hp)]
theorem step_not (f : F) {xf : Int} {xd : List UInt8} (h : isF xf xd.length = false) (i : Nat) : step f (xf, xd) i = goesOn f xd := by
  have hc : cutAt xf xd.length = xd.length := by
    unfold cutAt
    rw [if_neg (by rw [h]; decide)]
  unfold step
  simp only [hc, List.take_length]
  rw [if_neg (c := isF xf xd.length = true) (by rw [h]; decide)]
  generalize goesOn f xd = G
  obtain ⟨g, b⟩ := G
  cases b <;> rfl
def findR (l : List Sd) : F := (find ⟨[], [], 0, false⟩ (heads l) 0).1
end Sh
/-- what is found, in a row of the call's own -/
def FindP (w0 : World) (l : List (List UInt8 × Nat)) (e : Ending) (w' : World) : Prop := ∃ A c, e = .returned (.slice A l.length c) ∧ w'.ownsRow w0.heap.size 76 2 (.slice A l.length c) l.length (rowOf foundK l) ∧ Below w0.heap.size w0 w'
theorem RS.bytes (w : World) (s : List UInt8) (hs : s.length ≤ 100000) : RS (Lib.bytesWorld w 5 ⟨s.toArray⟩) (some ⟨w.heap.size, 0, none⟩) s.length (grownCap w s.length 0 5) s := by
  refine ⟨bytesWorld_bs w _ s, grownCap_ge _ _ _ _, ?_, fun a e => ?_⟩
  · have := grownCap_le_maxLen w s.length 0 5 (by unfold maxLen; omega)
    simpa [maxLen] using this
  · injection e with e
    subst e
    have h1 := Lib.bytesWorld_at_new w 5 ⟨s.toArray⟩
    exact ⟨_, _, h1⟩
set_option maxHeartbeats 4000000 in
theorem find_any (A : Option Addr) (n c : Nat) (l : List Sh.Sd) (w : World) (hl : ST sheetK w A n l) (hn : n ≤ 3000) (ht : Half w) :
    Calls Tryd.prog 22 #[.slice A n c] w (FindP w (Sh.findR l).out) := by
  have hq0 : FnIn w.heap.size w.heap.size ⟨[], [], 0, false⟩ none 0 none 0 (w.alloc (.cells #[.slice none 0 0, .slice none 0 0, .int .i64 0, .bool false] 81)) :=
    ⟨Blk.new _ _ _, own_nilK _, own_nilK _, Nat.le_refl _⟩
  have hb0 : Below w.heap.size w (w.alloc (.cells #[.slice none 0 0, .slice none 0 0, .int .i64 0, .bool false] 81)) := (Below.refl _ _).alloc (Nat.le_refl _) _
  have hR : Sh.findR l = (Sh.find ⟨[], [], 0, false⟩ ((Sh.heads l).drop 0) 0).1 := rfl
  generalize Sh.findR l = R at *
  have H := Lib.hid (And.intro hl (And.intro hl.len (And.intro ht (And.intro hq0 (And.intro hb0 hR)))))
  clear hl ht hq0 hb0 hR
  go_enter Tryd.func22, Tryd.ntmps22
  go_wp2_with fail
  generalize w.alloc (.cells #[.slice none 0 0, .slice none 0 0, .int .i64 0, .bool false] 81) = w1 at *
  go_loopw [10] (fun s10 wr => ∃ (k : Nat) (g : Sh.F), k ≤ n ∧ s10 = .int .i64 k ∧ FnA w.heap.size w.heap.size g wr ∧ Below w.heap.size w wr ∧ g.out.length ≤ 243 * k ∧ g.way.length ≤ 242 * k ∧ R = (Sh.find g ((Sh.heads l).drop k) k).1) (fun s10 _ => n - (intOf s10).toNat)
  case atStart => exact ⟨0, _, by omega, rfl, ⟨_, _, _, _, H.out.2.2.2.1⟩, H.out.2.2.2.2.1, Nat.zero_le _, Nat.zero_le _, H.out.2.2.2.2.2⟩
  case round =>
    obtain ⟨k, g, hk, rfl, hg, hbw, hgo, hgw, hRk⟩ := hrel
    by_cases hlt : k < n
    · have hkn : (k : Int) < (n : Int) := by omega
      obtain ⟨b, off, rfl, hbl, c0, c1, c2, c3, hxl⟩ := sheet_at (H.out.1.below hbw) hlt
      have hdrop : (Sh.heads l).drop k = ((l.getD k Sh.sd0).first, (l.getD k Sh.sd0).data) :: (Sh.heads l).drop (k + 1) := by
        have hkl : k < l.length := by rw [H.out.2.1]; exact hlt
        unfold Sh.heads
        rw [List.drop_eq_getElem_cons (by simpa using hkl), List.getElem_map, List.getD_eq_getElem?_getD, List.getElem?_eq_getElem hkl]
        rfl
      rw [hdrop, Sh.find] at hRk
      clear hdrop
      generalize l.getD k Sh.sd0 = x at *
      obtain ⟨xi, xp, xf, xd⟩ := x
      simp only at c0 c1 c2 c3 hxl hRk
      obtain ⟨B, hB⟩ : ∃ B : ByteArray, B = ⟨xd.toArray⟩ := ⟨_, rfl⟩
      rw [← hB] at c3
      have hBs : B.size = xd.length := by rw [hB]; exact ba_size xd
      have hsl := Sh.step_len g (xf, xd) k
      have hgl := Sh.goesOn_len g (xd.take (Sh.cutAt xf xd.length))
      have hcl := Sh.cut_le xf xd.length
      have HL := Lib.hid (And.intro hB (And.intro hBs (And.intro hsl (And.intro hgl hxl))))
      have HG := Lib.hid (And.intro hg (And.intro hbw hRk))
      have hB242 : (B.size : Int) ≤ 242 := by omega
      clear hB hBs hsl hg hbw hRk hgl hcl hxl
      have hsb : Blk (wr.alloc (.cells #[.int .i64 xi, .int .i64 xp, .int .i64 xf, .string B] 47)) wr.heap.size 47 #[.int .i64 xi, .int .i64 xp, .int .i64 xf, .string B] := Blk.new _ _ _
      have hbs0 : Below wr.heap.size wr (wr.alloc (.cells #[.int .i64 xi, .int .i64 xp, .int .i64 xf, .string B] 47)) := (Below.refl _ _).alloc (Nat.le_refl _) _
      have hfa : FnA w.heap.size w.heap.size g (wr.alloc (.cells #[.int .i64 xi, .int .i64 xp, .int .i64 xf, .string B] 47)) := by
        obtain ⟨_, _, _, _, h⟩ := HG.out.1
        exact ⟨_, _, _, _, h.below hbs0⟩
      have hbb : Below w.heap.size w (wr.alloc (.cells #[.int .i64 xi, .int .i64 xp, .int .i64 xf, .string B] 47)) := HG.out.2.1.trans (hbs0.mono HG.out.2.1.size)
      have HS := Lib.hid (And.intro hsb (And.intro hfa hbb))
      clear hsb hbs0 hfa hbb
      by_cases his : 0 ≤ xf ∧ xf ≤ (B.size : Int)
      · obtain ⟨h0, h1⟩ := his
        obtain ⟨p, rfl⟩ := Int.eq_ofNat_of_zero_le h0
        have hp : p ≤ xd.length := by have := HL.out.2.1; omega
        have hto := fun W => bslice_to (P := Tryd.prog) 9 Tryd.underlying9 xd B HL.out.1 p (p : Int) rfl hp W
        have hfr := fun W => bslice_from (P := Tryd.prog) 9 Tryd.underlying9 xd B HL.out.1 p (p : Int) rfl hp W
        have hpi : ((p : Int) ≤ (B.size : Int)) := h1
        have hst := Sh.step_is g hp k
        have hG := goesOn_any w w.heap.size g (xd.take p) _ H.out.2.2.1 HS.out.2.2 HS.out.2.1 (by have := HL.out.2.2.2.2; rw [List.length_take]; omega) (by omega)
        have hgl := Sh.goesOn_len g (xd.take p)
        rw [List.length_take] at hgl
        generalize Sh.goesOn g (xd.take p) = G at *
        obtain ⟨g1, ok⟩ := G
        simp only at hst hgl
        have HST := Lib.hid hst
        have HGC := Lib.hid hG
        clear hst hG
        go_upto_region 9 with fail
        go_wp2_with fail
        refine HGC.out.mono ?_
        rintro e w2 ⟨⟨rfl, hf2, hb2⟩, hty2⟩
        simp only
        have hs2 : Blk w2 wr.heap.size 47 #[.int .i64 xi, .int .i64 xp, .int .i64 (p : Int), .string B] := (hty2 _ _ _ HS.out.1).trans HS.out.1
        have d3 : w2.cell? ⟨wr.heap.size, 3, none⟩ = some (.string B) := hs2.cell 3
        have H2 := Lib.hid (And.intro hf2 hb2)
        clear hf2 hb2 hty2 hs2
        cases ok with
        | false =>
          have hR2 : R = g1 := by
            have h1 := HG.out.2.2
            rw [HST.out] at h1
            simpa using h1
          obtain ⟨Ao, co, Aw, cw, hgi⟩ := H2.out.1
          have e0 := hgi.cell.1
          have HX := Lib.hid (And.intro hR2 hgi)
          clear hR2 hgi
          go_wp2_with fail
          go_ret
          rw [HX.out.1]
          exact ⟨_, _, rfl, HX.out.2.out, H2.out.2⟩
        | true =>
          have hR2 : Sh.step g ((p : Int), xd) k = Sh.begins g1 (xd.drop p) k := by
            rw [HST.out, if_neg (by simp)]
          have hsl := HL.out.2.2.1
          have hRR := HG.out.2.2
          rw [hR2] at hsl hRR
          have hcv := fun W => conv_str (xd.drop p) W
          unfold str at hcv
          have hfb : FnA w.heap.size w.heap.size g1 (Lib.bytesWorld w2 5 ⟨(xd.drop p).toArray⟩) := by
            obtain ⟨_, _, _, _, h⟩ := H2.out.1
            exact ⟨_, _, _, _, h.below (bytesWorld_below w2 _ _)⟩
          have hrs := RS.bytes w2 (xd.drop p) (by have := HL.out.2.2.2.2; rw [List.length_drop]; omega)
          have hB3 := begins_any w w.heap.size g1 _ _ _ _ k _ H.out.2.2.1 (H2.out.2.trans ((bytesWorld_below w2 5 ⟨(xd.drop p).toArray⟩).mono H2.out.2.size)) hfb hrs (by have := HL.out.2.2.2.2; rw [List.length_drop]; omega) (by have := HL.out.2.2.2.2; rw [List.length_drop]; omega) (by omega)
          generalize Sh.begins g1 (xd.drop p) k = G2 at *
          obtain ⟨g2, ok2⟩ := G2
          simp only at hsl hRR
          rw [List.length_drop] at hB3
          have HB3 := Lib.hid hB3
          have HRR := Lib.hid hRR
          have HSL := Lib.hid hsl
          clear hB3 hRR hsl hfb hrs hR2
          go_wp2_with fail
          refine HB3.out.mono ?_
          rintro e w3 ⟨rfl, ⟨Ao, co, Aw, cw, hgi⟩, hb3⟩
          simp only
          cases ok2 with
          | false =>
            have hR2 : R = g2 := by
              have h1 := HRR.out
              simpa using h1
            have e0 := hgi.cell.1
            have HX := Lib.hid (And.intro hR2 (And.intro hgi hb3))
            clear hR2 hgi hb3
            go_wp2_with fail
            go_ret
            rw [HX.out.1]
            exact ⟨_, _, rfl, HX.out.2.1.out, HX.out.2.2⟩
          | true =>
            have HX := Lib.hid (And.intro hgi hb3)
            clear hgi hb3
            go_wp2_with fail
            go_roundw
            case rel =>
              have hs := HSL.out
              have h1 := HRR.out
              have h5 := HL.out.2.2.2.2
              exact ⟨k + 1, g2, by omega, by go_num, ⟨_, _, _, _, HX.out.1⟩, HX.out.2, by omega, by omega, by simpa using h1⟩
            case measure => simp [intOf]; omega
      · have hnF : Sh.isF xf xd.length = false := by
          unfold Sh.isF
          rw [← HL.out.2.1, Bool.and_eq_false_iff, decide_eq_false_iff_not, decide_eq_false_iff_not]
          omega
        have hst := Sh.step_not g hnF k
        have hG := goesOn_any w w.heap.size g xd _ H.out.2.2.1 HS.out.2.2 HS.out.2.1 (by have := HL.out.2.2.2.2; omega) (by omega)
        have hgl := Sh.goesOn_len g xd
        generalize Sh.goesOn g xd = G at *
        obtain ⟨g1, ok⟩ := G
        have hRR := HG.out.2.2
        rw [hst] at hRR
        have hto : ∀ W, (Instr.slice 9 (.string B) none (some (.int .i64 ((B.size : Nat) : Int))) none).run Tryd.prog W = .ok (.string ⟨xd.toArray⟩) W := fun W => by
          have := bslice_to (P := Tryd.prog) 9 Tryd.underlying9 xd B HL.out.1 xd.length (B.size : Int) (by rw [HL.out.2.1]) (Nat.le_refl _) W
          rwa [List.take_length] at this
        have HRR := Lib.hid (And.intro hRR hgl)
        have HGC := Lib.hid hG
        clear hst hG hgl hRR
        have hways : decide (0 ≤ xf) = false ∨ decide (0 ≤ xf) = true ∧ decide (xf ≤ (B.size : Int)) = false := by
          by_cases h0 : 0 ≤ xf
          · exact .inr ⟨by simpa using h0, by rw [decide_eq_false_iff_not]; exact fun h => his ⟨h0, h⟩⟩
          · exact .inl (by simpa using h0)
        clear his hnF
        rcases hways with g0 | ⟨g0, g1'⟩
        all_goals
          go_wp2_with fail
          refine HGC.out.mono ?_
          rintro e w2 ⟨⟨rfl, ⟨Ao, co, Aw, cw, hgi⟩, hb2⟩, hty2⟩
          simp only
          cases ok with
          | false =>
            have hR2 : R = g1 := by
              have h1 := HRR.out.1
              simpa using h1
            have e0 := hgi.cell.1
            have HX := Lib.hid (And.intro hR2 (And.intro hgi hb2))
            clear hR2 hgi hb2 hty2
            go_wp2_with fail
            go_ret
            rw [HX.out.1]
            exact ⟨_, _, rfl, HX.out.2.1.out, HX.out.2.2⟩
          | true =>
            have HX := Lib.hid (And.intro hgi hb2)
            clear hgi hb2 hty2
            go_wp2_with fail
            go_roundw
            case rel =>
              have hs := HRR.out.2
              have h1 := HRR.out.1
              have h5 := HL.out.2.2.2.2
              exact ⟨k + 1, g1, by omega, by go_num, ⟨_, _, _, _, HX.out.1⟩, HX.out.2, by omega, by omega, by simpa using h1⟩
            case measure => simp [intOf]; omega
    · obtain rfl : k = n := by omega
      have hz : R = g := by
        rw [hRk, List.drop_of_length_le (by unfold Sh.heads; rw [List.length_map, H.out.2.1]; exact Nat.le_refl _)]
        rfl
      obtain ⟨Ao, co, Aw, cw, hgi⟩ := hg
      have c0 := hgi.cell.1
      have HX := Lib.hid (And.intro hz (And.intro hgi hbw))
      clear hz hgi hbw hRk
      go_wp2_with fail
      go_ret
      rw [HX.out.1]
      exact ⟨_, _, rfl, HX.out.2.1.out, HX.out.2.2⟩
end Go.Proofs.YtlpdjpkdgagjpaaDoor
