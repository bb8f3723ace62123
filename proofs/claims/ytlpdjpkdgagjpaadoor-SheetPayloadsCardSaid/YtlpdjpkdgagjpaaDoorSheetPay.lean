/- A sheet's payload. -/
import Derived.Test.YtlpdjpkdgagjpaaDoorSheetAwake
import Derived.Test.YtlpdjpkdgagjpaaDoorOutB
import Derived.Lib.AppendStr
namespace Go.Proofs.YtlpdjpkdgagjpaaDoor
open Go.RowKit Mem Lift
set_option linter.unusedVariables false
set_option linter.unusedSimpArgs false
set_option maxRecDepth 100000

namespace Sh
def mayS (s : Sd) : Bool := decide (0 ≤ s.inc) && decide (s.inc ≤ 1099511627776) && (decide (0 ≤ s.pos) && decide (s.pos ≤ 1099511627776)) && decide (s.data.length ≤ 242) && (decide (s.first = 255) || decide (0 ≤ s.first) && decide (s.first ≤ (s.data.length : Int)))
def topS (s : Sd) : Bool := decide (s.inc = 1099511627776) || decide (s.pos = 1099511627776)
def headS (s : Sd) : List UInt8 := [UInt8.ofNat s.first.toNat, UInt8.ofNat s.data.length]
def bodyS (s : Sd) : List UInt8 := Num.wideB s.inc.toNat 5 ++ Num.wideB s.pos.toNat 5 ++ headS s ++ s.data
def encS (s : Sd) : List UInt8 × Nat := if mayS s = true ∧ topS s = false then (bodyS s, 0) else ([], 1)
def readS (b : List UInt8) : Sd := ⟨(Num.unwide (b.take 5) : Nat), (Num.unwide ((b.drop 5).take 5) : Nat), ((b.getD 10 0).toNat : Nat), (b.drop 12).take (b.getD 11 0).toNat⟩
def decS (b : List UInt8) : Sd × Nat := if b.length < 12 ∨ b.length < 12 + (b.getD 11 0).toNat then (sd0, 10) else if mayS (readS b) = true then (readS b, 0) else (sd0, 11)
theorem may_parts {s : Sd} (h : mayS s = true) : 0 ≤ s.inc ∧ s.inc ≤ 1099511627776 ∧ 0 ≤ s.pos ∧ s.pos ≤ 1099511627776 ∧ s.data.length ≤ 242 ∧ (s.first = 255 ∨ 0 ≤ s.first ∧ s.first ≤ (s.data.length : Int)) := by
  unfold mayS at h
  simp only [Bool.and_eq_true, Bool.or_eq_true, decide_eq_true_eq] at h
  omega
theorem top_parts {s : Sd} (h : topS s = false) : s.inc ≠ 1099511627776 ∧ s.pos ≠ 1099511627776 := by
  unfold topS at h
  simpa using h
theorem first_255 {s : Sd} (h : mayS s = true) : 0 ≤ s.first ∧ s.first ≤ 255 := by
  have := may_parts h
  omega
theorem ofNat_toNat {n : Nat} (h : n < 256) : (UInt8.ofNat n).toNat = n := by
  rw [UInt8.toNat_ofNat']
  exact Nat.mod_eq_of_lt h
theorem body_len (s : Sd) : (bodyS s).length = 12 + s.data.length := by
  unfold bodyS headS
  simp only [List.length_append, Num.wideB_length, List.length_cons, List.length_nil]
/-- what is written is read -/
theorem read_body {s : Sd} (h : mayS s = true) (ht : topS s = false) (rest : List UInt8) : readS (bodyS s ++ rest) = s ∧ ((bodyS s ++ rest).getD 11 0).toNat = s.data.length := by
  obtain ⟨h1, h2, h3, h4, h5, h6⟩ := may_parts h
  obtain ⟨t1, t2⟩ := top_parts ht
  obtain ⟨f1, f2⟩ := first_255 h
  have l1 := Num.wideB_length 5 s.inc.toNat
  have l2 := Num.wideB_length 5 s.pos.toNat
  obtain ⟨a, ha⟩ : ∃ a, a = Num.wideB s.inc.toNat 5 := ⟨_, rfl⟩
  obtain ⟨b, hb⟩ : ∃ b, b = Num.wideB s.pos.toNat 5 := ⟨_, rfl⟩
  have e : bodyS s ++ rest = a ++ (b ++ (UInt8.ofNat s.first.toNat :: UInt8.ofNat s.data.length :: (s.data ++ rest))) := by
    unfold bodyS headS
    rw [ha, hb]
    simp
  have u1 : Num.unwide a = s.inc.toNat := by rw [ha]; exact Num.unwide_wide 5 _ (by show s.inc.toNat < 256 ^ 5; omega)
  have u2 : Num.unwide b = s.pos.toNat := by rw [hb]; exact Num.unwide_wide 5 _ (by show s.pos.toNat < 256 ^ 5; omega)
  rw [← ha] at l1
  rw [← hb] at l2
  have g11 : (bodyS s ++ rest).getD 11 0 = UInt8.ofNat s.data.length := by
    rw [e, List.getD_eq_getElem?_getD, List.getElem?_append_right (by omega), List.getElem?_append_right (by omega)]
    rw [show 11 - a.length - b.length = 1 by omega]
    rfl
  have g10 : (bodyS s ++ rest).getD 10 0 = UInt8.ofNat s.first.toNat := by
    rw [e, List.getD_eq_getElem?_getD, List.getElem?_append_right (by omega), List.getElem?_append_right (by omega)]
    rw [show 10 - a.length - b.length = 0 by omega]
    rfl
  have hd : (UInt8.ofNat s.data.length).toNat = s.data.length := ofNat_toNat (by omega)
  refine ⟨?_, by rw [g11, hd]⟩
  have t5 : (bodyS s ++ rest).take 5 = a := by rw [e, List.take_left' l1]
  have d5 : (bodyS s ++ rest).drop 5 = b ++ (UInt8.ofNat s.first.toNat :: UInt8.ofNat s.data.length :: (s.data ++ rest)) := by rw [e, List.drop_left' l1]
  have d12 : (bodyS s ++ rest).drop 12 = s.data ++ rest := by
    rw [show 12 = 5 + 7 from rfl, ← List.drop_drop, d5, show 7 = 5 + 2 from rfl, ← List.drop_drop, List.drop_left' l2]
    rfl
  unfold readS
  rw [t5, d5, List.take_left' l2, u1, u2, g10, g11, d12, hd, List.take_left' rfl, ofNat_toNat (by omega)]
  cases s
  simp only at h1 h3 f1 ⊢
  congr 1 <;> omega
theorem dec_body {s : Sd} (h : mayS s = true) (ht : topS s = false) (rest : List UInt8) : decS (bodyS s ++ rest) = (s, 0) := by
  obtain ⟨h1, h2⟩ := read_body h ht rest
  have hl := body_len s
  unfold decS
  rw [h1, h2, if_neg (by rw [List.length_append, hl]; omega), if_pos h]
/-- what is read is written -/
theorem body_read {b : List UInt8} (h : (decS b).2 = 0) : mayS (decS b).1 = true ∧ topS (decS b).1 = false ∧ (bodyS (decS b).1).length ≤ b.length ∧ bodyS (decS b).1 = b.take (bodyS (decS b).1).length := by
  unfold decS at h ⊢
  by_cases h1 : b.length < 12 ∨ b.length < 12 + (b.getD 11 0).toNat
  · rw [if_pos h1] at h
    simp at h
  · rw [if_neg h1] at h ⊢
    by_cases h2 : mayS (readS b) = true
    · rw [if_pos h2]
      have hb11 := (b.getD 11 0).toNat_lt
      have hu1 := Num.unwide_lt (b.take 5)
      have hu2 := Num.unwide_lt ((b.drop 5).take 5)
      rw [List.length_take, Nat.min_eq_left (by omega)] at hu1
      rw [List.length_take, List.length_drop, Nat.min_eq_left (by omega)] at hu2
      have hdl : (readS b).data.length = (b.getD 11 0).toNat := by
        show ((b.drop 12).take _).length = _
        rw [List.length_take, List.length_drop]; omega
      have hlen := body_len (readS b)
      refine ⟨h2, ?_, by rw [hlen, hdl]; omega, ?_⟩
      · unfold topS readS
        simp only [Bool.or_eq_false_iff, decide_eq_false_iff_not]
        have e5 : (256 : Nat) ^ 5 = 1099511627776 := by decide
        rw [e5] at hu1 hu2
        omega
      · rw [hlen, hdl]
        have w1 : Num.wideB (Num.unwide (b.take 5)) 5 = b.take 5 := Num.wide_of_unwide _ 5 (by rw [List.length_take]; omega)
        have w2 : Num.wideB (Num.unwide ((b.drop 5).take 5)) 5 = (b.drop 5).take 5 := Num.wide_of_unwide _ 5 (by rw [List.length_take, List.length_drop]; omega)
        unfold bodyS headS
        rw [hdl]
        show Num.wideB ((Num.unwide (b.take 5) : Nat) : Int).toNat 5 ++ Num.wideB ((Num.unwide ((b.drop 5).take 5) : Nat) : Int).toNat 5 ++ [UInt8.ofNat (((b.getD 10 0).toNat : Nat) : Int).toNat, UInt8.ofNat (b.getD 11 0).toNat] ++ (b.drop 12).take (b.getD 11 0).toNat = _
        rw [Int.toNat_natCast, Int.toNat_natCast, Int.toNat_natCast, w1, w2, UInt8.ofNat_toNat, UInt8.ofNat_toNat]
        have hc : b.take (12 + (b.getD 11 0).toNat) = b.take 12 ++ (b.drop 12).take (b.getD 11 0).toNat := List.take_add
        rw [hc]
        congr 1
        have h10 : b.take 12 = b.take 5 ++ (b.drop 5).take 5 ++ (b.drop 10).take 2 := by
          rw [show 12 = 5 + (5 + 2) from rfl, List.take_add, List.take_add, List.drop_drop, List.append_assoc]
        rw [h10]
        congr 1
        rw [List.drop_eq_getElem_cons (by omega), List.drop_eq_getElem_cons (by omega)]
        rw [List.getD_eq_getElem?_getD, List.getD_eq_getElem?_getD, List.getElem?_eq_getElem (by omega), List.getElem?_eq_getElem (by omega)]
        rfl
    · rw [if_neg h2] at h
      simp at h
theorem dec_cases (b : List UInt8) : (decS b).2 ≠ 0 ∧ (decS b).1 = sd0 ∨ (decS b).2 = 0 := by
  unfold decS
  split
  · exact .inl ⟨by simp, rfl⟩
  · split
    · exact .inr rfl
    · exact .inl ⟨by simp, rfl⟩
theorem dec_data (b : List UInt8) : (decS b).1.data.length ≤ b.length := by
  unfold decS
  split
  · simp [sd0]
  · split
    · show ((b.drop 12).take _).length ≤ _
      rw [List.length_take, List.length_drop]; omega
    · simp [sd0]
end Sh
abbrev sdVal (s : Sh.Sd) : Value := .agg (sdCells s)
namespace Sh
theorem may_inc {s : Sd} (h : ¬ (0 ≤ s.inc ∧ s.inc ≤ 1099511627776)) : mayS s = false := by
  cases hm : mayS s with
  | false => rfl
  | true => have := may_parts hm; omega
theorem may_pos {s : Sd} (h : ¬ (0 ≤ s.pos ∧ s.pos ≤ 1099511627776)) : mayS s = false := by
  cases hm : mayS s with
  | false => rfl
  | true => have := may_parts hm; omega
theorem may_rest {s : Sd} (h1 : 0 ≤ s.inc) (h2 : s.inc ≤ 1099511627776) (h3 : 0 ≤ s.pos) (h4 : s.pos ≤ 1099511627776) : mayS s = (decide (s.data.length ≤ 242) && (decide (s.first = 255) || decide (0 ≤ s.first) && decide (s.first ≤ (s.data.length : Int)))) := by
  unfold mayS
  rw [decide_eq_true h1, decide_eq_true h2, decide_eq_true h3, decide_eq_true h4]
  simp
end Sh
/-- 'a[k]' of an array by value, its elements of one cell -/
theorem run_index_cell2 {P : Program} (t e : TypeId) (n : Nat) (i : TypeInfo) (cs : Array Value) (k : Nat) (v : Value) (h : P.underlying t = some (.array n e)) (hi : P.info? e = some i) (hs : i.size = 1) (ha : ∀ w, (isAgg e).run P w = .ok false w) (hk : k < n) (hv : cs[k]? = some v) (x : Int) (hx : x = k) (w : World) :
    (Instr.index t (.agg cs) (.int .i64 x)).run P w = .ok v w := by
  subst hx
  have hn : 0 ≤ (k : Int) ∧ (k : Int) < (n : Int) := by omega
  have hk' : (k : Int) < (n : Int) := by omega
  have hsz : (sizeOf e).run P w = .ok 1 w := by simp [sizeOf, typeInfo, hi, hs]
  simp [Instr.index, run_underlying h, asIntOf, hn, hk', hk, go_sem, hsz, part, ha, hv]
theorem pinfo2 : (Tryd.prog.info? 3).map (fun i => i.size) = some 1 := by kernel_rfl
theorem isAgg_int2 (w : World) : (isAgg 3).run Tryd.prog w = .ok false w := by
  simp [isAgg, run_underlying Tryd.underlying3, go_sem]
theorem idx2 (a b : Value) (k : Nat) (hk : k < 2) (v : Value) (hv : (#[a, b] : Array Value)[k]? = some v) (x : Int) (hx : x = k) (w : World) : (Instr.index 127 (.agg #[a, b]) (.int .i64 x)).run Tryd.prog w = .ok v w := by
  cases hi : Tryd.prog.info? 3 with
  | none => have := pinfo2; rw [hi] at this; cases this
  | some i =>
    have hz := pinfo2
    rw [hi] at hz
    simp only [Option.map_some, Option.some.injEq] at hz
    exact run_index_cell2 127 3 2 i _ k v Tryd.underlying127 hi hz isAgg_int2 hk hv x hx w
set_option maxHeartbeats 2000000 in
theorem smay_any (s : Sh.Sd) (w : World) (hf : -9223372036854775808 ≤ s.first ∧ s.first ≤ 9223372036854775807) : Calls Tryd.prog 44 #[sdVal s] w fun e w' => e = .returned (.bool (Sh.mayS s)) ∧ Below w.heap.size w w' := by
  have h1 := Sh.may_inc (s := s)
  have h2 := Sh.may_pos (s := s)
  have h3 := Sh.may_rest (s := s)
  obtain ⟨inc, pos, first, data⟩ := s
  simp only [sdVal, sdCells] at h1 h2 h3 ⊢
  have hsz := ba_size data
  generalize Sh.mayS ⟨inc, pos, first, data⟩ = R at *
  obtain ⟨B, hB⟩ : ∃ B : ByteArray, B = ⟨data.toArray⟩ := ⟨_, rfl⟩
  rw [← hB] at hsz ⊢
  rw [← hsz] at h3
  have hbb : Below w.heap.size w (w.alloc (.cells #[.int .i64 inc, .int .i64 pos, .int .i64 first, .string B] 47)) := (Below.refl _ _).alloc (Nat.le_refl _) _
  have H := Lib.hid (And.intro h1 (And.intro h2 (And.intro h3 hbb)))
  have x0 := fun W => idx2 (.int .i64 inc) (.int .i64 pos) 0 (by omega) _ rfl 0 rfl W
  have x1 := fun W => idx2 (.int .i64 inc) (.int .i64 pos) 1 (by omega) _ rfl 1 rfl W
  clear h1 h2 h3 hbb hB hsz
  go_enter Tryd.func44, Tryd.ntmps44
  go_wp2_with fail
  go_loop [10] (fun s10 => ∃ k : Nat, k ≤ 2 ∧ s10 = .int .i64 k ∧ (1 ≤ k → 0 ≤ inc ∧ inc ≤ 1099511627776) ∧ (2 ≤ k → 0 ≤ pos ∧ pos ≤ 1099511627776)) (fun s10 => 2 - (intOf s10).toNat)
  case atStart => exact ⟨0, by omega, rfl, fun h => by omega, fun h => by omega⟩
  case round =>
    obtain ⟨k, hk, rfl, hk1, hk2⟩ := hrel
    have hk3 : k = 0 ∨ k = 1 ∨ k = 2 := by omega
    rcases hk3 with rfl | rfl | rfl
    · clear hk1 hk2
      by_cases g : 0 ≤ inc ∧ inc ≤ 1099511627776
      · obtain ⟨g1, g2⟩ := g
        go_wp2_with fail
        go_round
        case rel => exact ⟨1, by omega, by go_num, fun _ => ⟨g1, g2⟩, fun h => by omega⟩
        case measure => simp [intOf]
      · have hR := Lib.hid (H.out.1 g)
        have hways : decide (inc < 0) = true ∨ decide (inc < 0) = false ∧ decide (1099511627776 < inc) = true := by
          simp only [decide_eq_true_eq, decide_eq_false_iff_not]; omega
        clear g
        rcases hways with g | ⟨g, g'⟩
        all_goals
          go_wp2_with fail
          go_ret
          rw [hR.out]
          exact ⟨rfl, H.out.2.2.2⟩
    · have hi := hk1 (by omega)
      clear hk1 hk2
      by_cases g : 0 ≤ pos ∧ pos ≤ 1099511627776
      · obtain ⟨g1, g2⟩ := g
        go_wp2_with fail
        go_round
        case rel => exact ⟨2, by omega, by go_num, fun _ => hi, fun _ => ⟨g1, g2⟩⟩
        case measure => simp [intOf]
      · have hR := Lib.hid (H.out.2.1 g)
        have hways : decide (pos < 0) = true ∨ decide (pos < 0) = false ∧ decide (1099511627776 < pos) = true := by
          simp only [decide_eq_true_eq, decide_eq_false_iff_not]; omega
        clear g
        rcases hways with g | ⟨g, g'⟩
        all_goals
          go_wp2_with fail
          go_ret
          rw [hR.out]
          exact ⟨rfl, H.out.2.2.2⟩
    · have hi := hk1 (by omega)
      have hp := hk2 (by omega)
      have hR := Lib.hid (H.out.2.2.1 hi.1 hi.2 hp.1 hp.2)
      clear hk1 hk2
      by_cases g1 : B.size ≤ 242
      · by_cases g2 : first = 255
        · subst g2
          go_wp2_with fail
          go_ret
          rw [hR.out]
          exact ⟨by simp [g1], H.out.2.2.2⟩
        · have e2 : (first == 255) = false := by rw [beq_eq_false_iff_ne]; exact g2
          by_cases g3 : 0 ≤ first
          · by_cases g4 : first ≤ (B.size : Int)
            · go_wp2_with fail
              go_ret
              rw [hR.out]
              exact ⟨by simp [g1, g2, g3, g4], H.out.2.2.2⟩
            · go_wp2_with fail
              go_ret
              rw [hR.out]
              exact ⟨by simp [g1, g2, g3, g4], H.out.2.2.2⟩
          · go_wp2_with fail
            go_ret
            rw [hR.out]
            exact ⟨by simp [g1, g2]; omega, H.out.2.2.2⟩
      · go_wp2_with fail
        go_ret
        rw [hR.out]
        exact ⟨by rw [decide_eq_false g1, Bool.false_and]; rfl, H.out.2.2.2⟩
theorem ways4 {p q r t : Prop} [Decidable p] [Decidable q] [Decidable r] [Decidable t] (h : ¬ (p ∧ q ∧ r ∧ t)) : decide p = false ∨ decide p = true ∧ (decide q = false ∨ decide q = true ∧ (decide r = false ∨ decide r = true ∧ decide t = false)) := by
  by_cases h1 : p
  · by_cases h2 : q
    · by_cases h3 : r
      · exact .inr ⟨by simpa using h1, .inr ⟨by simpa using h2, .inr ⟨by simpa using h3, by rw [decide_eq_false_iff_not]; exact fun h4 => h ⟨h1, h2, h3, h4⟩⟩⟩⟩
      · exact .inr ⟨by simpa using h1, .inr ⟨by simpa using h2, .inl (by simpa using h3)⟩⟩
    · exact .inr ⟨by simpa using h1, .inl (by simpa using h2)⟩
  · exact .inl (by simpa using h1)
set_option maxHeartbeats 2000000 in
theorem rmay8_any (s : Sh.Sd) (w : World) (hf : -9223372036854775808 ≤ s.first ∧ s.first ≤ 9223372036854775807) : Calls Tryd.prog 45 #[sdVal s] w fun e w' => e = .returned (.bool (Sh.mayS s)) ∧ Below w.heap.size w w' := by
  have h1 := Sh.may_inc (s := s)
  have h2 := Sh.may_pos (s := s)
  have h3 := Sh.may_rest (s := s)
  obtain ⟨inc, pos, first, data⟩ := s
  simp only [sdVal, sdCells] at h1 h2 h3 ⊢
  have hsz := ba_size data
  generalize Sh.mayS ⟨inc, pos, first, data⟩ = R at *
  obtain ⟨B, hB⟩ : ∃ B : ByteArray, B = ⟨data.toArray⟩ := ⟨_, rfl⟩
  rw [← hB] at hsz ⊢
  rw [← hsz] at h3
  have hbb : Below w.heap.size w (w.alloc (.cells #[.int .i64 inc, .int .i64 pos, .int .i64 first, .string B] 47)) := (Below.refl _ _).alloc (Nat.le_refl _) _
  have H := Lib.hid (And.intro h1 (And.intro h2 (And.intro h3 hbb)))
  clear h1 h2 h3 hbb hB hsz
  by_cases g : 0 ≤ inc ∧ inc ≤ 1099511627776 ∧ 0 ≤ pos ∧ pos ≤ 1099511627776
  · have hR := Lib.hid (H.out.2.2.1 g.1 g.2.1 g.2.2.1 g.2.2.2)
    obtain ⟨j0, j1, j2, j3⟩ := g
    by_cases g1 : B.size ≤ 242
    · by_cases g2 : first = 255
      · subst g2
        go_enter Tryd.func45, Tryd.ntmps45
        go_wp2_with fail
        go_ret
        rw [hR.out]
        exact ⟨by simp [g1], H.out.2.2.2⟩
      · have e2 : (first == 255) = false := by rw [beq_eq_false_iff_ne]; exact g2
        by_cases g3 : 0 ≤ first
        · by_cases g4 : first ≤ (B.size : Int)
          · go_enter Tryd.func45, Tryd.ntmps45
            go_wp2_with fail
            go_ret
            rw [hR.out]
            exact ⟨by simp [g1, g2, g3, g4], H.out.2.2.2⟩
          · go_enter Tryd.func45, Tryd.ntmps45
            go_wp2_with fail
            go_ret
            rw [hR.out]
            exact ⟨by simp [g1, g2, g3, g4], H.out.2.2.2⟩
        · go_enter Tryd.func45, Tryd.ntmps45
          go_wp2_with fail
          go_ret
          rw [hR.out]
          exact ⟨by simp [g1, g2]; omega, H.out.2.2.2⟩
    · go_enter Tryd.func45, Tryd.ntmps45
      go_wp2_with fail
      go_ret
      rw [hR.out]
      exact ⟨by rw [decide_eq_false g1, Bool.false_and]; rfl, H.out.2.2.2⟩
  · have hr : R = false := by
      by_cases gi : 0 ≤ inc ∧ inc ≤ 1099511627776
      · exact H.out.2.1 (fun h => g ⟨gi.1, gi.2, h.1, h.2⟩)
      · exact H.out.1 gi
    have hR := Lib.hid hr
    have hw := ways4 g
    clear hr g
    rcases hw with g | ⟨g, g1 | ⟨g1, g2 | ⟨g2, g3⟩⟩⟩
    all_goals
      go_enter Tryd.func45, Tryd.ntmps45
      go_wp2_with fail
      go_ret
      rw [hR.out]
      exact ⟨rfl, H.out.2.2.2⟩
end Go.Proofs.YtlpdjpkdgagjpaaDoor
