/- The document's pages: which keys and values may be; how great a page is. -/
import Derived.Test.YtfcmlfcpgboigaaPageEnc
import Derived.Laws.Strings
namespace Go.Proofs.Ytfcmlfcpgboigaa
open Go.RowKit Mem
set_option maxRecDepth 100000
set_option linter.unusedVariables false
set_option linter.unusedSimpArgs false

theorem ba_empty (k : ByteArray) : k.toList.isEmpty = decide (k.size = 0) := by
  rw [ByteArray.toList_eq]
  cases h : k.data.toList with
  | nil =>
    have : k.size = 0 := by show k.data.size = 0; rw [← Array.length_toList, h]; rfl
    simp [this]
  | cons a b =>
    have : k.size ≠ 0 := by show k.data.size ≠ 0; rw [← Array.length_toList, h]; simp
    simp [this]
theorem refKey_any (k : ByteArray) (w : World) : Calls Try.prog 22 #[.string k] w fun e w' => e = .returned (.bool (Pg.keyOk k)) ∧ w' = w := by
  unfold Pg.keyOk
  rw [ba_empty]
  by_cases h1 : 1 ≤ k.size
  · have d1 : decide ((1 : Int) ≤ (k.size : Int)) = true := decide_eq_true (by omega)
    have hz : decide (k.size = 0) = false := decide_eq_false (by omega)
    have HD := Lib.hid (And.intro hz (show decide ((k.size : Int) ≤ 16) = decide (k.size ≤ 16) from decide_eq_decide.2 (by omega)))
    clear h1 hz
    go_enter Try.func22, Try.ntmps22
    go_wp2_with fail
    go_ret
    refine ⟨?_, rfl⟩
    show Ending.returned (.bool (decide ((k.size : Int) ≤ 16))) = _
    rw [HD.out.1, HD.out.2]
    rfl
  · have d1 : decide ((1 : Int) ≤ (k.size : Int)) = false := decide_eq_false (by omega)
    have hz : decide (k.size = 0) = true := decide_eq_true (by omega)
    have HD := Lib.hid hz
    clear h1 hz
    go_enter Try.func22, Try.ntmps22
    go_wp2_with fail
    go_ret
    exact ⟨by rw [HD.out]; rfl, rfl⟩
theorem refValue_any (has : Bool) (data : ByteArray) (w : World) : Calls Try.prog 23 #[vVal has data] w fun e w' => e = .returned (.bool (Pg.valOk has data)) ∧ Below w.heap.size w w' := by
  have HB := Lib.hid (show Below w.heap.size w (w.alloc (.cells #[.bool has, .string data] 26)) from (Below.refl _ _).alloc (Nat.le_refl _) _)
  cases has with
  | true =>
    have HD := Lib.hid (show decide ((data.size : Int) ≤ 32) = decide (data.size ≤ 32) from decide_eq_decide.2 (by omega))
    go_enter Try.func23, Try.ntmps23
    go_wp2_with fail
    go_ret
    refine ⟨?_, HB.out⟩
    show Ending.returned (.bool (decide ((data.size : Int) ≤ 32))) = _
    rw [HD.out]
    unfold Pg.valOk
    simp
  | false =>
    have HD := Lib.hid (show Pg.valOk false data = data.toList.isEmpty by
      unfold Pg.valOk
      rw [ba_empty]
      by_cases h : data.size = 0
      · simp [h]
      · simp [h])
    go_enter Try.func23, Try.ntmps23
    go_wp2_with fail
    go_ret
    refine ⟨?_, HB.out⟩
    rw [HD.out]
    cases data.toList <;> rfl
namespace Pg
def great (l : List C) : Bool := decide (20 < l.length) || l.any fun c => decide (100 < c.key.size) || decide (100 < c.data.size)
theorem great_any_at {l : List C} {k : Nat} (hk : k < l.length) (h : (decide (100 < (l.getD k C.zero).key.size) || decide (100 < (l.getD k C.zero).data.size)) = true) : great l = true := by
  unfold great
  rw [Bool.or_eq_true]
  right
  rw [List.any_eq_true]
  refine ⟨l[k], List.getElem_mem hk, ?_⟩
  rwa [List.getD_eq_getElem?_getD, List.getElem?_eq_getElem hk] at h
theorem great_none {l : List C} (hl : l.length ≤ 20) (h : ∀ j, j < l.length → (decide (100 < (l.getD j C.zero).key.size) || decide (100 < (l.getD j C.zero).data.size)) = false) : great l = false := by
  unfold great
  rw [decide_eq_false (by omega), Bool.false_or, List.any_eq_false]
  intro c hc
  obtain ⟨j, hj, rfl⟩ := List.getElem_of_mem hc
  have := h j hj
  rw [List.getD_eq_getElem?_getD, List.getElem?_eq_getElem hj] at this
  simpa using this
end Pg
set_option maxHeartbeats 2000000 in
theorem great10_any (lsn : Int) (A : Option Addr) (n c : Nat) (l : List Pg.C) (w : World) (hl : ST cellK w A n l) :
    Calls Try.prog 15 #[pVal lsn A n c] w fun e w' => e = .returned (.bool (Pg.great l)) ∧ Below w.heap.size w w' := by
  have hb0 : Below w.heap.size w (w.alloc (.cells #[.int .i64 lsn, .slice A n c] 24)) := (Below.refl _ _).alloc (Nat.le_refl _) _
  have hk0 : Blk (w.alloc (.cells #[.int .i64 lsn, .slice A n c] 24)) w.heap.size 24 #[.int .i64 lsn, .slice A n c] := Blk.new _ _ _
  have H := Lib.hid (And.intro hb0 (And.intro hk0 (And.intro hl hl.len)))
  clear hb0 hk0 hl
  by_cases h20 : 20 < n
  · have d20 : decide ((20 : Int) < (n : Int)) = true := by simp; omega
    have HD := Lib.hid (show Pg.great l = true by unfold Pg.great; rw [H.out.2.2.2, decide_eq_true h20]; rfl)
    clear h20
    go_enter Try.func15, Try.ntmps15
    go_wp2_with fail
    go_ret
    exact ⟨by rw [HD.out]; rfl, H.out.1⟩
  · have d20 : decide ((20 : Int) < (n : Int)) = false := by simp; omega
    go_enter Try.func15, Try.ntmps15
    go_wp2_with fail
    generalize w.alloc (.cells #[.int .i64 lsn, .slice A n c] 24) = w1 at *
    go_loopg [3] n (fun gk s3 wr => ∃ (k : Nat), k ≤ n ∧ gk = n - k ∧ s3 = .int .i64 k ∧ (∀ j, j < k → (decide (100 < (l.getD j Pg.C.zero).key.size) || decide (100 < (l.getD j Pg.C.zero).data.size)) = false) ∧ Below w.heap.size w wr ∧ Blk wr w.heap.size 24 #[.int .i64 lsn, .slice A n c])
    case atStart => exact ⟨0, by omega, by omega, rfl, fun j hj => absurd hj (by omega), H.out.1, H.out.2.1⟩
    case round =>
      obtain ⟨k, hk, rfl, rfl, hj, hb, hbk⟩ := hrel
      have p1 : wr.cell? ⟨w.heap.size, 1, none⟩ = some (.slice A n c) := hbk.cell 1
      by_cases hlt : k < n
      · obtain ⟨b, off, rfl, hbs, c0, c1, c2⟩ := cell_at (H.out.2.2.1.below hb) hlt
        have hga := fun h => Pg.great_any_at (l := l) (k := k) (by rw [H.out.2.2.2]; exact hlt) h
        have hnx : (decide (100 < (l.getD k Pg.C.zero).key.size) || decide (100 < (l.getD k Pg.C.zero).data.size)) = false → ∀ j, j < k + 1 → (decide (100 < (l.getD j Pg.C.zero).key.size) || decide (100 < (l.getD j Pg.C.zero).data.size)) = false := fun h j hjk => by
          rcases Nat.lt_or_ge j k with h1 | h1
          · exact hj j h1
          · obtain rfl : j = k := by omega
            exact h
        generalize l.getD k Pg.C.zero = x at *
        have HX := Lib.hid (And.intro hga (And.intro hnx (And.intro hb hbk)))
        have hkn : (k : Int) < (n : Int) := by omega
        clear hga hnx hb hbk hj
        by_cases hx1 : 100 < x.key.size
        · have d1 : decide ((100 : Int) < (x.key.size : Int)) = true := by simp; omega
          have HE := Lib.hid (decide_eq_true hx1)
          clear hx1
          go_wp2_with fail
          go_ret
          exact ⟨by rw [HX.out.1 (by rw [HE.out]; rfl)]; rfl, HX.out.2.2.1⟩
        · have d1 : decide ((100 : Int) < (x.key.size : Int)) = false := by simp; omega
          have HE := Lib.hid (decide_eq_false hx1)
          clear hx1
          by_cases hx2 : 100 < x.data.size
          · have d2 : decide ((100 : Int) < (x.data.size : Int)) = true := by simp; omega
            have HF := Lib.hid (decide_eq_true hx2)
            clear hx2
            go_wp2_with fail
            go_ret
            exact ⟨by rw [HX.out.1 (by rw [HE.out, HF.out]; rfl)]; rfl, HX.out.2.2.1⟩
          · have d2 : decide ((100 : Int) < (x.data.size : Int)) = false := by simp; omega
            have HF := Lib.hid (decide_eq_false hx2)
            clear hx2
            go_wp2_with fail
            go_roundg (n - (k + 1))
            case measure => omega
            case rel => exact ⟨k + 1, by omega, rfl, by go_num, HX.out.2.1 (by rw [HE.out, HF.out]; rfl), HX.out.2.2.1, HX.out.2.2.2⟩
      · obtain rfl : k = n := by omega
        have HX := Lib.hid (And.intro (Pg.great_none (by rw [H.out.2.2.2]; omega) (fun j h => hj j (by rw [H.out.2.2.2] at h; exact h))) hb)
        clear hj hb hbk
        go_wp2_with fail
        go_ret
        exact ⟨by rw [HX.out.1]; rfl, HX.out.2⟩
end Go.Proofs.Ytfcmlfcpgboigaa
