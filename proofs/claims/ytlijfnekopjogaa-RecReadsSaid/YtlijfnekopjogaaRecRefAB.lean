/- RecRefAB: joined out of RecRefA, RecRefB. -/
import Derived.Test.YtlijfnekopjogaaRecVals
import Derived.Test.YtlijfnekopjogaaRecMems
import Derived.Laws.Strings
/- The document's records: which numbers, keys, values and members may be (printed by gen_mayref.py). -/
namespace Go.Proofs.Ytlijfnekopjogaa
open Go Go.RowKit Mem Rc
set_option maxRecDepth 100000
set_option linter.unusedVariables false
set_option linter.unusedSimpArgs false

theorem ba_emptyR (k : ByteArray) : k.toList.isEmpty = decide (k.size = 0) := by
  rw [ByteArray.toList_eq]
  cases h : k.data.toList with
  | nil =>
    have : k.size = 0 := by show k.data.size = 0; rw [← Array.length_toList, h]; rfl
    simp [this]
  | cons a b =>
    have : k.size ≠ 0 := by show k.data.size ≠ 0; rw [← Array.length_toList, h]; simp
    simp [this]
theorem fseq_any (x m : Int) (w : World) : Calls Try.prog 38 #[.int .i64 x, .int .i64 m] w fun e w' => e = .returned (.bool (Rc.seq x m)) ∧ w' = w := by
  unfold Rc.seq
  by_cases h : m ≤ x
  · have hd : decide (m ≤ x) = true := by simpa using h
    have H := Lib.hid hd
    go_enter Try.func38, Try.ntmps38
    go_wp2
    go_ret
    exact ⟨by rw [H.out, Bool.true_and]; rfl, rfl⟩
  · have hd : decide (m ≤ x) = false := by simpa using h
    have H := Lib.hid hd
    go_enter Try.func38, Try.ntmps38
    go_wp2
    go_ret
    exact ⟨by first | rfl | (rw [H.out, Bool.false_and]; rfl), rfl⟩
theorem fkey_any (k : ByteArray) (w : World) : Calls Try.prog 39 #[.string k] w fun e w' => e = .returned (.bool (Rc.keyOk k)) ∧ w' = w := by
  unfold Rc.keyOk
  rw [ba_emptyR]
  by_cases h1 : 1 ≤ k.size
  · have d1 : decide ((1 : Int) ≤ (k.size : Int)) = true := decide_eq_true (by omega)
    have hz : decide (k.size = 0) = false := decide_eq_false (by omega)
    have HD := Lib.hid (And.intro hz (show decide ((k.size : Int) ≤ 16) = decide (k.size ≤ 16) from decide_eq_decide.2 (by omega)))
    clear h1 hz
    go_enter Try.func39, Try.ntmps39
    go_wp2_with fail
    go_ret
    refine ⟨?_, rfl⟩
    show Ending.returned (.bool (decide ((k.size : Int) ≤ 16))) = _
    rw [HD.out.1, HD.out.2]
    rfl
  · have d1 : decide ((1 : Int) ≤ (k.size : Int)) = false := decide_eq_false (by omega)
    have hz : decide (k.size = 0) = true := decide_eq_true (by omega)
    have HD := Lib.hid hz
    clear h1 hz
    go_enter Try.func39, Try.ntmps39
    go_wp2_with fail
    go_ret
    exact ⟨by rw [HD.out]; rfl, rfl⟩
theorem fvalue_any (v : V) (w : World) : Calls Try.prog 40 #[vVal v] w fun e w' => e = .returned (.bool (Rc.valOk v)) ∧ Below w.heap.size w w' := by
  obtain ⟨has, data⟩ := v
  have HB := Lib.hid (show Below w.heap.size w (w.alloc (.cells #[.bool has, .string data] 23)) from (Below.refl _ _).alloc (Nat.le_refl _) _)
  cases has with
  | true =>
    have HD := Lib.hid (show decide ((data.size : Int) ≤ 32) = decide (data.size ≤ 32) from decide_eq_decide.2 (by omega))
    go_enter Try.func40, Try.ntmps40
    go_wp2_with fail
    go_ret
    refine ⟨?_, HB.out⟩
    show Ending.returned (.bool (decide ((data.size : Int) ≤ 32))) = _
    rw [HD.out]
    unfold Rc.valOk
    simp
  | false =>
    have HD := Lib.hid (show Rc.valOk ⟨false, data⟩ = data.toList.isEmpty by
      unfold Rc.valOk
      rw [ba_emptyR]
      by_cases h : data.size = 0
      · simp [h]
      · simp [h])
    go_enter Try.func40, Try.ntmps40
    go_wp2_with fail
    go_ret
    refine ⟨?_, HB.out⟩
    rw [HD.out]
    cases data.toList <;> rfl
set_option maxHeartbeats 8000000 in
theorem fmembers_any (A : Option Addr) (n c : Nat) (l : List Int) (w : World) (hl : IS w A n l) (hn : n ≤ 1000000) :
    Calls Try.prog 41 #[.slice A n c] w fun e w' => e = .returned (.bool (Rc.members l)) ∧ Below w.heap.size w w' := by
  rw [Rc.members_up]
  have H := Lib.hid (And.intro hl (And.intro hn hl.1))
  clear hl hn
  go_enter Try.func41, Try.ntmps41
  go_wp2
  go_loopg [2, 3] n (fun gk s i wr => ∃ k : Nat, k ≤ n ∧ gk = n - k ∧ s = .bool false ∧ i = .int .i64 k ∧ (∀ j, j < k → Rc.okAt l j = true) ∧ Below w.heap.size w wr)
  case atStart => exact ⟨0, by omega, by omega, rfl, rfl, fun j hj => absurd hj (by omega), Below.refl _ _⟩
  case round =>
    obtain ⟨k, hk, rfl, rfl, rfl, hj, hst⟩ := hrel
    by_cases hlt : k < n
    · obtain ⟨b, off, rfl, c0⟩ := is_at (H.out.1.below hst) hlt
      have hkn : (k : Int) < (n : Int) := by omega
      have hok : Rc.okAt l k = (Rc.node (l.getD k 0) && (decide (k = 0) || decide (l.getD (k - 1) 0 < l.getD k 0))) := rfl
      have hno : Rc.okAt l k = false → Rc.up l = false := fun h => Rc.up_false (by rw [H.out.2.2]; exact hlt) h
      have hye : Rc.okAt l k = true → ∀ j, j < k + 1 → Rc.okAt l j = true := fun h j hj2 => by
        rcases Nat.lt_or_ge j k with h1 | h1
        · exact hj j h1
        · obtain rfl : j = k := by omega
          exact h
      have hprev : 0 < k → wr.cell? ⟨b, off + (k - 1), none⟩ = some (.int .i64 (l.getD (k - 1) 0)) := fun hk0 => by
        obtain ⟨b', off', e', c'⟩ := is_at (H.out.1.below hst) (show k - 1 < n by omega)
        injection e' with e'
        injection e' with e1 e2
        subst e1
        subst e2
        exact c'
      generalize l.getD k 0 = x at *
      rcases Nat.eq_zero_or_pos k with rfl | hkp
      · have HX := Lib.hid (And.intro hok (And.intro hst (And.intro hno (And.intro hye H.out.2.1))))
        rw [Nat.add_zero] at c0
        clear hok hst hno hye hj hprev
        go_wp2_with fail
        refine wp_region_held_drew (S := (fun W => W.cell? ⟨b, off, none⟩ = some (.int .i64 x))) (by kernel_rfl) c0 (fun hHeld => ?_)
        refine tk 0 10 (h := ?_)
        refine tk 1 11 (h := ?_)
        refine tk 2 12 (h := ?_)
        refine tk 3 13 (h := ?_)
        cases h1 : decide (x < 0) with
        | true =>
          refine tk 4 14 (h := ?_)
          refine tk 5 15 (h := ?_)
          refine sk 6 16 (h := ?_)
          refine sk 7 17 (h := ?_)
          refine sk 8 18 (h := ?_)
          refine sk 9 19 (h := ?_)
          refine sk 10 20 (h := ?_)
          refine tk 11 21 (h := ?_)
          refine tk 12 22 (h := ?_)
          refine sk 13 23 (h := ?_)
          refine sk 14 24 (h := ?_)
          refine sk 15 25 (h := ?_)
          refine sk 16 26 (h := ?_)
          refine sk 17 27 (h := ?_)
          refine sk 18 28 (h := ?_)
          refine sk 19 29 (h := ?_)
          refine sk 20 30 (h := ?_)
          refine sk 21 31 (h := ?_)
          refine sk 22 32 (h := ?_)
          refine sk 23 33 (h := ?_)
          refine sk 24 34 (h := ?_)
          refine sk 25 35 (h := ?_)
          refine sk 26 36 (h := ?_)
          refine tk 27 37 (h := ?_)
          refine wpAnyH_done (by kernel_rfl) ?_ _
          go_wp2
          go_ret
          refine ⟨?_, HX.out.2.1.drew⟩
          rw [HX.out.2.2.1 (by rw [HX.out.1]; simp only [Rc.node]; simp only [decide_eq_true_eq, decide_eq_false_iff_not] at *; simp; omega)]
          rfl
        | false =>
          refine tk 4 14 (h := ?_)
          refine tk 5 15 (h := ?_)
          refine tk 6 16 (h := ?_)
          refine tk 7 17 (h := ?_)
          refine tk 8 18 (h := ?_)
          refine tk 9 19 (h := ?_)
          cases h2 : decide (7 < x) with
          | true =>
            refine tk 10 20 (h := ?_)
            refine tk 11 21 (h := ?_)
            refine tk 12 22 (h := ?_)
            refine sk 13 23 (h := ?_)
            refine sk 14 24 (h := ?_)
            refine sk 15 25 (h := ?_)
            refine sk 16 26 (h := ?_)
            refine sk 17 27 (h := ?_)
            refine sk 18 28 (h := ?_)
            refine sk 19 29 (h := ?_)
            refine sk 20 30 (h := ?_)
            refine sk 21 31 (h := ?_)
            refine sk 22 32 (h := ?_)
            refine sk 23 33 (h := ?_)
            refine sk 24 34 (h := ?_)
            refine sk 25 35 (h := ?_)
            refine sk 26 36 (h := ?_)
            refine tk 27 37 (h := ?_)
            refine wpAnyH_done (by kernel_rfl) ?_ _
            go_wp2
            go_ret
            refine ⟨?_, HX.out.2.1.drew⟩
            rw [HX.out.2.2.1 (by rw [HX.out.1]; simp only [Rc.node]; simp only [decide_eq_true_eq, decide_eq_false_iff_not] at *; simp; omega)]
            rfl
          | false =>
            refine tk 10 20 (h := ?_)
            refine tk 11 21 (h := ?_)
            refine tk 12 22 (h := ?_)
            refine tk 13 23 (h := ?_)
            refine tk 14 24 (h := ?_)
            refine tk 15 25 (h := ?_)
            refine sk 16 26 (h := ?_)
            refine sk 17 27 (h := ?_)
            refine sk 18 28 (h := ?_)
            refine sk 19 29 (h := ?_)
            refine sk 20 30 (h := ?_)
            refine sk 21 31 (h := ?_)
            refine sk 22 32 (h := ?_)
            refine sk 23 33 (h := ?_)
            refine sk 24 34 (h := ?_)
            refine sk 25 35 (h := ?_)
            refine tk 26 36 (h := ?_)
            refine tk 27 37 (h := ?_)
            refine wpAnyH_done (by kernel_rfl) ?_ _
            go_wp2
            go_roundg (n - 1)
            case rel => exact ⟨1, by omega, by omega, rfl, rfl, HX.out.2.2.2.1 (by rw [HX.out.1]; simp only [Rc.node]; simp only [decide_eq_true_eq, decide_eq_false_iff_not] at *; simp; omega), HX.out.2.1.drew⟩
            case measure => omega
      · have c1 := hprev hkp
        generalize l.getD (k - 1) 0 = y at *
        obtain ⟨k1, hk1⟩ : ∃ k1, k - 1 = k1 := ⟨_, rfl⟩
        rw [hk1] at c1
        have hkp' : decide ((0 : Int) < (k : Int)) = true := decide_eq_true (by omega)
        have hs0 : IntKind.i64.wrap ((k : Int) - 1) = (k1 : Int) := by have := H.out.2.1; rw [IntKind.wrap_i64]; omega
        have hs1 : (k1 : Int) < (n : Int) := by omega
        have hokk : Rc.okAt l k = (Rc.node x && decide (y < x)) := by rw [hok, decide_eq_false (by omega), Bool.false_or]
        have HX := Lib.hid (And.intro hokk (And.intro hst (And.intro hno (And.intro hye (And.intro H.out.2.1 hk)))))
        clear hok hokk hst hno hye hj hprev hk1
        go_wp2_with fail
        refine wp_region_held_drew (S := (fun W => W.cell? ⟨b, off + k, none⟩ = some (.int .i64 x) ∧ W.cell? ⟨b, off + k1, none⟩ = some (.int .i64 y))) (by kernel_rfl) ⟨c0, c1⟩ (fun hHeld => ?_)
        refine tk 0 10 (h := ?_)
        refine tk 1 11 (h := ?_)
        refine tk 2 12 (h := ?_)
        refine tk 3 13 (h := ?_)
        cases h1 : decide (x < 0) with
        | true =>
          refine tk 4 14 (h := ?_)
          refine tk 5 15 (h := ?_)
          refine sk 6 16 (h := ?_)
          refine sk 7 17 (h := ?_)
          refine sk 8 18 (h := ?_)
          refine sk 9 19 (h := ?_)
          refine sk 10 20 (h := ?_)
          refine tk 11 21 (h := ?_)
          refine tk 12 22 (h := ?_)
          refine sk 13 23 (h := ?_)
          refine sk 14 24 (h := ?_)
          refine sk 15 25 (h := ?_)
          refine sk 16 26 (h := ?_)
          refine sk 17 27 (h := ?_)
          refine sk 18 28 (h := ?_)
          refine sk 19 29 (h := ?_)
          refine sk 20 30 (h := ?_)
          refine sk 21 31 (h := ?_)
          refine sk 22 32 (h := ?_)
          refine sk 23 33 (h := ?_)
          refine sk 24 34 (h := ?_)
          refine sk 25 35 (h := ?_)
          refine sk 26 36 (h := ?_)
          refine tk 27 37 (h := ?_)
          refine wpAnyH_done (by kernel_rfl) ?_ _
          go_wp2
          go_ret
          refine ⟨?_, HX.out.2.1.drew⟩
          rw [HX.out.2.2.1 (by rw [HX.out.1]; simp only [Rc.node]; simp only [decide_eq_true_eq, decide_eq_false_iff_not] at *; simp; omega)]
          rfl
        | false =>
          refine tk 4 14 (h := ?_)
          refine tk 5 15 (h := ?_)
          refine tk 6 16 (h := ?_)
          refine tk 7 17 (h := ?_)
          refine tk 8 18 (h := ?_)
          refine tk 9 19 (h := ?_)
          cases h2 : decide (7 < x) with
          | true =>
            refine tk 10 20 (h := ?_)
            refine tk 11 21 (h := ?_)
            refine tk 12 22 (h := ?_)
            refine sk 13 23 (h := ?_)
            refine sk 14 24 (h := ?_)
            refine sk 15 25 (h := ?_)
            refine sk 16 26 (h := ?_)
            refine sk 17 27 (h := ?_)
            refine sk 18 28 (h := ?_)
            refine sk 19 29 (h := ?_)
            refine sk 20 30 (h := ?_)
            refine sk 21 31 (h := ?_)
            refine sk 22 32 (h := ?_)
            refine sk 23 33 (h := ?_)
            refine sk 24 34 (h := ?_)
            refine sk 25 35 (h := ?_)
            refine sk 26 36 (h := ?_)
            refine tk 27 37 (h := ?_)
            refine wpAnyH_done (by kernel_rfl) ?_ _
            go_wp2
            go_ret
            refine ⟨?_, HX.out.2.1.drew⟩
            rw [HX.out.2.2.1 (by rw [HX.out.1]; simp only [Rc.node]; simp only [decide_eq_true_eq, decide_eq_false_iff_not] at *; simp; omega)]
            rfl
          | false =>
            refine tk 10 20 (h := ?_)
            refine tk 11 21 (h := ?_)
            refine tk 12 22 (h := ?_)
            refine tk 13 23 (h := ?_)
            refine tk 14 24 (h := ?_)
            refine tk 15 25 (h := ?_)
            refine tk 16 26 (h := ?_)
            refine tk 17 27 (h := ?_)
            refine tk 18 28 (h := ?_)
            refine tk 19 29 (h := ?_)
            refine tk 20 30 (h := ?_)
            refine tk 21 31 (h := ?_)
            refine tk 22 32 (h := ?_)
            refine tk 23 33 (h := ?_)
            refine tk 24 34 (h := ?_)
            cases h3 : decide (x ≤ y) with
            | true =>
              refine tk 25 35 (h := ?_)
              refine tk 26 36 (h := ?_)
              refine tk 27 37 (h := ?_)
              refine wpAnyH_done (by kernel_rfl) ?_ _
              go_wp2
              go_ret
              refine ⟨?_, HX.out.2.1.drew⟩
              rw [HX.out.2.2.1 (by rw [HX.out.1]; simp only [Rc.node]; simp only [decide_eq_true_eq, decide_eq_false_iff_not] at *; simp; omega)]
              rfl
            | false =>
              refine tk 25 35 (h := ?_)
              refine tk 26 36 (h := ?_)
              refine tk 27 37 (h := ?_)
              refine wpAnyH_done (by kernel_rfl) ?_ _
              go_wp2
              go_roundg (n - (k + 1))
              case rel => exact ⟨k + 1, by omega, by omega, rfl, congrArg (Value.int .i64) (by have := HX.out.2.2.2.2; unfold wrap64; omega), HX.out.2.2.2.1 (by rw [HX.out.1]; simp only [Rc.node]; simp only [decide_eq_true_eq, decide_eq_false_iff_not] at *; simp; omega), HX.out.2.1.drew⟩
              case measure => omega
    · obtain rfl : k = n := by omega
      have HF := Lib.hid (And.intro (Rc.up_true (fun j h => hj j (by rw [H.out.2.2] at h; exact h))) hst)
      clear hj hst
      go_wp2
      go_ret
      exact ⟨by rw [HF.out.1]; rfl, HF.out.2⟩

end Go.Proofs.Ytlijfnekopjogaa

/- The document's records: which locks may be (printed by gen_mayref.py). -/
namespace Go.Proofs.Ytlijfnekopjogaa
open Go Go.RowKit Mem Rc
set_option maxRecDepth 100000
set_option linter.unusedVariables false
set_option linter.unusedSimpArgs false

set_option maxHeartbeats 8000000 in
theorem flocks_any (A : Option Addr) (n c : Nat) (l : List L) (w : World) (hl : ST lockK w A n l) (hn : n ≤ 1000000) :
    Calls Try.prog 42 #[.slice A n c] w fun e w' => e = .returned (.bool (Rc.locks l)) ∧ Below w.heap.size w w' := by
  by_cases h64 : 64 < n
  · have hd : decide ((64 : Int) < (n : Int)) = true := decide_eq_true (by omega)
    have hr : Rc.locks l = false := by unfold Rc.locks Rc.rising; rw [hl.len, decide_eq_false (by omega), Bool.false_and]
    rw [hr]
    clear h64 hl hn hr
    go_enter Try.func42, Try.ntmps42
    go_wp2
    go_ret
    exact ⟨rfl, Below.refl _ _⟩
  have hd : decide ((64 : Int) < (n : Int)) = false := decide_eq_false (by omega)
  have hr : Rc.locks l = Rc.ups L.zero (fun x => Rc.keyOk x.key) (fun a b => Rc.lt a.key b.key) l := by unfold Rc.locks Rc.rising; rw [hl.len, decide_eq_true (by omega), Bool.true_and]
  rw [hr]
  have H := Lib.hid (And.intro hl (And.intro hn hl.len))
  clear hl hn hr h64
  go_enter Try.func42, Try.ntmps42
  go_wp2
  go_loopg [2, 3] n (fun gk s i wr => ∃ k : Nat, k ≤ n ∧ gk = n - k ∧ s = .bool false ∧ i = .int .i64 k ∧ (∀ j, j < k → Rc.at_ L.zero (fun x => Rc.keyOk x.key) (fun a b => Rc.lt a.key b.key) l j = true) ∧ Below w.heap.size w wr)
  case atStart => exact ⟨0, by omega, by omega, rfl, rfl, fun j hj => absurd hj (by omega), Below.refl _ _⟩
  case round =>
    obtain ⟨k, hk, rfl, rfl, rfl, hj, hst⟩ := hrel
    by_cases hlt : k < n
    · obtain ⟨b, off, rfl, hbl, c0, _⟩ := lock_at (H.out.1.below hst) hlt
      have hkn : (k : Int) < (n : Int) := by omega
      have hok : Rc.at_ L.zero (fun x => Rc.keyOk x.key) (fun a b => Rc.lt a.key b.key) l k = (Rc.keyOk (l.getD k L.zero).key && (decide (k = 0) || Rc.lt (l.getD (k - 1) L.zero).key (l.getD k L.zero).key)) := rfl
      have hno : Rc.at_ L.zero (fun x => Rc.keyOk x.key) (fun a b => Rc.lt a.key b.key) l k = false → Rc.ups L.zero (fun x => Rc.keyOk x.key) (fun a b => Rc.lt a.key b.key) l = false := fun h => Rc.ups_false (by rw [H.out.2.2]; exact hlt) h
      have hye : Rc.at_ L.zero (fun x => Rc.keyOk x.key) (fun a b => Rc.lt a.key b.key) l k = true → ∀ j, j < k + 1 → Rc.at_ L.zero (fun x => Rc.keyOk x.key) (fun a b => Rc.lt a.key b.key) l j = true := fun h j hj2 => by
        rcases Nat.lt_or_ge j k with h1 | h1
        · exact hj j h1
        · obtain rfl : j = k := by omega
          exact h
      have hprev : 0 < k → wr.cell? ⟨b, off + (k - 1) * 2, none⟩ = some (.string (l.getD (k - 1) L.zero).key) := fun hk0 => by
        obtain ⟨b', off', e', _, c', _⟩ := lock_at (H.out.1.below hst) (show k - 1 < n by omega)
        injection e' with e'
        injection e' with e1 e2
        subst e1
        subst e2
        exact c'
      generalize l.getD k L.zero = x at *
      rcases Nat.eq_zero_or_pos k with rfl | hkp
      · have HX := Lib.hid (And.intro hok (And.intro hst (And.intro hno (And.intro hye H.out.2.1))))
        rw [Nat.zero_mul, Nat.add_zero] at c0
        clear hok hst hno hye hj hprev
        go_wp2_with fail
        refine wp_region_held_drew (S := (fun W => W.cell? ⟨b, off, none⟩ = some (.string x.key))) (by kernel_rfl) c0 (fun hHeld => ?_)
        refine tk 0 13 (h := ?_)
        refine tk 1 14 (h := ?_)
        refine tk 2 15 (h := ?_)
        refine tk 3 16 (h := ?_)
        refine tk 4 17 (h := ?_)
        cases h1 : Rc.keyOk x.key with
        | true =>
          refine wpAnyH_ready (rs := [5]) (by kernel_rfl) (by simp) ?_
          refine AllReadyH.cons rfl (fun K hK => ?_) AllReadyH.nil
          go_simp
          refine (fkey_any x.key _).mono ?_
          rintro e w8 ⟨rfl, rfl⟩
          rw [h1]
          refine hK.out _ _ hHeld (fun hHeld => ?_)
          clear hK K
          try simp only [Act.put, List.setIfInBounds_toArray, List.set_cons_zero, List.set_cons_succ]
          refine tk 6 19 (h := ?_)
          refine tk 7 20 (h := ?_)
          refine tk 8 21 (h := ?_)
          refine tk 9 22 (h := ?_)
          refine tk 10 23 (h := ?_)
          refine sk 11 24 (h := ?_)
          refine sk 12 25 (h := ?_)
          refine sk 13 26 (h := ?_)
          refine sk 14 27 (h := ?_)
          refine sk 15 28 (h := ?_)
          refine sk 16 29 (h := ?_)
          refine sk 17 30 (h := ?_)
          refine sk 18 31 (h := ?_)
          refine sk 19 32 (h := ?_)
          refine sk 20 33 (h := ?_)
          refine sk 21 34 (h := ?_)
          refine sk 22 35 (h := ?_)
          refine tk 23 36 (h := ?_)
          refine tk 24 37 (h := ?_)
          refine wpAnyH_done (by kernel_rfl) ?_ _
          go_wp2
          go_roundg (n - 1)
          case rel => exact ⟨1, by omega, by omega, rfl, rfl, HX.out.2.2.2.1 (by rw [HX.out.1]; simp [Rc.lt, *]), HX.out.2.1.drew⟩
          case measure => omega
        | false =>
          refine wpAnyH_ready (rs := [5]) (by kernel_rfl) (by simp) ?_
          refine AllReadyH.cons rfl (fun K hK => ?_) AllReadyH.nil
          go_simp
          refine (fkey_any x.key _).mono ?_
          rintro e w8 ⟨rfl, rfl⟩
          rw [h1]
          refine hK.out _ _ hHeld (fun hHeld => ?_)
          clear hK K
          try simp only [Act.put, List.setIfInBounds_toArray, List.set_cons_zero, List.set_cons_succ]
          refine tk 6 19 (h := ?_)
          refine tk 7 20 (h := ?_)
          refine sk 8 21 (h := ?_)
          refine sk 9 22 (h := ?_)
          refine sk 10 23 (h := ?_)
          refine sk 11 24 (h := ?_)
          refine sk 12 25 (h := ?_)
          refine sk 13 26 (h := ?_)
          refine sk 14 27 (h := ?_)
          refine sk 15 28 (h := ?_)
          refine sk 16 29 (h := ?_)
          refine sk 17 30 (h := ?_)
          refine sk 18 31 (h := ?_)
          refine sk 19 32 (h := ?_)
          refine sk 20 33 (h := ?_)
          refine sk 21 34 (h := ?_)
          refine sk 22 35 (h := ?_)
          refine sk 23 36 (h := ?_)
          refine tk 24 37 (h := ?_)
          refine wpAnyH_done (by kernel_rfl) ?_ _
          go_wp2
          go_ret
          refine ⟨?_, HX.out.2.1.drew⟩
          rw [HX.out.2.2.1 (by rw [HX.out.1]; simp [Rc.lt, *])]
          rfl
      · have c1 := hprev hkp
        generalize l.getD (k - 1) L.zero = y at *
        obtain ⟨k1, hk1⟩ : ∃ k1, k - 1 = k1 := ⟨_, rfl⟩
        rw [hk1] at c1
        have hkp' : decide ((0 : Int) < (k : Int)) = true := decide_eq_true (by omega)
        have hs0 : IntKind.i64.wrap ((k : Int) - 1) = (k1 : Int) := by have := H.out.2.1; rw [IntKind.wrap_i64]; omega
        have hs1 : (k1 : Int) < (n : Int) := by omega
        have hokk : Rc.at_ L.zero (fun x => Rc.keyOk x.key) (fun a b => Rc.lt a.key b.key) l k = (Rc.keyOk x.key && Rc.lt y.key x.key) := by rw [hok, decide_eq_false (by omega), Bool.false_or]
        have HX := Lib.hid (And.intro hokk (And.intro hst (And.intro hno (And.intro hye (And.intro H.out.2.1 hk)))))
        clear hok hokk hst hno hye hj hprev hk1
        go_wp2_with fail
        refine wp_region_held_drew (S := (fun W => W.cell? ⟨b, off + k * 2, none⟩ = some (.string x.key) ∧ W.cell? ⟨b, off + k1 * 2, none⟩ = some (.string y.key))) (by kernel_rfl) ⟨c0, c1⟩ (fun hHeld => ?_)
        refine tk 0 13 (h := ?_)
        refine tk 1 14 (h := ?_)
        refine tk 2 15 (h := ?_)
        refine tk 3 16 (h := ?_)
        refine tk 4 17 (h := ?_)
        cases h1 : Rc.keyOk x.key with
        | true =>
          refine wpAnyH_ready (rs := [5]) (by kernel_rfl) (by simp) ?_
          refine AllReadyH.cons rfl (fun K hK => ?_) AllReadyH.nil
          go_simp
          refine (fkey_any x.key _).mono ?_
          rintro e w8 ⟨rfl, rfl⟩
          rw [h1]
          refine hK.out _ _ hHeld (fun hHeld => ?_)
          clear hK K
          try simp only [Act.put, List.setIfInBounds_toArray, List.set_cons_zero, List.set_cons_succ]
          refine tk 6 19 (h := ?_)
          refine tk 7 20 (h := ?_)
          refine tk 8 21 (h := ?_)
          refine tk 9 22 (h := ?_)
          refine tk 10 23 (h := ?_)
          refine tk 11 24 (h := ?_)
          refine tk 12 25 (h := ?_)
          refine tk 13 26 (h := ?_)
          refine tk 14 27 (h := ?_)
          refine tk 15 28 (h := ?_)
          refine tk 16 29 (h := ?_)
          refine tk 17 30 (h := ?_)
          refine tk 18 31 (h := ?_)
          refine tk 19 32 (h := ?_)
          refine tk 20 33 (h := ?_)
          refine tk 21 34 (h := ?_)
          cases h3 : Op.bytesLess y.key.toList x.key.toList with
          | true =>
            refine tk 22 35 (h := ?_)
            refine tk 23 36 (h := ?_)
            refine tk 24 37 (h := ?_)
            refine wpAnyH_done (by kernel_rfl) ?_ _
            go_wp2
            go_roundg (n - (k + 1))
            case rel => exact ⟨k + 1, by omega, by omega, rfl, congrArg (Value.int .i64) (by have := HX.out.2.2.2.2; unfold wrap64; omega), HX.out.2.2.2.1 (by rw [HX.out.1]; simp [Rc.lt, *]), HX.out.2.1.drew⟩
            case measure => omega
          | false =>
            refine tk 22 35 (h := ?_)
            refine tk 23 36 (h := ?_)
            refine tk 24 37 (h := ?_)
            refine wpAnyH_done (by kernel_rfl) ?_ _
            go_wp2
            go_ret
            refine ⟨?_, HX.out.2.1.drew⟩
            rw [HX.out.2.2.1 (by rw [HX.out.1]; simp [Rc.lt, *])]
            rfl
        | false =>
          refine wpAnyH_ready (rs := [5]) (by kernel_rfl) (by simp) ?_
          refine AllReadyH.cons rfl (fun K hK => ?_) AllReadyH.nil
          go_simp
          refine (fkey_any x.key _).mono ?_
          rintro e w8 ⟨rfl, rfl⟩
          rw [h1]
          refine hK.out _ _ hHeld (fun hHeld => ?_)
          clear hK K
          try simp only [Act.put, List.setIfInBounds_toArray, List.set_cons_zero, List.set_cons_succ]
          refine tk 6 19 (h := ?_)
          refine tk 7 20 (h := ?_)
          refine sk 8 21 (h := ?_)
          refine sk 9 22 (h := ?_)
          refine sk 10 23 (h := ?_)
          refine sk 11 24 (h := ?_)
          refine sk 12 25 (h := ?_)
          refine sk 13 26 (h := ?_)
          refine sk 14 27 (h := ?_)
          refine sk 15 28 (h := ?_)
          refine sk 16 29 (h := ?_)
          refine sk 17 30 (h := ?_)
          refine sk 18 31 (h := ?_)
          refine sk 19 32 (h := ?_)
          refine sk 20 33 (h := ?_)
          refine sk 21 34 (h := ?_)
          refine sk 22 35 (h := ?_)
          refine sk 23 36 (h := ?_)
          refine tk 24 37 (h := ?_)
          refine wpAnyH_done (by kernel_rfl) ?_ _
          go_wp2
          go_ret
          refine ⟨?_, HX.out.2.1.drew⟩
          rw [HX.out.2.2.1 (by rw [HX.out.1]; simp [Rc.lt, *])]
          rfl
    · obtain rfl : k = n := by omega
      have HF := Lib.hid (And.intro (Rc.ups_true (fun j h => hj j (by rw [H.out.2.2] at h; exact h))) hst)
      clear hj hst
      go_wp2
      go_ret
      exact ⟨by rw [HF.out.1]; rfl, HF.out.2⟩
end Go.Proofs.Ytlijfnekopjogaa
