/- Whether a record has something that its kind hasn't: rec.spare (printed by gen_spare.py). -/
import Derived.Test.YtlijfnekopjogaaRecSpare1
import Derived.Test.YtlijfnekopjogaaRecSpare2
import Derived.Test.YtlijfnekopjogaaRecSpare3
namespace Go.Proofs.Ytlijfnekopjogaa
open Go Go.RowKit Mem Rc
set_option maxRecDepth 100000
set_option linter.unusedVariables false
set_option linter.unusedSimpArgs false

theorem ne_len {α : Type} (l : List α) : (!decide (l.length = 0)) = ((l.length : Int) != 0) := by
  cases l with
  | nil => rfl
  | cons a t =>
    rw [decide_eq_false (by simp)]
    have : (((a :: t).length : Int) == 0) = false := by rw [beq_eq_false_iff_ne]; simp only [List.length_cons]; omega
    unfold bne
    rw [this]
theorem wrap64_small (n : Int) (h0 : 0 ≤ n) (h1 : n ≤ 9223372036854775807) : wrap64 n = n := by unfold wrap64; omega
theorem ne_lists (x : MD) (hs : Small x) : (!decide (x.m.rows.length + x.m.dirty.length + x.m.deeds.length + x.m.past.length = 0)) = (wrap64 (wrap64 (wrap64 ((x.rows.length : Int) + (x.dirty.length : Int)) + (x.deeds.length : Int)) + (x.past.length : Int)) != 0) := by
  obtain ⟨-, -, h1, h2, h3, h4, -, -⟩ := hs
  have e1 : x.m.rows.length = x.rows.length := List.length_map _
  have e2 : x.m.deeds.length = x.deeds.length := List.length_map _
  rw [e1, e2, show x.m.dirty = x.dirty from rfl, show x.m.past = x.past from rfl]
  generalize x.rows.length = a at *
  generalize x.dirty.length = b at *
  generalize x.deeds.length = c at *
  generalize x.past.length = d at *
  rw [wrap64_small ((a : Int) + b) (by omega) (by omega), wrap64_small ((a : Int) + b + c) (by omega) (by omega), wrap64_small ((a : Int) + b + c + d) (by omega) (by omega)]
  unfold bne
  congr 1
  rw [Bool.eq_iff_iff, decide_eq_true_eq, beq_iff_eq]
  omega
theorem spare_eq (x : MD) (hs : Small x) (b : Bare) (hB : Rc.wants x.kind = b) : Rc.spare x.m = (b.prev && (x.prev != 0) || b.next && (x.nxt != 0) || b.key && !x.key.toList.isEmpty || b.old && !(!x.old.has && x.old.data.toList.isEmpty) || b.new && !(!x.new.has && x.new.data.toList.isEmpty) || b.coord && (x.coord != 0) || b.members && ((x.mem.length : Int) != 0) || b.locks && ((x.locks.length : Int) != 0) || b.lists && (wrap64 (wrap64 (wrap64 ((x.rows.length : Int) + (x.dirty.length : Int)) + (x.deeds.length : Int)) + (x.past.length : Int)) != 0)) := by
  unfold Rc.spare
  rw [show x.m.kind = x.kind from rfl, hB, ne_lists x hs, show x.m.mem = x.mem from rfl, show x.m.locks = x.locks from rfl, ne_len, ne_len]
  rfl
theorem spare_u (x : MD) (hs : Small x) (hB : Rc.wants x.kind = ⟨false, true, false, false, false, true, true, true, true⟩) (hw : ∀ W, Calls Try.prog 61 #[.int .i64 x.kind] W fun e w' => e = .returned (.agg #[.bool false, .bool true, .bool false, .bool false, .bool false, .bool true, .bool true, .bool true, .bool true]) ∧ Below W.heap.size W w') (w : World) : Calls Try.prog 28 #[mVal x] w fun e w' => e = .returned (.bool (Rc.spare x.m)) ∧ Below w.heap.size w w' := by
  cases h1 : (x.nxt != 0) with
  | true =>
    have hv : Rc.spare x.m = true := by rw [spare_eq x hs _ hB, h1]; simp only [Bool.false_and, Bool.true_and, Bool.and_false, Bool.and_true, Bool.not_true, Bool.not_false, Bool.or_false, Bool.false_or, Bool.true_or, Bool.or_true]
    rw [hv]
    exact spare_u1 x hw h1 w
  | false =>
    cases h5 : (x.coord != 0) with
    | true =>
      have hv : Rc.spare x.m = true := by rw [spare_eq x hs _ hB, h1, h5]; simp only [Bool.false_and, Bool.true_and, Bool.and_false, Bool.and_true, Bool.not_true, Bool.not_false, Bool.or_false, Bool.false_or, Bool.true_or, Bool.or_true]
      rw [hv]
      exact spare_u5 x hw h1 h5 w
    | false =>
      cases h6 : ((x.mem.length : Int) != 0) with
      | true =>
        have hv : Rc.spare x.m = true := by rw [spare_eq x hs _ hB, h1, h5, h6]; simp only [Bool.false_and, Bool.true_and, Bool.and_false, Bool.and_true, Bool.not_true, Bool.not_false, Bool.or_false, Bool.false_or, Bool.true_or, Bool.or_true]
        rw [hv]
        exact spare_u6 x hw h1 h5 h6 w
      | false =>
        cases h7 : ((x.locks.length : Int) != 0) with
        | true =>
          have hv : Rc.spare x.m = true := by rw [spare_eq x hs _ hB, h1, h5, h6, h7]; simp only [Bool.false_and, Bool.true_and, Bool.and_false, Bool.and_true, Bool.not_true, Bool.not_false, Bool.or_false, Bool.false_or, Bool.true_or, Bool.or_true]
          rw [hv]
          exact spare_u7 x hw h1 h5 h6 h7 w
        | false =>
          cases h8 : (wrap64 (wrap64 (wrap64 ((x.rows.length : Int) + (x.dirty.length : Int)) + (x.deeds.length : Int)) + (x.past.length : Int)) != 0) with
          | true =>
            have hv : Rc.spare x.m = true := by rw [spare_eq x hs _ hB, h1, h5, h6, h7, h8]; simp only [Bool.false_and, Bool.true_and, Bool.and_false, Bool.and_true, Bool.not_true, Bool.not_false, Bool.or_false, Bool.false_or, Bool.true_or, Bool.or_true]
            rw [hv]
            exact spare_u8 x hw h1 h5 h6 h7 h8 w
          | false =>
            have hv : Rc.spare x.m = false := by rw [spare_eq x hs _ hB, h1, h5, h6, h7, h8]; simp only [Bool.false_and, Bool.true_and, Bool.and_false, Bool.and_true, Bool.not_true, Bool.not_false, Bool.or_false, Bool.false_or, Bool.true_or, Bool.or_true]
            rw [hv]
            exact spare_uz x hw h1 h5 h6 h7 h8 w
theorem spare_c (x : MD) (hs : Small x) (hB : Rc.wants x.kind = ⟨false, false, false, true, false, true, true, true, true⟩) (hw : ∀ W, Calls Try.prog 61 #[.int .i64 x.kind] W fun e w' => e = .returned (.agg #[.bool false, .bool false, .bool false, .bool true, .bool false, .bool true, .bool true, .bool true, .bool true]) ∧ Below W.heap.size W w') (w : World) : Calls Try.prog 28 #[mVal x] w fun e w' => e = .returned (.bool (Rc.spare x.m)) ∧ Below w.heap.size w w' := by
  cases h3a : x.old.has with
  | true =>
    have hv : Rc.spare x.m = true := by rw [spare_eq x hs _ hB, h3a]; simp only [Bool.false_and, Bool.true_and, Bool.and_false, Bool.and_true, Bool.not_true, Bool.not_false, Bool.or_false, Bool.false_or, Bool.true_or, Bool.or_true]
    rw [hv]
    exact spare_c3 x hw h3a w
  | false =>
    cases h3b : x.old.data.toList.isEmpty with
    | false =>
      have hv : Rc.spare x.m = true := by rw [spare_eq x hs _ hB, h3a, h3b]; simp only [Bool.false_and, Bool.true_and, Bool.and_false, Bool.and_true, Bool.not_true, Bool.not_false, Bool.or_false, Bool.false_or, Bool.true_or, Bool.or_true]
      rw [hv]
      exact spare_c3b x hw h3a h3b w
    | true =>
      cases h5 : (x.coord != 0) with
      | true =>
        have hv : Rc.spare x.m = true := by rw [spare_eq x hs _ hB, h3a, h3b, h5]; simp only [Bool.false_and, Bool.true_and, Bool.and_false, Bool.and_true, Bool.not_true, Bool.not_false, Bool.or_false, Bool.false_or, Bool.true_or, Bool.or_true]
        rw [hv]
        exact spare_c5 x hw h3a h3b h5 w
      | false =>
        cases h6 : ((x.mem.length : Int) != 0) with
        | true =>
          have hv : Rc.spare x.m = true := by rw [spare_eq x hs _ hB, h3a, h3b, h5, h6]; simp only [Bool.false_and, Bool.true_and, Bool.and_false, Bool.and_true, Bool.not_true, Bool.not_false, Bool.or_false, Bool.false_or, Bool.true_or, Bool.or_true]
          rw [hv]
          exact spare_c6 x hw h3a h3b h5 h6 w
        | false =>
          cases h7 : ((x.locks.length : Int) != 0) with
          | true =>
            have hv : Rc.spare x.m = true := by rw [spare_eq x hs _ hB, h3a, h3b, h5, h6, h7]; simp only [Bool.false_and, Bool.true_and, Bool.and_false, Bool.and_true, Bool.not_true, Bool.not_false, Bool.or_false, Bool.false_or, Bool.true_or, Bool.or_true]
            rw [hv]
            exact spare_c7 x hw h3a h3b h5 h6 h7 w
          | false =>
            cases h8 : (wrap64 (wrap64 (wrap64 ((x.rows.length : Int) + (x.dirty.length : Int)) + (x.deeds.length : Int)) + (x.past.length : Int)) != 0) with
            | true =>
              have hv : Rc.spare x.m = true := by rw [spare_eq x hs _ hB, h3a, h3b, h5, h6, h7, h8]; simp only [Bool.false_and, Bool.true_and, Bool.and_false, Bool.and_true, Bool.not_true, Bool.not_false, Bool.or_false, Bool.false_or, Bool.true_or, Bool.or_true]
              rw [hv]
              exact spare_c8 x hw h3a h3b h5 h6 h7 h8 w
            | false =>
              have hv : Rc.spare x.m = false := by rw [spare_eq x hs _ hB, h3a, h3b, h5, h6, h7, h8]; simp only [Bool.false_and, Bool.true_and, Bool.and_false, Bool.and_true, Bool.not_true, Bool.not_false, Bool.or_false, Bool.false_or, Bool.true_or, Bool.or_true]
              rw [hv]
              exact spare_cz x hw h3a h3b h5 h6 h7 h8 w
theorem spare_p (x : MD) (hs : Small x) (hB : Rc.wants x.kind = ⟨false, true, true, true, true, false, false, false, true⟩) (hw : ∀ W, Calls Try.prog 61 #[.int .i64 x.kind] W fun e w' => e = .returned (.agg #[.bool false, .bool true, .bool true, .bool true, .bool true, .bool false, .bool false, .bool false, .bool true]) ∧ Below W.heap.size W w') (w : World) : Calls Try.prog 28 #[mVal x] w fun e w' => e = .returned (.bool (Rc.spare x.m)) ∧ Below w.heap.size w w' := by
  cases h1 : (x.nxt != 0) with
  | true =>
    have hv : Rc.spare x.m = true := by rw [spare_eq x hs _ hB, h1]; simp only [Bool.false_and, Bool.true_and, Bool.and_false, Bool.and_true, Bool.not_true, Bool.not_false, Bool.or_false, Bool.false_or, Bool.true_or, Bool.or_true]
    rw [hv]
    exact spare_p1 x hw h1 w
  | false =>
    cases h2 : (!x.key.toList.isEmpty) with
    | true =>
      have hv : Rc.spare x.m = true := by rw [spare_eq x hs _ hB, h1, h2]; simp only [Bool.false_and, Bool.true_and, Bool.and_false, Bool.and_true, Bool.not_true, Bool.not_false, Bool.or_false, Bool.false_or, Bool.true_or, Bool.or_true]
      rw [hv]
      exact spare_p2 x hw h1 h2 w
    | false =>
      cases h3a : x.old.has with
      | true =>
        have hv : Rc.spare x.m = true := by rw [spare_eq x hs _ hB, h1, h2, h3a]; simp only [Bool.false_and, Bool.true_and, Bool.and_false, Bool.and_true, Bool.not_true, Bool.not_false, Bool.or_false, Bool.false_or, Bool.true_or, Bool.or_true]
        rw [hv]
        exact spare_p3 x hw h1 h2 h3a w
      | false =>
        cases h3b : x.old.data.toList.isEmpty with
        | false =>
          have hv : Rc.spare x.m = true := by rw [spare_eq x hs _ hB, h1, h2, h3a, h3b]; simp only [Bool.false_and, Bool.true_and, Bool.and_false, Bool.and_true, Bool.not_true, Bool.not_false, Bool.or_false, Bool.false_or, Bool.true_or, Bool.or_true]
          rw [hv]
          exact spare_p3b x hw h1 h2 h3a h3b w
        | true =>
          cases h4a : x.new.has with
          | true =>
            have hv : Rc.spare x.m = true := by rw [spare_eq x hs _ hB, h1, h2, h3a, h3b, h4a]; simp only [Bool.false_and, Bool.true_and, Bool.and_false, Bool.and_true, Bool.not_true, Bool.not_false, Bool.or_false, Bool.false_or, Bool.true_or, Bool.or_true]
            rw [hv]
            exact spare_p4 x hw h1 h2 h3a h3b h4a w
          | false =>
            cases h4b : x.new.data.toList.isEmpty with
            | false =>
              have hv : Rc.spare x.m = true := by rw [spare_eq x hs _ hB, h1, h2, h3a, h3b, h4a, h4b]; simp only [Bool.false_and, Bool.true_and, Bool.and_false, Bool.and_true, Bool.not_true, Bool.not_false, Bool.or_false, Bool.false_or, Bool.true_or, Bool.or_true]
              rw [hv]
              exact spare_p4b x hw h1 h2 h3a h3b h4a h4b w
            | true =>
              cases h8 : (wrap64 (wrap64 (wrap64 ((x.rows.length : Int) + (x.dirty.length : Int)) + (x.deeds.length : Int)) + (x.past.length : Int)) != 0) with
              | true =>
                have hv : Rc.spare x.m = true := by rw [spare_eq x hs _ hB, h1, h2, h3a, h3b, h4a, h4b, h8]; simp only [Bool.false_and, Bool.true_and, Bool.and_false, Bool.and_true, Bool.not_true, Bool.not_false, Bool.or_false, Bool.false_or, Bool.true_or, Bool.or_true]
                rw [hv]
                exact spare_p8 x hw h1 h2 h3a h3b h4a h4b h8 w
              | false =>
                have hv : Rc.spare x.m = false := by rw [spare_eq x hs _ hB, h1, h2, h3a, h3b, h4a, h4b, h8]; simp only [Bool.false_and, Bool.true_and, Bool.and_false, Bool.and_true, Bool.not_true, Bool.not_false, Bool.or_false, Bool.false_or, Bool.true_or, Bool.or_true]
                rw [hv]
                exact spare_pz x hw h1 h2 h3a h3b h4a h4b h8 w
theorem spare_e (x : MD) (hs : Small x) (hB : Rc.wants x.kind = ⟨false, true, true, true, true, true, true, true, true⟩) (hw : ∀ W, Calls Try.prog 61 #[.int .i64 x.kind] W fun e w' => e = .returned (.agg #[.bool false, .bool true, .bool true, .bool true, .bool true, .bool true, .bool true, .bool true, .bool true]) ∧ Below W.heap.size W w') (w : World) : Calls Try.prog 28 #[mVal x] w fun e w' => e = .returned (.bool (Rc.spare x.m)) ∧ Below w.heap.size w w' := by
  cases h1 : (x.nxt != 0) with
  | true =>
    have hv : Rc.spare x.m = true := by rw [spare_eq x hs _ hB, h1]; simp only [Bool.false_and, Bool.true_and, Bool.and_false, Bool.and_true, Bool.not_true, Bool.not_false, Bool.or_false, Bool.false_or, Bool.true_or, Bool.or_true]
    rw [hv]
    exact spare_e1 x hw h1 w
  | false =>
    cases h2 : (!x.key.toList.isEmpty) with
    | true =>
      have hv : Rc.spare x.m = true := by rw [spare_eq x hs _ hB, h1, h2]; simp only [Bool.false_and, Bool.true_and, Bool.and_false, Bool.and_true, Bool.not_true, Bool.not_false, Bool.or_false, Bool.false_or, Bool.true_or, Bool.or_true]
      rw [hv]
      exact spare_e2 x hw h1 h2 w
    | false =>
      cases h3a : x.old.has with
      | true =>
        have hv : Rc.spare x.m = true := by rw [spare_eq x hs _ hB, h1, h2, h3a]; simp only [Bool.false_and, Bool.true_and, Bool.and_false, Bool.and_true, Bool.not_true, Bool.not_false, Bool.or_false, Bool.false_or, Bool.true_or, Bool.or_true]
        rw [hv]
        exact spare_e3 x hw h1 h2 h3a w
      | false =>
        cases h3b : x.old.data.toList.isEmpty with
        | false =>
          have hv : Rc.spare x.m = true := by rw [spare_eq x hs _ hB, h1, h2, h3a, h3b]; simp only [Bool.false_and, Bool.true_and, Bool.and_false, Bool.and_true, Bool.not_true, Bool.not_false, Bool.or_false, Bool.false_or, Bool.true_or, Bool.or_true]
          rw [hv]
          exact spare_e3b x hw h1 h2 h3a h3b w
        | true =>
          cases h4a : x.new.has with
          | true =>
            have hv : Rc.spare x.m = true := by rw [spare_eq x hs _ hB, h1, h2, h3a, h3b, h4a]; simp only [Bool.false_and, Bool.true_and, Bool.and_false, Bool.and_true, Bool.not_true, Bool.not_false, Bool.or_false, Bool.false_or, Bool.true_or, Bool.or_true]
            rw [hv]
            exact spare_e4 x hw h1 h2 h3a h3b h4a w
          | false =>
            cases h4b : x.new.data.toList.isEmpty with
            | false =>
              have hv : Rc.spare x.m = true := by rw [spare_eq x hs _ hB, h1, h2, h3a, h3b, h4a, h4b]; simp only [Bool.false_and, Bool.true_and, Bool.and_false, Bool.and_true, Bool.not_true, Bool.not_false, Bool.or_false, Bool.false_or, Bool.true_or, Bool.or_true]
              rw [hv]
              exact spare_e4b x hw h1 h2 h3a h3b h4a h4b w
            | true =>
              cases h5 : (x.coord != 0) with
              | true =>
                have hv : Rc.spare x.m = true := by rw [spare_eq x hs _ hB, h1, h2, h3a, h3b, h4a, h4b, h5]; simp only [Bool.false_and, Bool.true_and, Bool.and_false, Bool.and_true, Bool.not_true, Bool.not_false, Bool.or_false, Bool.false_or, Bool.true_or, Bool.or_true]
                rw [hv]
                exact spare_e5 x hw h1 h2 h3a h3b h4a h4b h5 w
              | false =>
                cases h6 : ((x.mem.length : Int) != 0) with
                | true =>
                  have hv : Rc.spare x.m = true := by rw [spare_eq x hs _ hB, h1, h2, h3a, h3b, h4a, h4b, h5, h6]; simp only [Bool.false_and, Bool.true_and, Bool.and_false, Bool.and_true, Bool.not_true, Bool.not_false, Bool.or_false, Bool.false_or, Bool.true_or, Bool.or_true]
                  rw [hv]
                  exact spare_e6 x hw h1 h2 h3a h3b h4a h4b h5 h6 w
                | false =>
                  cases h7 : ((x.locks.length : Int) != 0) with
                  | true =>
                    have hv : Rc.spare x.m = true := by rw [spare_eq x hs _ hB, h1, h2, h3a, h3b, h4a, h4b, h5, h6, h7]; simp only [Bool.false_and, Bool.true_and, Bool.and_false, Bool.and_true, Bool.not_true, Bool.not_false, Bool.or_false, Bool.false_or, Bool.true_or, Bool.or_true]
                    rw [hv]
                    exact spare_e7 x hw h1 h2 h3a h3b h4a h4b h5 h6 h7 w
                  | false =>
                    cases h8 : (wrap64 (wrap64 (wrap64 ((x.rows.length : Int) + (x.dirty.length : Int)) + (x.deeds.length : Int)) + (x.past.length : Int)) != 0) with
                    | true =>
                      have hv : Rc.spare x.m = true := by rw [spare_eq x hs _ hB, h1, h2, h3a, h3b, h4a, h4b, h5, h6, h7, h8]; simp only [Bool.false_and, Bool.true_and, Bool.and_false, Bool.and_true, Bool.not_true, Bool.not_false, Bool.or_false, Bool.false_or, Bool.true_or, Bool.or_true]
                      rw [hv]
                      exact spare_e8 x hw h1 h2 h3a h3b h4a h4b h5 h6 h7 h8 w
                    | false =>
                      have hv : Rc.spare x.m = false := by rw [spare_eq x hs _ hB, h1, h2, h3a, h3b, h4a, h4b, h5, h6, h7, h8]; simp only [Bool.false_and, Bool.true_and, Bool.and_false, Bool.and_true, Bool.not_true, Bool.not_false, Bool.or_false, Bool.false_or, Bool.true_or, Bool.or_true]
                      rw [hv]
                      exact spare_ez x hw h1 h2 h3a h3b h4a h4b h5 h6 h7 h8 w
theorem spare_n (x : MD) (hs : Small x) (hB : Rc.wants x.kind = ⟨true, true, true, true, true, true, true, true, true⟩) (hw : ∀ W, Calls Try.prog 61 #[.int .i64 x.kind] W fun e w' => e = .returned (.agg #[.bool true, .bool true, .bool true, .bool true, .bool true, .bool true, .bool true, .bool true, .bool true]) ∧ Below W.heap.size W w') (w : World) : Calls Try.prog 28 #[mVal x] w fun e w' => e = .returned (.bool (Rc.spare x.m)) ∧ Below w.heap.size w w' := by
  cases h0 : (x.prev != 0) with
  | true =>
    have hv : Rc.spare x.m = true := by rw [spare_eq x hs _ hB, h0]; simp only [Bool.false_and, Bool.true_and, Bool.and_false, Bool.and_true, Bool.not_true, Bool.not_false, Bool.or_false, Bool.false_or, Bool.true_or, Bool.or_true]
    rw [hv]
    exact spare_n0 x hw h0 w
  | false =>
    cases h1 : (x.nxt != 0) with
    | true =>
      have hv : Rc.spare x.m = true := by rw [spare_eq x hs _ hB, h0, h1]; simp only [Bool.false_and, Bool.true_and, Bool.and_false, Bool.and_true, Bool.not_true, Bool.not_false, Bool.or_false, Bool.false_or, Bool.true_or, Bool.or_true]
      rw [hv]
      exact spare_n1 x hw h0 h1 w
    | false =>
      cases h2 : (!x.key.toList.isEmpty) with
      | true =>
        have hv : Rc.spare x.m = true := by rw [spare_eq x hs _ hB, h0, h1, h2]; simp only [Bool.false_and, Bool.true_and, Bool.and_false, Bool.and_true, Bool.not_true, Bool.not_false, Bool.or_false, Bool.false_or, Bool.true_or, Bool.or_true]
        rw [hv]
        exact spare_n2 x hw h0 h1 h2 w
      | false =>
        cases h3a : x.old.has with
        | true =>
          have hv : Rc.spare x.m = true := by rw [spare_eq x hs _ hB, h0, h1, h2, h3a]; simp only [Bool.false_and, Bool.true_and, Bool.and_false, Bool.and_true, Bool.not_true, Bool.not_false, Bool.or_false, Bool.false_or, Bool.true_or, Bool.or_true]
          rw [hv]
          exact spare_n3 x hw h0 h1 h2 h3a w
        | false =>
          cases h3b : x.old.data.toList.isEmpty with
          | false =>
            have hv : Rc.spare x.m = true := by rw [spare_eq x hs _ hB, h0, h1, h2, h3a, h3b]; simp only [Bool.false_and, Bool.true_and, Bool.and_false, Bool.and_true, Bool.not_true, Bool.not_false, Bool.or_false, Bool.false_or, Bool.true_or, Bool.or_true]
            rw [hv]
            exact spare_n3b x hw h0 h1 h2 h3a h3b w
          | true =>
            cases h4a : x.new.has with
            | true =>
              have hv : Rc.spare x.m = true := by rw [spare_eq x hs _ hB, h0, h1, h2, h3a, h3b, h4a]; simp only [Bool.false_and, Bool.true_and, Bool.and_false, Bool.and_true, Bool.not_true, Bool.not_false, Bool.or_false, Bool.false_or, Bool.true_or, Bool.or_true]
              rw [hv]
              exact spare_n4 x hw h0 h1 h2 h3a h3b h4a w
            | false =>
              cases h4b : x.new.data.toList.isEmpty with
              | false =>
                have hv : Rc.spare x.m = true := by rw [spare_eq x hs _ hB, h0, h1, h2, h3a, h3b, h4a, h4b]; simp only [Bool.false_and, Bool.true_and, Bool.and_false, Bool.and_true, Bool.not_true, Bool.not_false, Bool.or_false, Bool.false_or, Bool.true_or, Bool.or_true]
                rw [hv]
                exact spare_n4b x hw h0 h1 h2 h3a h3b h4a h4b w
              | true =>
                cases h5 : (x.coord != 0) with
                | true =>
                  have hv : Rc.spare x.m = true := by rw [spare_eq x hs _ hB, h0, h1, h2, h3a, h3b, h4a, h4b, h5]; simp only [Bool.false_and, Bool.true_and, Bool.and_false, Bool.and_true, Bool.not_true, Bool.not_false, Bool.or_false, Bool.false_or, Bool.true_or, Bool.or_true]
                  rw [hv]
                  exact spare_n5 x hw h0 h1 h2 h3a h3b h4a h4b h5 w
                | false =>
                  cases h6 : ((x.mem.length : Int) != 0) with
                  | true =>
                    have hv : Rc.spare x.m = true := by rw [spare_eq x hs _ hB, h0, h1, h2, h3a, h3b, h4a, h4b, h5, h6]; simp only [Bool.false_and, Bool.true_and, Bool.and_false, Bool.and_true, Bool.not_true, Bool.not_false, Bool.or_false, Bool.false_or, Bool.true_or, Bool.or_true]
                    rw [hv]
                    exact spare_n6 x hw h0 h1 h2 h3a h3b h4a h4b h5 h6 w
                  | false =>
                    cases h7 : ((x.locks.length : Int) != 0) with
                    | true =>
                      have hv : Rc.spare x.m = true := by rw [spare_eq x hs _ hB, h0, h1, h2, h3a, h3b, h4a, h4b, h5, h6, h7]; simp only [Bool.false_and, Bool.true_and, Bool.and_false, Bool.and_true, Bool.not_true, Bool.not_false, Bool.or_false, Bool.false_or, Bool.true_or, Bool.or_true]
                      rw [hv]
                      exact spare_n7 x hw h0 h1 h2 h3a h3b h4a h4b h5 h6 h7 w
                    | false =>
                      cases h8 : (wrap64 (wrap64 (wrap64 ((x.rows.length : Int) + (x.dirty.length : Int)) + (x.deeds.length : Int)) + (x.past.length : Int)) != 0) with
                      | true =>
                        have hv : Rc.spare x.m = true := by rw [spare_eq x hs _ hB, h0, h1, h2, h3a, h3b, h4a, h4b, h5, h6, h7, h8]; simp only [Bool.false_and, Bool.true_and, Bool.and_false, Bool.and_true, Bool.not_true, Bool.not_false, Bool.or_false, Bool.false_or, Bool.true_or, Bool.or_true]
                        rw [hv]
                        exact spare_n8 x hw h0 h1 h2 h3a h3b h4a h4b h5 h6 h7 h8 w
                      | false =>
                        have hv : Rc.spare x.m = false := by rw [spare_eq x hs _ hB, h0, h1, h2, h3a, h3b, h4a, h4b, h5, h6, h7, h8]; simp only [Bool.false_and, Bool.true_and, Bool.and_false, Bool.and_true, Bool.not_true, Bool.not_false, Bool.or_false, Bool.false_or, Bool.true_or, Bool.or_true]
                        rw [hv]
                        exact spare_nz x hw h0 h1 h2 h3a h3b h4a h4b h5 h6 h7 h8 w
theorem spare_k (x : MD) (hs : Small x) (hB : Rc.wants x.kind = ⟨true, true, true, true, true, true, true, true, false⟩) (hw : ∀ W, Calls Try.prog 61 #[.int .i64 x.kind] W fun e w' => e = .returned (.agg #[.bool true, .bool true, .bool true, .bool true, .bool true, .bool true, .bool true, .bool true, .bool false]) ∧ Below W.heap.size W w') (w : World) : Calls Try.prog 28 #[mVal x] w fun e w' => e = .returned (.bool (Rc.spare x.m)) ∧ Below w.heap.size w w' := by
  cases h0 : (x.prev != 0) with
  | true =>
    have hv : Rc.spare x.m = true := by rw [spare_eq x hs _ hB, h0]; simp only [Bool.false_and, Bool.true_and, Bool.and_false, Bool.and_true, Bool.not_true, Bool.not_false, Bool.or_false, Bool.false_or, Bool.true_or, Bool.or_true]
    rw [hv]
    exact spare_k0 x hw h0 w
  | false =>
    cases h1 : (x.nxt != 0) with
    | true =>
      have hv : Rc.spare x.m = true := by rw [spare_eq x hs _ hB, h0, h1]; simp only [Bool.false_and, Bool.true_and, Bool.and_false, Bool.and_true, Bool.not_true, Bool.not_false, Bool.or_false, Bool.false_or, Bool.true_or, Bool.or_true]
      rw [hv]
      exact spare_k1 x hw h0 h1 w
    | false =>
      cases h2 : (!x.key.toList.isEmpty) with
      | true =>
        have hv : Rc.spare x.m = true := by rw [spare_eq x hs _ hB, h0, h1, h2]; simp only [Bool.false_and, Bool.true_and, Bool.and_false, Bool.and_true, Bool.not_true, Bool.not_false, Bool.or_false, Bool.false_or, Bool.true_or, Bool.or_true]
        rw [hv]
        exact spare_k2 x hw h0 h1 h2 w
      | false =>
        cases h3a : x.old.has with
        | true =>
          have hv : Rc.spare x.m = true := by rw [spare_eq x hs _ hB, h0, h1, h2, h3a]; simp only [Bool.false_and, Bool.true_and, Bool.and_false, Bool.and_true, Bool.not_true, Bool.not_false, Bool.or_false, Bool.false_or, Bool.true_or, Bool.or_true]
          rw [hv]
          exact spare_k3 x hw h0 h1 h2 h3a w
        | false =>
          cases h3b : x.old.data.toList.isEmpty with
          | false =>
            have hv : Rc.spare x.m = true := by rw [spare_eq x hs _ hB, h0, h1, h2, h3a, h3b]; simp only [Bool.false_and, Bool.true_and, Bool.and_false, Bool.and_true, Bool.not_true, Bool.not_false, Bool.or_false, Bool.false_or, Bool.true_or, Bool.or_true]
            rw [hv]
            exact spare_k3b x hw h0 h1 h2 h3a h3b w
          | true =>
            cases h4a : x.new.has with
            | true =>
              have hv : Rc.spare x.m = true := by rw [spare_eq x hs _ hB, h0, h1, h2, h3a, h3b, h4a]; simp only [Bool.false_and, Bool.true_and, Bool.and_false, Bool.and_true, Bool.not_true, Bool.not_false, Bool.or_false, Bool.false_or, Bool.true_or, Bool.or_true]
              rw [hv]
              exact spare_k4 x hw h0 h1 h2 h3a h3b h4a w
            | false =>
              cases h4b : x.new.data.toList.isEmpty with
              | false =>
                have hv : Rc.spare x.m = true := by rw [spare_eq x hs _ hB, h0, h1, h2, h3a, h3b, h4a, h4b]; simp only [Bool.false_and, Bool.true_and, Bool.and_false, Bool.and_true, Bool.not_true, Bool.not_false, Bool.or_false, Bool.false_or, Bool.true_or, Bool.or_true]
                rw [hv]
                exact spare_k4b x hw h0 h1 h2 h3a h3b h4a h4b w
              | true =>
                cases h5 : (x.coord != 0) with
                | true =>
                  have hv : Rc.spare x.m = true := by rw [spare_eq x hs _ hB, h0, h1, h2, h3a, h3b, h4a, h4b, h5]; simp only [Bool.false_and, Bool.true_and, Bool.and_false, Bool.and_true, Bool.not_true, Bool.not_false, Bool.or_false, Bool.false_or, Bool.true_or, Bool.or_true]
                  rw [hv]
                  exact spare_k5 x hw h0 h1 h2 h3a h3b h4a h4b h5 w
                | false =>
                  cases h6 : ((x.mem.length : Int) != 0) with
                  | true =>
                    have hv : Rc.spare x.m = true := by rw [spare_eq x hs _ hB, h0, h1, h2, h3a, h3b, h4a, h4b, h5, h6]; simp only [Bool.false_and, Bool.true_and, Bool.and_false, Bool.and_true, Bool.not_true, Bool.not_false, Bool.or_false, Bool.false_or, Bool.true_or, Bool.or_true]
                    rw [hv]
                    exact spare_k6 x hw h0 h1 h2 h3a h3b h4a h4b h5 h6 w
                  | false =>
                    cases h7 : ((x.locks.length : Int) != 0) with
                    | true =>
                      have hv : Rc.spare x.m = true := by rw [spare_eq x hs _ hB, h0, h1, h2, h3a, h3b, h4a, h4b, h5, h6, h7]; simp only [Bool.false_and, Bool.true_and, Bool.and_false, Bool.and_true, Bool.not_true, Bool.not_false, Bool.or_false, Bool.false_or, Bool.true_or, Bool.or_true]
                      rw [hv]
                      exact spare_k7 x hw h0 h1 h2 h3a h3b h4a h4b h5 h6 h7 w
                    | false =>
                      have hv : Rc.spare x.m = false := by rw [spare_eq x hs _ hB, h0, h1, h2, h3a, h3b, h4a, h4b, h5, h6, h7]; simp only [Bool.false_and, Bool.true_and, Bool.and_false, Bool.and_true, Bool.not_true, Bool.not_false, Bool.or_false, Bool.false_or, Bool.true_or, Bool.or_true]
                      rw [hv]
                      exact spare_kz x hw h0 h1 h2 h3a h3b h4a h4b h5 h6 h7 w
theorem spare_d (x : MD) (hs : Small x) (hB : Rc.wants x.kind = ⟨true, true, true, true, true, true, false, true, true⟩) (hw : ∀ W, Calls Try.prog 61 #[.int .i64 x.kind] W fun e w' => e = .returned (.agg #[.bool true, .bool true, .bool true, .bool true, .bool true, .bool true, .bool false, .bool true, .bool true]) ∧ Below W.heap.size W w') (w : World) : Calls Try.prog 28 #[mVal x] w fun e w' => e = .returned (.bool (Rc.spare x.m)) ∧ Below w.heap.size w w' := by
  cases h0 : (x.prev != 0) with
  | true =>
    have hv : Rc.spare x.m = true := by rw [spare_eq x hs _ hB, h0]; simp only [Bool.false_and, Bool.true_and, Bool.and_false, Bool.and_true, Bool.not_true, Bool.not_false, Bool.or_false, Bool.false_or, Bool.true_or, Bool.or_true]
    rw [hv]
    exact spare_d0 x hw h0 w
  | false =>
    cases h1 : (x.nxt != 0) with
    | true =>
      have hv : Rc.spare x.m = true := by rw [spare_eq x hs _ hB, h0, h1]; simp only [Bool.false_and, Bool.true_and, Bool.and_false, Bool.and_true, Bool.not_true, Bool.not_false, Bool.or_false, Bool.false_or, Bool.true_or, Bool.or_true]
      rw [hv]
      exact spare_d1 x hw h0 h1 w
    | false =>
      cases h2 : (!x.key.toList.isEmpty) with
      | true =>
        have hv : Rc.spare x.m = true := by rw [spare_eq x hs _ hB, h0, h1, h2]; simp only [Bool.false_and, Bool.true_and, Bool.and_false, Bool.and_true, Bool.not_true, Bool.not_false, Bool.or_false, Bool.false_or, Bool.true_or, Bool.or_true]
        rw [hv]
        exact spare_d2 x hw h0 h1 h2 w
      | false =>
        cases h3a : x.old.has with
        | true =>
          have hv : Rc.spare x.m = true := by rw [spare_eq x hs _ hB, h0, h1, h2, h3a]; simp only [Bool.false_and, Bool.true_and, Bool.and_false, Bool.and_true, Bool.not_true, Bool.not_false, Bool.or_false, Bool.false_or, Bool.true_or, Bool.or_true]
          rw [hv]
          exact spare_d3 x hw h0 h1 h2 h3a w
        | false =>
          cases h3b : x.old.data.toList.isEmpty with
          | false =>
            have hv : Rc.spare x.m = true := by rw [spare_eq x hs _ hB, h0, h1, h2, h3a, h3b]; simp only [Bool.false_and, Bool.true_and, Bool.and_false, Bool.and_true, Bool.not_true, Bool.not_false, Bool.or_false, Bool.false_or, Bool.true_or, Bool.or_true]
            rw [hv]
            exact spare_d3b x hw h0 h1 h2 h3a h3b w
          | true =>
            cases h4a : x.new.has with
            | true =>
              have hv : Rc.spare x.m = true := by rw [spare_eq x hs _ hB, h0, h1, h2, h3a, h3b, h4a]; simp only [Bool.false_and, Bool.true_and, Bool.and_false, Bool.and_true, Bool.not_true, Bool.not_false, Bool.or_false, Bool.false_or, Bool.true_or, Bool.or_true]
              rw [hv]
              exact spare_d4 x hw h0 h1 h2 h3a h3b h4a w
            | false =>
              cases h4b : x.new.data.toList.isEmpty with
              | false =>
                have hv : Rc.spare x.m = true := by rw [spare_eq x hs _ hB, h0, h1, h2, h3a, h3b, h4a, h4b]; simp only [Bool.false_and, Bool.true_and, Bool.and_false, Bool.and_true, Bool.not_true, Bool.not_false, Bool.or_false, Bool.false_or, Bool.true_or, Bool.or_true]
                rw [hv]
                exact spare_d4b x hw h0 h1 h2 h3a h3b h4a h4b w
              | true =>
                cases h5 : (x.coord != 0) with
                | true =>
                  have hv : Rc.spare x.m = true := by rw [spare_eq x hs _ hB, h0, h1, h2, h3a, h3b, h4a, h4b, h5]; simp only [Bool.false_and, Bool.true_and, Bool.and_false, Bool.and_true, Bool.not_true, Bool.not_false, Bool.or_false, Bool.false_or, Bool.true_or, Bool.or_true]
                  rw [hv]
                  exact spare_d5 x hw h0 h1 h2 h3a h3b h4a h4b h5 w
                | false =>
                  cases h7 : ((x.locks.length : Int) != 0) with
                  | true =>
                    have hv : Rc.spare x.m = true := by rw [spare_eq x hs _ hB, h0, h1, h2, h3a, h3b, h4a, h4b, h5, h7]; simp only [Bool.false_and, Bool.true_and, Bool.and_false, Bool.and_true, Bool.not_true, Bool.not_false, Bool.or_false, Bool.false_or, Bool.true_or, Bool.or_true]
                    rw [hv]
                    exact spare_d7 x hw h0 h1 h2 h3a h3b h4a h4b h5 h7 w
                  | false =>
                    cases h8 : (wrap64 (wrap64 (wrap64 ((x.rows.length : Int) + (x.dirty.length : Int)) + (x.deeds.length : Int)) + (x.past.length : Int)) != 0) with
                    | true =>
                      have hv : Rc.spare x.m = true := by rw [spare_eq x hs _ hB, h0, h1, h2, h3a, h3b, h4a, h4b, h5, h7, h8]; simp only [Bool.false_and, Bool.true_and, Bool.and_false, Bool.and_true, Bool.not_true, Bool.not_false, Bool.or_false, Bool.false_or, Bool.true_or, Bool.or_true]
                      rw [hv]
                      exact spare_d8 x hw h0 h1 h2 h3a h3b h4a h4b h5 h7 h8 w
                    | false =>
                      have hv : Rc.spare x.m = false := by rw [spare_eq x hs _ hB, h0, h1, h2, h3a, h3b, h4a, h4b, h5, h7, h8]; simp only [Bool.false_and, Bool.true_and, Bool.and_false, Bool.and_true, Bool.not_true, Bool.not_false, Bool.or_false, Bool.false_or, Bool.true_or, Bool.or_true]
                      rw [hv]
                      exact spare_dz x hw h0 h1 h2 h3a h3b h4a h4b h5 h7 h8 w
theorem wants_k1 {k : Int} (e : k = 1) : Rc.wants k = ⟨false, true, false, false, false, true, true, true, true⟩ := by subst e; rfl
theorem wants_k2 {k : Int} (e : k = 2) : Rc.wants k = ⟨false, false, false, true, false, true, true, true, true⟩ := by subst e; rfl
theorem wants_k3 {k : Int} (e : k = 3) : Rc.wants k = ⟨false, true, true, true, true, false, false, false, true⟩ := by subst e; rfl
theorem wants_k4 {k : Int} (e : k = 4) : Rc.wants k = ⟨false, true, true, true, true, true, true, true, true⟩ := by subst e; rfl
theorem wants_k5 {k : Int} (e : k = 5) : Rc.wants k = ⟨false, true, true, true, true, true, true, true, true⟩ := by subst e; rfl
theorem wants_k6 {k : Int} (e : k = 6) : Rc.wants k = ⟨false, true, true, true, true, true, true, true, true⟩ := by subst e; rfl
theorem wants_k7 {k : Int} (e : k = 7) : Rc.wants k = ⟨true, true, true, true, true, true, true, true, true⟩ := by subst e; rfl
theorem wants_k8 {k : Int} (e : k = 8) : Rc.wants k = ⟨true, true, true, true, true, true, true, true, false⟩ := by subst e; rfl
theorem wants_k9 {k : Int} (e : k = 9) : Rc.wants k = ⟨true, true, true, true, true, true, false, true, true⟩ := by subst e; rfl
theorem wants_k10 {k : Int} (e : k = 10) : Rc.wants k = ⟨true, true, true, true, true, true, true, true, true⟩ := by subst e; rfl
theorem spare_any (x : MD) (hs : Small x) (hk : Rc.kindOk x.kind = true) (w : World) : Calls Try.prog 28 #[mVal x] w fun e w' => e = .returned (.bool (Rc.spare x.m)) ∧ Below w.heap.size w w' := by
  have hw := fun W => wants_any x.kind hk W
  rcases kind_cases hk with e | e | e | e | e | e | e | e | e | e
  · have hB := wants_k1 e
    rw [hB] at hw
    exact spare_u x hs hB hw w
  · have hB := wants_k2 e
    rw [hB] at hw
    exact spare_c x hs hB hw w
  · have hB := wants_k3 e
    rw [hB] at hw
    exact spare_p x hs hB hw w
  · have hB := wants_k4 e
    rw [hB] at hw
    exact spare_e x hs hB hw w
  · have hB := wants_k5 e
    rw [hB] at hw
    exact spare_e x hs hB hw w
  · have hB := wants_k6 e
    rw [hB] at hw
    exact spare_e x hs hB hw w
  · have hB := wants_k7 e
    rw [hB] at hw
    exact spare_n x hs hB hw w
  · have hB := wants_k8 e
    rw [hB] at hw
    exact spare_k x hs hB hw w
  · have hB := wants_k9 e
    rw [hB] at hw
    exact spare_d x hs hB hw w
  · have hB := wants_k10 e
    rw [hB] at hw
    exact spare_n x hs hB hw w
end Go.Proofs.Ytlijfnekopjogaa
