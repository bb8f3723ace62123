/- Which pages may be, as the document says. -/
import Derived.Test.YtfcmlfcpgboigaaPageRef
import Derived.Deep.RegionHeld3
import Derived.Deep.DeepMust
namespace Go.Proofs.Ytfcmlfcpgboigaa
open Go.RowKit Mem
set_option maxRecDepth 100000
set_option linter.unusedVariables false
set_option linter.unusedSimpArgs false

section
variable {P : Program} {ops : Array Oper} {Q : Exit → Act → World → Prop} {md : Region.Mode}
theorem any_skip {i d : Nat} {oi : Oper} {fuel : Nat} {listed : Array Bool} {tmps : Array Value} {ds : List Deferred} {w : World} (hi : ops[i]? = some oi)
    (hs : Region.noSelect ops = true) (hf : Region.free md ops listed i = true) (hr : (Region.ready md ops listed).contains i = true)
    (hQ : ∀ c a w, Q (.panic c) (a.put oi.dst undef) w → Q (.panic c) a w) (hd : oi.dst = some d) (hw : Region.wanted oi (yielded ops tmps) = false)
    (h : wpAny P md ops Q fuel (listed.setIfInBounds i true) { tmps := tmps.setIfInBounds d undef, defers := ds } w) : wpAny P md ops Q (fuel + 1) listed { tmps := tmps, defers := ds } w :=
  wpAny_take hi hs hf hr hQ (Or.inr ⟨hw, rfl⟩) (by rw [hd]; exact h)
theorem any_take {i d : Nat} {oi : Oper} {v : Value} {fuel : Nat} {listed : Array Bool} {tmps : Array Value} {ds : List Deferred} {w : World} (hi : ops[i]? = some oi)
    (hs : Region.noSelect ops = true) (hf : Region.free md ops listed i = true) (hr : (Region.ready md ops listed).contains i = true)
    (hQ : ∀ c a w, Q (.panic c) (a.put oi.dst v) w → Q (.panic c) a w) (hd : oi.dst = some d) (hw : Region.wanted oi (yielded ops tmps) = true)
    (hy : ∀ W : World, (execOp (Act.eval { tmps := tmps, defers := ds }) oi).run P W = .ok (.value v) W)
    (h : wpAny P md ops Q fuel (listed.setIfInBounds i true) { tmps := tmps.setIfInBounds d v, defers := ds } w) : wpAny P md ops Q (fuel + 1) listed { tmps := tmps, defers := ds } w :=
  wpAny_take hi hs hf hr hQ (Or.inl ⟨hw, hy⟩) (by rw [hd]; exact h)
end
theorem below_drN {B : Nat} {w w' : World} (h : Below B w w') (n : Nat) : Below B w (w'.drewN n) := ⟨h.os, h.tape, h.output, h.size, h.block⟩
namespace Pg
/-- may the cell at k be, behind the one ahead of it? -/
def okAt (l : List C) (k : Nat) : Bool := fits (l.getD k C.zero) && (decide (k = 0) || Op.bytesLess (l.getD (k - 1) C.zero).key.toList (l.getD k C.zero).key.toList)
end Pg
set_option maxHeartbeats 4000000 in
theorem refMay_any (lsn : Int) (A : Option Addr) (n c : Nat) (l : List Pg.C) (w : World) (hl : ST cellK w A n l) (hn : n ≤ 1000000) :
    Calls Try.prog 50 #[pVal lsn A n c] w fun e w' => e = .returned (.bool (decide (0 ≤ lsn) && decide (lsn ≤ 1099511627776) && decide (l.length ≤ 4) && (List.range l.length).all (Pg.okAt l))) ∧ Below w.heap.size w w' := by
  have hb0 : Below w.heap.size w (w.alloc (.cells #[.int .i64 lsn, .slice A n c] 24)) := (Below.refl _ _).alloc (Nat.le_refl _) _
  have hk0 : Blk (w.alloc (.cells #[.int .i64 lsn, .slice A n c] 24)) w.heap.size 24 #[.int .i64 lsn, .slice A n c] := Blk.new _ _ _
  have H := Lib.hid (And.intro hb0 (And.intro hk0 (And.intro hl hl.len)))
  clear hb0 hk0 hl
  by_cases g1 : 0 ≤ lsn
  · have d1 : decide (lsn < 0) = false := decide_eq_false (by omega)
    by_cases g2 : lsn ≤ 1099511627776
    · have d2 : decide (1099511627776 < lsn) = false := decide_eq_false (by omega)
      by_cases g3 : n ≤ 4
      · have d3 : decide ((4 : Int) < (n : Int)) = false := decide_eq_false (by omega)
        have HD := Lib.hid (show (decide (0 ≤ lsn) && decide (lsn ≤ 1099511627776) && decide (l.length ≤ 4)) = true by rw [decide_eq_true g1, decide_eq_true g2, H.out.2.2.2, decide_eq_true g3]; rfl)
        rw [HD.out, Bool.true_and]
        clear g1 g2
        go_enter Try.func50, Try.ntmps50
        go_wp2_with fail
        generalize w.alloc (.cells #[.int .i64 lsn, .slice A n c] 24) = w1 at *
        go_loopg [3] n (fun gk s3 wr => ∃ (k : Nat), k ≤ n ∧ gk = n - k ∧ s3 = .int .i64 k ∧ (∀ j, j < k → Pg.okAt l j = true) ∧ Below w.heap.size w wr ∧ Blk wr w.heap.size 24 #[.int .i64 lsn, .slice A n c])
        case atStart => exact ⟨0, by omega, by omega, rfl, fun j hj => absurd hj (by omega), H.out.1, H.out.2.1⟩
        case round =>
          obtain ⟨k, hk, rfl, rfl, hj, hb, hbk⟩ := hrel
          have p1 : wr.cell? ⟨w.heap.size, 1, none⟩ = some (.slice A n c) := hbk.cell 1
          by_cases hlt : k < n
          · obtain ⟨b, off, rfl, hbs, c0, c1, c2⟩ := cell_at (H.out.2.2.1.below hb) hlt
            have hok : Pg.okAt l k = (Pg.fits (l.getD k Pg.C.zero) && (decide (k = 0) || Op.bytesLess (l.getD (k - 1) Pg.C.zero).key.toList (l.getD k Pg.C.zero).key.toList)) := rfl
            have hkn : (k : Int) < (n : Int) := by omega
            have hbx : Below wr.heap.size wr (wr.alloc (.cells (cCells (l.getD k Pg.C.zero)) 40)) := (Below.refl _ _).alloc (Nat.le_refl _) _
            have hprev : 0 < k → ∃ y : Pg.C, y = l.getD (k - 1) Pg.C.zero ∧ wr.cell? ⟨b, off + (k - 1) * 3, none⟩ = some (.string y.key) := fun hk0 => by
              obtain ⟨b', off', e', _, c', _, _⟩ := cell_at (H.out.2.2.1.below hb) (show k - 1 < n by omega)
              injection e' with e'
              injection e' with e1 e2
              subst e1
              subst e2
              exact ⟨_, rfl, c'⟩
            generalize l.getD k Pg.C.zero = x at *
            have hno : Pg.okAt l k = false → (List.range l.length).all (Pg.okAt l) = false := fun h => by
              rw [← Bool.not_eq_true]
              intro h2
              rw [List.all_eq_true] at h2
              have := h2 k (List.mem_range.2 (by rw [H.out.2.2.2]; exact hlt))
              rw [h] at this
              cases this
            have HX := Lib.hid (And.intro hok (And.intro (hb.trans (hbx.mono hb.size)) (And.intro (hbk.below hbx hbk.lt) (And.intro hj (And.intro hprev (And.intro hno hbk.lt))))))
            have xk := Blk.new wr 40 (cCells x)
            have x0 : (wr.alloc (.cells (cCells x) 40)).cell? ⟨wr.heap.size, 0, none⟩ = some (.string x.key) := xk.cell 0
            have hjl := hj
            clear hok hb hbk hbx hj hprev hno xk
            cases hky : Pg.keyOk x.key with
            | false =>
              have hf : Pg.fits x = false := by unfold Pg.fits; rw [hky]; rfl
              have HF := Lib.hid hf
              clear hf hjl
              go_wp2_with fail
              refine wp_region_any (by kernel_rfl) ?_
              change wpAny _ _ _ _ _ _ _ (World.drew _)
              refine any_take (i := 0) (d := 31) (v := ?_) rfl (by kernel_rfl) (by kernel_rfl) (by kernel_rfl) (fun _ _ _ h => h) rfl (by rfl) ?_ ?_
              rotate_left
              · intro W; first | (go_simp; done) | (go_simp; with_reducible rfl)
              simp only [List.setIfInBounds_toArray, List.set_cons_succ, List.set_cons_zero]
              refine wpAny_ready (rs := [1]) (by kernel_rfl) (by simp) ?_
              refine AllReady.cons rfl (fun K hK => ?_) AllReady.nil
              go_simp
              refine hK _ _ ?_
              clear hK K
              refine wpAny_ready (rs := [2]) (by kernel_rfl) (by simp) ?_
              refine AllReady.cons rfl (fun K hK => ?_) AllReady.nil
              go_simp
              refine (refKey_any x.key _).mono ?_
              rintro e w8 ⟨rfl, rfl⟩
              try rw [hky]
              refine hK _ _ ?_
              clear hK K
              refine any_take (i := 3) (d := 34) (v := ?_) rfl (by kernel_rfl) (by kernel_rfl) (by kernel_rfl) (fun _ _ _ h => h) rfl (by rfl) ?_ ?_
              rotate_left
              · intro W; first | (go_simp; done) | (go_simp; with_reducible rfl)
              simp only [List.setIfInBounds_toArray, List.set_cons_succ, List.set_cons_zero]
              refine any_take (i := 4) (d := 35) (v := ?_) rfl (by kernel_rfl) (by kernel_rfl) (by kernel_rfl) (fun _ _ _ h => h) rfl (by rfl) ?_ ?_
              rotate_left
              · intro W; first | (go_simp; done) | (go_simp; with_reducible rfl)
              simp only [List.setIfInBounds_toArray, List.set_cons_succ, List.set_cons_zero]
              refine any_skip (i := 5) (d := 36) rfl (by kernel_rfl) (by kernel_rfl) (by kernel_rfl) (fun _ _ _ h => h) rfl (by rfl) ?_
              simp only [List.setIfInBounds_toArray, List.set_cons_succ, List.set_cons_zero]
              refine any_skip (i := 6) (d := 37) rfl (by kernel_rfl) (by kernel_rfl) (by kernel_rfl) (fun _ _ _ h => h) rfl (by rfl) ?_
              simp only [List.setIfInBounds_toArray, List.set_cons_succ, List.set_cons_zero]
              refine any_skip (i := 7) (d := 38) rfl (by kernel_rfl) (by kernel_rfl) (by kernel_rfl) (fun _ _ _ h => h) rfl (by rfl) ?_
              simp only [List.setIfInBounds_toArray, List.set_cons_succ, List.set_cons_zero]
              refine any_skip (i := 8) (d := 39) rfl (by kernel_rfl) (by kernel_rfl) (by kernel_rfl) (fun _ _ _ h => h) rfl (by rfl) ?_
              simp only [List.setIfInBounds_toArray, List.set_cons_succ, List.set_cons_zero]
              refine any_take (i := 9) (d := 40) (v := ?_) rfl (by kernel_rfl) (by kernel_rfl) (by kernel_rfl) (fun _ _ _ h => h) rfl (by rfl) ?_ ?_
              rotate_left
              · intro W; first | (go_simp; done) | (go_simp; with_reducible rfl)
              simp only [List.setIfInBounds_toArray, List.set_cons_succ, List.set_cons_zero]
              refine any_take (i := 10) (d := 41) (v := ?_) rfl (by kernel_rfl) (by kernel_rfl) (by kernel_rfl) (fun _ _ _ h => h) rfl (by rfl) ?_ ?_
              rotate_left
              · intro W; first | (go_simp; done) | (go_simp; with_reducible rfl)
              simp only [List.setIfInBounds_toArray, List.set_cons_succ, List.set_cons_zero]
              refine any_skip (i := 11) (d := 42) rfl (by kernel_rfl) (by kernel_rfl) (by kernel_rfl) (fun _ _ _ h => h) rfl (by rfl) ?_
              simp only [List.setIfInBounds_toArray, List.set_cons_succ, List.set_cons_zero]
              refine any_skip (i := 12) (d := 43) rfl (by kernel_rfl) (by kernel_rfl) (by kernel_rfl) (fun _ _ _ h => h) rfl (by rfl) ?_
              simp only [List.setIfInBounds_toArray, List.set_cons_succ, List.set_cons_zero]
              refine any_skip (i := 13) (d := 44) rfl (by kernel_rfl) (by kernel_rfl) (by kernel_rfl) (fun _ _ _ h => h) rfl (by rfl) ?_
              simp only [List.setIfInBounds_toArray, List.set_cons_succ, List.set_cons_zero]
              refine any_skip (i := 14) (d := 45) rfl (by kernel_rfl) (by kernel_rfl) (by kernel_rfl) (fun _ _ _ h => h) rfl (by rfl) ?_
              simp only [List.setIfInBounds_toArray, List.set_cons_succ, List.set_cons_zero]
              refine any_skip (i := 15) (d := 46) rfl (by kernel_rfl) (by kernel_rfl) (by kernel_rfl) (fun _ _ _ h => h) rfl (by rfl) ?_
              simp only [List.setIfInBounds_toArray, List.set_cons_succ, List.set_cons_zero]
              refine any_skip (i := 16) (d := 47) rfl (by kernel_rfl) (by kernel_rfl) (by kernel_rfl) (fun _ _ _ h => h) rfl (by rfl) ?_
              simp only [List.setIfInBounds_toArray, List.set_cons_succ, List.set_cons_zero]
              refine any_skip (i := 17) (d := 48) rfl (by kernel_rfl) (by kernel_rfl) (by kernel_rfl) (fun _ _ _ h => h) rfl (by rfl) ?_
              simp only [List.setIfInBounds_toArray, List.set_cons_succ, List.set_cons_zero]
              refine any_skip (i := 18) (d := 49) rfl (by kernel_rfl) (by kernel_rfl) (by kernel_rfl) (fun _ _ _ h => h) rfl (by rfl) ?_
              simp only [List.setIfInBounds_toArray, List.set_cons_succ, List.set_cons_zero]
              refine any_skip (i := 19) (d := 50) rfl (by kernel_rfl) (by kernel_rfl) (by kernel_rfl) (fun _ _ _ h => h) rfl (by rfl) ?_
              simp only [List.setIfInBounds_toArray, List.set_cons_succ, List.set_cons_zero]
              refine any_skip (i := 20) (d := 51) rfl (by kernel_rfl) (by kernel_rfl) (by kernel_rfl) (fun _ _ _ h => h) rfl (by rfl) ?_
              simp only [List.setIfInBounds_toArray, List.set_cons_succ, List.set_cons_zero]
              refine any_skip (i := 21) (d := 52) rfl (by kernel_rfl) (by kernel_rfl) (by kernel_rfl) (fun _ _ _ h => h) rfl (by rfl) ?_
              simp only [List.setIfInBounds_toArray, List.set_cons_succ, List.set_cons_zero]
              refine any_skip (i := 22) (d := 53) rfl (by kernel_rfl) (by kernel_rfl) (by kernel_rfl) (fun _ _ _ h => h) rfl (by rfl) ?_
              simp only [List.setIfInBounds_toArray, List.set_cons_succ, List.set_cons_zero]
              refine any_skip (i := 23) (d := 54) rfl (by kernel_rfl) (by kernel_rfl) (by kernel_rfl) (fun _ _ _ h => h) rfl (by rfl) ?_
              simp only [List.setIfInBounds_toArray, List.set_cons_succ, List.set_cons_zero]
              refine any_skip (i := 24) (d := 55) rfl (by kernel_rfl) (by kernel_rfl) (by kernel_rfl) (fun _ _ _ h => h) rfl (by rfl) ?_
              simp only [List.setIfInBounds_toArray, List.set_cons_succ, List.set_cons_zero]
              refine any_take (i := 25) (d := 56) (v := ?_) rfl (by kernel_rfl) (by kernel_rfl) (by kernel_rfl) (fun _ _ _ h => h) rfl (by rfl) ?_ ?_
              rotate_left
              · intro W; first | (go_simp; done) | (go_simp; with_reducible rfl)
              simp only [List.setIfInBounds_toArray, List.set_cons_succ, List.set_cons_zero]
              refine wpAny_done (by kernel_rfl) ?_ _
              go_wp2
              go_ret
              exact ⟨by rw [HX.out.2.2.2.2.2.1 (by rw [HX.out.1, HF.out]; rfl)]; rfl, below_drN HX.out.2.1 1⟩
            | true =>
              have x1 : (wr.alloc (.cells (cCells x) 40)).cell? ⟨wr.heap.size, 1, none⟩ = some (.bool x.has) := (Blk.new wr 40 (cCells x)).cell 1
              have x2 : (wr.alloc (.cells (cCells x) 40)).cell? ⟨wr.heap.size, 2, none⟩ = some (.string x.data) := (Blk.new wr 40 (cCells x)).cell 2
              cases hvl : Pg.valOk x.has x.data with
              | false =>
                have hf : Pg.fits x = false := by unfold Pg.fits; rw [hky, hvl]; rfl
                have HF := Lib.hid hf
                clear hf hjl
                go_wp2_with fail
                refine wp_region_any (by kernel_rfl) ?_
                change wpAny _ _ _ _ _ _ _ (World.drew _)
                refine any_take (i := 0) (d := 31) (v := ?_) rfl (by kernel_rfl) (by kernel_rfl) (by kernel_rfl) (fun _ _ _ h => h) rfl (by rfl) ?_ ?_
                rotate_left
                · intro W; first | (go_simp; done) | (go_simp; with_reducible rfl)
                simp only [List.setIfInBounds_toArray, List.set_cons_succ, List.set_cons_zero]
                refine wpAny_ready (rs := [1]) (by kernel_rfl) (by simp) ?_
                refine AllReady.cons rfl (fun K hK => ?_) AllReady.nil
                go_simp
                refine hK _ _ ?_
                clear hK K
                refine wpAny_ready (rs := [2]) (by kernel_rfl) (by simp) ?_
                refine AllReady.cons rfl (fun K hK => ?_) AllReady.nil
                go_simp
                refine (refKey_any x.key _).mono ?_
                rintro e w8 ⟨rfl, rfl⟩
                try rw [hky]
                refine hK _ _ ?_
                clear hK K
                refine any_take (i := 3) (d := 34) (v := ?_) rfl (by kernel_rfl) (by kernel_rfl) (by kernel_rfl) (fun _ _ _ h => h) rfl (by rfl) ?_ ?_
                rotate_left
                · intro W; first | (go_simp; done) | (go_simp; with_reducible rfl)
                simp only [List.setIfInBounds_toArray, List.set_cons_succ, List.set_cons_zero]
                refine any_take (i := 4) (d := 35) (v := ?_) rfl (by kernel_rfl) (by kernel_rfl) (by kernel_rfl) (fun _ _ _ h => h) rfl (by rfl) ?_ ?_
                rotate_left
                · intro W; first | (go_simp; done) | (go_simp; with_reducible rfl)
                simp only [List.setIfInBounds_toArray, List.set_cons_succ, List.set_cons_zero]
                refine any_take (i := 5) (d := 36) (v := ?_) rfl (by kernel_rfl) (by kernel_rfl) (by kernel_rfl) (fun _ _ _ h => h) rfl (by rfl) ?_ ?_
                rotate_left
                · intro W; first | (go_simp; done) | (go_simp; with_reducible rfl)
                simp only [List.setIfInBounds_toArray, List.set_cons_succ, List.set_cons_zero]
                refine wpAny_ready (rs := [6]) (by kernel_rfl) (by simp) ?_
                refine AllReady.cons rfl (fun K hK => ?_) AllReady.nil
                go_simp
                refine hK _ _ ?_
                clear hK K
                refine wpAny_ready (rs := [7]) (by kernel_rfl) (by simp) ?_
                refine AllReady.cons rfl (fun K hK => ?_) AllReady.nil
                go_simp
                refine (refValue_any x.has x.data _).mono ?_
                rintro e w9 ⟨rfl, hb9⟩
                try rw [hvl]
                refine hK _ _ ?_
                clear hK K
                refine any_take (i := 8) (d := 39) (v := ?_) rfl (by kernel_rfl) (by kernel_rfl) (by kernel_rfl) (fun _ _ _ h => h) rfl (by rfl) ?_ ?_
                rotate_left
                · intro W; first | (go_simp; done) | (go_simp; with_reducible rfl)
                simp only [List.setIfInBounds_toArray, List.set_cons_succ, List.set_cons_zero]
                refine any_take (i := 9) (d := 40) (v := ?_) rfl (by kernel_rfl) (by kernel_rfl) (by kernel_rfl) (fun _ _ _ h => h) rfl (by rfl) ?_ ?_
                rotate_left
                · intro W; first | (go_simp; done) | (go_simp; with_reducible rfl)
                simp only [List.setIfInBounds_toArray, List.set_cons_succ, List.set_cons_zero]
                refine any_take (i := 10) (d := 41) (v := ?_) rfl (by kernel_rfl) (by kernel_rfl) (by kernel_rfl) (fun _ _ _ h => h) rfl (by rfl) ?_ ?_
                rotate_left
                · intro W; first | (go_simp; done) | (go_simp; with_reducible rfl)
                simp only [List.setIfInBounds_toArray, List.set_cons_succ, List.set_cons_zero]
                refine any_skip (i := 11) (d := 42) rfl (by kernel_rfl) (by kernel_rfl) (by kernel_rfl) (fun _ _ _ h => h) rfl (by rfl) ?_
                simp only [List.setIfInBounds_toArray, List.set_cons_succ, List.set_cons_zero]
                refine any_skip (i := 12) (d := 43) rfl (by kernel_rfl) (by kernel_rfl) (by kernel_rfl) (fun _ _ _ h => h) rfl (by rfl) ?_
                simp only [List.setIfInBounds_toArray, List.set_cons_succ, List.set_cons_zero]
                refine any_skip (i := 13) (d := 44) rfl (by kernel_rfl) (by kernel_rfl) (by kernel_rfl) (fun _ _ _ h => h) rfl (by rfl) ?_
                simp only [List.setIfInBounds_toArray, List.set_cons_succ, List.set_cons_zero]
                refine any_skip (i := 14) (d := 45) rfl (by kernel_rfl) (by kernel_rfl) (by kernel_rfl) (fun _ _ _ h => h) rfl (by rfl) ?_
                simp only [List.setIfInBounds_toArray, List.set_cons_succ, List.set_cons_zero]
                refine any_skip (i := 15) (d := 46) rfl (by kernel_rfl) (by kernel_rfl) (by kernel_rfl) (fun _ _ _ h => h) rfl (by rfl) ?_
                simp only [List.setIfInBounds_toArray, List.set_cons_succ, List.set_cons_zero]
                refine any_skip (i := 16) (d := 47) rfl (by kernel_rfl) (by kernel_rfl) (by kernel_rfl) (fun _ _ _ h => h) rfl (by rfl) ?_
                simp only [List.setIfInBounds_toArray, List.set_cons_succ, List.set_cons_zero]
                refine any_skip (i := 17) (d := 48) rfl (by kernel_rfl) (by kernel_rfl) (by kernel_rfl) (fun _ _ _ h => h) rfl (by rfl) ?_
                simp only [List.setIfInBounds_toArray, List.set_cons_succ, List.set_cons_zero]
                refine any_skip (i := 18) (d := 49) rfl (by kernel_rfl) (by kernel_rfl) (by kernel_rfl) (fun _ _ _ h => h) rfl (by rfl) ?_
                simp only [List.setIfInBounds_toArray, List.set_cons_succ, List.set_cons_zero]
                refine any_skip (i := 19) (d := 50) rfl (by kernel_rfl) (by kernel_rfl) (by kernel_rfl) (fun _ _ _ h => h) rfl (by rfl) ?_
                simp only [List.setIfInBounds_toArray, List.set_cons_succ, List.set_cons_zero]
                refine any_skip (i := 20) (d := 51) rfl (by kernel_rfl) (by kernel_rfl) (by kernel_rfl) (fun _ _ _ h => h) rfl (by rfl) ?_
                simp only [List.setIfInBounds_toArray, List.set_cons_succ, List.set_cons_zero]
                refine any_skip (i := 21) (d := 52) rfl (by kernel_rfl) (by kernel_rfl) (by kernel_rfl) (fun _ _ _ h => h) rfl (by rfl) ?_
                simp only [List.setIfInBounds_toArray, List.set_cons_succ, List.set_cons_zero]
                refine any_skip (i := 22) (d := 53) rfl (by kernel_rfl) (by kernel_rfl) (by kernel_rfl) (fun _ _ _ h => h) rfl (by rfl) ?_
                simp only [List.setIfInBounds_toArray, List.set_cons_succ, List.set_cons_zero]
                refine any_skip (i := 23) (d := 54) rfl (by kernel_rfl) (by kernel_rfl) (by kernel_rfl) (fun _ _ _ h => h) rfl (by rfl) ?_
                simp only [List.setIfInBounds_toArray, List.set_cons_succ, List.set_cons_zero]
                refine any_skip (i := 24) (d := 55) rfl (by kernel_rfl) (by kernel_rfl) (by kernel_rfl) (fun _ _ _ h => h) rfl (by rfl) ?_
                simp only [List.setIfInBounds_toArray, List.set_cons_succ, List.set_cons_zero]
                refine any_take (i := 25) (d := 56) (v := ?_) rfl (by kernel_rfl) (by kernel_rfl) (by kernel_rfl) (fun _ _ _ h => h) rfl (by rfl) ?_ ?_
                rotate_left
                · intro W; first | (go_simp; done) | (go_simp; with_reducible rfl)
                simp only [List.setIfInBounds_toArray, List.set_cons_succ, List.set_cons_zero]
                refine wpAny_done (by kernel_rfl) ?_ _
                go_wp2
                go_ret
                refine ⟨by rw [HX.out.2.2.2.2.2.1 (by rw [HX.out.1, HF.out]; rfl)]; rfl, ?_⟩
                have hbd := below_drN HX.out.2.1 1
                exact hbd.trans (hb9.mono hbd.size)
              | true =>
                have hf : Pg.fits x = true := by unfold Pg.fits; rw [hky, hvl]; rfl
                rcases Nat.eq_zero_or_pos k with rfl | hk0
                · have hnx : ∀ j, j < 1 → Pg.okAt l j = true := fun j hj1 => by
                    obtain rfl : j = 0 := by omega
                    rw [HX.out.1, hf]; rfl
                  have HF := Lib.hid hnx
                  simp only [Nat.zero_mul, Nat.add_zero] at c0 c1 c2
                  clear hf hnx hjl
                  go_wp2_with fail
                  refine wp_region_any (by kernel_rfl) ?_
                  change wpAny _ _ _ _ _ _ _ (World.drew _)
                  refine any_take (i := 0) (d := 31) (v := ?_) rfl (by kernel_rfl) (by kernel_rfl) (by kernel_rfl) (fun _ _ _ h => h) rfl (by rfl) ?_ ?_
                  rotate_left
                  · intro W; first | (go_simp; done) | (go_simp; with_reducible rfl)
                  simp only [List.setIfInBounds_toArray, List.set_cons_succ, List.set_cons_zero]
                  refine wpAny_ready (rs := [1]) (by kernel_rfl) (by simp) ?_
                  refine AllReady.cons rfl (fun K hK => ?_) AllReady.nil
                  go_simp
                  refine hK _ _ ?_
                  clear hK K
                  refine wpAny_ready (rs := [2]) (by kernel_rfl) (by simp) ?_
                  refine AllReady.cons rfl (fun K hK => ?_) AllReady.nil
                  go_simp
                  refine (refKey_any x.key _).mono ?_
                  rintro e w8 ⟨rfl, rfl⟩
                  try rw [hky]
                  refine hK _ _ ?_
                  clear hK K
                  refine any_take (i := 3) (d := 34) (v := ?_) rfl (by kernel_rfl) (by kernel_rfl) (by kernel_rfl) (fun _ _ _ h => h) rfl (by rfl) ?_ ?_
                  rotate_left
                  · intro W; first | (go_simp; done) | (go_simp; with_reducible rfl)
                  simp only [List.setIfInBounds_toArray, List.set_cons_succ, List.set_cons_zero]
                  refine any_take (i := 4) (d := 35) (v := ?_) rfl (by kernel_rfl) (by kernel_rfl) (by kernel_rfl) (fun _ _ _ h => h) rfl (by rfl) ?_ ?_
                  rotate_left
                  · intro W; first | (go_simp; done) | (go_simp; with_reducible rfl)
                  simp only [List.setIfInBounds_toArray, List.set_cons_succ, List.set_cons_zero]
                  refine any_take (i := 5) (d := 36) (v := ?_) rfl (by kernel_rfl) (by kernel_rfl) (by kernel_rfl) (fun _ _ _ h => h) rfl (by rfl) ?_ ?_
                  rotate_left
                  · intro W; first | (go_simp; done) | (go_simp; with_reducible rfl)
                  simp only [List.setIfInBounds_toArray, List.set_cons_succ, List.set_cons_zero]
                  refine wpAny_ready (rs := [6]) (by kernel_rfl) (by simp) ?_
                  refine AllReady.cons rfl (fun K hK => ?_) AllReady.nil
                  go_simp
                  refine hK _ _ ?_
                  clear hK K
                  refine wpAny_ready (rs := [7]) (by kernel_rfl) (by simp) ?_
                  refine AllReady.cons rfl (fun K hK => ?_) AllReady.nil
                  go_simp
                  refine (refValue_any x.has x.data _).mono ?_
                  rintro e w9 ⟨rfl, hb9⟩
                  try rw [hvl]
                  refine hK _ _ ?_
                  clear hK K
                  refine any_take (i := 8) (d := 39) (v := ?_) rfl (by kernel_rfl) (by kernel_rfl) (by kernel_rfl) (fun _ _ _ h => h) rfl (by rfl) ?_ ?_
                  rotate_left
                  · intro W; first | (go_simp; done) | (go_simp; with_reducible rfl)
                  simp only [List.setIfInBounds_toArray, List.set_cons_succ, List.set_cons_zero]
                  refine any_take (i := 9) (d := 40) (v := ?_) rfl (by kernel_rfl) (by kernel_rfl) (by kernel_rfl) (fun _ _ _ h => h) rfl (by rfl) ?_ ?_
                  rotate_left
                  · intro W; first | (go_simp; done) | (go_simp; with_reducible rfl)
                  simp only [List.setIfInBounds_toArray, List.set_cons_succ, List.set_cons_zero]
                  refine any_take (i := 10) (d := 41) (v := ?_) rfl (by kernel_rfl) (by kernel_rfl) (by kernel_rfl) (fun _ _ _ h => h) rfl (by rfl) ?_ ?_
                  rotate_left
                  · intro W; first | (go_simp; done) | (go_simp; with_reducible rfl)
                  simp only [List.setIfInBounds_toArray, List.set_cons_succ, List.set_cons_zero]
                  refine any_take (i := 11) (d := 42) (v := ?_) rfl (by kernel_rfl) (by kernel_rfl) (by kernel_rfl) (fun _ _ _ h => h) rfl (by rfl) ?_ ?_
                  rotate_left
                  · intro W; first | (go_simp; done) | (go_simp; with_reducible rfl)
                  simp only [List.setIfInBounds_toArray, List.set_cons_succ, List.set_cons_zero]
                  refine any_take (i := 12) (d := 43) (v := ?_) rfl (by kernel_rfl) (by kernel_rfl) (by kernel_rfl) (fun _ _ _ h => h) rfl (by rfl) ?_ ?_
                  rotate_left
                  · intro W; first | (go_simp; done) | (go_simp; with_reducible rfl)
                  simp only [List.setIfInBounds_toArray, List.set_cons_succ, List.set_cons_zero]
                  refine any_take (i := 13) (d := 44) (v := ?_) rfl (by kernel_rfl) (by kernel_rfl) (by kernel_rfl) (fun _ _ _ h => h) rfl (by rfl) ?_ ?_
                  rotate_left
                  · intro W; first | (go_simp; done) | (go_simp; with_reducible rfl)
                  simp only [List.setIfInBounds_toArray, List.set_cons_succ, List.set_cons_zero]
                  refine any_skip (i := 14) (d := 45) rfl (by kernel_rfl) (by kernel_rfl) (by kernel_rfl) (fun _ _ _ h => h) rfl (by rfl) ?_
                  simp only [List.setIfInBounds_toArray, List.set_cons_succ, List.set_cons_zero]
                  refine any_skip (i := 15) (d := 46) rfl (by kernel_rfl) (by kernel_rfl) (by kernel_rfl) (fun _ _ _ h => h) rfl (by rfl) ?_
                  simp only [List.setIfInBounds_toArray, List.set_cons_succ, List.set_cons_zero]
                  refine any_skip (i := 16) (d := 47) rfl (by kernel_rfl) (by kernel_rfl) (by kernel_rfl) (fun _ _ _ h => h) rfl (by rfl) ?_
                  simp only [List.setIfInBounds_toArray, List.set_cons_succ, List.set_cons_zero]
                  refine any_skip (i := 17) (d := 48) rfl (by kernel_rfl) (by kernel_rfl) (by kernel_rfl) (fun _ _ _ h => h) rfl (by rfl) ?_
                  simp only [List.setIfInBounds_toArray, List.set_cons_succ, List.set_cons_zero]
                  refine any_skip (i := 18) (d := 49) rfl (by kernel_rfl) (by kernel_rfl) (by kernel_rfl) (fun _ _ _ h => h) rfl (by rfl) ?_
                  simp only [List.setIfInBounds_toArray, List.set_cons_succ, List.set_cons_zero]
                  refine any_skip (i := 19) (d := 50) rfl (by kernel_rfl) (by kernel_rfl) (by kernel_rfl) (fun _ _ _ h => h) rfl (by rfl) ?_
                  simp only [List.setIfInBounds_toArray, List.set_cons_succ, List.set_cons_zero]
                  refine any_skip (i := 20) (d := 51) rfl (by kernel_rfl) (by kernel_rfl) (by kernel_rfl) (fun _ _ _ h => h) rfl (by rfl) ?_
                  simp only [List.setIfInBounds_toArray, List.set_cons_succ, List.set_cons_zero]
                  refine any_skip (i := 21) (d := 52) rfl (by kernel_rfl) (by kernel_rfl) (by kernel_rfl) (fun _ _ _ h => h) rfl (by rfl) ?_
                  simp only [List.setIfInBounds_toArray, List.set_cons_succ, List.set_cons_zero]
                  refine any_skip (i := 22) (d := 53) rfl (by kernel_rfl) (by kernel_rfl) (by kernel_rfl) (fun _ _ _ h => h) rfl (by rfl) ?_
                  simp only [List.setIfInBounds_toArray, List.set_cons_succ, List.set_cons_zero]
                  refine any_skip (i := 23) (d := 54) rfl (by kernel_rfl) (by kernel_rfl) (by kernel_rfl) (fun _ _ _ h => h) rfl (by rfl) ?_
                  simp only [List.setIfInBounds_toArray, List.set_cons_succ, List.set_cons_zero]
                  refine any_take (i := 24) (d := 55) (v := ?_) rfl (by kernel_rfl) (by kernel_rfl) (by kernel_rfl) (fun _ _ _ h => h) rfl (by rfl) ?_ ?_
                  rotate_left
                  · intro W; first | (go_simp; done) | (go_simp; with_reducible rfl)
                  simp only [List.setIfInBounds_toArray, List.set_cons_succ, List.set_cons_zero]
                  refine any_take (i := 25) (d := 56) (v := ?_) rfl (by kernel_rfl) (by kernel_rfl) (by kernel_rfl) (fun _ _ _ h => h) rfl (by rfl) ?_ ?_
                  rotate_left
                  · intro W; first | (go_simp; done) | (go_simp; with_reducible rfl)
                  simp only [List.setIfInBounds_toArray, List.set_cons_succ, List.set_cons_zero]
                  refine wpAny_done (by kernel_rfl) ?_ _
                  have hbd := below_drN HX.out.2.1 1
                  have hbk9 := (HX.out.2.2.1.keep (w' := (wr.alloc (.cells (cCells x) 40)).drew) rfl).below hb9 (by have := HX.out.2.2.2.2.2.2; simp; omega)
                  have H9 := Lib.hid (And.intro (hbd.trans (hb9.mono hbd.size)) hbk9)
                  clear hb9 hbk9 hbd
                  go_wp2
                  go_roundg (n - 1)
                  case measure => omega
                  case rel => exact ⟨1, by omega, rfl, rfl, HF.out, H9.out.1, H9.out.2⟩
                · obtain ⟨y, hy, cy⟩ := HX.out.2.2.2.2.1 hk0
                  have hsub : IntKind.i64.wrap ((k : Int) - 1) = ((k - 1 : Nat) : Int) := by rw [IntKind.wrap_i64]; omega
                  have hs1 : ((k - 1 : Nat) : Int) < (n : Int) := by omega
                  have hk0' : decide ((0 : Int) < (k : Int)) = true := decide_eq_true (by omega)
                  have hnx : Op.bytesLess y.key.toList x.key.toList = true → ∀ j, j < k + 1 → Pg.okAt l j = true := fun h j hjk => by
                    rcases Nat.lt_or_ge j k with h1 | h1
                    · exact hjl j h1
                    · obtain rfl : j = k := by omega
                      rw [HX.out.1, hf, ← hy, h, Bool.or_true]; rfl
                  have hne : Op.bytesLess y.key.toList x.key.toList = false → Pg.okAt l k = false := fun h => by
                    rw [HX.out.1, hf, ← hy, h, decide_eq_false (by omega)]; rfl
                  have W7 : ((wr.alloc (.cells (cCells x) 40)).cell? ⟨w.heap.size, 1, none⟩ = some (.slice (some ⟨b, off, none⟩) n c) ∧ (wr.alloc (.cells (cCells x) 40)).cell? ⟨wr.heap.size, 0, none⟩ = some (.string x.key) ∧ (wr.alloc (.cells (cCells x) 40)).cell? ⟨b, off + (k - 1) * 3, none⟩ = some (.string y.key)) := ⟨HX.out.2.2.1.cell 1, x0, (World.cell?_of_block (Below.heap_alloc _ _ _ hbs)).trans cy⟩
                  have hrl : w.heap.size < wr.heap.size := HX.out.2.2.2.2.2.2
                  have HF := Lib.hid (And.intro hnx hne)
                  clear hf hnx hne hjl hy
                  have HS : (wr.alloc (.cells (cCells x) 40)).drew.cell? ⟨w.heap.size, 1, none⟩ = some (.slice (some ⟨b, off, none⟩) n c) ∧ (wr.alloc (.cells (cCells x) 40)).drew.cell? ⟨wr.heap.size, 0, none⟩ = some (.string x.key) ∧ (wr.alloc (.cells (cCells x) 40)).drew.cell? ⟨wr.heap.size, 1, none⟩ = some (.bool x.has) ∧ (wr.alloc (.cells (cCells x) 40)).drew.cell? ⟨wr.heap.size, 2, none⟩ = some (.string x.data) ∧ (wr.alloc (.cells (cCells x) 40)).drew.cell? ⟨b, off + (k - 1) * 3, none⟩ = some (.string y.key) := ⟨W7.1, W7.2.1, x1, x2, W7.2.2⟩
                  have hkp : ∀ (a : Addr) (v : Value) (w9 : World), a.block < wr.heap.size + 1 → (wr.alloc (.cells (cCells x) 40)).drew.cell? a = some v → Below (wr.alloc (.cells (cCells x) 40)).drew.heap.size (wr.alloc (.cells (cCells x) 40)).drew w9 → w9.cell? a = some v := fun a v w9 h1 h2 h3 => (World.cell?_of_block (h3.block _ (by simp; omega))).trans h2
                  have HK := Lib.hid (And.intro (Nat.lt_succ_of_lt hrl) (And.intro (Nat.lt_succ_self wr.heap.size) (And.intro (Nat.lt_succ_of_lt hbs) hkp)))
                  clear hkp hrl
                  cases hlt2 : Op.bytesLess y.key.toList x.key.toList with
                  | true =>
                    have HL := Lib.hid (HF.out.1 hlt2)
                    go_wp2_with fail
                    go_region_held3 (fun w' => w'.cell? ⟨w.heap.size, 1, none⟩ = some (.slice (some ⟨b, off, none⟩) n c) ∧ w'.cell? ⟨wr.heap.size, 0, none⟩ = some (.string x.key) ∧ w'.cell? ⟨wr.heap.size, 1, none⟩ = some (.bool x.has) ∧ w'.cell? ⟨wr.heap.size, 2, none⟩ = some (.string x.data) ∧ w'.cell? ⟨b, off + (k - 1) * 3, none⟩ = some (.string y.key)) ((first | exact HS)) (first
                      | (go_at_call 22; go_must (refine (refKey_any x.key _).mono ?_; rintro e w8 ⟨rfl, rfl⟩; rw [hky]))
                      | (go_at_call 23; go_must (refine (refValue_any x.has x.data _).mono ?_; rintro e w9 ⟨rfl, hb9⟩; rw [hvl]; have HS : w9.cell? ⟨w.heap.size, 1, none⟩ = some (.slice (some ⟨b, off, none⟩) n c) ∧ w9.cell? ⟨wr.heap.size, 0, none⟩ = some (.string x.key) ∧ w9.cell? ⟨wr.heap.size, 1, none⟩ = some (.bool x.has) ∧ w9.cell? ⟨wr.heap.size, 2, none⟩ = some (.string x.data) ∧ w9.cell? ⟨b, off + (k - 1) * 3, none⟩ = some (.string y.key) := ⟨HK.out.2.2.2 _ _ _ HK.out.1 HS.1 hb9, HK.out.2.2.2 _ _ _ HK.out.2.1 HS.2.1 hb9, HK.out.2.2.2 _ _ _ HK.out.2.1 HS.2.2.1 hb9, HK.out.2.2.2 _ _ _ HK.out.2.1 HS.2.2.2.1 hb9, HK.out.2.2.2 _ _ _ HK.out.2.2.1 HS.2.2.2.2 hb9⟩; have H9 := Lib.hid hb9; clear hb9)))
                    all_goals
                      have hbd := below_drN HX.out.2.1 1
                      have hbk9 := (HX.out.2.2.1.keep (w' := (wr.alloc (.cells (cCells x) 40)).drew) rfl).below H9.out (by have := HX.out.2.2.2.2.2.2; simp; omega)
                      have H10 := Lib.hid (And.intro (hbd.trans (H9.out.mono hbd.size)) hbk9)
                      clear hbk9 hbd
                      go_wp2
                      go_roundg (n - (k + 1))
                      case measure => omega
                      case rel => exact ⟨k + 1, by omega, rfl, by go_num, HL.out, H10.out.1, H10.out.2⟩
                  | false =>
                    have HL := Lib.hid (HF.out.2 hlt2)
                    go_wp2_with fail
                    go_region_held3 (fun w' => w'.cell? ⟨w.heap.size, 1, none⟩ = some (.slice (some ⟨b, off, none⟩) n c) ∧ w'.cell? ⟨wr.heap.size, 0, none⟩ = some (.string x.key) ∧ w'.cell? ⟨wr.heap.size, 1, none⟩ = some (.bool x.has) ∧ w'.cell? ⟨wr.heap.size, 2, none⟩ = some (.string x.data) ∧ w'.cell? ⟨b, off + (k - 1) * 3, none⟩ = some (.string y.key)) ((first | exact HS)) (first
                      | (go_at_call 22; go_must (refine (refKey_any x.key _).mono ?_; rintro e w8 ⟨rfl, rfl⟩; rw [hky]))
                      | (go_at_call 23; go_must (refine (refValue_any x.has x.data _).mono ?_; rintro e w9 ⟨rfl, hb9⟩; rw [hvl]; have HS : w9.cell? ⟨w.heap.size, 1, none⟩ = some (.slice (some ⟨b, off, none⟩) n c) ∧ w9.cell? ⟨wr.heap.size, 0, none⟩ = some (.string x.key) ∧ w9.cell? ⟨wr.heap.size, 1, none⟩ = some (.bool x.has) ∧ w9.cell? ⟨wr.heap.size, 2, none⟩ = some (.string x.data) ∧ w9.cell? ⟨b, off + (k - 1) * 3, none⟩ = some (.string y.key) := ⟨HK.out.2.2.2 _ _ _ HK.out.1 HS.1 hb9, HK.out.2.2.2 _ _ _ HK.out.2.1 HS.2.1 hb9, HK.out.2.2.2 _ _ _ HK.out.2.1 HS.2.2.1 hb9, HK.out.2.2.2 _ _ _ HK.out.2.1 HS.2.2.2.1 hb9, HK.out.2.2.2 _ _ _ HK.out.2.2.1 HS.2.2.2.2 hb9⟩; have H9 := Lib.hid hb9; clear hb9)))
                    all_goals
                      have hbd := below_drN HX.out.2.1 1
                      have H10 := Lib.hid (hbd.trans (H9.out.mono hbd.size))
                      clear hbd
                      go_wp2
                      go_ret
                      exact ⟨by rw [HX.out.2.2.2.2.2.1 HL.out]; rfl, H10.out⟩
          · obtain rfl : k = n := by omega
            have hall : (List.range l.length).all (Pg.okAt l) = true := by
              rw [List.all_eq_true]
              intro j hjm
              exact hj j (by have := List.mem_range.1 hjm; rw [H.out.2.2.2] at this; exact this)
            have HX := Lib.hid (And.intro hall hb)
            clear hj hb hbk hall
            go_wp2_with fail
            go_ret
            exact ⟨by rw [HX.out.1]; rfl, HX.out.2⟩
      · have d3 : decide ((4 : Int) < (n : Int)) = true := decide_eq_true (by omega)
        have HD := Lib.hid (show decide (l.length ≤ 4) = false by rw [H.out.2.2.2]; exact decide_eq_false g3)
        rw [HD.out, Bool.and_false, Bool.false_and]
        clear g1 g2 g3
        go_enter Try.func50, Try.ntmps50
        go_wp2_with fail
        go_ret
        exact ⟨rfl, H.out.1⟩
    · have d2 : decide (1099511627776 < lsn) = true := decide_eq_true (by omega)
      rw [decide_eq_false g2, Bool.and_false, Bool.false_and, Bool.false_and]
      clear g1 g2
      go_enter Try.func50, Try.ntmps50
      go_wp2_with fail
      go_ret
      exact ⟨rfl, H.out.1⟩
  · have d1 : decide (lsn < 0) = true := decide_eq_true (by omega)
    rw [decide_eq_false g1, Bool.false_and, Bool.false_and, Bool.false_and]
    clear g1
    go_enter Try.func50, Try.ntmps50
    go_wp2_with fail
    go_ret
    exact ⟨rfl, H.out.1⟩
end Go.Proofs.Ytfcmlfcpgboigaa
