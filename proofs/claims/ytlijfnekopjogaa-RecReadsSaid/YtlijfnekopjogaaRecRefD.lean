/- The document's records: which lists of a checkpoint may be (printed by gen_check.py). -/
import Derived.Test.YtlijfnekopjogaaRecRefC
namespace Go.Proofs.Ytlijfnekopjogaa
open Go Go.RowKit Mem Rc
set_option maxRecDepth 100000
set_option linter.unusedVariables false
set_option linter.unusedSimpArgs false

theorem wpList_store_dirty {ops : Array Oper} {rest : List Oper} {op : Oper} {a : Act} {w : World} {Q : Exit → Act → World → Prop} {g : Nat} {cs : Array Value} (y : D) (hg : op.guard = none) (p v : Operand) (ho : op.op = .store 92 p v)
    (hx : a.eval p = .pointer (some ⟨g, 0, none⟩)) (hy : a.eval v = dVal y) (hb : Blk w g 92 cs) (hs : cs.size = 2)
    (h : ∀ w', Blk w' g 92 (dCells y) → Fr (fun k => k = g) w w' → w'.heap.size = w.heap.size → wpList Try.prog ops Q rest (a.put op.dst undef) w') : wpList Try.prog ops Q (op :: rest) a w := by
  refine wpList_store_mid hg 92 p v ho g 0 (dCells y) hx hy (fun j hj => ?_) rfl (by simp [Value.oneCell']) (h _ ?_ (fr_setCells _ _ _ _ (Fr.refl _ _)) (size_setCells _ _ _))
  · have hj : j < 2 := hj
    rw [hb.cell, Array.getElem?_eq_getElem (by omega)]
    exact ⟨rfl, hb.free _⟩
  · have e := blk_setCells (dCells y).toList 0 w cs hb
    rw [setMany_all cs (dCells y).toList (by rw [hs]; rfl)] at e
    exact e
theorem dirty_at' {w : World} {A : Option Addr} {n : Nat} {l : List D} (h : ST dirtyK w A n l) {i : Nat} (hi : i < n) :
    ∃ b off, A = some ⟨b, off, none⟩ ∧ w.cell? ⟨b, off + i * 2, none⟩ = some (.int .i64 (l.getD i D.zero).page) ∧ w.cell? ⟨b, off + i * 2 + 1, none⟩ = some (.int .i64 (l.getD i D.zero).rc) := by
  obtain ⟨b, off, h1, _, h2, h3⟩ := dirty_at h hi
  exact ⟨b, off, h1, h2, h3⟩
theorem deed_at' {w : World} {A : Option Addr} {n : Nat} {l : List DeD} (h : ST deedK w A n l) {i : Nat} (hi : i < n) :
    ∃ b off, A = some ⟨b, off, none⟩ ∧ w.cell? ⟨b, off + i * 2, none⟩ = some (.int .i64 (l.getD i DeD.zero).d.tx) ∧ w.cell? ⟨b, off + i * 2 + 1, none⟩ = some (.slice (l.getD i DeD.zero).mA (l.getD i DeD.zero).d.mem.length (l.getD i DeD.zero).mc) ∧ DeedOk w (l.getD i DeD.zero) := by
  obtain ⟨b, off, h1, _, h2, h3, h4⟩ := deed_at h hi
  exact ⟨b, off, h1, h2, h3, h4⟩
structure CkH (x : MD) (w W : World) (nd ne np : Nat) : Prop where
  hb : Below w.heap.size w W
  ok : MOk W x
  sm : Small x
  lnd : x.dirty.length = nd
  lne : x.deeds.length = ne
  lnp : x.past.length = np
  c13 : ∀ wr, Below W.heap.size W wr → wr.cell? ⟨w.heap.size, 13, none⟩ = some (.slice x.dA nd x.dc)
  c14 : ∀ wr, Below W.heap.size W wr → wr.cell? ⟨w.heap.size, 14, none⟩ = some (.slice x.eA ne x.ec)
  c15 : ∀ wr, Below W.heap.size W wr → wr.cell? ⟨w.heap.size, 15, none⟩ = some (.slice x.pA np x.pc)
  s_dirty : nd ≤ 1000000
  bad_dirty : Rc.ups D.zero Rc.dirtyOk (fun a b => decide (a.page < b.page)) x.dirty = false → Rc.check x.m = false
  s_deeds : ne ≤ 1000000
  bad_deeds : Rc.ups DeD.zero (fun y => Rc.deedOk y.d) (fun a b => decide (a.d.tx < b.d.tx)) x.deeds = false → Rc.check x.m = false
  s_past : np ≤ 1000000
  bad_past : Rc.ups (0 : Int) (fun n => Rc.seq n 1) (fun a b => decide (a < b)) x.past = false → Rc.check x.m = false
  good : Rc.ups D.zero Rc.dirtyOk (fun a b => decide (a.page < b.page)) x.dirty = true → Rc.ups DeD.zero (fun y => Rc.deedOk y.d) (fun a b => decide (a.d.tx < b.d.tx)) x.deeds = true → Rc.ups (0 : Int) (fun n => Rc.seq n 1) (fun a b => decide (a < b)) x.past = true → Rc.check x.m = true
theorem check_parts (x : MD) (hr : Rc.rows x.m.rows = true) (h1 : x.dirty.length ≤ 64) (h2 : x.deeds.length ≤ 64) (h3 : x.past.length ≤ 256) :
    Rc.check x.m = (Rc.ups D.zero Rc.dirtyOk (fun a b => decide (a.page < b.page)) x.dirty && Rc.ups DeD.zero (fun y => Rc.deedOk y.d) (fun a b => decide (a.d.tx < b.d.tx)) x.deeds && Rc.ups (0 : Int) (fun n => Rc.seq n 1) (fun a b => decide (a < b)) x.past) := by
  unfold Rc.check
  rw [hr, ← deeds_eq x]
  show (true && Rc.rising D.zero 64 Rc.dirtyOk (fun a b => decide (a.page < b.page)) x.dirty && _ && Rc.rising (0 : Int) 256 (fun n => Rc.seq n 1) (fun a b => decide (a < b)) x.past) = _
  unfold Rc.rising
  rw [decide_eq_true h1, decide_eq_true h2, decide_eq_true h3]
  simp only [Bool.true_and]
set_option maxHeartbeats 16000000 in
theorem fcheck_any (x : MD) (w : World) (hok : MOk w x) (hs : Small x) :
    Calls Try.prog 37 #[mVal x] w fun e w' => e = .returned (.bool (Rc.check x.m)) ∧ Below w.heap.size w w' := by
  obtain ⟨W0, hW0⟩ : ∃ W0, w.alloc (.cells (mCells x) 30) = W0 := ⟨_, rfl⟩
  have hb0 : Below w.heap.size w W0 := by rw [← hW0]; exact (Below.refl _ _).alloc (Nat.le_refl _) _
  have hx0 : Blk W0 w.heap.size 30 (mCells x) := by rw [← hW0]; exact Blk.new _ _ _
  obtain ⟨nr, hnr⟩ : ∃ nr, x.rows.length = nr := ⟨_, rfl⟩
  obtain ⟨nd, hnd⟩ : ∃ nd, x.dirty.length = nd := ⟨_, rfl⟩
  obtain ⟨ne, hne⟩ : ∃ ne, x.deeds.length = ne := ⟨_, rfl⟩
  obtain ⟨np, hnp⟩ : ∃ np, x.past.length = np := ⟨_, rfl⟩
  have c12 : W0.cell? ⟨w.heap.size, 12, none⟩ = some (.slice x.rA nr x.rc) := (hx0.cell 12).trans (by rw [← hnr]; rfl)
  have HR := Lib.hid (frows_any x.rA nr x.rc x.rows W0 (by have g := (hok.below hb0).rows; rw [hnr] at g; exact g) (by rw [← hnr]; exact hs.rows) (fun k hk => hs.row k (by rw [hnr]; exact hk)))
  have H0 := Lib.hid (And.intro hb0 (And.intro hx0 (And.intro (hok.below hb0) (And.intro hs (And.intro hnd (And.intro hne hnp))))))
  clear hb0 hx0 hok hs hnr hnd hne hnp
  go_enter Try.func37, Try.ntmps37
  go_wp2_with fail
  refine HR.out.mono ?_
  rintro e W ⟨rfl, hb1⟩
  have hbx := H0.out.2.1.below hb1 H0.out.2.1.lt
  have c13 : W.cell? ⟨w.heap.size, 13, none⟩ = some (.slice x.dA nd x.dc) := (hbx.cell 13).trans (by rw [← H0.out.2.2.2.2.1]; rfl)
  have c14 : W.cell? ⟨w.heap.size, 14, none⟩ = some (.slice x.eA ne x.ec) := (hbx.cell 14).trans (by rw [← H0.out.2.2.2.2.2.1]; rfl)
  have c15 : W.cell? ⟨w.heap.size, 15, none⟩ = some (.slice x.pA np x.pc) := (hbx.cell 15).trans (by rw [← H0.out.2.2.2.2.2.2]; rfl)
  have H1 := Lib.hid (And.intro (H0.out.1.trans (hb1.mono H0.out.1.size)) (And.intro hbx (H0.out.2.2.1.below hb1)))
  clear hb1 hbx c12
  rw [show x.rows.map RwD.r = x.m.rows from rfl]
  cases hrow : Rc.rows x.m.rows with
  | false =>
    go_wp2
    go_ret
    refine ⟨?_, H1.out.1⟩
    rw [show Rc.check x.m = false by unfold Rc.check; rw [hrow]; simp]
    rfl
  | true =>
  have hways : (64 < nd ∨ 64 < ne ∨ 256 < np) ∨ (nd ≤ 64 ∧ ne ≤ 64 ∧ np ≤ 256) := by omega
  rcases hways with hlong | ⟨h1, h2, h3⟩
  · have hf : Rc.check x.m = false := by
      unfold Rc.check
      rw [← deeds_eq x]
      show (_ && Rc.rising D.zero 64 Rc.dirtyOk (fun a b => decide (a.page < b.page)) x.dirty && _ && Rc.rising (0 : Int) 256 (fun n => Rc.seq n 1) (fun a b => decide (a < b)) x.past) = _
      unfold Rc.rising
      rw [H0.out.2.2.2.2.1, H0.out.2.2.2.2.2.1, H0.out.2.2.2.2.2.2]
      rcases hlong with h | h | h
      · rw [decide_eq_false (show ¬ nd ≤ 64 by omega)]; simp
      · rw [decide_eq_false (show ¬ ne ≤ 64 by omega)]; simp
      · rw [decide_eq_false (show ¬ np ≤ 256 by omega)]; simp
    have HF := Lib.hid hf
    clear hf
    have hw3 : decide ((64 : Int) < (nd : Int)) = true ∨ (decide ((64 : Int) < (nd : Int)) = false ∧ decide ((64 : Int) < (ne : Int)) = true) ∨ (decide ((64 : Int) < (nd : Int)) = false ∧ decide ((64 : Int) < (ne : Int)) = false ∧ decide ((256 : Int) < (np : Int)) = true) := by
      by_cases g1 : 64 < nd
      · exact .inl (decide_eq_true (by omega))
      · by_cases g2 : 64 < ne
        · exact .inr (.inl ⟨decide_eq_false (by omega), decide_eq_true (by omega)⟩)
        · exact .inr (.inr ⟨decide_eq_false (by omega), decide_eq_false (by omega), decide_eq_true (by omega)⟩)
    clear hlong
    rcases hw3 with d1 | ⟨d1, d2⟩ | ⟨d1, d2, d3⟩
    all_goals
      go_wp2
      go_ret
      exact ⟨by rw [HF.out]; rfl, H1.out.1⟩
  · have d1 : decide ((64 : Int) < (nd : Int)) = false := decide_eq_false (by omega)
    have d2 : decide ((64 : Int) < (ne : Int)) = false := decide_eq_false (by omega)
    have d3 : decide ((256 : Int) < (np : Int)) = false := decide_eq_false (by omega)
    have hcp := check_parts x hrow (by rw [H0.out.2.2.2.2.1]; exact h1) (by rw [H0.out.2.2.2.2.2.1]; exact h2) (by rw [H0.out.2.2.2.2.2.2]; exact h3)
    have H := Lib.hid (show CkH x w W nd ne np from ⟨H1.out.1, H1.out.2.2, H0.out.2.2.2.1, H0.out.2.2.2.2.1, H0.out.2.2.2.2.2.1, H0.out.2.2.2.2.2.2,
      fun wr hb => cell_below hb c13, fun wr hb => cell_below hb c14, fun wr hb => cell_below hb c15, by omega, fun h => by rw [hcp, h]; simp, by omega, fun h => by rw [hcp, h]; simp, by omega, fun h => by rw [hcp, h]; simp, fun a b c => by rw [hcp, a, b, c]; rfl⟩)
    have HS := Lib.hid (Below.refl W.heap.size W)
    clear h1 h2 h3 hcp H1 H0 HR hrow
    go_wp2_with fail
    clear c13 c14 c15
    go_loopg [2, 3] nd (fun gk s i wr => ∃ k : Nat, k ≤ nd ∧ gk = nd - k ∧ s = .bool false ∧ i = .int .i64 k ∧ (∀ j, j < k → Rc.at_ D.zero Rc.dirtyOk (fun a b => decide (a.page < b.page)) x.dirty j = true) ∧ Below W.heap.size W wr)
    case atStart => exact ⟨0, by omega, by omega, rfl, rfl, fun j hj => absurd hj (by omega), HS.out⟩
    case round =>
      obtain ⟨k, hk, rfl, rfl, rfl, hj, hst⟩ := hrel
      clear HS
      by_cases hlt : k < nd
      · obtain ⟨b, off, hA, a0, a1⟩ := (dirty_at' (H.out.ok.below hst).dirty (by rw [H.out.lnd]; exact hlt))
        have hkn : (k : Int) < (nd : Int) := by omega
        have hno : Rc.at_ D.zero Rc.dirtyOk (fun a b => decide (a.page < b.page)) x.dirty k = false → Rc.ups D.zero Rc.dirtyOk (fun a b => decide (a.page < b.page)) x.dirty = false := fun h => Rc.ups_false (by rw [H.out.lnd]; exact hlt) h
        have hye : Rc.at_ D.zero Rc.dirtyOk (fun a b => decide (a.page < b.page)) x.dirty k = true → ∀ j, j < k + 1 → Rc.at_ D.zero Rc.dirtyOk (fun a b => decide (a.page < b.page)) x.dirty j = true := fun h j hj2 => by
          rcases Nat.lt_or_ge j k with h1 | h1
          · exact hj j h1
          · obtain rfl : j = k := by omega
            exact h
        have hprev : 0 < k → wr.cell? ⟨b, off + (k - 1) * 2, none⟩ = some (.int .i64 (x.dirty.getD (k - 1) D.zero).page) := fun hk0 => by
          obtain ⟨b', off', e', c', _⟩ := dirty_at' (H.out.ok.below hst).dirty (show k - 1 < x.dirty.length by rw [H.out.lnd]; omega)
          rw [hA] at e'
          injection e' with e'
          injection e' with e1 e2
          subst e1
          subst e2
          exact c'
        have hsl : wr.cell? ⟨w.heap.size, 13, none⟩ = some (.slice x.dA nd x.dc) := (H.out.c13 wr hst)
        rw [hA] at hsl
        clear hA
        obtain ⟨y, hy⟩ : ∃ y, x.dirty.getD k D.zero = y := ⟨_, rfl⟩
        have hok : Rc.at_ D.zero Rc.dirtyOk (fun a b => decide (a.page < b.page)) x.dirty k = (Rc.dirtyOk (x.dirty.getD k D.zero) && (decide (k = 0) || (fun a b => decide (a.page < b.page)) (x.dirty.getD (k - 1) D.zero) (x.dirty.getD k D.zero))) := rfl
        rw [hy] at a0 a1 hok
        have hB0 : Blk (wr.alloc (.cells #[.int .i64 0, .int .i64 0] 92)) wr.heap.size 92 #[.int .i64 0, .int .i64 0] := Blk.new _ _ _
        have HR := Lib.hid (And.intro hst (And.intro hno (And.intro hye (And.intro hok (And.intro hk hprev)))))
        clear hst hno hye hok hj hprev
        go_upto_region 7 with (refine wpList_store_dirty y (by rfl) _ _ (by rfl) (by rfl) (by rfl) hB0 (by rfl) ?_; intro w5 hB5 hF5 hS5)
        have hb5 : Below wr.heap.size wr w5 := ((Below.refl _ wr).alloc (Nat.le_refl _) _).trans (hF5.below (by simp) (fun j hj => by have e : j = wr.heap.size := hj; omega))
        obtain ⟨G, hG⟩ : ∃ G, wr.heap.size = G := ⟨_, rfl⟩
        rw [hG] at hB5
        have g0 : w5.cell? ⟨G, 0, none⟩ = some (.int .i64 y.page) := hB5.cell 0
        have g1 : w5.cell? ⟨G, 1, none⟩ = some (.int .i64 y.rc) := hB5.cell 1
        have hsl5 := cell_below hb5 hsl
        have hst5 : Below W.heap.size W w5 := HR.out.1.trans (hb5.mono HR.out.1.size)
        have HB5 := Lib.hid hb5
        clear hB0 hB5 hF5 hS5 hb5 a0 a1 hsl
        rcases Nat.eq_zero_or_pos k with rfl | hkp
        · have HX := Lib.hid (And.intro HR.out.2.2.2.1 (And.intro hst5 (And.intro HR.out.2.1 (And.intro HR.out.2.2.1 HR.out.2.2.2.2.1))))
          clear hst5
          go_wp2_with fail
          refine wp_region_held_drew (S := (fun W => W.cell? ⟨G, 0, none⟩ = some (.int .i64 y.page) ∧ W.cell? ⟨G, 1, none⟩ = some (.int .i64 y.rc))) (by kernel_rfl) ⟨g0, g1⟩ (fun hHeld => ?_)
          refine tk 0 41 (h := ?_)
          refine tk 1 42 (h := ?_)
          cases h1 : decide (y.page < 0) with
          | true =>
            refine tk 2 43 (h := ?_)
            refine tk 3 44 (h := ?_)
            refine sk 4 45 (h := ?_)
            refine sk 5 46 (h := ?_)
            refine sk 6 47 (h := ?_)
            refine tk 7 48 (h := ?_)
            refine tk 8 49 (h := ?_)
            refine sk 9 50 (h := ?_)
            refine sk 10 51 (h := ?_)
            refine sk 11 52 (h := ?_)
            refine sk 12 53 (h := ?_)
            refine sk 13 54 (h := ?_)
            refine sk 14 55 (h := ?_)
            refine sk 15 56 (h := ?_)
            refine sk 16 57 (h := ?_)
            refine sk 17 58 (h := ?_)
            refine sk 18 59 (h := ?_)
            refine sk 19 60 (h := ?_)
            refine sk 20 61 (h := ?_)
            refine sk 21 62 (h := ?_)
            refine sk 22 63 (h := ?_)
            refine tk 23 64 (h := ?_)
            refine tk 24 65 (h := ?_)
            refine sk 25 66 (h := ?_)
            refine sk 26 67 (h := ?_)
            refine sk 27 68 (h := ?_)
            refine sk 28 69 (h := ?_)
            refine tk 29 70 (h := ?_)
            refine wpAnyH_done (by kernel_rfl) ?_ _
            go_wp2
            go_ret
            refine ⟨?_, H.out.hb.trans (HX.out.2.1.drew.mono H.out.hb.size)⟩
            rw [H.out.bad_dirty (HX.out.2.2.1 (by rw [HX.out.1]; (try simp only [Rc.dirtyOk, Rc.deedOk]); simp only [decide_eq_true_eq, decide_eq_false_iff_not] at h1; first | (simp [*]; done) | (simp [*]; omega)))]
            rfl
          | false =>
            refine tk 2 43 (h := ?_)
            refine tk 3 44 (h := ?_)
            refine tk 4 45 (h := ?_)
            refine tk 5 46 (h := ?_)
            cases h2 : decide (63 < y.page) with
            | true =>
              refine tk 6 47 (h := ?_)
              refine tk 7 48 (h := ?_)
              refine tk 8 49 (h := ?_)
              refine sk 9 50 (h := ?_)
              refine sk 10 51 (h := ?_)
              refine sk 11 52 (h := ?_)
              refine sk 12 53 (h := ?_)
              refine sk 13 54 (h := ?_)
              refine sk 14 55 (h := ?_)
              refine sk 15 56 (h := ?_)
              refine sk 16 57 (h := ?_)
              refine sk 17 58 (h := ?_)
              refine sk 18 59 (h := ?_)
              refine sk 19 60 (h := ?_)
              refine sk 20 61 (h := ?_)
              refine sk 21 62 (h := ?_)
              refine sk 22 63 (h := ?_)
              refine tk 23 64 (h := ?_)
              refine tk 24 65 (h := ?_)
              refine sk 25 66 (h := ?_)
              refine sk 26 67 (h := ?_)
              refine sk 27 68 (h := ?_)
              refine sk 28 69 (h := ?_)
              refine tk 29 70 (h := ?_)
              refine wpAnyH_done (by kernel_rfl) ?_ _
              go_wp2
              go_ret
              refine ⟨?_, H.out.hb.trans (HX.out.2.1.drew.mono H.out.hb.size)⟩
              rw [H.out.bad_dirty (HX.out.2.2.1 (by rw [HX.out.1]; (try simp only [Rc.dirtyOk, Rc.deedOk]); simp only [decide_eq_true_eq, decide_eq_false_iff_not] at h1 h2; first | (simp [*]; done) | (simp [*]; omega)))]
              rfl
            | false =>
              refine tk 6 47 (h := ?_)
              refine tk 7 48 (h := ?_)
              refine tk 8 49 (h := ?_)
              refine tk 9 50 (h := ?_)
              refine tk 10 51 (h := ?_)
              refine tk 11 52 (h := ?_)
              refine sk 12 53 (h := ?_)
              refine sk 13 54 (h := ?_)
              refine sk 14 55 (h := ?_)
              refine sk 15 56 (h := ?_)
              refine sk 16 57 (h := ?_)
              refine sk 17 58 (h := ?_)
              refine sk 18 59 (h := ?_)
              refine sk 19 60 (h := ?_)
              refine sk 20 61 (h := ?_)
              refine sk 21 62 (h := ?_)
              refine tk 22 63 (h := ?_)
              refine tk 23 64 (h := ?_)
              refine tk 24 65 (h := ?_)
              refine tk 25 66 (h := ?_)
              refine tk 26 67 (h := ?_)
              cases h4 : Rc.seq y.rc 1 with
              | true =>
                refine wpAnyH_ready (rs := [27]) (by kernel_rfl) (by simp) ?_
                refine AllReadyH.cons rfl (fun K hK => ?_) AllReadyH.nil
                go_simp
                refine (fseq_any y.rc 1 _).mono ?_
                rintro e w8 ⟨rfl, rfl⟩
                rw [h4]
                refine hK.out _ _ hHeld (fun hHeld => ?_)
                clear hK K
                try simp only [Act.put, List.setIfInBounds_toArray, List.set_cons_zero, List.set_cons_succ]
                refine tk 28 69 (h := ?_)
                refine tk 29 70 (h := ?_)
                refine wpAnyH_done (by kernel_rfl) ?_ _
                go_wp2
                go_roundg (nd - 1)
                case rel => exact ⟨1, by omega, by omega, rfl, rfl, HX.out.2.2.2.1 (by rw [HX.out.1]; (try simp only [Rc.dirtyOk, Rc.deedOk]); simp only [decide_eq_true_eq, decide_eq_false_iff_not] at h1 h2; first | (simp [*]; done) | (simp [*]; omega)), HX.out.2.1.drew⟩
                case measure => omega
              | false =>
                refine wpAnyH_ready (rs := [27]) (by kernel_rfl) (by simp) ?_
                refine AllReadyH.cons rfl (fun K hK => ?_) AllReadyH.nil
                go_simp
                refine (fseq_any y.rc 1 _).mono ?_
                rintro e w8 ⟨rfl, rfl⟩
                rw [h4]
                refine hK.out _ _ hHeld (fun hHeld => ?_)
                clear hK K
                try simp only [Act.put, List.setIfInBounds_toArray, List.set_cons_zero, List.set_cons_succ]
                refine tk 28 69 (h := ?_)
                refine tk 29 70 (h := ?_)
                refine wpAnyH_done (by kernel_rfl) ?_ _
                go_wp2
                go_ret
                refine ⟨?_, H.out.hb.trans (HX.out.2.1.drew.mono H.out.hb.size)⟩
                rw [H.out.bad_dirty (HX.out.2.2.1 (by rw [HX.out.1]; (try simp only [Rc.dirtyOk, Rc.deedOk]); simp only [decide_eq_true_eq, decide_eq_false_iff_not] at h1 h2; first | (simp [*]; done) | (simp [*]; omega)))]
                rfl
        · have hpv := cell_below HB5.out (HR.out.2.2.2.2.2 hkp)
          have hok := HR.out.2.2.2.1
          obtain ⟨z, hz⟩ : ∃ z, x.dirty.getD (k - 1) D.zero = z := ⟨_, rfl⟩
          rw [hz] at hpv hok
          obtain ⟨k1, hk1⟩ : ∃ k1, k - 1 = k1 := ⟨_, rfl⟩
          rw [hk1] at hpv
          have hkp' : decide ((0 : Int) < (k : Int)) = true := decide_eq_true (by omega)
          have hnN := H.out.s_dirty
          have hs0 : IntKind.i64.wrap ((k : Int) - 1) = (k1 : Int) := by rw [IntKind.wrap_i64]; omega
          have hs1 : (k1 : Int) < (nd : Int) := by omega
          have hokk : Rc.at_ D.zero Rc.dirtyOk (fun a b => decide (a.page < b.page)) x.dirty k = (Rc.dirtyOk y && (fun a b => decide (a.page < b.page)) z y) := by rw [hok, decide_eq_false (by omega), Bool.false_or]
          have HX := Lib.hid (And.intro hokk (And.intro hst5 (And.intro HR.out.2.1 (And.intro HR.out.2.2.1 (And.intro hnN HR.out.2.2.2.2.1)))))
          clear hok hokk hst5 hk1 hnN
          go_wp2_with fail
          refine wp_region_held_drew (S := (fun W => W.cell? ⟨G, 0, none⟩ = some (.int .i64 y.page) ∧ W.cell? ⟨G, 1, none⟩ = some (.int .i64 y.rc) ∧ W.cell? ⟨w.heap.size, 13, none⟩ = some (.slice (some ⟨b, off, none⟩) nd x.dc) ∧ W.cell? ⟨b, off + k1 * 2, none⟩ = some (.int .i64 z.page))) (by kernel_rfl) ⟨g0, g1, hsl5, hpv⟩ (fun hHeld => ?_)
          refine tk 0 41 (h := ?_)
          refine tk 1 42 (h := ?_)
          cases h1 : decide (y.page < 0) with
          | true =>
            refine tk 2 43 (h := ?_)
            refine tk 3 44 (h := ?_)
            refine sk 4 45 (h := ?_)
            refine sk 5 46 (h := ?_)
            refine sk 6 47 (h := ?_)
            refine tk 7 48 (h := ?_)
            refine tk 8 49 (h := ?_)
            refine sk 9 50 (h := ?_)
            refine sk 10 51 (h := ?_)
            refine sk 11 52 (h := ?_)
            refine sk 12 53 (h := ?_)
            refine sk 13 54 (h := ?_)
            refine sk 14 55 (h := ?_)
            refine sk 15 56 (h := ?_)
            refine sk 16 57 (h := ?_)
            refine sk 17 58 (h := ?_)
            refine sk 18 59 (h := ?_)
            refine sk 19 60 (h := ?_)
            refine sk 20 61 (h := ?_)
            refine sk 21 62 (h := ?_)
            refine sk 22 63 (h := ?_)
            refine tk 23 64 (h := ?_)
            refine tk 24 65 (h := ?_)
            refine sk 25 66 (h := ?_)
            refine sk 26 67 (h := ?_)
            refine sk 27 68 (h := ?_)
            refine sk 28 69 (h := ?_)
            refine tk 29 70 (h := ?_)
            refine wpAnyH_done (by kernel_rfl) ?_ _
            go_wp2
            go_ret
            refine ⟨?_, H.out.hb.trans (HX.out.2.1.drew.mono H.out.hb.size)⟩
            rw [H.out.bad_dirty (HX.out.2.2.1 (by rw [HX.out.1]; (try simp only [Rc.dirtyOk, Rc.deedOk]); simp only [decide_eq_true_eq, decide_eq_false_iff_not] at h1; first | (simp [*]; done) | (simp [*]; omega)))]
            rfl
          | false =>
            refine tk 2 43 (h := ?_)
            refine tk 3 44 (h := ?_)
            refine tk 4 45 (h := ?_)
            refine tk 5 46 (h := ?_)
            cases h2 : decide (63 < y.page) with
            | true =>
              refine tk 6 47 (h := ?_)
              refine tk 7 48 (h := ?_)
              refine tk 8 49 (h := ?_)
              refine sk 9 50 (h := ?_)
              refine sk 10 51 (h := ?_)
              refine sk 11 52 (h := ?_)
              refine sk 12 53 (h := ?_)
              refine sk 13 54 (h := ?_)
              refine sk 14 55 (h := ?_)
              refine sk 15 56 (h := ?_)
              refine sk 16 57 (h := ?_)
              refine sk 17 58 (h := ?_)
              refine sk 18 59 (h := ?_)
              refine sk 19 60 (h := ?_)
              refine sk 20 61 (h := ?_)
              refine sk 21 62 (h := ?_)
              refine sk 22 63 (h := ?_)
              refine tk 23 64 (h := ?_)
              refine tk 24 65 (h := ?_)
              refine sk 25 66 (h := ?_)
              refine sk 26 67 (h := ?_)
              refine sk 27 68 (h := ?_)
              refine sk 28 69 (h := ?_)
              refine tk 29 70 (h := ?_)
              refine wpAnyH_done (by kernel_rfl) ?_ _
              go_wp2
              go_ret
              refine ⟨?_, H.out.hb.trans (HX.out.2.1.drew.mono H.out.hb.size)⟩
              rw [H.out.bad_dirty (HX.out.2.2.1 (by rw [HX.out.1]; (try simp only [Rc.dirtyOk, Rc.deedOk]); simp only [decide_eq_true_eq, decide_eq_false_iff_not] at h1 h2; first | (simp [*]; done) | (simp [*]; omega)))]
              rfl
            | false =>
              refine tk 6 47 (h := ?_)
              refine tk 7 48 (h := ?_)
              refine tk 8 49 (h := ?_)
              refine tk 9 50 (h := ?_)
              refine tk 10 51 (h := ?_)
              refine tk 11 52 (h := ?_)
              refine tk 12 53 (h := ?_)
              refine tk 13 54 (h := ?_)
              refine tk 14 55 (h := ?_)
              refine tk 15 56 (h := ?_)
              refine tk 16 57 (h := ?_)
              refine tk 17 58 (h := ?_)
              refine tk 18 59 (h := ?_)
              refine tk 19 60 (h := ?_)
              refine tk 20 61 (h := ?_)
              cases h3 : decide (y.page ≤ z.page) with
              | true =>
                refine tk 21 62 (h := ?_)
                refine tk 22 63 (h := ?_)
                refine tk 23 64 (h := ?_)
                refine tk 24 65 (h := ?_)
                refine sk 25 66 (h := ?_)
                refine sk 26 67 (h := ?_)
                refine sk 27 68 (h := ?_)
                refine sk 28 69 (h := ?_)
                refine tk 29 70 (h := ?_)
                refine wpAnyH_done (by kernel_rfl) ?_ _
                go_wp2
                go_ret
                refine ⟨?_, H.out.hb.trans (HX.out.2.1.drew.mono H.out.hb.size)⟩
                rw [H.out.bad_dirty (HX.out.2.2.1 (by rw [HX.out.1]; (try simp only [Rc.dirtyOk, Rc.deedOk]); simp only [decide_eq_true_eq, decide_eq_false_iff_not] at h1 h2 h3; first | (simp [*]; done) | (simp [*]; omega)))]
                rfl
              | false =>
                refine tk 21 62 (h := ?_)
                refine tk 22 63 (h := ?_)
                refine tk 23 64 (h := ?_)
                refine tk 24 65 (h := ?_)
                refine tk 25 66 (h := ?_)
                refine tk 26 67 (h := ?_)
                cases h4 : Rc.seq y.rc 1 with
                | true =>
                  refine wpAnyH_ready (rs := [27]) (by kernel_rfl) (by simp) ?_
                  refine AllReadyH.cons rfl (fun K hK => ?_) AllReadyH.nil
                  go_simp
                  refine (fseq_any y.rc 1 _).mono ?_
                  rintro e w8 ⟨rfl, rfl⟩
                  rw [h4]
                  refine hK.out _ _ hHeld (fun hHeld => ?_)
                  clear hK K
                  try simp only [Act.put, List.setIfInBounds_toArray, List.set_cons_zero, List.set_cons_succ]
                  refine tk 28 69 (h := ?_)
                  refine tk 29 70 (h := ?_)
                  refine wpAnyH_done (by kernel_rfl) ?_ _
                  go_wp2
                  go_roundg (nd - (k + 1))
                  case rel => exact ⟨k + 1, by omega, by omega, rfl, congrArg (Value.int .i64) (by have := HX.out.2.2.2.2.1; have := HX.out.2.2.2.2.2; unfold wrap64; omega), HX.out.2.2.2.1 (by rw [HX.out.1]; (try simp only [Rc.dirtyOk, Rc.deedOk]); simp only [decide_eq_true_eq, decide_eq_false_iff_not] at h1 h2 h3; first | (simp [*]; done) | (simp [*]; omega)), HX.out.2.1.drew⟩
                  case measure => omega
                | false =>
                  refine wpAnyH_ready (rs := [27]) (by kernel_rfl) (by simp) ?_
                  refine AllReadyH.cons rfl (fun K hK => ?_) AllReadyH.nil
                  go_simp
                  refine (fseq_any y.rc 1 _).mono ?_
                  rintro e w8 ⟨rfl, rfl⟩
                  rw [h4]
                  refine hK.out _ _ hHeld (fun hHeld => ?_)
                  clear hK K
                  try simp only [Act.put, List.setIfInBounds_toArray, List.set_cons_zero, List.set_cons_succ]
                  refine tk 28 69 (h := ?_)
                  refine tk 29 70 (h := ?_)
                  refine wpAnyH_done (by kernel_rfl) ?_ _
                  go_wp2
                  go_ret
                  refine ⟨?_, H.out.hb.trans (HX.out.2.1.drew.mono H.out.hb.size)⟩
                  rw [H.out.bad_dirty (HX.out.2.2.1 (by rw [HX.out.1]; (try simp only [Rc.dirtyOk, Rc.deedOk]); simp only [decide_eq_true_eq, decide_eq_false_iff_not] at h1 h2 h3; first | (simp [*]; done) | (simp [*]; omega)))]
                  rfl
      · obtain rfl : k = nd := by omega
        have HF := Lib.hid (And.intro (show Rc.ups D.zero Rc.dirtyOk (fun a b => decide (a.page < b.page)) x.dirty = true from Rc.ups_true (fun j h => hj j (by rw [H.out.lnd] at h; exact h))) hst)
        have hsl := H.out.c13 wr hst
        clear hj hst
        have HU1 := Lib.hid HF.out.1
        have HS := Lib.hid HF.out.2
        have c14 := H.out.c14 _ HF.out.2
        clear HF
        go_wp2_with fail
        clear c14 hsl
        go_loopg [2, 5] ne (fun gk s i wr => ∃ k : Nat, k ≤ ne ∧ gk = ne - k ∧ s = .bool false ∧ i = .int .i64 k ∧ (∀ j, j < k → Rc.at_ DeD.zero (fun y => Rc.deedOk y.d) (fun a b => decide (a.d.tx < b.d.tx)) x.deeds j = true) ∧ Below W.heap.size W wr)
        case atStart => exact ⟨0, by omega, by omega, rfl, rfl, fun j hj => absurd hj (by omega), HS.out⟩
        case round =>
          obtain ⟨k, hk, rfl, rfl, rfl, hj, hst⟩ := hrel
          clear HS
          by_cases hlt : k < ne
          · obtain ⟨b, off, hA, a0, a1, aok⟩ := (deed_at' (H.out.ok.below hst).deeds (by rw [H.out.lne]; exact hlt))
            have hkn : (k : Int) < (ne : Int) := by omega
            have hno : Rc.at_ DeD.zero (fun y => Rc.deedOk y.d) (fun a b => decide (a.d.tx < b.d.tx)) x.deeds k = false → Rc.ups DeD.zero (fun y => Rc.deedOk y.d) (fun a b => decide (a.d.tx < b.d.tx)) x.deeds = false := fun h => Rc.ups_false (by rw [H.out.lne]; exact hlt) h
            have hye : Rc.at_ DeD.zero (fun y => Rc.deedOk y.d) (fun a b => decide (a.d.tx < b.d.tx)) x.deeds k = true → ∀ j, j < k + 1 → Rc.at_ DeD.zero (fun y => Rc.deedOk y.d) (fun a b => decide (a.d.tx < b.d.tx)) x.deeds j = true := fun h j hj2 => by
              rcases Nat.lt_or_ge j k with h1 | h1
              · exact hj j h1
              · obtain rfl : j = k := by omega
                exact h
            have hprev : 0 < k → wr.cell? ⟨b, off + (k - 1) * 2, none⟩ = some (.int .i64 (x.deeds.getD (k - 1) DeD.zero).d.tx) := fun hk0 => by
              obtain ⟨b', off', e', c', _⟩ := deed_at' (H.out.ok.below hst).deeds (show k - 1 < x.deeds.length by rw [H.out.lne]; omega)
              rw [hA] at e'
              injection e' with e'
              injection e' with e1 e2
              subst e1
              subst e2
              exact c'
            have hsl : wr.cell? ⟨w.heap.size, 14, none⟩ = some (.slice x.eA ne x.ec) := (H.out.c14 wr hst)
            rw [hA] at hsl
            clear hA
            obtain ⟨y, hy⟩ : ∃ y, x.deeds.getD k DeD.zero = y := ⟨_, rfl⟩
            have hok : Rc.at_ DeD.zero (fun y => Rc.deedOk y.d) (fun a b => decide (a.d.tx < b.d.tx)) x.deeds k = ((fun y => Rc.deedOk y.d) (x.deeds.getD k DeD.zero) && (decide (k = 0) || (fun a b => decide (a.d.tx < b.d.tx)) (x.deeds.getD (k - 1) DeD.zero) (x.deeds.getD k DeD.zero))) := rfl
            rw [hy] at a0 a1 aok hok
            obtain ⟨nm, hnm⟩ : ∃ nm, y.d.mem.length = nm := ⟨_, rfl⟩
            rw [hnm] at a1
            have HM := Lib.hid (show ∀ W', Below wr.heap.size wr W' → Calls Try.prog 41 #[.slice y.mA nm y.mc] W' fun e w' => e = .returned (.bool (Rc.members y.d.mem)) ∧ Below W'.heap.size W' w' from fun W' hb => fmembers_any y.mA nm y.mc y.d.mem W' (by have g := aok.mem.below hb; rw [hnm] at g; exact g) (by have g := H.out.sm.deed k (by rw [H.out.lne]; exact hlt); rw [hy, hnm] at g; exact g))
            clear aok hnm
            rcases Nat.eq_zero_or_pos k with rfl | hkp
            · rw [Nat.zero_mul, Nat.add_zero] at a0 a1
              have HX := Lib.hid (And.intro hok (And.intro hst (And.intro hno (And.intro hye hk))))
              clear hok hst hno hye hj hprev
              go_wp2_with fail
              refine wp_region_held_drew (S := (fun W => W.cell? ⟨w.heap.size, 14, none⟩ = some (.slice (some ⟨b, off, none⟩) ne x.ec) ∧ W.cell? ⟨b, off, none⟩ = some (.int .i64 y.d.tx) ∧ W.cell? ⟨b, off + 1, none⟩ = some (.slice y.mA nm y.mc))) (by kernel_rfl) ⟨hsl, a0, a1⟩ (fun hHeld => ?_)
              refine tk 0 78 (h := ?_)
              refine tk 1 79 (h := ?_)
              refine tk 2 80 (h := ?_)
              refine tk 3 81 (h := ?_)
              refine tk 4 82 (h := ?_)
              refine tk 5 83 (h := ?_)
              cases h4 : Rc.seq y.d.tx 1 with
              | true =>
                refine wpAnyH_ready (rs := [6]) (by kernel_rfl) (by simp) ?_
                refine AllReadyH.cons rfl (fun K hK => ?_) AllReadyH.nil
                go_simp
                refine (fseq_any y.d.tx 1 _).mono ?_
                rintro e w8 ⟨rfl, rfl⟩
                rw [h4]
                refine hK.out _ _ hHeld (fun hHeld => ?_)
                clear hK K
                try simp only [Act.put, List.setIfInBounds_toArray, List.set_cons_zero, List.set_cons_succ]
                refine tk 7 85 (h := ?_)
                refine tk 8 86 (h := ?_)
                refine tk 9 87 (h := ?_)
                refine tk 10 88 (h := ?_)
                refine tk 11 89 (h := ?_)
                refine sk 12 90 (h := ?_)
                refine sk 13 91 (h := ?_)
                refine sk 14 92 (h := ?_)
                refine sk 15 93 (h := ?_)
                refine sk 16 94 (h := ?_)
                refine sk 17 95 (h := ?_)
                refine sk 18 96 (h := ?_)
                refine sk 19 97 (h := ?_)
                refine sk 20 98 (h := ?_)
                refine sk 21 99 (h := ?_)
                refine sk 22 100 (h := ?_)
                refine sk 23 101 (h := ?_)
                refine sk 24 102 (h := ?_)
                refine sk 25 103 (h := ?_)
                refine tk 26 104 (h := ?_)
                refine tk 27 105 (h := ?_)
                refine tk 28 106 (h := ?_)
                refine tk 29 107 (h := ?_)
                refine tk 30 108 (h := ?_)
                refine tk 31 109 (h := ?_)
                refine tk 32 110 (h := ?_)
                refine tk 33 111 (h := ?_)
                refine tk 34 112 (h := ?_)
                cases h5 : Rc.members y.d.mem with
                | true =>
                  refine wpAnyH_ready (rs := [35]) (by kernel_rfl) (by simp) ?_
                  refine AllReadyH.cons rfl (fun K hK => ?_) AllReadyH.nil
                  go_simp
                  refine (HM.out _ (Below.refl _ _).drew).mono ?_
                  rintro e w8 ⟨rfl, hb8⟩
                  rw [h5]
                  have HW8 := Lib.hid (HX.out.2.1.drew.trans (hb8.mono HX.out.2.1.drew.size))
                  refine hK.out _ _ ⟨cell_below hb8 (show wr.drew.cell? _ = _ from hsl), cell_below hb8 (show wr.drew.cell? _ = _ from a0), cell_below hb8 (show wr.drew.cell? _ = _ from a1)⟩ (fun hHeld => ?_)
                  clear hK K
                  try simp only [Act.put, List.setIfInBounds_toArray, List.set_cons_zero, List.set_cons_succ]
                  refine tk 36 114 (h := ?_)
                  refine tk 37 115 (h := ?_)
                  refine wpAnyH_done (by kernel_rfl) ?_ _
                  go_wp2
                  go_roundg (ne - 1)
                  case rel => exact ⟨1, by omega, by omega, rfl, rfl, HX.out.2.2.2.1 (by rw [HX.out.1]; (try simp only [Rc.dirtyOk, Rc.deedOk]); first | (simp [*]; done) | (simp [*]; omega)), HW8.out⟩
                  case measure => omega
                | false =>
                  refine wpAnyH_ready (rs := [35]) (by kernel_rfl) (by simp) ?_
                  refine AllReadyH.cons rfl (fun K hK => ?_) AllReadyH.nil
                  go_simp
                  refine (HM.out _ (Below.refl _ _).drew).mono ?_
                  rintro e w8 ⟨rfl, hb8⟩
                  rw [h5]
                  have HW8 := Lib.hid (HX.out.2.1.drew.trans (hb8.mono HX.out.2.1.drew.size))
                  refine hK.out _ _ ⟨cell_below hb8 (show wr.drew.cell? _ = _ from hsl), cell_below hb8 (show wr.drew.cell? _ = _ from a0), cell_below hb8 (show wr.drew.cell? _ = _ from a1)⟩ (fun hHeld => ?_)
                  clear hK K
                  try simp only [Act.put, List.setIfInBounds_toArray, List.set_cons_zero, List.set_cons_succ]
                  refine tk 36 114 (h := ?_)
                  refine tk 37 115 (h := ?_)
                  refine wpAnyH_done (by kernel_rfl) ?_ _
                  go_wp2
                  go_ret
                  refine ⟨?_, H.out.hb.trans (HW8.out.mono H.out.hb.size)⟩
                  rw [H.out.bad_deeds (HX.out.2.2.1 (by rw [HX.out.1]; (try simp only [Rc.dirtyOk, Rc.deedOk]); first | (simp [*]; done) | (simp [*]; omega)))]
                  rfl
              | false =>
                refine wpAnyH_ready (rs := [6]) (by kernel_rfl) (by simp) ?_
                refine AllReadyH.cons rfl (fun K hK => ?_) AllReadyH.nil
                go_simp
                refine (fseq_any y.d.tx 1 _).mono ?_
                rintro e w8 ⟨rfl, rfl⟩
                rw [h4]
                refine hK.out _ _ hHeld (fun hHeld => ?_)
                clear hK K
                try simp only [Act.put, List.setIfInBounds_toArray, List.set_cons_zero, List.set_cons_succ]
                refine tk 7 85 (h := ?_)
                refine tk 8 86 (h := ?_)
                refine sk 9 87 (h := ?_)
                refine sk 10 88 (h := ?_)
                refine sk 11 89 (h := ?_)
                refine sk 12 90 (h := ?_)
                refine sk 13 91 (h := ?_)
                refine sk 14 92 (h := ?_)
                refine sk 15 93 (h := ?_)
                refine sk 16 94 (h := ?_)
                refine sk 17 95 (h := ?_)
                refine sk 18 96 (h := ?_)
                refine sk 19 97 (h := ?_)
                refine sk 20 98 (h := ?_)
                refine sk 21 99 (h := ?_)
                refine sk 22 100 (h := ?_)
                refine sk 23 101 (h := ?_)
                refine sk 24 102 (h := ?_)
                refine sk 25 103 (h := ?_)
                refine sk 26 104 (h := ?_)
                refine tk 27 105 (h := ?_)
                refine tk 28 106 (h := ?_)
                refine sk 29 107 (h := ?_)
                refine sk 30 108 (h := ?_)
                refine sk 31 109 (h := ?_)
                refine sk 32 110 (h := ?_)
                refine sk 33 111 (h := ?_)
                refine sk 34 112 (h := ?_)
                refine sk 35 113 (h := ?_)
                refine sk 36 114 (h := ?_)
                refine tk 37 115 (h := ?_)
                refine wpAnyH_done (by kernel_rfl) ?_ _
                go_wp2
                go_ret
                refine ⟨?_, H.out.hb.trans (HX.out.2.1.drew.mono H.out.hb.size)⟩
                rw [H.out.bad_deeds (HX.out.2.2.1 (by rw [HX.out.1]; (try simp only [Rc.dirtyOk, Rc.deedOk]); first | (simp [*]; done) | (simp [*]; omega)))]
                rfl
            · have hpv := hprev hkp
              obtain ⟨z, hz⟩ : ∃ z, x.deeds.getD (k - 1) DeD.zero = z := ⟨_, rfl⟩
              rw [hz] at hpv hok
              obtain ⟨k1, hk1⟩ : ∃ k1, k - 1 = k1 := ⟨_, rfl⟩
              rw [hk1] at hpv
              have hkp' : decide ((0 : Int) < (k : Int)) = true := decide_eq_true (by omega)
              have hnN := H.out.s_deeds
              have hs0 : IntKind.i64.wrap ((k : Int) - 1) = (k1 : Int) := by rw [IntKind.wrap_i64]; omega
              have hs1 : (k1 : Int) < (ne : Int) := by omega
              have hokk : Rc.at_ DeD.zero (fun y => Rc.deedOk y.d) (fun a b => decide (a.d.tx < b.d.tx)) x.deeds k = ((fun y => Rc.deedOk y.d) y && (fun a b => decide (a.d.tx < b.d.tx)) z y) := by rw [hok, decide_eq_false (by omega), Bool.false_or]
              have HX := Lib.hid (And.intro hokk (And.intro hst (And.intro hno (And.intro hye (And.intro hnN hk)))))
              clear hok hokk hst hno hye hj hprev hk1 hnN
              go_wp2_with fail
              refine wp_region_held_drew (S := (fun W => W.cell? ⟨w.heap.size, 14, none⟩ = some (.slice (some ⟨b, off, none⟩) ne x.ec) ∧ W.cell? ⟨b, off + k * 2, none⟩ = some (.int .i64 y.d.tx) ∧ W.cell? ⟨b, off + k * 2 + 1, none⟩ = some (.slice y.mA nm y.mc) ∧ W.cell? ⟨b, off + k1 * 2, none⟩ = some (.int .i64 z.d.tx))) (by kernel_rfl) ⟨hsl, a0, a1, hpv⟩ (fun hHeld => ?_)
              refine tk 0 78 (h := ?_)
              refine tk 1 79 (h := ?_)
              refine tk 2 80 (h := ?_)
              refine tk 3 81 (h := ?_)
              refine tk 4 82 (h := ?_)
              refine tk 5 83 (h := ?_)
              cases h4 : Rc.seq y.d.tx 1 with
              | true =>
                refine wpAnyH_ready (rs := [6]) (by kernel_rfl) (by simp) ?_
                refine AllReadyH.cons rfl (fun K hK => ?_) AllReadyH.nil
                go_simp
                refine (fseq_any y.d.tx 1 _).mono ?_
                rintro e w8 ⟨rfl, rfl⟩
                rw [h4]
                refine hK.out _ _ hHeld (fun hHeld => ?_)
                clear hK K
                try simp only [Act.put, List.setIfInBounds_toArray, List.set_cons_zero, List.set_cons_succ]
                refine tk 7 85 (h := ?_)
                refine tk 8 86 (h := ?_)
                refine tk 9 87 (h := ?_)
                refine tk 10 88 (h := ?_)
                refine tk 11 89 (h := ?_)
                refine tk 12 90 (h := ?_)
                refine tk 13 91 (h := ?_)
                refine tk 14 92 (h := ?_)
                refine tk 15 93 (h := ?_)
                refine tk 16 94 (h := ?_)
                refine tk 17 95 (h := ?_)
                refine tk 18 96 (h := ?_)
                refine tk 19 97 (h := ?_)
                refine tk 20 98 (h := ?_)
                refine tk 21 99 (h := ?_)
                refine tk 22 100 (h := ?_)
                refine tk 23 101 (h := ?_)
                refine tk 24 102 (h := ?_)
                cases h3 : decide (y.d.tx ≤ z.d.tx) with
                | true =>
                  refine tk 25 103 (h := ?_)
                  refine tk 26 104 (h := ?_)
                  refine tk 27 105 (h := ?_)
                  refine tk 28 106 (h := ?_)
                  refine sk 29 107 (h := ?_)
                  refine sk 30 108 (h := ?_)
                  refine sk 31 109 (h := ?_)
                  refine sk 32 110 (h := ?_)
                  refine sk 33 111 (h := ?_)
                  refine sk 34 112 (h := ?_)
                  refine sk 35 113 (h := ?_)
                  refine sk 36 114 (h := ?_)
                  refine tk 37 115 (h := ?_)
                  refine wpAnyH_done (by kernel_rfl) ?_ _
                  go_wp2
                  go_ret
                  refine ⟨?_, H.out.hb.trans (HX.out.2.1.drew.mono H.out.hb.size)⟩
                  rw [H.out.bad_deeds (HX.out.2.2.1 (by rw [HX.out.1]; (try simp only [Rc.dirtyOk, Rc.deedOk]); simp only [decide_eq_true_eq, decide_eq_false_iff_not] at h3; first | (simp [*]; done) | (simp [*]; omega)))]
                  rfl
                | false =>
                  refine tk 25 103 (h := ?_)
                  refine tk 26 104 (h := ?_)
                  refine tk 27 105 (h := ?_)
                  refine tk 28 106 (h := ?_)
                  refine tk 29 107 (h := ?_)
                  refine tk 30 108 (h := ?_)
                  refine tk 31 109 (h := ?_)
                  refine tk 32 110 (h := ?_)
                  refine tk 33 111 (h := ?_)
                  refine tk 34 112 (h := ?_)
                  cases h5 : Rc.members y.d.mem with
                  | true =>
                    refine wpAnyH_ready (rs := [35]) (by kernel_rfl) (by simp) ?_
                    refine AllReadyH.cons rfl (fun K hK => ?_) AllReadyH.nil
                    go_simp
                    refine (HM.out _ (Below.refl _ _).drew).mono ?_
                    rintro e w8 ⟨rfl, hb8⟩
                    rw [h5]
                    have HW8 := Lib.hid (HX.out.2.1.drew.trans (hb8.mono HX.out.2.1.drew.size))
                    refine hK.out _ _ ⟨cell_below hb8 (show wr.drew.cell? _ = _ from hsl), cell_below hb8 (show wr.drew.cell? _ = _ from a0), cell_below hb8 (show wr.drew.cell? _ = _ from a1), cell_below hb8 (show wr.drew.cell? _ = _ from hpv)⟩ (fun hHeld => ?_)
                    clear hK K
                    try simp only [Act.put, List.setIfInBounds_toArray, List.set_cons_zero, List.set_cons_succ]
                    refine tk 36 114 (h := ?_)
                    refine tk 37 115 (h := ?_)
                    refine wpAnyH_done (by kernel_rfl) ?_ _
                    go_wp2
                    go_roundg (ne - (k + 1))
                    case rel => exact ⟨k + 1, by omega, by omega, rfl, congrArg (Value.int .i64) (by have := HX.out.2.2.2.2.1; have := HX.out.2.2.2.2.2; unfold wrap64; omega), HX.out.2.2.2.1 (by rw [HX.out.1]; (try simp only [Rc.dirtyOk, Rc.deedOk]); simp only [decide_eq_true_eq, decide_eq_false_iff_not] at h3; first | (simp [*]; done) | (simp [*]; omega)), HW8.out⟩
                    case measure => omega
                  | false =>
                    refine wpAnyH_ready (rs := [35]) (by kernel_rfl) (by simp) ?_
                    refine AllReadyH.cons rfl (fun K hK => ?_) AllReadyH.nil
                    go_simp
                    refine (HM.out _ (Below.refl _ _).drew).mono ?_
                    rintro e w8 ⟨rfl, hb8⟩
                    rw [h5]
                    have HW8 := Lib.hid (HX.out.2.1.drew.trans (hb8.mono HX.out.2.1.drew.size))
                    refine hK.out _ _ ⟨cell_below hb8 (show wr.drew.cell? _ = _ from hsl), cell_below hb8 (show wr.drew.cell? _ = _ from a0), cell_below hb8 (show wr.drew.cell? _ = _ from a1), cell_below hb8 (show wr.drew.cell? _ = _ from hpv)⟩ (fun hHeld => ?_)
                    clear hK K
                    try simp only [Act.put, List.setIfInBounds_toArray, List.set_cons_zero, List.set_cons_succ]
                    refine tk 36 114 (h := ?_)
                    refine tk 37 115 (h := ?_)
                    refine wpAnyH_done (by kernel_rfl) ?_ _
                    go_wp2
                    go_ret
                    refine ⟨?_, H.out.hb.trans (HW8.out.mono H.out.hb.size)⟩
                    rw [H.out.bad_deeds (HX.out.2.2.1 (by rw [HX.out.1]; (try simp only [Rc.dirtyOk, Rc.deedOk]); simp only [decide_eq_true_eq, decide_eq_false_iff_not] at h3; first | (simp [*]; done) | (simp [*]; omega)))]
                    rfl
              | false =>
                refine wpAnyH_ready (rs := [6]) (by kernel_rfl) (by simp) ?_
                refine AllReadyH.cons rfl (fun K hK => ?_) AllReadyH.nil
                go_simp
                refine (fseq_any y.d.tx 1 _).mono ?_
                rintro e w8 ⟨rfl, rfl⟩
                rw [h4]
                refine hK.out _ _ hHeld (fun hHeld => ?_)
                clear hK K
                try simp only [Act.put, List.setIfInBounds_toArray, List.set_cons_zero, List.set_cons_succ]
                refine tk 7 85 (h := ?_)
                refine tk 8 86 (h := ?_)
                refine sk 9 87 (h := ?_)
                refine sk 10 88 (h := ?_)
                refine sk 11 89 (h := ?_)
                refine sk 12 90 (h := ?_)
                refine sk 13 91 (h := ?_)
                refine sk 14 92 (h := ?_)
                refine sk 15 93 (h := ?_)
                refine sk 16 94 (h := ?_)
                refine sk 17 95 (h := ?_)
                refine sk 18 96 (h := ?_)
                refine sk 19 97 (h := ?_)
                refine sk 20 98 (h := ?_)
                refine sk 21 99 (h := ?_)
                refine sk 22 100 (h := ?_)
                refine sk 23 101 (h := ?_)
                refine sk 24 102 (h := ?_)
                refine sk 25 103 (h := ?_)
                refine sk 26 104 (h := ?_)
                refine tk 27 105 (h := ?_)
                refine tk 28 106 (h := ?_)
                refine sk 29 107 (h := ?_)
                refine sk 30 108 (h := ?_)
                refine sk 31 109 (h := ?_)
                refine sk 32 110 (h := ?_)
                refine sk 33 111 (h := ?_)
                refine sk 34 112 (h := ?_)
                refine sk 35 113 (h := ?_)
                refine sk 36 114 (h := ?_)
                refine tk 37 115 (h := ?_)
                refine wpAnyH_done (by kernel_rfl) ?_ _
                go_wp2
                go_ret
                refine ⟨?_, H.out.hb.trans (HX.out.2.1.drew.mono H.out.hb.size)⟩
                rw [H.out.bad_deeds (HX.out.2.2.1 (by rw [HX.out.1]; (try simp only [Rc.dirtyOk, Rc.deedOk]); first | (simp [*]; done) | (simp [*]; omega)))]
                rfl
          · obtain rfl : k = ne := by omega
            have HF := Lib.hid (And.intro (show Rc.ups DeD.zero (fun y => Rc.deedOk y.d) (fun a b => decide (a.d.tx < b.d.tx)) x.deeds = true from Rc.ups_true (fun j h => hj j (by rw [H.out.lne] at h; exact h))) hst)
            have hsl := H.out.c14 wr hst
            clear hj hst
            have HU2 := Lib.hid HF.out.1
            have HS := Lib.hid HF.out.2
            have c15 := H.out.c15 _ HF.out.2
            clear HF
            go_wp2_with fail
            clear c15 hsl
            go_loopg [2, 6] np (fun gk s i wr => ∃ k : Nat, k ≤ np ∧ gk = np - k ∧ s = .bool false ∧ i = .int .i64 k ∧ (∀ j, j < k → Rc.at_ (0 : Int) (fun n => Rc.seq n 1) (fun a b => decide (a < b)) x.past j = true) ∧ Below W.heap.size W wr)
            case atStart => exact ⟨0, by omega, by omega, rfl, rfl, fun j hj => absurd hj (by omega), HS.out⟩
            case round =>
              obtain ⟨k, hk, rfl, rfl, rfl, hj, hst⟩ := hrel
              clear HS
              by_cases hlt : k < np
              · obtain ⟨b, off, hA, a0⟩ := is_at (H.out.ok.below hst).past (by rw [H.out.lnp]; exact hlt)
                have hkn : (k : Int) < (np : Int) := by omega
                have hno : Rc.at_ (0 : Int) (fun n => Rc.seq n 1) (fun a b => decide (a < b)) x.past k = false → Rc.ups (0 : Int) (fun n => Rc.seq n 1) (fun a b => decide (a < b)) x.past = false := fun h => Rc.ups_false (by rw [H.out.lnp]; exact hlt) h
                have hye : Rc.at_ (0 : Int) (fun n => Rc.seq n 1) (fun a b => decide (a < b)) x.past k = true → ∀ j, j < k + 1 → Rc.at_ (0 : Int) (fun n => Rc.seq n 1) (fun a b => decide (a < b)) x.past j = true := fun h j hj2 => by
                  rcases Nat.lt_or_ge j k with h1 | h1
                  · exact hj j h1
                  · obtain rfl : j = k := by omega
                    exact h
                have hprev : 0 < k → wr.cell? ⟨b, off + (k - 1), none⟩ = some (.int .i64 (x.past.getD (k - 1) 0)) := fun hk0 => by
                  obtain ⟨b', off', e', c'⟩ := is_at (H.out.ok.below hst).past (show k - 1 < x.past.length by rw [H.out.lnp]; omega)
                  rw [hA] at e'
                  injection e' with e'
                  injection e' with e1 e2
                  subst e1
                  subst e2
                  exact c'
                have hsl : wr.cell? ⟨w.heap.size, 15, none⟩ = some (.slice x.pA np x.pc) := (H.out.c15 wr hst)
                rw [hA] at hsl
                clear hA
                obtain ⟨y, hy⟩ : ∃ y, x.past.getD k (0 : Int) = y := ⟨_, rfl⟩
                have hok : Rc.at_ (0 : Int) (fun n => Rc.seq n 1) (fun a b => decide (a < b)) x.past k = ((fun n => Rc.seq n 1) (x.past.getD k (0 : Int)) && (decide (k = 0) || (fun a b => decide (a < b)) (x.past.getD (k - 1) (0 : Int)) (x.past.getD k (0 : Int)))) := rfl
                rw [hy] at a0 hok
                rcases Nat.eq_zero_or_pos k with rfl | hkp
                · rw [Nat.add_zero] at a0
                  have HX := Lib.hid (And.intro hok (And.intro hst (And.intro hno (And.intro hye hk))))
                  clear hok hst hno hye hj hprev
                  go_wp2_with fail
                  refine wp_region_held_drew (S := (fun W => W.cell? ⟨w.heap.size, 15, none⟩ = some (.slice (some ⟨b, off, none⟩) np x.pc) ∧ W.cell? ⟨b, off, none⟩ = some (.int .i64 y))) (by kernel_rfl) ⟨hsl, a0⟩ (fun hHeld => ?_)
                  refine tk 0 123 (h := ?_)
                  refine tk 1 124 (h := ?_)
                  refine tk 2 125 (h := ?_)
                  refine tk 3 126 (h := ?_)
                  refine tk 4 127 (h := ?_)
                  cases h4 : Rc.seq y 1 with
                  | true =>
                    refine wpAnyH_ready (rs := [5]) (by kernel_rfl) (by simp) ?_
                    refine AllReadyH.cons rfl (fun K hK => ?_) AllReadyH.nil
                    go_simp
                    refine (fseq_any y 1 _).mono ?_
                    rintro e w8 ⟨rfl, rfl⟩
                    rw [h4]
                    refine hK.out _ _ hHeld (fun hHeld => ?_)
                    clear hK K
                    try simp only [Act.put, List.setIfInBounds_toArray, List.set_cons_zero, List.set_cons_succ]
                    refine tk 6 129 (h := ?_)
                    refine tk 7 130 (h := ?_)
                    refine tk 8 131 (h := ?_)
                    refine tk 9 132 (h := ?_)
                    refine tk 10 133 (h := ?_)
                    refine sk 11 134 (h := ?_)
                    refine sk 12 135 (h := ?_)
                    refine sk 13 136 (h := ?_)
                    refine sk 14 137 (h := ?_)
                    refine sk 15 138 (h := ?_)
                    refine sk 16 139 (h := ?_)
                    refine sk 17 140 (h := ?_)
                    refine sk 18 141 (h := ?_)
                    refine sk 19 142 (h := ?_)
                    refine sk 20 143 (h := ?_)
                    refine sk 21 144 (h := ?_)
                    refine sk 22 145 (h := ?_)
                    refine tk 23 146 (h := ?_)
                    refine tk 24 147 (h := ?_)
                    refine wpAnyH_done (by kernel_rfl) ?_ _
                    go_wp2
                    go_roundg (np - 1)
                    case rel => exact ⟨1, by omega, by omega, rfl, rfl, HX.out.2.2.2.1 (by rw [HX.out.1]; (try simp only [Rc.dirtyOk, Rc.deedOk]); first | (simp [*]; done) | (simp [*]; omega)), HX.out.2.1.drew⟩
                    case measure => omega
                  | false =>
                    refine wpAnyH_ready (rs := [5]) (by kernel_rfl) (by simp) ?_
                    refine AllReadyH.cons rfl (fun K hK => ?_) AllReadyH.nil
                    go_simp
                    refine (fseq_any y 1 _).mono ?_
                    rintro e w8 ⟨rfl, rfl⟩
                    rw [h4]
                    refine hK.out _ _ hHeld (fun hHeld => ?_)
                    clear hK K
                    try simp only [Act.put, List.setIfInBounds_toArray, List.set_cons_zero, List.set_cons_succ]
                    refine tk 6 129 (h := ?_)
                    refine tk 7 130 (h := ?_)
                    refine sk 8 131 (h := ?_)
                    refine sk 9 132 (h := ?_)
                    refine sk 10 133 (h := ?_)
                    refine sk 11 134 (h := ?_)
                    refine sk 12 135 (h := ?_)
                    refine sk 13 136 (h := ?_)
                    refine sk 14 137 (h := ?_)
                    refine sk 15 138 (h := ?_)
                    refine sk 16 139 (h := ?_)
                    refine sk 17 140 (h := ?_)
                    refine sk 18 141 (h := ?_)
                    refine sk 19 142 (h := ?_)
                    refine sk 20 143 (h := ?_)
                    refine sk 21 144 (h := ?_)
                    refine sk 22 145 (h := ?_)
                    refine sk 23 146 (h := ?_)
                    refine tk 24 147 (h := ?_)
                    refine wpAnyH_done (by kernel_rfl) ?_ _
                    go_wp2
                    go_ret
                    refine ⟨?_, H.out.hb.trans (HX.out.2.1.drew.mono H.out.hb.size)⟩
                    rw [H.out.bad_past (HX.out.2.2.1 (by rw [HX.out.1]; (try simp only [Rc.dirtyOk, Rc.deedOk]); first | (simp [*]; done) | (simp [*]; omega)))]
                    rfl
                · have hpv := hprev hkp
                  obtain ⟨z, hz⟩ : ∃ z, x.past.getD (k - 1) (0 : Int) = z := ⟨_, rfl⟩
                  rw [hz] at hpv hok
                  obtain ⟨k1, hk1⟩ : ∃ k1, k - 1 = k1 := ⟨_, rfl⟩
                  rw [hk1] at hpv
                  have hkp' : decide ((0 : Int) < (k : Int)) = true := decide_eq_true (by omega)
                  have hnN := H.out.s_past
                  have hs0 : IntKind.i64.wrap ((k : Int) - 1) = (k1 : Int) := by rw [IntKind.wrap_i64]; omega
                  have hs1 : (k1 : Int) < (np : Int) := by omega
                  have hokk : Rc.at_ (0 : Int) (fun n => Rc.seq n 1) (fun a b => decide (a < b)) x.past k = ((fun n => Rc.seq n 1) y && (fun a b => decide (a < b)) z y) := by rw [hok, decide_eq_false (by omega), Bool.false_or]
                  have HX := Lib.hid (And.intro hokk (And.intro hst (And.intro hno (And.intro hye (And.intro hnN hk)))))
                  clear hok hokk hst hno hye hj hprev hk1 hnN
                  go_wp2_with fail
                  refine wp_region_held_drew (S := (fun W => W.cell? ⟨w.heap.size, 15, none⟩ = some (.slice (some ⟨b, off, none⟩) np x.pc) ∧ W.cell? ⟨b, off + k, none⟩ = some (.int .i64 y) ∧ W.cell? ⟨b, off + k1, none⟩ = some (.int .i64 z))) (by kernel_rfl) ⟨hsl, a0, hpv⟩ (fun hHeld => ?_)
                  refine tk 0 123 (h := ?_)
                  refine tk 1 124 (h := ?_)
                  refine tk 2 125 (h := ?_)
                  refine tk 3 126 (h := ?_)
                  refine tk 4 127 (h := ?_)
                  cases h4 : Rc.seq y 1 with
                  | true =>
                    refine wpAnyH_ready (rs := [5]) (by kernel_rfl) (by simp) ?_
                    refine AllReadyH.cons rfl (fun K hK => ?_) AllReadyH.nil
                    go_simp
                    refine (fseq_any y 1 _).mono ?_
                    rintro e w8 ⟨rfl, rfl⟩
                    rw [h4]
                    refine hK.out _ _ hHeld (fun hHeld => ?_)
                    clear hK K
                    try simp only [Act.put, List.setIfInBounds_toArray, List.set_cons_zero, List.set_cons_succ]
                    refine tk 6 129 (h := ?_)
                    refine tk 7 130 (h := ?_)
                    refine tk 8 131 (h := ?_)
                    refine tk 9 132 (h := ?_)
                    refine tk 10 133 (h := ?_)
                    refine tk 11 134 (h := ?_)
                    refine tk 12 135 (h := ?_)
                    refine tk 13 136 (h := ?_)
                    refine tk 14 137 (h := ?_)
                    refine tk 15 138 (h := ?_)
                    refine tk 16 139 (h := ?_)
                    refine tk 17 140 (h := ?_)
                    refine tk 18 141 (h := ?_)
                    refine tk 19 142 (h := ?_)
                    refine tk 20 143 (h := ?_)
                    refine tk 21 144 (h := ?_)
                    cases h3 : decide (y ≤ z) with
                    | true =>
                      refine tk 22 145 (h := ?_)
                      refine tk 23 146 (h := ?_)
                      refine tk 24 147 (h := ?_)
                      refine wpAnyH_done (by kernel_rfl) ?_ _
                      go_wp2
                      go_ret
                      refine ⟨?_, H.out.hb.trans (HX.out.2.1.drew.mono H.out.hb.size)⟩
                      rw [H.out.bad_past (HX.out.2.2.1 (by rw [HX.out.1]; (try simp only [Rc.dirtyOk, Rc.deedOk]); simp only [decide_eq_true_eq, decide_eq_false_iff_not] at h3; first | (simp [*]; done) | (simp [*]; omega)))]
                      rfl
                    | false =>
                      refine tk 22 145 (h := ?_)
                      refine tk 23 146 (h := ?_)
                      refine tk 24 147 (h := ?_)
                      refine wpAnyH_done (by kernel_rfl) ?_ _
                      go_wp2
                      go_roundg (np - (k + 1))
                      case rel => exact ⟨k + 1, by omega, by omega, rfl, congrArg (Value.int .i64) (by have := HX.out.2.2.2.2.1; have := HX.out.2.2.2.2.2; unfold wrap64; omega), HX.out.2.2.2.1 (by rw [HX.out.1]; (try simp only [Rc.dirtyOk, Rc.deedOk]); simp only [decide_eq_true_eq, decide_eq_false_iff_not] at h3; first | (simp [*]; done) | (simp [*]; omega)), HX.out.2.1.drew⟩
                      case measure => omega
                  | false =>
                    refine wpAnyH_ready (rs := [5]) (by kernel_rfl) (by simp) ?_
                    refine AllReadyH.cons rfl (fun K hK => ?_) AllReadyH.nil
                    go_simp
                    refine (fseq_any y 1 _).mono ?_
                    rintro e w8 ⟨rfl, rfl⟩
                    rw [h4]
                    refine hK.out _ _ hHeld (fun hHeld => ?_)
                    clear hK K
                    try simp only [Act.put, List.setIfInBounds_toArray, List.set_cons_zero, List.set_cons_succ]
                    refine tk 6 129 (h := ?_)
                    refine tk 7 130 (h := ?_)
                    refine sk 8 131 (h := ?_)
                    refine sk 9 132 (h := ?_)
                    refine sk 10 133 (h := ?_)
                    refine sk 11 134 (h := ?_)
                    refine sk 12 135 (h := ?_)
                    refine sk 13 136 (h := ?_)
                    refine sk 14 137 (h := ?_)
                    refine sk 15 138 (h := ?_)
                    refine sk 16 139 (h := ?_)
                    refine sk 17 140 (h := ?_)
                    refine sk 18 141 (h := ?_)
                    refine sk 19 142 (h := ?_)
                    refine sk 20 143 (h := ?_)
                    refine sk 21 144 (h := ?_)
                    refine sk 22 145 (h := ?_)
                    refine sk 23 146 (h := ?_)
                    refine tk 24 147 (h := ?_)
                    refine wpAnyH_done (by kernel_rfl) ?_ _
                    go_wp2
                    go_ret
                    refine ⟨?_, H.out.hb.trans (HX.out.2.1.drew.mono H.out.hb.size)⟩
                    rw [H.out.bad_past (HX.out.2.2.1 (by rw [HX.out.1]; (try simp only [Rc.dirtyOk, Rc.deedOk]); first | (simp [*]; done) | (simp [*]; omega)))]
                    rfl
              · obtain rfl : k = np := by omega
                have HF := Lib.hid (And.intro (show Rc.ups (0 : Int) (fun n => Rc.seq n 1) (fun a b => decide (a < b)) x.past = true from Rc.ups_true (fun j h => hj j (by rw [H.out.lnp] at h; exact h))) hst)
                have hsl := H.out.c15 wr hst
                clear hj hst
                go_wp2
                go_ret
                exact ⟨by rw [H.out.good HU1.out HU2.out HF.out.1]; rfl, H.out.hb.trans (HF.out.2.mono H.out.hb.size)⟩
end Go.Proofs.Ytlijfnekopjogaa
