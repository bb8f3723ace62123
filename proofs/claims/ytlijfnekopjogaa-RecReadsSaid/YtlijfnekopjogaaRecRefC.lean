/- The document's records: which rows may be (printed by gen_mayref.py). -/
import Derived.Test.YtlijfnekopjogaaRecRefAB
import Derived.Test.YtlijfnekopjogaaRecD0
import Derived.Test.YtlijfnekopjogaaRecMems
import Derived.Deep.DeepCutAuto
namespace Go.Proofs.Ytlijfnekopjogaa
open Go Go.RowKit Mem Rc
set_option maxRecDepth 100000
set_option linter.unusedVariables false
set_option linter.unusedSimpArgs false

theorem rows_rise (l : List RwD) : Rc.rows (l.map RwD.r) = Rc.rising RwD.zero 64 (fun x => Rc.rowOk x.r) (fun a b => decide (a.r.tx < b.r.tx)) l := (Rc.rising_map RwD.r RwD.zero 64 Rc.rowOk (fun a b => decide (a.tx < b.tx)) l).symm
set_option maxHeartbeats 16000000 in
theorem frows_any (A : Option Addr) (n c : Nat) (l : List RwD) (w : World) (hl : ST rowK w A n l) (hn : n ≤ 1000000) (hs : ∀ k, k < n → (l.getD k RwD.zero).r.mem.length ≤ 1000000 ∧ (l.getD k RwD.zero).r.locks.length ≤ 1000000) :
    Calls Try.prog 77 #[.slice A n c] w fun e w' => e = .returned (.bool (Rc.rows (l.map RwD.r))) ∧ Below w.heap.size w w' := by
  rw [rows_rise]
  by_cases h64 : 64 < n
  · have hd : decide ((64 : Int) < (n : Int)) = true := decide_eq_true (by omega)
    have hr : Rc.rising RwD.zero 64 (fun x => Rc.rowOk x.r) (fun a b => decide (a.r.tx < b.r.tx)) l = false := by unfold Rc.rising; rw [hl.len, decide_eq_false (by omega), Bool.false_and]
    rw [hr]
    clear h64 hl hn hr hs
    go_enter Try.func77, Try.ntmps77
    go_wp2
    go_ret
    exact ⟨rfl, Below.refl _ _⟩
  have hd : decide ((64 : Int) < (n : Int)) = false := decide_eq_false (by omega)
  have hr : Rc.rising RwD.zero 64 (fun x => Rc.rowOk x.r) (fun a b => decide (a.r.tx < b.r.tx)) l = Rc.ups RwD.zero (fun x => Rc.rowOk x.r) (fun a b => decide (a.r.tx < b.r.tx)) l := by unfold Rc.rising; rw [hl.len, decide_eq_true (by omega), Bool.true_and]
  rw [hr]
  have H := Lib.hid (And.intro hl (And.intro hn (And.intro hl.len hs)))
  clear hl hn hr h64 hs
  go_enter Try.func77, Try.ntmps77
  go_wp2
  go_loopg [2, 3] n (fun gk s i wr => ∃ k : Nat, k ≤ n ∧ gk = n - k ∧ s = .bool false ∧ i = .int .i64 k ∧ (∀ j, j < k → Rc.at_ RwD.zero (fun x => Rc.rowOk x.r) (fun a b => decide (a.r.tx < b.r.tx)) l j = true) ∧ Below w.heap.size w wr)
  case atStart => exact ⟨0, by omega, by omega, rfl, rfl, fun j hj => absurd hj (by omega), Below.refl _ _⟩
  case round =>
    obtain ⟨k, hk, rfl, rfl, rfl, hj, hst⟩ := hrel
    by_cases hlt : k < n
    · obtain ⟨b, off, rfl, hbl, a0, a1, a2, a3, a4, a5, a6, a7, aok⟩ := row_at (H.out.1.below hst) hlt
      have hkn : (k : Int) < (n : Int) := by omega
      have hok : Rc.at_ RwD.zero (fun x => Rc.rowOk x.r) (fun a b => decide (a.r.tx < b.r.tx)) l k = (Rc.rowOk (l.getD k RwD.zero).r && (decide (k = 0) || decide ((l.getD (k - 1) RwD.zero).r.tx < (l.getD k RwD.zero).r.tx))) := rfl
      have hno : Rc.at_ RwD.zero (fun x => Rc.rowOk x.r) (fun a b => decide (a.r.tx < b.r.tx)) l k = false → Rc.ups RwD.zero (fun x => Rc.rowOk x.r) (fun a b => decide (a.r.tx < b.r.tx)) l = false := fun h => Rc.ups_false (by rw [H.out.2.2.1]; exact hlt) h
      have hye : Rc.at_ RwD.zero (fun x => Rc.rowOk x.r) (fun a b => decide (a.r.tx < b.r.tx)) l k = true → ∀ j, j < k + 1 → Rc.at_ RwD.zero (fun x => Rc.rowOk x.r) (fun a b => decide (a.r.tx < b.r.tx)) l j = true := fun h j hj2 => by
        rcases Nat.lt_or_ge j k with h1 | h1
        · exact hj j h1
        · obtain rfl : j = k := by omega
          exact h
      have hprev : 0 < k → wr.cell? ⟨b, off + (k - 1) * 8, none⟩ = some (.int .i64 (l.getD (k - 1) RwD.zero).r.tx) := fun hk0 => by
        obtain ⟨b', off', e', _, c', _⟩ := row_at (H.out.1.below hst) (show k - 1 < n by omega)
        injection e' with e'
        injection e' with e1 e2
        subst e1
        subst e2
        exact c'
      have hsz := H.out.2.2.2 k hlt
      obtain ⟨x, hx⟩ : ∃ x, l.getD k RwD.zero = x := ⟨_, rfl⟩
      rw [hx] at a0 a1 a2 a3 a4 a5 a6 a7 aok hok hsz
      obtain ⟨nm, hnm⟩ : ∃ nm, x.r.mem.length = nm := ⟨_, rfl⟩
      obtain ⟨nl, hnl⟩ : ∃ nl, x.r.locks.length = nl := ⟨_, rfl⟩
      have hB0 : Blk (wr.alloc (.cells #[.int .i64 0, .int .i64 0, .int .i64 0, .int .i64 0, .int .i64 0, .int .i64 0, .slice none 0 0, .slice none 0 0] 52)) wr.heap.size 52 #[.int .i64 0, .int .i64 0, .int .i64 0, .int .i64 0, .int .i64 0, .int .i64 0, .slice none 0 0, .slice none 0 0] := Blk.new _ _ _
      have HR := Lib.hid (And.intro hst (And.intro hno (And.intro hye (And.intro H.out.2.1 (And.intro hk (And.intro hok (And.intro aok (And.intro hnm (And.intro hnl (And.intro hsz (And.intro hbl hprev)))))))))))
      clear hst hno hye hj hok aok hsz hx hnm hnl hbl hprev
      go_upto_region 7 with (refine wpList_store_row x (by rfl) _ _ (by rfl) (by rfl) (by rfl) hB0 (by rfl) ?_; intro w5 hB5 hF5 hS5)
      have hb5 : Below wr.heap.size wr w5 := ((Below.refl _ wr).alloc (Nat.le_refl _) _).trans (hF5.below (by simp) (fun j hj => by have e : j = wr.heap.size := hj; omega))
      obtain ⟨G, hG⟩ : ∃ G, wr.heap.size = G := ⟨_, rfl⟩
      rw [hG] at hB5
      have g0 : w5.cell? ⟨G, 0, none⟩ = some (.int .i64 x.r.tx) := hB5.cell 0
      have g1 : w5.cell? ⟨G, 1, none⟩ = some (.int .i64 x.r.st) := hB5.cell 1
      have g2 : w5.cell? ⟨G, 2, none⟩ = some (.int .i64 x.r.fi) := hB5.cell 2
      have g3 : w5.cell? ⟨G, 3, none⟩ = some (.int .i64 x.r.la) := hB5.cell 3
      have g4 : w5.cell? ⟨G, 4, none⟩ = some (.int .i64 x.r.un) := hB5.cell 4
      have g5 : w5.cell? ⟨G, 5, none⟩ = some (.int .i64 x.r.co) := hB5.cell 5
      have g6 : w5.cell? ⟨G, 6, none⟩ = some (.slice x.mA nm x.mc) := (hB5.cell 6).trans (by rw [← HR.out.2.2.2.2.2.2.2.1]; rfl)
      have g7 : w5.cell? ⟨G, 7, none⟩ = some (.slice x.lA nl x.lc) := (hB5.cell 7).trans (by rw [← HR.out.2.2.2.2.2.2.2.2.1]; rfl)
      have HM := Lib.hid (show IS w5 x.mA nm x.r.mem ∧ nm ≤ 1000000 ∧ ST lockK w5 x.lA nl x.r.locks ∧ nl ≤ 1000000 from ⟨by have g := HR.out.2.2.2.2.2.2.1.mem.below hb5; rw [HR.out.2.2.2.2.2.2.2.1] at g; exact g, by have g := HR.out.2.2.2.2.2.2.2.2.2.1.1; rw [HR.out.2.2.2.2.2.2.2.1] at g; exact g, by have g := HR.out.2.2.2.2.2.2.1.locks.below hb5; rw [HR.out.2.2.2.2.2.2.2.2.1] at g; exact g, by have g := HR.out.2.2.2.2.2.2.2.2.2.1.2; rw [HR.out.2.2.2.2.2.2.2.2.1] at g; exact g⟩)
      have hw5 : Below w.heap.size w w5 := HR.out.1.trans (hb5.mono HR.out.1.size)
      have HB5 := Lib.hid hb5
      clear hB0 hB5 hF5 hS5 hb5 a0 a1 a2 a3 a4 a5 a6 a7
      rcases Nat.eq_zero_or_pos k with rfl | hkp
      · have HX := Lib.hid (And.intro HR.out.2.2.2.2.2.1 (And.intro hw5 (And.intro HR.out.2.1 (And.intro HR.out.2.2.1 H.out.2.1))))
        clear hw5
        go_wp2_with fail
        refine wp_region_held_drew (S := (fun W => W.cell? ⟨G, 0, none⟩ = some (.int .i64 x.r.tx) ∧ W.cell? ⟨G, 1, none⟩ = some (.int .i64 x.r.st) ∧ W.cell? ⟨G, 2, none⟩ = some (.int .i64 x.r.fi) ∧ W.cell? ⟨G, 3, none⟩ = some (.int .i64 x.r.la) ∧ W.cell? ⟨G, 4, none⟩ = some (.int .i64 x.r.un))) (by kernel_rfl) ⟨g0, g1, g2, g3, g4⟩ (fun hHeld => ?_)
        refine tk 0 18 (h := ?_)
        refine tk 1 19 (h := ?_)
        cases h1 : Rc.seq x.r.tx 1 with
        | true =>
          refine wpAnyH_ready (rs := [2]) (by kernel_rfl) (by simp) ?_
          refine AllReadyH.cons rfl (fun K hK => ?_) AllReadyH.nil
          go_simp
          refine (fseq_any x.r.tx 1 _).mono ?_
          rintro e w8 ⟨rfl, rfl⟩
          rw [h1]
          refine hK.out _ _ hHeld (fun hHeld => ?_)
          clear hK K
          try simp only [Act.put, List.setIfInBounds_toArray, List.set_cons_zero, List.set_cons_succ]
          refine tk 3 21 (h := ?_)
          refine tk 4 22 (h := ?_)
          refine tk 5 23 (h := ?_)
          refine tk 6 24 (h := ?_)
          refine tk 7 25 (h := ?_)
          refine sk 8 26 (h := ?_)
          refine sk 9 27 (h := ?_)
          refine sk 10 28 (h := ?_)
          refine sk 11 29 (h := ?_)
          refine sk 12 30 (h := ?_)
          refine sk 13 31 (h := ?_)
          refine sk 14 32 (h := ?_)
          refine sk 15 33 (h := ?_)
          refine sk 16 34 (h := ?_)
          refine tk 17 35 (h := ?_)
          refine tk 18 36 (h := ?_)
          refine tk 19 37 (h := ?_)
          refine tk 20 38 (h := ?_)
          refine tk 21 39 (h := ?_)
          cases h3 : decide (x.r.st < 1) with
          | true =>
            refine tk 22 40 (h := ?_)
            refine tk 23 41 (h := ?_)
            refine tk 24 42 (h := ?_)
            refine sk 25 43 (h := ?_)
            refine sk 26 44 (h := ?_)
            refine sk 27 45 (h := ?_)
            refine tk 28 46 (h := ?_)
            refine tk 29 47 (h := ?_)
            refine sk 30 48 (h := ?_)
            refine sk 31 49 (h := ?_)
            refine sk 32 50 (h := ?_)
            refine sk 33 51 (h := ?_)
            refine tk 34 52 (h := ?_)
            refine tk 35 53 (h := ?_)
            refine sk 36 54 (h := ?_)
            refine sk 37 55 (h := ?_)
            refine sk 38 56 (h := ?_)
            refine sk 39 57 (h := ?_)
            refine tk 40 58 (h := ?_)
            refine tk 41 59 (h := ?_)
            refine sk 42 60 (h := ?_)
            refine sk 43 61 (h := ?_)
            refine sk 44 62 (h := ?_)
            refine sk 45 63 (h := ?_)
            refine tk 46 64 (h := ?_)
            refine wpAnyH_done (by kernel_rfl) ?_ _
            go_wp2
            go_ret
            refine ⟨?_, HX.out.2.1.drew⟩
            rw [HX.out.2.2.1 (by rw [HX.out.1]; simp only [Rc.rowOk, Rc.node]; simp only [decide_eq_true_eq, decide_eq_false_iff_not] at h3; first | (simp [*]; done) | (simp [*]; omega))]
            rfl
          | false =>
            refine tk 22 40 (h := ?_)
            refine tk 23 41 (h := ?_)
            refine tk 24 42 (h := ?_)
            refine tk 25 43 (h := ?_)
            refine tk 26 44 (h := ?_)
            cases h4 : decide (4 < x.r.st) with
            | true =>
              refine tk 27 45 (h := ?_)
              refine tk 28 46 (h := ?_)
              refine tk 29 47 (h := ?_)
              refine sk 30 48 (h := ?_)
              refine sk 31 49 (h := ?_)
              refine sk 32 50 (h := ?_)
              refine sk 33 51 (h := ?_)
              refine tk 34 52 (h := ?_)
              refine tk 35 53 (h := ?_)
              refine sk 36 54 (h := ?_)
              refine sk 37 55 (h := ?_)
              refine sk 38 56 (h := ?_)
              refine sk 39 57 (h := ?_)
              refine tk 40 58 (h := ?_)
              refine tk 41 59 (h := ?_)
              refine sk 42 60 (h := ?_)
              refine sk 43 61 (h := ?_)
              refine sk 44 62 (h := ?_)
              refine sk 45 63 (h := ?_)
              refine tk 46 64 (h := ?_)
              refine wpAnyH_done (by kernel_rfl) ?_ _
              go_wp2
              go_ret
              refine ⟨?_, HX.out.2.1.drew⟩
              rw [HX.out.2.2.1 (by rw [HX.out.1]; simp only [Rc.rowOk, Rc.node]; simp only [decide_eq_true_eq, decide_eq_false_iff_not] at h3 h4; first | (simp [*]; done) | (simp [*]; omega))]
              rfl
            | false =>
              refine tk 27 45 (h := ?_)
              refine tk 28 46 (h := ?_)
              refine tk 29 47 (h := ?_)
              refine tk 30 48 (h := ?_)
              refine tk 31 49 (h := ?_)
              cases h5 : Rc.seq x.r.fi 0 with
              | true =>
                refine wpAnyH_ready (rs := [32]) (by kernel_rfl) (by simp) ?_
                refine AllReadyH.cons rfl (fun K hK => ?_) AllReadyH.nil
                go_simp
                refine (fseq_any x.r.fi 0 _).mono ?_
                rintro e w8 ⟨rfl, rfl⟩
                rw [h5]
                refine hK.out _ _ hHeld (fun hHeld => ?_)
                clear hK K
                try simp only [Act.put, List.setIfInBounds_toArray, List.set_cons_zero, List.set_cons_succ]
                refine tk 33 51 (h := ?_)
                refine tk 34 52 (h := ?_)
                refine tk 35 53 (h := ?_)
                refine tk 36 54 (h := ?_)
                refine tk 37 55 (h := ?_)
                cases h6 : Rc.seq x.r.la 0 with
                | true =>
                  refine wpAnyH_ready (rs := [38]) (by kernel_rfl) (by simp) ?_
                  refine AllReadyH.cons rfl (fun K hK => ?_) AllReadyH.nil
                  go_simp
                  refine (fseq_any x.r.la 0 _).mono ?_
                  rintro e w8 ⟨rfl, rfl⟩
                  rw [h6]
                  refine hK.out _ _ hHeld (fun hHeld => ?_)
                  clear hK K
                  try simp only [Act.put, List.setIfInBounds_toArray, List.set_cons_zero, List.set_cons_succ]
                  refine tk 39 57 (h := ?_)
                  refine tk 40 58 (h := ?_)
                  refine tk 41 59 (h := ?_)
                  refine tk 42 60 (h := ?_)
                  refine tk 43 61 (h := ?_)
                  cases h7 : Rc.seq x.r.un 0 with
                  | true =>
                    refine wpAnyH_ready (rs := [44]) (by kernel_rfl) (by simp) ?_
                    refine AllReadyH.cons rfl (fun K hK => ?_) AllReadyH.nil
                    go_simp
                    refine (fseq_any x.r.un 0 _).mono ?_
                    rintro e w8 ⟨rfl, rfl⟩
                    rw [h7]
                    refine hK.out _ _ hHeld (fun hHeld => ?_)
                    clear hK K
                    try simp only [Act.put, List.setIfInBounds_toArray, List.set_cons_zero, List.set_cons_succ]
                    refine tk 45 63 (h := ?_)
                    refine tk 46 64 (h := ?_)
                    refine wpAnyH_done (by kernel_rfl) ?_ _
                    cases h8 : decide (x.r.co < 0) with
                    | true =>
                      go_wp2
                      go_ret
                      refine ⟨?_, HX.out.2.1.drew⟩
                      rw [HX.out.2.2.1 (by rw [HX.out.1]; simp only [Rc.rowOk, Rc.node]; simp only [decide_eq_true_eq, decide_eq_false_iff_not] at h3 h4 h8; first | (simp [*]; done) | (simp [*]; omega))]
                      rfl
                    | false =>
                      cases h9 : decide (7 < x.r.co) with
                      | true =>
                        go_wp2
                        go_ret
                        refine ⟨?_, HX.out.2.1.drew⟩
                        rw [HX.out.2.2.1 (by rw [HX.out.1]; simp only [Rc.rowOk, Rc.node]; simp only [decide_eq_true_eq, decide_eq_false_iff_not] at h3 h4 h8 h9; first | (simp [*]; done) | (simp [*]; omega))]
                        rfl
                      | false =>
                        go_wp2_with fail
                        refine (fmembers_any x.mA nm x.mc x.r.mem _ (HM.out.1.below (Below.refl _ _).drew) HM.out.2.1).mono ?_
                        cases h10 : Rc.members x.r.mem with
                        | false =>
                          rintro e w6 ⟨rfl, hb6⟩
                          have HW6 := Lib.hid (HX.out.2.1.drew.trans (hb6.mono HX.out.2.1.drew.size))
                          clear hb6
                          go_wp2
                          go_ret
                          refine ⟨?_, HW6.out⟩
                          rw [HX.out.2.2.1 (by rw [HX.out.1]; simp only [Rc.rowOk, Rc.node]; simp only [decide_eq_true_eq, decide_eq_false_iff_not] at h3 h4 h8 h9; first | (simp [*]; done) | (simp [*]; omega))]
                          rfl
                        | true =>
                          rintro e w6 ⟨rfl, hb6⟩
                          have HW6 := Lib.hid (HX.out.2.1.drew.trans (hb6.mono HX.out.2.1.drew.size))
                          have z7 := cell_below hb6 (show w5.drew.cell? ⟨G, 7, none⟩ = some (.slice x.lA nl x.lc) from g7)
                          have HL6 := Lib.hid ((HM.out.2.2.1.below (Below.refl _ _).drew).below hb6)
                          clear hb6 g7
                          go_wp2_with fail
                          refine (flocks_any x.lA nl x.lc x.r.locks _ HL6.out HM.out.2.2.2).mono ?_
                          cases h12 : Rc.locks x.r.locks with
                          | false =>
                            rintro e w7 ⟨rfl, hb7⟩
                            have HW7 := Lib.hid (HW6.out.trans (hb7.mono HW6.out.size))
                            clear hb7
                            go_wp2
                            go_ret
                            refine ⟨?_, HW7.out⟩
                            rw [HX.out.2.2.1 (by rw [HX.out.1]; simp only [Rc.rowOk, Rc.node]; simp only [decide_eq_true_eq, decide_eq_false_iff_not] at h3 h4 h8 h9; first | (simp [*]; done) | (simp [*]; omega))]
                            rfl
                          | true =>
                            rintro e w7 ⟨rfl, hb7⟩
                            have HW7 := Lib.hid (HW6.out.trans (hb7.mono HW6.out.size))
                            clear hb7
                            go_wp2
                            go_roundg (n - 1)
                            case rel => exact ⟨1, by omega, by omega, rfl, rfl, HX.out.2.2.2.1 (by rw [HX.out.1]; simp only [Rc.rowOk, Rc.node]; simp only [decide_eq_true_eq, decide_eq_false_iff_not] at h3 h4 h8 h9; first | (simp [*]; done) | (simp [*]; omega)), HW7.out⟩
                            case measure => omega
                  | false =>
                    refine wpAnyH_ready (rs := [44]) (by kernel_rfl) (by simp) ?_
                    refine AllReadyH.cons rfl (fun K hK => ?_) AllReadyH.nil
                    go_simp
                    refine (fseq_any x.r.un 0 _).mono ?_
                    rintro e w8 ⟨rfl, rfl⟩
                    rw [h7]
                    refine hK.out _ _ hHeld (fun hHeld => ?_)
                    clear hK K
                    try simp only [Act.put, List.setIfInBounds_toArray, List.set_cons_zero, List.set_cons_succ]
                    refine tk 45 63 (h := ?_)
                    refine tk 46 64 (h := ?_)
                    refine wpAnyH_done (by kernel_rfl) ?_ _
                    go_wp2
                    go_ret
                    refine ⟨?_, HX.out.2.1.drew⟩
                    rw [HX.out.2.2.1 (by rw [HX.out.1]; simp only [Rc.rowOk, Rc.node]; simp only [decide_eq_true_eq, decide_eq_false_iff_not] at h3 h4; first | (simp [*]; done) | (simp [*]; omega))]
                    rfl
                | false =>
                  refine wpAnyH_ready (rs := [38]) (by kernel_rfl) (by simp) ?_
                  refine AllReadyH.cons rfl (fun K hK => ?_) AllReadyH.nil
                  go_simp
                  refine (fseq_any x.r.la 0 _).mono ?_
                  rintro e w8 ⟨rfl, rfl⟩
                  rw [h6]
                  refine hK.out _ _ hHeld (fun hHeld => ?_)
                  clear hK K
                  try simp only [Act.put, List.setIfInBounds_toArray, List.set_cons_zero, List.set_cons_succ]
                  refine tk 39 57 (h := ?_)
                  refine tk 40 58 (h := ?_)
                  refine tk 41 59 (h := ?_)
                  refine sk 42 60 (h := ?_)
                  refine sk 43 61 (h := ?_)
                  refine sk 44 62 (h := ?_)
                  refine sk 45 63 (h := ?_)
                  refine tk 46 64 (h := ?_)
                  refine wpAnyH_done (by kernel_rfl) ?_ _
                  go_wp2
                  go_ret
                  refine ⟨?_, HX.out.2.1.drew⟩
                  rw [HX.out.2.2.1 (by rw [HX.out.1]; simp only [Rc.rowOk, Rc.node]; simp only [decide_eq_true_eq, decide_eq_false_iff_not] at h3 h4; first | (simp [*]; done) | (simp [*]; omega))]
                  rfl
              | false =>
                refine wpAnyH_ready (rs := [32]) (by kernel_rfl) (by simp) ?_
                refine AllReadyH.cons rfl (fun K hK => ?_) AllReadyH.nil
                go_simp
                refine (fseq_any x.r.fi 0 _).mono ?_
                rintro e w8 ⟨rfl, rfl⟩
                rw [h5]
                refine hK.out _ _ hHeld (fun hHeld => ?_)
                clear hK K
                try simp only [Act.put, List.setIfInBounds_toArray, List.set_cons_zero, List.set_cons_succ]
                refine tk 33 51 (h := ?_)
                refine tk 34 52 (h := ?_)
                refine tk 35 53 (h := ?_)
                refine sk 36 54 (h := ?_)
                refine sk 37 55 (h := ?_)
                refine sk 38 56 (h := ?_)
                refine sk 39 57 (h := ?_)
                refine tk 40 58 (h := ?_)
                refine tk 41 59 (h := ?_)
                refine sk 42 60 (h := ?_)
                refine sk 43 61 (h := ?_)
                refine sk 44 62 (h := ?_)
                refine sk 45 63 (h := ?_)
                refine tk 46 64 (h := ?_)
                refine wpAnyH_done (by kernel_rfl) ?_ _
                go_wp2
                go_ret
                refine ⟨?_, HX.out.2.1.drew⟩
                rw [HX.out.2.2.1 (by rw [HX.out.1]; simp only [Rc.rowOk, Rc.node]; simp only [decide_eq_true_eq, decide_eq_false_iff_not] at h3 h4; first | (simp [*]; done) | (simp [*]; omega))]
                rfl
        | false =>
          refine wpAnyH_ready (rs := [2]) (by kernel_rfl) (by simp) ?_
          refine AllReadyH.cons rfl (fun K hK => ?_) AllReadyH.nil
          go_simp
          refine (fseq_any x.r.tx 1 _).mono ?_
          rintro e w8 ⟨rfl, rfl⟩
          rw [h1]
          refine hK.out _ _ hHeld (fun hHeld => ?_)
          clear hK K
          try simp only [Act.put, List.setIfInBounds_toArray, List.set_cons_zero, List.set_cons_succ]
          refine tk 3 21 (h := ?_)
          refine tk 4 22 (h := ?_)
          refine sk 5 23 (h := ?_)
          refine sk 6 24 (h := ?_)
          refine sk 7 25 (h := ?_)
          refine sk 8 26 (h := ?_)
          refine sk 9 27 (h := ?_)
          refine sk 10 28 (h := ?_)
          refine sk 11 29 (h := ?_)
          refine sk 12 30 (h := ?_)
          refine sk 13 31 (h := ?_)
          refine sk 14 32 (h := ?_)
          refine sk 15 33 (h := ?_)
          refine sk 16 34 (h := ?_)
          refine sk 17 35 (h := ?_)
          refine tk 18 36 (h := ?_)
          refine tk 19 37 (h := ?_)
          refine sk 20 38 (h := ?_)
          refine sk 21 39 (h := ?_)
          refine sk 22 40 (h := ?_)
          refine tk 23 41 (h := ?_)
          refine tk 24 42 (h := ?_)
          refine sk 25 43 (h := ?_)
          refine sk 26 44 (h := ?_)
          refine sk 27 45 (h := ?_)
          refine tk 28 46 (h := ?_)
          refine tk 29 47 (h := ?_)
          refine sk 30 48 (h := ?_)
          refine sk 31 49 (h := ?_)
          refine sk 32 50 (h := ?_)
          refine sk 33 51 (h := ?_)
          refine tk 34 52 (h := ?_)
          refine tk 35 53 (h := ?_)
          refine sk 36 54 (h := ?_)
          refine sk 37 55 (h := ?_)
          refine sk 38 56 (h := ?_)
          refine sk 39 57 (h := ?_)
          refine tk 40 58 (h := ?_)
          refine tk 41 59 (h := ?_)
          refine sk 42 60 (h := ?_)
          refine sk 43 61 (h := ?_)
          refine sk 44 62 (h := ?_)
          refine sk 45 63 (h := ?_)
          refine tk 46 64 (h := ?_)
          refine wpAnyH_done (by kernel_rfl) ?_ _
          go_wp2
          go_ret
          refine ⟨?_, HX.out.2.1.drew⟩
          rw [HX.out.2.2.1 (by rw [HX.out.1]; simp only [Rc.rowOk, Rc.node]; first | (simp [*]; done) | (simp [*]; omega))]
          rfl
      · have c1 := cell_below HB5.out (HR.out.2.2.2.2.2.2.2.2.2.2.2 hkp)
        obtain ⟨y, hy⟩ : ∃ y, l.getD (k - 1) RwD.zero = y := ⟨_, rfl⟩
        have hokk : Rc.at_ RwD.zero (fun x => Rc.rowOk x.r) (fun a b => decide (a.r.tx < b.r.tx)) l k = (Rc.rowOk x.r && decide (y.r.tx < x.r.tx)) := by rw [HR.out.2.2.2.2.2.1, hy, decide_eq_false (by omega), Bool.false_or]
        rw [hy] at c1
        obtain ⟨k1, hk1⟩ : ∃ k1, k - 1 = k1 := ⟨_, rfl⟩
        rw [hk1] at c1
        have hkp' : decide ((0 : Int) < (k : Int)) = true := decide_eq_true (by omega)
        have hs0 : IntKind.i64.wrap ((k : Int) - 1) = (k1 : Int) := by have := H.out.2.1; rw [IntKind.wrap_i64]; omega
        have hs1 : (k1 : Int) < (n : Int) := by omega
        have HX := Lib.hid (And.intro hokk (And.intro hw5 (And.intro HR.out.2.1 (And.intro HR.out.2.2.1 (And.intro H.out.2.1 (And.intro hk hlt))))))
        clear hokk hw5 hy hk1
        go_wp2_with fail
        refine wp_region_held_drew (S := (fun W => W.cell? ⟨G, 0, none⟩ = some (.int .i64 x.r.tx) ∧ W.cell? ⟨G, 1, none⟩ = some (.int .i64 x.r.st) ∧ W.cell? ⟨G, 2, none⟩ = some (.int .i64 x.r.fi) ∧ W.cell? ⟨G, 3, none⟩ = some (.int .i64 x.r.la) ∧ W.cell? ⟨G, 4, none⟩ = some (.int .i64 x.r.un) ∧ W.cell? ⟨b, off + k1 * 8, none⟩ = some (.int .i64 y.r.tx))) (by kernel_rfl) ⟨g0, g1, g2, g3, g4, c1⟩ (fun hHeld => ?_)
        refine tk 0 18 (h := ?_)
        refine tk 1 19 (h := ?_)
        cases h1 : Rc.seq x.r.tx 1 with
        | true =>
          refine wpAnyH_ready (rs := [2]) (by kernel_rfl) (by simp) ?_
          refine AllReadyH.cons rfl (fun K hK => ?_) AllReadyH.nil
          go_simp
          refine (fseq_any x.r.tx 1 _).mono ?_
          rintro e w8 ⟨rfl, rfl⟩
          rw [h1]
          refine hK.out _ _ hHeld (fun hHeld => ?_)
          clear hK K
          try simp only [Act.put, List.setIfInBounds_toArray, List.set_cons_zero, List.set_cons_succ]
          refine tk 3 21 (h := ?_)
          refine tk 4 22 (h := ?_)
          refine tk 5 23 (h := ?_)
          refine tk 6 24 (h := ?_)
          refine tk 7 25 (h := ?_)
          refine tk 8 26 (h := ?_)
          refine tk 9 27 (h := ?_)
          refine tk 10 28 (h := ?_)
          refine tk 11 29 (h := ?_)
          refine tk 12 30 (h := ?_)
          refine tk 13 31 (h := ?_)
          refine tk 14 32 (h := ?_)
          refine tk 15 33 (h := ?_)
          cases h2 : decide (x.r.tx ≤ y.r.tx) with
          | true =>
            refine tk 16 34 (h := ?_)
            refine tk 17 35 (h := ?_)
            refine tk 18 36 (h := ?_)
            refine tk 19 37 (h := ?_)
            refine sk 20 38 (h := ?_)
            refine sk 21 39 (h := ?_)
            refine sk 22 40 (h := ?_)
            refine tk 23 41 (h := ?_)
            refine tk 24 42 (h := ?_)
            refine sk 25 43 (h := ?_)
            refine sk 26 44 (h := ?_)
            refine sk 27 45 (h := ?_)
            refine tk 28 46 (h := ?_)
            refine tk 29 47 (h := ?_)
            refine sk 30 48 (h := ?_)
            refine sk 31 49 (h := ?_)
            refine sk 32 50 (h := ?_)
            refine sk 33 51 (h := ?_)
            refine tk 34 52 (h := ?_)
            refine tk 35 53 (h := ?_)
            refine sk 36 54 (h := ?_)
            refine sk 37 55 (h := ?_)
            refine sk 38 56 (h := ?_)
            refine sk 39 57 (h := ?_)
            refine tk 40 58 (h := ?_)
            refine tk 41 59 (h := ?_)
            refine sk 42 60 (h := ?_)
            refine sk 43 61 (h := ?_)
            refine sk 44 62 (h := ?_)
            refine sk 45 63 (h := ?_)
            refine tk 46 64 (h := ?_)
            refine wpAnyH_done (by kernel_rfl) ?_ _
            go_wp2
            go_ret
            refine ⟨?_, HX.out.2.1.drew⟩
            rw [HX.out.2.2.1 (by rw [HX.out.1]; simp only [Rc.rowOk, Rc.node]; simp only [decide_eq_true_eq, decide_eq_false_iff_not] at h2; first | (simp [*]; done) | (simp [*]; omega))]
            rfl
          | false =>
            refine tk 16 34 (h := ?_)
            refine tk 17 35 (h := ?_)
            refine tk 18 36 (h := ?_)
            refine tk 19 37 (h := ?_)
            refine tk 20 38 (h := ?_)
            refine tk 21 39 (h := ?_)
            cases h3 : decide (x.r.st < 1) with
            | true =>
              refine tk 22 40 (h := ?_)
              refine tk 23 41 (h := ?_)
              refine tk 24 42 (h := ?_)
              refine sk 25 43 (h := ?_)
              refine sk 26 44 (h := ?_)
              refine sk 27 45 (h := ?_)
              refine tk 28 46 (h := ?_)
              refine tk 29 47 (h := ?_)
              refine sk 30 48 (h := ?_)
              refine sk 31 49 (h := ?_)
              refine sk 32 50 (h := ?_)
              refine sk 33 51 (h := ?_)
              refine tk 34 52 (h := ?_)
              refine tk 35 53 (h := ?_)
              refine sk 36 54 (h := ?_)
              refine sk 37 55 (h := ?_)
              refine sk 38 56 (h := ?_)
              refine sk 39 57 (h := ?_)
              refine tk 40 58 (h := ?_)
              refine tk 41 59 (h := ?_)
              refine sk 42 60 (h := ?_)
              refine sk 43 61 (h := ?_)
              refine sk 44 62 (h := ?_)
              refine sk 45 63 (h := ?_)
              refine tk 46 64 (h := ?_)
              refine wpAnyH_done (by kernel_rfl) ?_ _
              go_wp2
              go_ret
              refine ⟨?_, HX.out.2.1.drew⟩
              rw [HX.out.2.2.1 (by rw [HX.out.1]; simp only [Rc.rowOk, Rc.node]; simp only [decide_eq_true_eq, decide_eq_false_iff_not] at h2 h3; first | (simp [*]; done) | (simp [*]; omega))]
              rfl
            | false =>
              refine tk 22 40 (h := ?_)
              refine tk 23 41 (h := ?_)
              refine tk 24 42 (h := ?_)
              refine tk 25 43 (h := ?_)
              refine tk 26 44 (h := ?_)
              cases h4 : decide (4 < x.r.st) with
              | true =>
                refine tk 27 45 (h := ?_)
                refine tk 28 46 (h := ?_)
                refine tk 29 47 (h := ?_)
                refine sk 30 48 (h := ?_)
                refine sk 31 49 (h := ?_)
                refine sk 32 50 (h := ?_)
                refine sk 33 51 (h := ?_)
                refine tk 34 52 (h := ?_)
                refine tk 35 53 (h := ?_)
                refine sk 36 54 (h := ?_)
                refine sk 37 55 (h := ?_)
                refine sk 38 56 (h := ?_)
                refine sk 39 57 (h := ?_)
                refine tk 40 58 (h := ?_)
                refine tk 41 59 (h := ?_)
                refine sk 42 60 (h := ?_)
                refine sk 43 61 (h := ?_)
                refine sk 44 62 (h := ?_)
                refine sk 45 63 (h := ?_)
                refine tk 46 64 (h := ?_)
                refine wpAnyH_done (by kernel_rfl) ?_ _
                go_wp2
                go_ret
                refine ⟨?_, HX.out.2.1.drew⟩
                rw [HX.out.2.2.1 (by rw [HX.out.1]; simp only [Rc.rowOk, Rc.node]; simp only [decide_eq_true_eq, decide_eq_false_iff_not] at h2 h3 h4; first | (simp [*]; done) | (simp [*]; omega))]
                rfl
              | false =>
                refine tk 27 45 (h := ?_)
                refine tk 28 46 (h := ?_)
                refine tk 29 47 (h := ?_)
                refine tk 30 48 (h := ?_)
                refine tk 31 49 (h := ?_)
                cases h5 : Rc.seq x.r.fi 0 with
                | true =>
                  refine wpAnyH_ready (rs := [32]) (by kernel_rfl) (by simp) ?_
                  refine AllReadyH.cons rfl (fun K hK => ?_) AllReadyH.nil
                  go_simp
                  refine (fseq_any x.r.fi 0 _).mono ?_
                  rintro e w8 ⟨rfl, rfl⟩
                  rw [h5]
                  refine hK.out _ _ hHeld (fun hHeld => ?_)
                  clear hK K
                  try simp only [Act.put, List.setIfInBounds_toArray, List.set_cons_zero, List.set_cons_succ]
                  refine tk 33 51 (h := ?_)
                  refine tk 34 52 (h := ?_)
                  refine tk 35 53 (h := ?_)
                  refine tk 36 54 (h := ?_)
                  refine tk 37 55 (h := ?_)
                  cases h6 : Rc.seq x.r.la 0 with
                  | true =>
                    refine wpAnyH_ready (rs := [38]) (by kernel_rfl) (by simp) ?_
                    refine AllReadyH.cons rfl (fun K hK => ?_) AllReadyH.nil
                    go_simp
                    refine (fseq_any x.r.la 0 _).mono ?_
                    rintro e w8 ⟨rfl, rfl⟩
                    rw [h6]
                    refine hK.out _ _ hHeld (fun hHeld => ?_)
                    clear hK K
                    try simp only [Act.put, List.setIfInBounds_toArray, List.set_cons_zero, List.set_cons_succ]
                    refine tk 39 57 (h := ?_)
                    refine tk 40 58 (h := ?_)
                    refine tk 41 59 (h := ?_)
                    refine tk 42 60 (h := ?_)
                    refine tk 43 61 (h := ?_)
                    cases h7 : Rc.seq x.r.un 0 with
                    | true =>
                      refine wpAnyH_ready (rs := [44]) (by kernel_rfl) (by simp) ?_
                      refine AllReadyH.cons rfl (fun K hK => ?_) AllReadyH.nil
                      go_simp
                      refine (fseq_any x.r.un 0 _).mono ?_
                      rintro e w8 ⟨rfl, rfl⟩
                      rw [h7]
                      refine hK.out _ _ hHeld (fun hHeld => ?_)
                      clear hK K
                      try simp only [Act.put, List.setIfInBounds_toArray, List.set_cons_zero, List.set_cons_succ]
                      refine tk 45 63 (h := ?_)
                      refine tk 46 64 (h := ?_)
                      refine wpAnyH_done (by kernel_rfl) ?_ _
                      cases h8 : decide (x.r.co < 0) with
                      | true =>
                        go_wp2
                        go_ret
                        refine ⟨?_, HX.out.2.1.drew⟩
                        rw [HX.out.2.2.1 (by rw [HX.out.1]; simp only [Rc.rowOk, Rc.node]; simp only [decide_eq_true_eq, decide_eq_false_iff_not] at h3 h4 h2 h8; first | (simp [*]; done) | (simp [*]; omega))]
                        rfl
                      | false =>
                        cases h9 : decide (7 < x.r.co) with
                        | true =>
                          go_wp2
                          go_ret
                          refine ⟨?_, HX.out.2.1.drew⟩
                          rw [HX.out.2.2.1 (by rw [HX.out.1]; simp only [Rc.rowOk, Rc.node]; simp only [decide_eq_true_eq, decide_eq_false_iff_not] at h3 h4 h2 h8 h9; first | (simp [*]; done) | (simp [*]; omega))]
                          rfl
                        | false =>
                          go_wp2_with fail
                          refine (fmembers_any x.mA nm x.mc x.r.mem _ (HM.out.1.below (Below.refl _ _).drew) HM.out.2.1).mono ?_
                          cases h10 : Rc.members x.r.mem with
                          | false =>
                            rintro e w6 ⟨rfl, hb6⟩
                            have HW6 := Lib.hid (HX.out.2.1.drew.trans (hb6.mono HX.out.2.1.drew.size))
                            clear hb6
                            go_wp2
                            go_ret
                            refine ⟨?_, HW6.out⟩
                            rw [HX.out.2.2.1 (by rw [HX.out.1]; simp only [Rc.rowOk, Rc.node]; simp only [decide_eq_true_eq, decide_eq_false_iff_not] at h3 h4 h2 h8 h9; first | (simp [*]; done) | (simp [*]; omega))]
                            rfl
                          | true =>
                            rintro e w6 ⟨rfl, hb6⟩
                            have HW6 := Lib.hid (HX.out.2.1.drew.trans (hb6.mono HX.out.2.1.drew.size))
                            have z7 := cell_below hb6 (show w5.drew.cell? ⟨G, 7, none⟩ = some (.slice x.lA nl x.lc) from g7)
                            have HL6 := Lib.hid ((HM.out.2.2.1.below (Below.refl _ _).drew).below hb6)
                            clear hb6 g7
                            go_wp2_with fail
                            refine (flocks_any x.lA nl x.lc x.r.locks _ HL6.out HM.out.2.2.2).mono ?_
                            cases h12 : Rc.locks x.r.locks with
                            | false =>
                              rintro e w7 ⟨rfl, hb7⟩
                              have HW7 := Lib.hid (HW6.out.trans (hb7.mono HW6.out.size))
                              clear hb7
                              go_wp2
                              go_ret
                              refine ⟨?_, HW7.out⟩
                              rw [HX.out.2.2.1 (by rw [HX.out.1]; simp only [Rc.rowOk, Rc.node]; simp only [decide_eq_true_eq, decide_eq_false_iff_not] at h3 h4 h2 h8 h9; first | (simp [*]; done) | (simp [*]; omega))]
                              rfl
                            | true =>
                              rintro e w7 ⟨rfl, hb7⟩
                              have HW7 := Lib.hid (HW6.out.trans (hb7.mono HW6.out.size))
                              clear hb7
                              go_wp2
                              go_roundg (n - (k + 1))
                              case rel => exact ⟨k + 1, by omega, by omega, rfl, congrArg (Value.int .i64) (by have := HX.out.2.2.2.2.1; have := HX.out.2.2.2.2.2.1; unfold wrap64; omega), HX.out.2.2.2.1 (by rw [HX.out.1]; simp only [Rc.rowOk, Rc.node]; simp only [decide_eq_true_eq, decide_eq_false_iff_not] at h3 h4 h2 h8 h9; first | (simp [*]; done) | (simp [*]; omega)), HW7.out⟩
                              case measure => omega
                    | false =>
                      refine wpAnyH_ready (rs := [44]) (by kernel_rfl) (by simp) ?_
                      refine AllReadyH.cons rfl (fun K hK => ?_) AllReadyH.nil
                      go_simp
                      refine (fseq_any x.r.un 0 _).mono ?_
                      rintro e w8 ⟨rfl, rfl⟩
                      rw [h7]
                      refine hK.out _ _ hHeld (fun hHeld => ?_)
                      clear hK K
                      try simp only [Act.put, List.setIfInBounds_toArray, List.set_cons_zero, List.set_cons_succ]
                      refine tk 45 63 (h := ?_)
                      refine tk 46 64 (h := ?_)
                      refine wpAnyH_done (by kernel_rfl) ?_ _
                      go_wp2
                      go_ret
                      refine ⟨?_, HX.out.2.1.drew⟩
                      rw [HX.out.2.2.1 (by rw [HX.out.1]; simp only [Rc.rowOk, Rc.node]; simp only [decide_eq_true_eq, decide_eq_false_iff_not] at h2 h3 h4; first | (simp [*]; done) | (simp [*]; omega))]
                      rfl
                  | false =>
                    refine wpAnyH_ready (rs := [38]) (by kernel_rfl) (by simp) ?_
                    refine AllReadyH.cons rfl (fun K hK => ?_) AllReadyH.nil
                    go_simp
                    refine (fseq_any x.r.la 0 _).mono ?_
                    rintro e w8 ⟨rfl, rfl⟩
                    rw [h6]
                    refine hK.out _ _ hHeld (fun hHeld => ?_)
                    clear hK K
                    try simp only [Act.put, List.setIfInBounds_toArray, List.set_cons_zero, List.set_cons_succ]
                    refine tk 39 57 (h := ?_)
                    refine tk 40 58 (h := ?_)
                    refine tk 41 59 (h := ?_)
                    refine sk 42 60 (h := ?_)
                    refine sk 43 61 (h := ?_)
                    refine sk 44 62 (h := ?_)
                    refine sk 45 63 (h := ?_)
                    refine tk 46 64 (h := ?_)
                    refine wpAnyH_done (by kernel_rfl) ?_ _
                    go_wp2
                    go_ret
                    refine ⟨?_, HX.out.2.1.drew⟩
                    rw [HX.out.2.2.1 (by rw [HX.out.1]; simp only [Rc.rowOk, Rc.node]; simp only [decide_eq_true_eq, decide_eq_false_iff_not] at h2 h3 h4; first | (simp [*]; done) | (simp [*]; omega))]
                    rfl
                | false =>
                  refine wpAnyH_ready (rs := [32]) (by kernel_rfl) (by simp) ?_
                  refine AllReadyH.cons rfl (fun K hK => ?_) AllReadyH.nil
                  go_simp
                  refine (fseq_any x.r.fi 0 _).mono ?_
                  rintro e w8 ⟨rfl, rfl⟩
                  rw [h5]
                  refine hK.out _ _ hHeld (fun hHeld => ?_)
                  clear hK K
                  try simp only [Act.put, List.setIfInBounds_toArray, List.set_cons_zero, List.set_cons_succ]
                  refine tk 33 51 (h := ?_)
                  refine tk 34 52 (h := ?_)
                  refine tk 35 53 (h := ?_)
                  refine sk 36 54 (h := ?_)
                  refine sk 37 55 (h := ?_)
                  refine sk 38 56 (h := ?_)
                  refine sk 39 57 (h := ?_)
                  refine tk 40 58 (h := ?_)
                  refine tk 41 59 (h := ?_)
                  refine sk 42 60 (h := ?_)
                  refine sk 43 61 (h := ?_)
                  refine sk 44 62 (h := ?_)
                  refine sk 45 63 (h := ?_)
                  refine tk 46 64 (h := ?_)
                  refine wpAnyH_done (by kernel_rfl) ?_ _
                  go_wp2
                  go_ret
                  refine ⟨?_, HX.out.2.1.drew⟩
                  rw [HX.out.2.2.1 (by rw [HX.out.1]; simp only [Rc.rowOk, Rc.node]; simp only [decide_eq_true_eq, decide_eq_false_iff_not] at h2 h3 h4; first | (simp [*]; done) | (simp [*]; omega))]
                  rfl
        | false =>
          refine wpAnyH_ready (rs := [2]) (by kernel_rfl) (by simp) ?_
          refine AllReadyH.cons rfl (fun K hK => ?_) AllReadyH.nil
          go_simp
          refine (fseq_any x.r.tx 1 _).mono ?_
          rintro e w8 ⟨rfl, rfl⟩
          rw [h1]
          refine hK.out _ _ hHeld (fun hHeld => ?_)
          clear hK K
          try simp only [Act.put, List.setIfInBounds_toArray, List.set_cons_zero, List.set_cons_succ]
          refine tk 3 21 (h := ?_)
          refine tk 4 22 (h := ?_)
          refine sk 5 23 (h := ?_)
          refine sk 6 24 (h := ?_)
          refine sk 7 25 (h := ?_)
          refine sk 8 26 (h := ?_)
          refine sk 9 27 (h := ?_)
          refine sk 10 28 (h := ?_)
          refine sk 11 29 (h := ?_)
          refine sk 12 30 (h := ?_)
          refine sk 13 31 (h := ?_)
          refine sk 14 32 (h := ?_)
          refine sk 15 33 (h := ?_)
          refine sk 16 34 (h := ?_)
          refine sk 17 35 (h := ?_)
          refine tk 18 36 (h := ?_)
          refine tk 19 37 (h := ?_)
          refine sk 20 38 (h := ?_)
          refine sk 21 39 (h := ?_)
          refine sk 22 40 (h := ?_)
          refine tk 23 41 (h := ?_)
          refine tk 24 42 (h := ?_)
          refine sk 25 43 (h := ?_)
          refine sk 26 44 (h := ?_)
          refine sk 27 45 (h := ?_)
          refine tk 28 46 (h := ?_)
          refine tk 29 47 (h := ?_)
          refine sk 30 48 (h := ?_)
          refine sk 31 49 (h := ?_)
          refine sk 32 50 (h := ?_)
          refine sk 33 51 (h := ?_)
          refine tk 34 52 (h := ?_)
          refine tk 35 53 (h := ?_)
          refine sk 36 54 (h := ?_)
          refine sk 37 55 (h := ?_)
          refine sk 38 56 (h := ?_)
          refine sk 39 57 (h := ?_)
          refine tk 40 58 (h := ?_)
          refine tk 41 59 (h := ?_)
          refine sk 42 60 (h := ?_)
          refine sk 43 61 (h := ?_)
          refine sk 44 62 (h := ?_)
          refine sk 45 63 (h := ?_)
          refine tk 46 64 (h := ?_)
          refine wpAnyH_done (by kernel_rfl) ?_ _
          go_wp2
          go_ret
          refine ⟨?_, HX.out.2.1.drew⟩
          rw [HX.out.2.2.1 (by rw [HX.out.1]; simp only [Rc.rowOk, Rc.node]; first | (simp [*]; done) | (simp [*]; omega))]
          rfl
    · obtain rfl : k = n := by omega
      have HF := Lib.hid (And.intro (Rc.ups_true (fun j h => hj j (by rw [H.out.2.2.1] at h; exact h))) hst)
      clear hj hst
      go_wp2
      go_ret
      exact ⟨by rw [HF.out.1]; rfl, HF.out.2⟩
end Go.Proofs.Ytlijfnekopjogaa
