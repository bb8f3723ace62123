/- The document's messages: which may be, their bytes, whether two are alike. -/
import Derived.Test.YtlpdjpkdgagjpaaDoorMsgEnc
import Derived.Test.YtlpdjpkdgagjpaaDoorSealRefs
import Derived.Test.YtlpdjpkdgagjpaaDoorAppInts
import Derived.BigQuiet
import Derived.Deep.QuietTactic
namespace Go.Proofs.YtlpdjpkdgagjpaaDoor
open Go.RowKit Mem
set_option maxRecDepth 100000
set_option linter.unusedVariables false
set_option linter.unusedSimpArgs false
attribute [local go_sem ↓] Go.wp_at_zero Go.wp_at_succ

theorem below_drN {B : Nat} {w w' : World} (h : Below B w w') (n : Nat) : Below B w (w'.drewN n) := ⟨h.os, h.tape, h.output, h.size, h.block⟩
set_option maxHeartbeats 4000000 in
theorem refMembers_any (A : Option Addr) (n c : Nat) (l : List Int) (w : World) (hl : IS w A n l) (hn : n ≤ 1000000) (hc : c ≤ 9223372036854775807) :
    Calls Tryd.prog 54 #[.slice A n c] w fun e w' => e = .returned (.bool (Rc.up l)) ∧ Below w.heap.size w w' := by
  have H := Lib.hid (And.intro hl hl.1)
  clear hl
  go_enter Tryd.func54, Tryd.ntmps54
  go_wp2
  go_loopg [3] n (fun gk s wr => ∃ k : Nat, k ≤ n ∧ gk = n - k ∧ s = .int .i64 k ∧ (∀ j, j < k → Rc.okAt l j = true) ∧ Below w.heap.size w wr)
  case atStart => exact ⟨0, by omega, by omega, rfl, fun j hj => absurd hj (by omega), Below.refl _ _⟩
  case round =>
    obtain ⟨k, hk, rfl, rfl, hj, hb⟩ := hrel
    by_cases hlt : k < n
    · obtain ⟨b, off, rfl, c0⟩ := is_at (H.out.1.below hb) hlt
      have hkn : (k : Int) < (n : Int) := by omega
      have HB := Lib.hid hb
      clear hb
      by_cases hx0 : l.getD k 0 < 0
      · have d0 : decide (l.getD k 0 < 0) = true := by simpa using hx0
        have hf : Rc.okAt l k = false := by unfold Rc.okAt Rc.node; rw [decide_eq_false (by omega : ¬ 0 ≤ l.getD k 0)]; rfl
        clear hx0
        have HF := Lib.hid (Rc.up_false (by rw [H.out.2]; exact hlt) hf)
        clear hf hj
        generalize l.getD k 0 = x at *
        go_wp2
        go_quiet (fail)
        go_wp2_with fail
        go_ret
        exact ⟨by rw [HF.out]; rfl, below_drN HB.out nq⟩
      · have d0 : decide (l.getD k 0 < 0) = false := by simpa using hx0
        by_cases hx7 : 7 < l.getD k 0
        · have d7 : decide (7 < l.getD k 0) = true := by simpa using hx7
          have hf : Rc.okAt l k = false := by unfold Rc.okAt Rc.node; rw [decide_eq_false (by omega : ¬ l.getD k 0 < 8), Bool.and_false]; rfl
          clear hx0 hx7
          have HF := Lib.hid (Rc.up_false (by rw [H.out.2]; exact hlt) hf)
          clear hf hj
          generalize l.getD k 0 = x at *
          go_wp2
          go_quiet (fail)
          go_wp2_with fail
          go_ret
          exact ⟨by rw [HF.out]; rfl, below_drN HB.out nq⟩
        · have d7 : decide (7 < l.getD k 0) = false := by simpa using hx7
          have hnd : Rc.node (l.getD k 0) = true := by unfold Rc.node; rw [decide_eq_true (by omega : 0 ≤ l.getD k 0), decide_eq_true (by omega : l.getD k 0 < 8)]; rfl
          clear hx0 hx7
          rcases Nat.eq_zero_or_pos k with rfl | hkp
          · have hf : Rc.okAt l 0 = true := by unfold Rc.okAt; rw [hnd]; rfl
            clear hnd
            rw [Nat.add_zero] at c0
            have HF := Lib.hid (show ∀ j, j < 1 → Rc.okAt l j = true from fun j hjk => by obtain rfl : j = 0 := by omega
                                                                                          exact hf)
            clear hf hj
            generalize l.getD 0 0 = x at *
            go_wp2
            go_quiet (fail)
            go_wp2_with fail
            go_roundg (n - 1)
            case measure => omega
            case rel => exact ⟨1, by omega, rfl, rfl, HF.out, below_drN HB.out nq⟩
          · obtain ⟨b', off', e', c1⟩ := is_at (H.out.1.below HB.out) (k := k - 1) (by omega)
            injection e' with e'
            injection e' with e1 e2
            subst e1
            subst e2
            have hkp' : 0 < k := hkp
            have hs0 : IntKind.i64.wrap ((k : Int) - 1) = ((k - 1 : Nat) : Int) := by rw [IntKind.wrap_i64]; omega
            have hs1 : ((k - 1 : Nat) : Int) < (n : Int) := by omega
            by_cases hyx : l.getD k 0 ≤ l.getD (k - 1) 0
            · have dy : decide (l.getD k 0 ≤ l.getD (k - 1) 0) = true := by simpa using hyx
              have hf : Rc.okAt l k = false := by
                unfold Rc.okAt; rw [hnd, decide_eq_false (by omega : ¬ k = 0), decide_eq_false (by omega : ¬ l.getD (k - 1) 0 < l.getD k 0)]; rfl
              clear hnd hyx
              generalize l.getD (k - 1) 0 = y at *
              generalize k - 1 = kp at *
              have HF := Lib.hid (Rc.up_false (by rw [H.out.2]; exact hlt) hf)
              clear hf hj
              generalize l.getD k 0 = x at *
              go_wp2
              go_quiet (fail)
              go_wp2_with fail
              go_ret
              exact ⟨by rw [HF.out]; rfl, below_drN HB.out nq⟩
            · have dy : decide (l.getD k 0 ≤ l.getD (k - 1) 0) = false := by simpa using hyx
              have hf : Rc.okAt l k = true := by
                unfold Rc.okAt; rw [hnd, decide_eq_true (by omega : l.getD (k - 1) 0 < l.getD k 0), Bool.or_true]; rfl
              clear hnd hyx
              generalize l.getD (k - 1) 0 = y at *
              generalize k - 1 = kp at *
              have HF := Lib.hid (show ∀ j, j < k + 1 → Rc.okAt l j = true from fun j hjk => by
                rcases Nat.lt_or_ge j k with h1 | h1
                · exact hj j h1
                · obtain rfl : j = k := by omega
                  exact hf)
              clear hf hj
              generalize l.getD k 0 = x at *
              go_wp2
              go_quiet (fail)
              go_wp2_with fail
              go_roundg (n - (k + 1))
              case measure => omega
              case rel => exact ⟨k + 1, by omega, rfl, by go_num, HF.out, below_drN HB.out nq⟩
    · obtain rfl : k = n := by omega
      have HF := Lib.hid (And.intro (Rc.up_true (fun j h => hj j (by rw [H.out.2] at h; exact h))) hb)
      clear hj hb
      go_wp2_with fail
      go_ret
      exact ⟨by rw [HF.out.1]; rfl, HF.out.2⟩
theorem Mg.may_ref (m : Mg.M) : Mg.may m = (decide (1 ≤ m.kind) && decide (m.kind ≤ 10) && Rc.node m.from_ && Rc.node m.to && decide (1 ≤ m.tx) && decide (m.tx ≤ 1099511627776) && Rc.up m.mem && !Mg.spareB m) := by
  unfold Mg.may Rc.seq
  rw [Rc.members_up]
  generalize decide (1 ≤ m.kind) = a
  generalize decide (m.kind ≤ 10) = b
  generalize Rc.node m.from_ = c
  generalize Rc.node m.to = d
  generalize decide (1 ≤ m.tx) = e
  generalize decide (m.tx ≤ 1099511627776) = f
  generalize Rc.up m.mem = g
  generalize Mg.spareB m = h
  cases a <;> cases b <;> cases c <;> cases d <;> cases e <;> cases f <;> cases g <;> cases h <;> rfl
set_option maxHeartbeats 8000000 in
theorem refMay19_any (m : Mg.M) (A : Option Addr) (n c : Nat) (w : World) (hl : IS w A n m.mem) (hn : n ≤ 1000000) (hc : c ≤ 9223372036854775807) :
    Calls Tryd.prog 33 #[mgVal m A n c] w fun e w' => e = .returned (.bool (Mg.may m)) ∧ Below w.heap.size w w' := by
  have hb0 : Below w.heap.size w (w.alloc (.cells (mgCells m A n c) 60)) := (Below.refl _ _).alloc (Nat.le_refl _) _
  have hk0 := Blk.new w 60 (mgCells m A n c)
  have H := Lib.hid (And.intro hb0 (And.intro hk0 (And.intro hl hl.1)))
  have HM := Lib.hid (Mg.may_ref m)
  clear hb0 hk0 hl
  by_cases h1 : 1 ≤ m.kind
  · have d1 : decide (1 ≤ m.kind) = true := by simpa using h1
    by_cases h2 : m.kind ≤ 10
    · have d2 : decide (m.kind ≤ 10) = true := by simpa using h2
      have HD := Lib.hid (And.intro d1 d2)
      clear h1 h2
      go_enter Tryd.func33, Tryd.ntmps33
      go_wp2_with fail
      refine (rnode19_any m.from_ _).mono ?_
      cases hf : Rc.node m.from_ with
      | false =>
        rintro e w1 ⟨rfl, rfl⟩
        have HF := Lib.hid hf
        clear hf
        go_wp2_with fail
        go_ret
        exact ⟨by rw [HM.out, HD.out.1, HD.out.2, HF.out]; rfl, H.out.1⟩
      | true =>
        rintro e w1 ⟨rfl, rfl⟩
        have HF := Lib.hid hf
        clear hf
        go_wp2_with fail
        refine (rnode19_any m.to _).mono ?_
        cases ht : Rc.node m.to with
        | false =>
          rintro e w1 ⟨rfl, rfl⟩
          have HT := Lib.hid ht
          clear ht
          go_wp2_with fail
          go_ret
          exact ⟨by rw [HM.out, HD.out.1, HD.out.2, HF.out, HT.out]; rfl, H.out.1⟩
        | true =>
          rintro e w1 ⟨rfl, rfl⟩
          have HT := Lib.hid ht
          clear ht
          by_cases h3 : 1 ≤ m.tx
          · have d3 : decide (1 ≤ m.tx) = true := by simpa using h3
            by_cases h4 : m.tx ≤ 1099511627776
            · have d4 : decide (m.tx ≤ 1099511627776) = true := by simpa using h4
              have HX := Lib.hid (And.intro d3 d4)
              clear h3 h4
              go_wp2_with fail
              refine (refMembers_any A n c m.mem _ (H.out.2.2.1.below H.out.1) hn hc).mono ?_
              cases hu : Rc.up m.mem with
              | false =>
                rintro e w2 ⟨rfl, hb2⟩
                have H2 := Lib.hid (And.intro hu (H.out.1.trans (hb2.mono H.out.1.size)))
                clear hu hb2
                go_wp2_with fail
                go_ret
                exact ⟨by rw [HM.out, HD.out.1, HD.out.2, HF.out, HT.out, HX.out.1, HX.out.2, H2.out.1]; rfl, H2.out.2⟩
              | true =>
                rintro e w2 ⟨rfl, hb2⟩
                obtain ⟨c0, _, _, _, c4⟩ := mg_cells (H.out.2.1.below hb2 (by simp))
                have H2 := Lib.hid (And.intro hu (H.out.1.trans (hb2.mono H.out.1.size)))
                clear hu hb2
                by_cases hk1 : m.kind = 1
                · have a1 : (m.kind == 1) = true := by simpa using hk1
                  have HS := Lib.hid (show Mg.spareB m = false by unfold Mg.spareB; rw [hk1]; rfl)
                  clear hk1
                  go_wp2_with fail
                  go_ret
                  exact ⟨by rw [HM.out, HD.out.1, HD.out.2, HF.out, HT.out, HX.out.1, HX.out.2, H2.out.1, HS.out]; rfl, H2.out.2⟩
                · have a1 : (m.kind == 1) = false := by simpa using hk1
                  have a2 : (m.kind != 1) = true := by simpa using hk1
                  rcases Nat.eq_zero_or_pos n with hn0 | hn0
                  · have HS := Lib.hid (show Mg.spareB m = false by unfold Mg.spareB; rw [H.out.2.2.2, hn0]; simp)
                    subst hn0
                    clear hk1 a2
                    go_wp2_with fail
                    go_ret
                    exact ⟨by rw [HM.out, HD.out.1, HD.out.2, HF.out, HT.out, HX.out.1, HX.out.2, H2.out.1, HS.out]; rfl, H2.out.2⟩
                  · have HS := Lib.hid (show Mg.spareB m = true by unfold Mg.spareB; rw [H.out.2.2.2, a2, decide_eq_true hn0]; rfl)
                    have hn1 : ((n : Int) == 0) = false := by rw [beq_eq_false_iff_ne]; omega
                    have hn2 : ¬ n = 0 := by omega
                    clear hk1 a2 hn0
                    go_wp2_with fail
                    go_ret
                    exact ⟨by rw [HM.out, HD.out.1, HD.out.2, HF.out, HT.out, HX.out.1, HX.out.2, H2.out.1, HS.out]; rfl, H2.out.2⟩
            · have d4 : decide (m.tx ≤ 1099511627776) = false := by simpa using h4
              have HX := Lib.hid (And.intro d3 d4)
              clear h3 h4
              go_wp2_with fail
              go_ret
              exact ⟨by rw [HM.out, HD.out.1, HD.out.2, HF.out, HT.out, HX.out.1, HX.out.2]; rfl, H.out.1⟩
          · have d3 : decide (1 ≤ m.tx) = false := by simpa using h3
            have HX := Lib.hid d3
            clear h3
            go_wp2_with fail
            go_ret
            exact ⟨by rw [HM.out, HD.out.1, HD.out.2, HF.out, HT.out, HX.out]; rfl, H.out.1⟩
    · have d2 : decide (m.kind ≤ 10) = false := by simpa using h2
      have HD := Lib.hid (And.intro d1 d2)
      clear h1 h2
      go_enter Tryd.func33, Tryd.ntmps33
      go_wp2_with fail
      go_ret
      exact ⟨by rw [HM.out, HD.out.1, HD.out.2]; rfl, H.out.1⟩
  · have d1 : decide (1 ≤ m.kind) = false := by simpa using h1
    have HD := Lib.hid d1
    clear h1
    go_enter Tryd.func33, Tryd.ntmps33
    go_wp2_with fail
    go_ret
    exact ⟨by rw [HM.out, HD.out]; rfl, H.out.1⟩
end Go.Proofs.YtlpdjpkdgagjpaaDoor
