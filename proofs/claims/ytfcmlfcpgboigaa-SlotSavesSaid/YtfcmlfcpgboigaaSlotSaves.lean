/- SlotSaves: a page that may be stands in its sector as the document says, and is loaded; another one, or another turn, is refused; no condition. -/
import Derived.Test.YtfcmlfcpgboigaaSlotAll
import Derived.Test.YtfcmlfcpgboigaaPageCopy
import Derived.Test.YtfcmlfcpgboigaaPageOpen
import Derived.Test.YtfcmlfcpgboigaaLift
namespace Go.Proofs.Ytfcmlfcpgboigaa.slotSaves
open Go.ChangeShapes Go.WideShapes Go.ChangeAt Go.RowKit Mem Lift
set_option linter.unusedVariables false
set_option linter.unusedSimpArgs false
set_option maxRecDepth 100000

theorem great_not {l : List Pg.C} (h : Pg.great l = false) : l.length ≤ 20 := by
  unfold Pg.great at h
  rw [Bool.or_eq_false_iff] at h
  simpa using h.1
/-- all that a save and a load come to -/
structure Res (base n turn lsn : Int) (l : List Pg.C) (se : Nat) (d1 : Dk.D) (q : Sp.B) (le : Nat) : Prop where
  ok : Dk.Ok d1
  small : ∀ x ∈ q.2.1, x.key.size ≤ 9223372036854775807 ∧ x.data.size ≤ 9223372036854775807
  ways : (Sp.out base n ∧ se = 1 ∧ q = Sp.none_ ∧ le = 1) ∨
    (¬ Sp.out base n ∧ (turn < 1 ∨ 1099511627776 < turn ∨ Pg.may lsn l = false) ∧ se = 1 ∧ q = Sp.none_ ∧ (base + 2 * n + 1 < 40 ∧ le = 0 ∨ 40 ≤ base + 2 * n + 1 ∧ le = 1)) ∨
    (¬ Sp.out base n ∧ (1 ≤ turn ∧ turn ≤ 1099511627776 ∧ Pg.may lsn l = true) ∧ 40 ≤ base + 2 * n + turn % 2 ∧ se = 1 ∧ le = 1) ∨
    (¬ Sp.out base n ∧ (1 ≤ turn ∧ turn ≤ 1099511627776 ∧ Pg.may lsn l = true) ∧ base + 2 * n + turn % 2 < 40 ∧ se = 0 ∧ Dk.read d1 (base + 2 * n + turn % 2) = (Stamp.wrapB 1 (Sp.body turn lsn l), 0) ∧
      (40 ≤ base + 2 * n + 1 ∧ le = 1 ∨ base + 2 * n + 1 < 40 ∧ le = 0 ∧ q = (lsn, l, turn)))
theorem may_small {lsn : Int} {l : List Pg.C} (h : Pg.may lsn l = true) : ∀ x ∈ l, x.key.size ≤ 9223372036854775807 ∧ x.data.size ≤ 9223372036854775807 := by
  intro x hx
  have := Pg.fits_sizes (Pg.rise_fits _ _ (Pg.may_parts h).1 x hx)
  omega
theorem none_small : ∀ x ∈ Sp.none_.2.1, x.key.size ≤ 9223372036854775807 ∧ x.data.size ≤ 9223372036854775807 := fun x hx => by cases hx
theorem load_new {base n : Int} (ho : ¬ Sp.out base n) (h : base + 2 * n + 1 < 40) : Sp.load base n (Dk.get2 (Dk.new 40)) = (Sp.none_, 0) := by
  rw [Sp.load_q (Dk.q_new 40 (by omega)) ho h, Sp.cur_new, Sp.cur_new, Sp.sec_zeros, Sp.sec_zeros]
  rfl
theorem res (base n turn lsn : Int) (l : List Pg.C) : Res base n turn lsn l (Sp.save (Dk.new 40) base n turn lsn l).1 (Sp.save (Dk.new 40) base n turn lsn l).2 (Sp.load base n (Dk.get2 (Sp.save (Dk.new 40) base n turn lsn l).2)).1 (Sp.load base n (Dk.get2 (Sp.save (Dk.new 40) base n turn lsn l).2)).2 := by
  have hq := Dk.q_new 40 (by omega)
  have hk0 := Dk.new_ok 40 (by omega)
  by_cases ho : Sp.out base n
  · rw [Sp.save_bad (.inl ho), Sp.load_out _ _ _ ho]
    exact ⟨hk0, none_small, .inl ⟨ho, rfl, rfl, rfl⟩⟩
  · by_cases hb : turn < 1 ∨ 1099511627776 < turn ∨ Pg.may lsn l = false
    · have hbad : Sp.bad base n turn lsn l := by
        rcases hb with h | h | h
        · exact .inr (.inr (.inl h))
        · exact .inr (.inr (.inr h))
        · exact .inr (.inl h)
      rw [Sp.save_bad hbad]
      by_cases h : base + 2 * n + 1 < 40
      · rw [load_new ho h]
        exact ⟨hk0, none_small, .inr (.inl ⟨ho, hb, rfl, rfl, .inl ⟨h, rfl⟩⟩)⟩
      · rw [Sp.load_past hq ho (by omega)]
        exact ⟨hk0, none_small, .inr (.inl ⟨ho, hb, rfl, rfl, .inr ⟨by omega, rfl⟩⟩)⟩
    · have hm : Pg.may lsn l = true := by
        cases h : Pg.may lsn l with
        | true => rfl
        | false => exact absurd (.inr (.inr h)) hb
      have ht : 1 ≤ turn ∧ turn ≤ 1099511627776 := by
        rw [hm] at hb
        simp at hb
        omega
      have hgood : ¬ Sp.bad base n turn lsn l := by
        unfold Sp.bad
        rw [hm]
        simp [ho]
        omega
      have hat : Sp.at_ base n turn = base + 2 * n + turn % 2 := rfl
      have ha0 : 0 ≤ Sp.at_ base n turn := by unfold Sp.out at ho; rw [hat]; omega
      have hbl := Sp.body_le (turn := turn) hm
      by_cases hz : base + 2 * n + turn % 2 < 40
      · have hsv := Sp.save_q hq hgood (by rw [hat]; exact hz)
        have hk := Dk.kept_q hq (N := Sp.at_ base n turn) ha0 (by rw [hat]; exact hz) (p := Sp.body turn lsn l) (by omega)
        have hrd := Dk.read_q hk (N := Sp.at_ base n turn) ha0 (by rw [hat]; exact hz)
        rw [Dk.kept_cur hq, if_pos rfl] at hrd
        have hse : Dk.secOf (Dk.new 40) (Sp.at_ base n turn) (Sp.body turn lsn l) = Stamp.wrapB 1 (Sp.body turn lsn l) := by
          have : Stamp.nextB (Dk.cur (Dk.new 40) (Sp.at_ base n turn)) = 1 := by rw [Sp.cur_new]; decide +kernel
          unfold Dk.secOf
          rw [this]
        rw [hse] at hrd
        by_cases h : base + 2 * n + 1 < 40
        · have hld := Sp.load_saved (z := 40) (by omega) hgood h
          rw [hld, hsv]
          exact ⟨hk.ok, may_small hm, .inr (.inr (.inr ⟨ho, ⟨ht.1, ht.2, hm⟩, hz, rfl, by rw [← hat]; exact hrd, .inr ⟨h, rfl, rfl⟩⟩))⟩
        · rw [hsv, Sp.load_past hk ho (by omega)]
          exact ⟨hk.ok, none_small, .inr (.inr (.inr ⟨ho, ⟨ht.1, ht.2, hm⟩, hz, rfl, by rw [← hat]; exact hrd, .inl ⟨by omega, rfl⟩⟩))⟩
      · rw [Sp.save_past hq hgood (by rw [hat]; omega), Sp.load_past hq ho (by omega)]
        exact ⟨hk0, none_small, .inr (.inr (.inl ⟨ho, ⟨ht.1, ht.2, hm⟩, by omega, rfl, rfl⟩))⟩
theorem wrapR_ok {p : List UInt8} (h : p.length ≤ 254) : Stamp.wrapR 1 p = (Stamp.wrapB 1 p, 0) := by
  have h1 : (1 : UInt8).toNat = 1 := rfl
  unfold Stamp.wrapR
  rw [h1, if_neg (by omega), if_neg (by omega)]
theorem bodyE_ok {turn lsn : Int} {l : List Pg.C} (h : Pg.may lsn l = true) : Sp.bodyE turn lsn l = Sp.body turn lsn l := by
  unfold Sp.bodyE Sp.body Pg.enc
  rw [if_pos h]
set_option maxHeartbeats 16000000 in
theorem walk (base n turn lsn : Int) (A : Option Addr) (m c : Nat) (l : List Pg.C) (w : World) (hs1 : -9223372036854775808 ≤ base) (hs2 : base ≤ 9223372036854775807) (hn1 : -9223372036854775808 ≤ n) (hn2 : n ≤ 9223372036854775807) (ht1 : -9223372036854775808 ≤ turn) (ht2 : turn ≤ 9223372036854775807)
    (hl : ST cellK w A m l) (hmc : m ≤ c) (hcm : c ≤ maxLen) (hl1 : -9223372036854775808 ≤ lsn) (hl2 : lsn ≤ 9223372036854775807) :
    Calls Try.prog 11 #[.int .i64 base, .int .i64 n, .int .i64 turn, pVal lsn A m c] w fun e w' => e = .returned (.bool true) ∧ Below w.heap.size w w' := by
  have hb0 : Below w.heap.size w (w.alloc (.cells (pCells lsn A m c) 24)) := (Below.refl _ _).alloc (Nat.le_refl _) _
  have hk0 := Blk.new w 24 (pCells lsn A m c)
  have hgr := great10_any lsn A m c l (w.alloc (.cells (pCells lsn A m c) 24)) (hl.below hb0)
  have H := Lib.hid (And.intro hb0 (And.intro hk0 (And.intro hgr (And.intro hl hl.len))))
  clear hb0 hk0 hgr hl
  cases hg : Pg.great l with
  | true =>
    have HG := Lib.hid hg
    clear hg
    go_enter Try.func11, Try.ntmps11
    go_wp2_with fail
    refine H.out.2.2.1.mono ?_
    rw [HG.out]
    rintro e w1 ⟨rfl, hb1⟩
    have H1 := Lib.hid (H.out.1.trans (hb1.mono H.out.1.size))
    clear hb1
    go_wp2_with fail
    refine (awake11_any w1).mono ?_
    rintro e w2 ⟨rfl, hb2⟩
    have H2 := Lib.hid (H1.out.trans (hb2.mono H1.out.size))
    clear hb2
    go_wp2_with fail
    go_ret
    exact ⟨rfl, H2.out⟩
  | false =>
    have hm20 : m ≤ 20 := by rw [← H.out.2.2.2.2]; exact great_not hg
    have hres := res base n turn lsn l
    obtain ⟨SV, hSV⟩ : ∃ x, Sp.save (Dk.new 40) base n turn lsn l = x := ⟨_, rfl⟩
    rw [hSV] at hres
    obtain ⟨se, d1⟩ := SV
    obtain ⟨LD, hLD⟩ : ∃ x, Sp.load base n (Dk.get2 d1) = x := ⟨_, rfl⟩
    simp only at hres
    rw [hLD] at hres
    obtain ⟨⟨ql, qk, qt⟩, le⟩ := LD
    simp only at hres
    have HG := Lib.hid (And.intro hg (And.intro hSV (And.intro hLD hres)))
    clear hg hSV hLD hres
    go_enter Try.func11, Try.ntmps11
    go_wp2_with fail
    generalize hW0 : w.alloc (.cells (pCells lsn A m c) 24) = W0 at *
    clear hW0
    refine H.out.2.2.1.mono ?_
    rw [HG.out.1]
    rintro e w1 ⟨rfl, hb1⟩
    have H1 := Lib.hid (And.intro (H.out.2.1.below hb1 H.out.2.1.lt) (H.out.1.trans (hb1.mono H.out.1.size)))
    clear hb1
    go_wp2_with fail
    refine (own_new 40 (by omega) w1 w1 (Below.refl _ _)).mono ?_
    rintro e w2 ⟨p, rfl, ho2⟩
    have hk2 := H1.out.1.below ho2.1 H1.out.1.lt
    have c0 : w2.cell? ⟨w.heap.size, 0, none⟩ = some (.int .i64 lsn) := hk2.cell 0
    have c1 : w2.cell? ⟨w.heap.size, 1, none⟩ = some (.slice A m c) := hk2.cell 1
    have H2 := Lib.hid (And.intro ho2 (H1.out.2.trans (ho2.1.mono H1.out.2.size)))
    clear ho2 hk2
    go_wp2_with fail
    refine (copy10_any lsn A m c l w2 (H.out.2.2.2.1.below H2.out.2) (by omega)).mono ?_
    rintro e w3 ⟨A3, d3, rfl, ho3, hb3⟩
    have hst3 := ST.of_own cellK_len (by decide) ho3 (fun x hx => H.out.2.2.2.1.ok x hx)
    simp only [H.out.2.2.2.2] at hst3 ⊢
    have hsv := own_ssave (H2.out.1.grow hb3) base n turn lsn A3 m d3 l (Dk.new_ok 40 (by omega)) (by simp [Dk.new]) (by simp [Dk.new]) hst3 (by omega) ⟨hl1, hl2⟩
    rw [HG.out.2.1] at hsv
    have H3 := Lib.hid hsv
    clear ho3 hst3 hb3 hsv c0 c1
    go_wp2_with fail
    refine H3.out.mono ?_
    rintro e w4 ⟨rfl, ho4⟩
    have hld := own_sload ho4 base n HG.out.2.2.2.ok
    rw [HG.out.2.2.1] at hld
    have H4 := Lib.hid (And.intro ho4 hld)
    clear ho4 hld
    simp only at H4 ⊢
    go_wp2_with fail
    refine H4.out.2.mono ?_
    rintro e w5 ⟨A5, c5, rfl, ho5, hb5⟩
    simp only at ho5 ⊢
    have hb56 : Below w5.heap.size w5 (w5.alloc (.cells (pCells ql A5 qk.length c5) 24)) := (Below.refl _ _).alloc (Nat.le_refl _) _
    have ho6 := H4.out.1.grow (hb5.trans (hb56.mono hb5.size))
    have hbw6 := H1.out.2.trans (ho6.1.mono H1.out.2.size)
    have hk6 := H1.out.1.below ho6.1 H1.out.1.lt
    have hz6 := Blk.new w5 24 (pCells ql A5 qk.length c5)
    have c0 : (w5.alloc (.cells (pCells ql A5 qk.length c5) 24)).cell? ⟨w.heap.size, 0, none⟩ = some (.int .i64 lsn) := hk6.cell 0
    have c1 : (w5.alloc (.cells (pCells ql A5 qk.length c5) 24)).cell? ⟨w.heap.size, 1, none⟩ = some (.slice A m c) := hk6.cell 1
    have q0 : (w5.alloc (.cells (pCells ql A5 qk.length c5) 24)).cell? ⟨w5.heap.size, 0, none⟩ = some (.int .i64 ql) := hz6.cell 0
    have q1 : (w5.alloc (.cells (pCells ql A5 qk.length c5) 24)).cell? ⟨w5.heap.size, 1, none⟩ = some (.slice A5 qk.length c5) := hz6.cell 1
    have hlt5 : w.heap.size < w5.heap.size := by
      have h1 := H1.out.1.lt
      have h2 := H4.out.1.1.size
      have h3 := hb5.size
      omega
    have H6 := Lib.hid (And.intro ho6 (And.intro hbw6 (And.intro hk6 (And.intro hz6 ((ST.of_own (K := cellK) (l := qk) cellK_len (by decide) ho5 HG.out.2.2.2.small).below hb56)))))
    clear ho5 hb5 hb56 ho6 hbw6 hk6 hz6
    rcases HG.out.2.2.2.ways with ⟨k1, k2, k3, k4⟩ | ⟨k1, k2, k3, k4, k5⟩ | ⟨k1, k2, k3, k4, k5⟩ | ⟨k1, k2, k3, k4, k5, k6⟩
    · have hways : decide (0 ≤ base) = false ∨ decide (0 ≤ base) = true ∧ decide (base ≤ 4096) = false ∨ decide (0 ≤ base) = true ∧ decide (base ≤ 4096) = true ∧ decide (0 ≤ n) = false ∨ decide (0 ≤ base) = true ∧ decide (base ≤ 4096) = true ∧ decide (0 ≤ n) = true ∧ decide (n ≤ 4096) = false := by
        unfold Sp.out at k1
        by_cases h1 : 0 ≤ base
        · by_cases h2 : base ≤ 4096
          · by_cases h3 : 0 ≤ n
            · exact .inr (.inr (.inr ⟨by simpa using h1, by simpa using h2, by simpa using h3, by simp; omega⟩))
            · exact .inr (.inr (.inl ⟨by simpa using h1, by simpa using h2, by simpa using h3⟩))
          · exact .inr (.inl ⟨by simpa using h1, by simpa using h2⟩)
        · exact .inl (by simpa using h1)
      have hq : ql = 0 ∧ qk = [] ∧ qt = 0 := by injection k3 with h1 h2; injection h2 with h2 h3; exact ⟨h1, h2, h3⟩
      obtain ⟨rfl, rfl, rfl⟩ := hq
      subst k2 k4
      clear k1 k3
      rcases hways with e1 | ⟨e1, e2⟩ | ⟨e1, e2, e3⟩ | ⟨e1, e2, e3, e4⟩
      all_goals
        go_wp2_with fail
        refine (awake11_any _).mono ?_
        rintro e w9 ⟨rfl, hb9⟩
        have H9 := Lib.hid (H6.out.2.1.trans (hb9.mono H6.out.2.1.size))
        clear hb9
        go_wp2_with fail
        go_ret
        exact ⟨rfl, H9.out⟩
    · have k1' := k1
      unfold Sp.out at k1'
      have r1 : decide (0 ≤ base) = true := by simp; omega
      have r2 : decide (base ≤ 4096) = true := by simp; omega
      have r3 : decide (0 ≤ n) = true := by simp; omega
      have r4 : decide (n ≤ 4096) = true := by simp; omega
      have x1 : IntKind.i64.wrap (2 * n) = 2 * n := IntWalk.i64_in _ (by omega)
      have x2 : IntKind.i64.wrap (base + 2 * n) = base + 2 * n := IntWalk.i64_in _ (by omega)
      have x3 : IntKind.i64.wrap (base + 2 * n + 1) = base + 2 * n + 1 := IntWalk.i64_in _ (by omega)
      have hq : ql = 0 ∧ qk = [] ∧ qt = 0 := by injection k4 with h1 h2; injection h2 with h2 h3; exact ⟨h1, h2, h3⟩
      obtain ⟨rfl, rfl, rfl⟩ := hq
      subst k3
      simp only [List.length_nil] at c0 c1 q0 q1
      have hp : decide (39 < base + 2 * n + 1) = false ∧ le = 0 ∨ decide (39 < base + 2 * n + 1) = true ∧ le = 1 := by
        rcases k5 with ⟨h1, h2⟩ | ⟨h1, h2⟩
        · exact .inl ⟨by simp; omega, h2⟩
        · exact .inr ⟨by simp; omega, h2⟩
      have ht : decide (turn < 1) = true ∨ decide (turn < 1) = false ∧ decide (1099511627776 < turn) = true ∨ decide (turn < 1) = false ∧ decide (1099511627776 < turn) = false ∧ Pg.may lsn l = false := by
        by_cases h1 : turn < 1
        · exact .inl (by simpa using h1)
        · by_cases h2 : 1099511627776 < turn
          · exact .inr (.inl ⟨by simpa using h1, by simpa using h2⟩)
          · exact .inr (.inr ⟨by simpa using h1, by simpa using h2, by rcases k2 with h | h | h <;> first | exact absurd h h1 | exact absurd h h2 | exact h⟩)
      have hmy := refMay10_any lsn A m c l (w5.alloc (.cells (pCells 0 A5 0 c5) 24)) (H.out.2.2.2.1.below H6.out.2.1) (by omega)
      have HM := Lib.hid hmy
      clear k1 k1' k2 k4 k5 hmy
      rcases ht with t1 | ⟨t1, t2⟩ | ⟨t1, t2, t3⟩
      · rcases hp with ⟨p1, rfl⟩ | ⟨p1, rfl⟩
        all_goals
          go_wp2_with fail
          refine (awake11_any _).mono ?_
          rintro e w9 ⟨rfl, hb9⟩
          have H9 := Lib.hid (H6.out.2.1.trans (hb9.mono H6.out.2.1.size))
          clear hb9
          go_wp2_with fail
          go_ret
          exact ⟨rfl, H9.out⟩
      · rcases hp with ⟨p1, rfl⟩ | ⟨p1, rfl⟩
        all_goals
          go_wp2_with fail
          refine (awake11_any _).mono ?_
          rintro e w9 ⟨rfl, hb9⟩
          have H9 := Lib.hid (H6.out.2.1.trans (hb9.mono H6.out.2.1.size))
          clear hb9
          go_wp2_with fail
          go_ret
          exact ⟨rfl, H9.out⟩
      · have HT := Lib.hid t3
        clear t3
        rcases hp with ⟨p1, rfl⟩ | ⟨p1, rfl⟩
        all_goals
          go_wp2_with fail
          refine HM.out.mono ?_
          rw [HT.out]
          rintro e w7 ⟨rfl, hb7⟩
          have hz7 := H6.out.2.2.2.1.below hb7 (by simp)
          have q0 : w7.cell? ⟨w5.heap.size, 0, none⟩ = some (.int .i64 0) := hz7.cell 0
          have q1 : w7.cell? ⟨w5.heap.size, 1, none⟩ = some (.slice A5 0 c5) := hz7.cell 1
          have H7 := Lib.hid (H6.out.2.1.trans (hb7.mono H6.out.2.1.size))
          clear hb7 hz7
          go_wp2_with fail
          refine (awake11_any _).mono ?_
          rintro e w9 ⟨rfl, hb9⟩
          have H9 := Lib.hid (H7.out.trans (hb9.mono H7.out.size))
          clear hb9
          go_wp2_with fail
          go_ret
          exact ⟨rfl, H9.out⟩
    · have k1' := k1
      unfold Sp.out at k1'
      have r1 : decide (0 ≤ base) = true := by simp; omega
      have r2 : decide (base ≤ 4096) = true := by simp; omega
      have r3 : decide (0 ≤ n) = true := by simp; omega
      have r4 : decide (n ≤ 4096) = true := by simp; omega
      have x1 : IntKind.i64.wrap (2 * n) = 2 * n := IntWalk.i64_in _ (by omega)
      have x2 : IntKind.i64.wrap (base + 2 * n) = base + 2 * n := IntWalk.i64_in _ (by omega)
      have x3 : IntKind.i64.wrap (base + 2 * n + 1) = base + 2 * n + 1 := IntWalk.i64_in _ (by omega)
      have t1 : decide (turn < 1) = false := by simp; omega
      have t2 : decide (1099511627776 < turn) = false := by simp; omega
      have t3 : turn.tmod 2 = turn % 2 := Int.tmod_eq_emod_of_nonneg (by omega)
      have htm : 0 ≤ turn % 2 ∧ turn % 2 ≤ 1 := by omega
      generalize turn % 2 = tm at *
      have x4 : IntKind.i64.wrap (base + 2 * n + tm) = base + 2 * n + tm := IntWalk.i64_in _ (by omega)
      have p1 : decide (39 < base + 2 * n + tm) = true := by simp; omega
      subst k4 k5
      have hmy := refMay10_any lsn A m c l (w5.alloc (.cells (pCells ql A5 qk.length c5) 24)) (H.out.2.2.2.1.below H6.out.2.1) (by omega)
      rw [k2.2.2] at hmy
      have HM := Lib.hid hmy
      clear k1 k1' k2 k3 hmy
      go_wp2_with fail
      refine HM.out.mono ?_
      rintro e w7 ⟨rfl, hb7⟩
      have H7 := Lib.hid (H6.out.2.1.trans (hb7.mono H6.out.2.1.size))
      clear hb7
      go_wp2_with fail
      refine (awake11_any _).mono ?_
      rintro e w9 ⟨rfl, hb9⟩
      have H9 := Lib.hid (H7.out.trans (hb9.mono H7.out.size))
      clear hb9
      go_wp2_with fail
      go_ret
      exact ⟨rfl, H9.out⟩
    · have k1' := k1
      unfold Sp.out at k1'
      have r1 : decide (0 ≤ base) = true := by simp; omega
      have r2 : decide (base ≤ 4096) = true := by simp; omega
      have r3 : decide (0 ≤ n) = true := by simp; omega
      have r4 : decide (n ≤ 4096) = true := by simp; omega
      have x1 : IntKind.i64.wrap (2 * n) = 2 * n := IntWalk.i64_in _ (by omega)
      have x2 : IntKind.i64.wrap (base + 2 * n) = base + 2 * n := IntWalk.i64_in _ (by omega)
      have x3 : IntKind.i64.wrap (base + 2 * n + 1) = base + 2 * n + 1 := IntWalk.i64_in _ (by omega)
      have t1 : decide (turn < 1) = false := by simp; omega
      have t2 : decide (1099511627776 < turn) = false := by simp; omega
      have t3 : turn.tmod 2 = turn % 2 := Int.tmod_eq_emod_of_nonneg (by omega)
      have htm : 0 ≤ turn % 2 ∧ turn % 2 ≤ 1 := by omega
      generalize turn % 2 = tm at *
      have x4 : IntKind.i64.wrap (base + 2 * n + tm) = base + 2 * n + tm := IntWalk.i64_in _ (by omega)
      have p1 : decide (39 < base + 2 * n + tm) = false := by simp; omega
      subst k4
      have hbl := Sp.body_le (turn := turn) k2.2.2
      have hbe := bodyE_ok (turn := turn) k2.2.2
      have hwl := Stamp.wrapB_length 1 (Sp.body turn lsn l) (by omega)
      have hwr := wrapR_ok (p := Sp.body turn lsn l) (by omega)
      have hmy := refMay10_any lsn A m c l (w5.alloc (.cells (pCells ql A5 qk.length c5) 24)) (H.out.2.2.2.1.below H6.out.2.1) (by omega)
      rw [k2.2.2] at hmy
      have HM := Lib.hid (And.intro hmy (And.intro k5 (And.intro hbe (And.intro hwr hwl))))
      clear k1 k1' k2 k3 k5 hmy hbe hwr hwl
      go_wp2_with fail
      refine HM.out.1.mono ?_
      rintro e w7 ⟨rfl, hb7⟩
      have hk7 := H6.out.2.2.1.below hb7 H6.out.2.2.1.lt
      have hz7 := H6.out.2.2.2.1.below hb7 (by simp)
      have H7 := Lib.hid (And.intro (H6.out.1.grow hb7) (And.intro hk7 (And.intro hz7 (And.intro (H6.out.2.2.2.2.below hb7) (H6.out.2.1.trans (hb7.mono H6.out.2.1.size))))))
      clear hb7 hk7 hz7 c0 c1 q0 q1
      go_wp2_with fail
      have hrd := own_read H7.out.1 HG.out.2.2.2.ok (base + 2 * n + tm)
      rw [HM.out.2.1] at hrd
      refine hrd.mono ?_
      clear hrd
      rintro e w8 ⟨A8, c8, rfl, hB8, hc8, hm8, hb8, _⟩
      simp only at hB8 hc8 ⊢
      rw [HM.out.2.2.2.2] at hB8 hc8 ⊢
      have hk8 := H7.out.2.1.below hb8 H7.out.2.1.lt
      have hz8 := H7.out.2.2.1.below hb8 H7.out.2.2.1.lt
      have c0 : w8.cell? ⟨w.heap.size, 0, none⟩ = some (.int .i64 lsn) := hk8.cell 0
      have c1 : w8.cell? ⟨w.heap.size, 1, none⟩ = some (.slice A m c) := hk8.cell 1
      have H8 := Lib.hid (And.intro hB8 (And.intro hk8 (And.intro hz8 (And.intro (H7.out.2.2.2.1.below hb8) (H7.out.2.2.2.2.trans (hb8.mono H7.out.2.2.2.2.size))))))
      clear hB8 hb8 hk8 hz8
      go_wp2_with fail
      have hrb := ref11body_any turn lsn A m c l w8 (H.out.2.2.2.1.below H8.out.2.2.2.2) (by omega) ⟨hl1, hl2⟩ ⟨ht1, ht2⟩
      rw [HM.out.2.2.1] at hrb
      refine hrb.mono ?_
      clear hrb
      rintro e w9 ⟨v9, rfl, ho9, hb9⟩
      obtain ⟨A9, d9, rfl⟩ := own_slice ho9
      have hwp := refWrap_any 1 A9 _ d9 _ w9 (BS.of_own ho9) (by omega)
      rw [HM.out.2.2.2.1] at hwp
      have H9 := Lib.hid (And.intro hwp (And.intro (H8.out.1.below hb9) (And.intro (H8.out.2.1.below hb9 H8.out.2.1.lt) (And.intro (H8.out.2.2.1.below hb9 H8.out.2.2.1.lt) (And.intro (H8.out.2.2.2.1.below hb9) (H8.out.2.2.2.2.trans (hb9.mono H8.out.2.2.2.2.size)))))))
      clear hwp ho9 hb9 c0 c1
      go_wp2_with fail
      refine H9.out.1.mono ?_
      rintro e w10 ⟨A10, c10, rfl, hB10, hc10, hm10, hb10⟩
      simp only at hB10 hc10 ⊢
      rw [HM.out.2.2.2.2] at hB10 hc10 ⊢
      have H10 := Lib.hid (And.intro hB10 (And.intro (H9.out.2.1.below hb10) (And.intro (H9.out.2.2.1.below hb10 H9.out.2.2.1.lt) (And.intro (H9.out.2.2.2.1.below hb10 H9.out.2.2.2.1.lt) (And.intro (H9.out.2.2.2.2.1.below hb10) (H9.out.2.2.2.2.2.trans (hb10.mono H9.out.2.2.2.2.2.size)))))))
      clear hB10 hb10
      go_wp2_with fail
      refine (same_any A8 A10 256 256 c8 c10 _ _ w10 H10.out.2.1 H10.out.1 (by omega) (by omega)).mono ?_
      rw [decide_eq_true rfl]
      rintro e w11 ⟨rfl, hd11⟩
      have hb11 := hd11.below
      have hk11 := H10.out.2.2.1.below hb11 H10.out.2.2.1.lt
      have hz11 := H10.out.2.2.2.1.below hb11 H10.out.2.2.2.1.lt
      have c0 : w11.cell? ⟨w.heap.size, 0, none⟩ = some (.int .i64 lsn) := hk11.cell 0
      have c1 : w11.cell? ⟨w.heap.size, 1, none⟩ = some (.slice A m c) := hk11.cell 1
      have q0 : w11.cell? ⟨w5.heap.size, 0, none⟩ = some (.int .i64 ql) := hz11.cell 0
      have q1 : w11.cell? ⟨w5.heap.size, 1, none⟩ = some (.slice A5 qk.length c5) := hz11.cell 1
      have H11 := Lib.hid (And.intro (H10.out.2.2.2.2.1.below hb11) (H10.out.2.2.2.2.2.trans (hb11.mono H10.out.2.2.2.2.2.size)))
      clear hd11 hb11 hk11 hz11
      rcases k6 with ⟨k7, rfl⟩ | ⟨k7, rfl, k8⟩
      · have p2 : decide (39 < base + 2 * n + 1) = true := by simp; omega
        clear k7
        go_wp2_with fail
        refine (awake11_any _).mono ?_
        rintro e w9 ⟨rfl, hb9⟩
        have H9 := Lib.hid (H11.out.2.trans (hb9.mono H11.out.2.size))
        clear hb9
        go_wp2_with fail
        go_ret
        exact ⟨rfl, H9.out⟩
      · have p2 : decide (39 < base + 2 * n + 1) = false := by simp; omega
        have hq : ql = lsn ∧ qk = l ∧ qt = turn := by injection k8 with h1 h2; injection h2 with h2 h3; exact ⟨h1, h2, h3⟩
        obtain ⟨rfl, rfl, rfl⟩ := hq
        clear k7 k8
        have hst := H11.out.1
        have hlm := H.out.2.2.2.2
        have HSM := Lib.hid (same10_eq ql A5 A m c5 c qk w11 (by rw [← hlm]; exact hst) (H.out.2.2.2.1.below H11.out.2) (by omega))
        simp only [hlm] at q1
        clear hst hlm
        go_wp2_with fail
        refine HSM.out.mono ?_
        rintro e w12 ⟨rfl, hb12⟩
        have H12 := Lib.hid (H11.out.2.trans (hb12.mono H11.out.2.size))
        clear hb12
        go_wp2_with fail
        refine (awake11_any _).mono ?_
        rintro e w9 ⟨rfl, hb9⟩
        have H9 := Lib.hid (H12.out.trans (hb9.mono H12.out.size))
        clear hb9
        go_wp2_with fail
        go_ret
        exact ⟨rfl, H9.out⟩

theorem own : ownKnob Try.prog.godebug = none := by kernel_rfl
theorem laidOut : laidOutB Try.prog = true := by kernel_rfl
theorem params_ok : ∀ t ∈ Try.f11.params.toList, Try.prog.readableRec t = true ∧ t < Try.prog.types.size := by
  rw [Try.params11]
  intro t ht
  have ht' : t = 3 ∨ t = 24 := by
    simpa using ht
  rcases ht' with rfl | rfl
  · exact ⟨(show Try.prog.readableRec 3 = true by kernel_rfl), of_decide_eq_true (show decide (3 < Try.prog.types.size) = true by kernel_rfl)⟩
  · exact ⟨(show Try.prog.readableRec 24 = true by kernel_rfl), of_decide_eq_true (show decide (24 < Try.prog.types.size) = true by kernel_rfl)⟩

set_option maxRecDepth 100000 in
theorem contract (H : Type) (enc : TypeId × Value → H) (W : World) (base : Nat) (args : Array Value) (ds gs : List (DataW H)) (before : List MemPlace)
    (hval : ∀ (j : Nat) t v, Try.f11.params[j]? = some t → args[j]? = some v → Value.okWide Try.prog W .any base t v)
    (hW : DataW.Whole enc Try.prog Try.f11.params.toList Rows.slotSavesSpec.vars false W args.toList ds gs before) :
    Calls Try.prog 11 args W fun e W' => ∃ v, e = .returned v ∧ Rows.slotSavesSpec.post enc Try.prog Try.f11 false true false false W args v W' := by
  have hW' := hW
  obtain ⟨p, q, hA0, hV, rfl, hfz, hnd⟩ := hW
  have hA : DataW.TrodAll enc Try.prog W 0 (fun _ => true) true Try.f11.params.toList args.toList ds p := hA0
  rw [Try.params11] at hA hval
  obtain ⟨v0, vs0, d0, ds0, p0, q0, hargs, rfl, rfl, h0, r0⟩ := trodAll_cons hA
  obtain ⟨v1, vs1, d1, ds1, p1, q1, rfl, rfl, rfl, h1, r1⟩ := trodAll_cons r0
  obtain ⟨v2, vs2, d2, ds2, p2, q2, rfl, rfl, rfl, h2, r2⟩ := trodAll_cons r1
  obtain ⟨v3, vs3, d3, ds3, p3, q3, rfl, rfl, rfl, h3, r3⟩ := trodAll_cons r2
  obtain ⟨rfl, rfl, rfl⟩ := trodAll_nil r3
  obtain rfl : args = #[v0, v1, v2, v3] := by cases args; simp_all
  obtain ⟨rfl, rfl⟩ := trodVars_none hV
  obtain ⟨x0, rfl, rfl, rfl, w0⟩ := open_int Try.underlying3 (hval 0 3 v0 rfl rfl) h0
  have b0 := bounds_i64 w0
  obtain ⟨x1, rfl, rfl, rfl, w1⟩ := open_int Try.underlying3 (hval 1 3 v1 rfl rfl) h1
  have b1 := bounds_i64 w1
  obtain ⟨x2, rfl, rfl, rfl, w2⟩ := open_int Try.underlying3 (hval 2 3 v2 rfl rfl) h2
  have b2 := bounds_i64 w2
  obtain ⟨x3, A3, n3, c3, l3, rfl, xb3, lh3, nc3, cm3⟩ := open_page (hval 3 24 v3 rfl rfl) h3
  refine (walk x0 x1 x2 x3 A3 n3 c3 l3 W b0.1 b0.2 b1.1 b1.2 b2.1 b2.2 lh3 nc3 cm3 xb3.1 xb3.2).mono fun e W' ⟨he, bel⟩ => ?_
  exact ⟨_, he, post_true laidOut Try.underlying4 (show Try.f11.resultTypes = #[4] from rfl) params_ok rfl hW' rfl bel⟩

theorem laid_met (os : Os) : laidMet Try.prog Rows.slotSavesRow.laid ((World.holding Try.prog os ⟨#[], #[], []⟩).forCall (fun _ _ => 0) ⟨#[], #[.int .i64 0, .int .i64 0, .int .i64 0, .agg #[.int .i64 0, .slice none 0 0]], []⟩).memory :=
  laidMet_of_run' 8 (by kernel_rfl) (by kernel_rfl)
theorem reads (os : Os) {H : Type} (enc : TypeId × Value → H) : ∃ places, DataW.whole enc Try.prog ((World.holding Try.prog os ⟨#[], #[], []⟩).forCall (fun _ _ => 0) ⟨#[], #[.int .i64 0, .int .i64 0, .int .i64 0, .agg #[.int .i64 0, .slice none 0 0]], []⟩).memory Try.f11.params.toList Rows.slotSavesSpec.vars false (#[Value.int .i64 0, Value.int .i64 0, Value.int .i64 0, Value.agg #[.int .i64 0, .slice none 0 0]] : Array Value).toList 8 = some ([.lit (.int .i64 0), .lit (.int .i64 0), .lit (.int .i64 0), .agg [.lit (.int .i64 0), .nil]], [], places) :=
  ⟨[], by kernel_rfl⟩
set_option maxRecDepth 100000 in
theorem lifted (os : Os) (started : os.Started) (H : Type) (enc : TypeId × Value → H) (F : Stop.Interp) :
    ReturnsInHanded {} Try.checked os 11 .any ((OpenSpec.ofChange Rows.slotSavesSpec).preRow enc Try.prog Try.f11 Rows.slotSavesRow.domain false Rows.slotSavesRow.laid) (((OpenSpec.ofChange Rows.slotSavesSpec).at F).post enc Try.prog Try.f11 false true false false) := by
  obtain ⟨places, hx⟩ := reads os enc
  refine returnsInHanded_of_row (C := Try.checked) (s := OpenSpec.ofChange Rows.slotSavesSpec) own started (by kernel_rfl) Try.func11
    (witness_row_at (enc := enc) (C := Try.checked) false (World.holding Try.prog os ⟨#[], #[], []⟩) #[.int .i64 0, .int .i64 0, .int .i64 0, .agg #[.int .i64 0, .slice none 0 0]] rfl (by kernel_rfl) (by kernel_rfl) (by kernel_rfl)
      (OpenSpec.preRow_of_cond 8 hx (by kernel_rfl) (fun k hk => by cases hk) (by kernel_rfl) (laid_met os))) ?_
  intro W base args ds gs before hval hW _ _ hsz hL _ _
  exact contract H enc W base args ds gs before hval hW
theorem said : Rows.SlotSavesSaid :=
  OpenClaim.holds_of_cond 11 Try.f11 rfl rfl rfl rfl rfl rfl rfl ⟨rfl, rfl, rfl, rfl, rfl⟩ rfl rfl rfl rfl rfl (by kernel_rfl) Try.func11 (by kernel_rfl)
    (of_decide_eq_true (by kernel_rfl)) (by unfold Func.isWrapper; first | (rw [if_pos (by decide +kernel)]; kernel_rfl) | (rw [if_neg (by decide +kernel)]; exact ⟨rfl, rfl⟩))
    (fun os started H enc _ F => by rw [OpenClaim.pre_eq_preRow]; exact lifted os started H enc F)
#print axioms said
end Go.Proofs.Ytfcmlfcpgboigaa.slotSaves
