/- SlotNil: a nil disk, and one that is down, answer so; no condition. -/
import Derived.Test.YtfcmlfcpgboigaaSlotAll
import Derived.Test.YtfcmlfcpgboigaaPageCopy
import Derived.Test.YtfcmlfcpgboigaaPageOpen
import Derived.Test.YtfcmlfcpgboigaaLift
namespace Go.Proofs.Ytfcmlfcpgboigaa.slotNil
open Go.ChangeShapes Go.WideShapes Go.ChangeAt Go.RowKit Mem Lift
set_option linter.unusedVariables false
set_option linter.unusedSimpArgs false
set_option maxRecDepth 100000

theorem great_not {l : List Pg.C} (h : Pg.great l = false) : l.length ≤ 20 := by
  unfold Pg.great at h
  rw [Bool.or_eq_false_iff] at h
  simpa using h.1
def dn : Dk.D := (Dk.sync (Dk.fused (Dk.new 2) 0)).2
theorem dn_eq : dn = { Dk.fused (Dk.new 2) 0 with down := true } := rfl
theorem load3 : Sp.load 0 0 (Dk.get2 dn) = (Sp.none_, 40) := Sp.load_err0 0 0 _ 40 (by simp) (by simp) (by unfold Sp.out; omega) (Dk.get_down _ _ (by omega) (by rw [dn_eq]; simp [Dk.fused, Dk.new]) rfl)
theorem ok2 : Dk.Ok (Dk.fused (Dk.new 2) 0) := Dk.fused_ok (Dk.new_ok 2 (by omega)) 0 (by omega)
theorem okn : Dk.Ok dn := Dk.sync_ok ok2
theorem bad_may {n lsn : Int} {l : List Pg.C} (h0 : 0 ≤ n) (h1 : n ≤ 4096) : (if Sp.bad 0 n 1 lsn l then (1 : Int) else 2) = if Pg.may lsn l = true then 2 else 1 := by
  by_cases h : Pg.may lsn l = true
  · rw [if_pos h, if_neg]
    unfold Sp.bad Sp.out
    rw [h]
    simp
    omega
  · rw [if_neg h, if_pos]
    exact .inr (.inl (by simpa using h))
set_option maxHeartbeats 8000000 in
theorem walk (n lsn : Int) (A : Option Addr) (m c : Nat) (l : List Pg.C) (w : World) (hn1 : -9223372036854775808 ≤ n) (hn2 : n ≤ 9223372036854775807)
    (hl : ST cellK w A m l) (hmc : m ≤ c) (hcm : c ≤ maxLen) (hl1 : -9223372036854775808 ≤ lsn) (hl2 : lsn ≤ 9223372036854775807) :
    Calls Try.prog 13 #[.int .i64 n, pVal lsn A m c] w fun e w' => e = .returned (.bool true) ∧ Below w.heap.size w w' := by
  have hb0 : Below w.heap.size w (w.alloc (.cells (pCells lsn A m c) 24)) := (Below.refl _ _).alloc (Nat.le_refl _) _
  have hk0 := Blk.new w 24 (pCells lsn A m c)
  have hgr := great10_any lsn A m c l (w.alloc (.cells (pCells lsn A m c) 24)) (hl.below hb0)
  have H := Lib.hid (And.intro hb0 (And.intro hk0 (And.intro hgr (And.intro hl hl.len))))
  clear hb0 hk0 hgr hl
  by_cases hg : Pg.great l = true ∨ n < 0 ∨ 4096 < n
  · have hways : Pg.great l = true ∨ Pg.great l = false ∧ decide (n < 0) = true ∨ Pg.great l = false ∧ decide (n < 0) = false ∧ decide (4096 < n) = true := by
      cases h : Pg.great l with
      | true => exact .inl rfl
      | false =>
        rw [h] at hg
        by_cases h2 : n < 0
        · exact .inr (.inl ⟨rfl, by simpa using h2⟩)
        · exact .inr (.inr ⟨rfl, by simpa using h2, by simp at hg; simp; omega⟩)
    clear hg
    rcases hways with g | ⟨g, d1⟩ | ⟨g, d1, d2⟩
    all_goals
      have HG := Lib.hid g
      clear g
      go_enter Try.func13, Try.ntmps13
      go_wp2_with fail
      refine H.out.2.2.1.mono ?_
      rw [HG.out]
      rintro e w1 ⟨rfl, hb1⟩
      have H1 := Lib.hid (H.out.1.trans (hb1.mono H.out.1.size))
      clear hb1
      go_wp2_with fail
      refine (awake11_any w1).mono ?_
      rintro e w2 ⟨rfl, hb2⟩
      have H2 := Lib.hid (H1.out.trans (hb2.mono H1.out.size))
      clear hb2
      go_wp2_with fail
      go_ret
      exact ⟨rfl, H2.out⟩
  · have hgf : Pg.great l = false := by
      cases h : Pg.great l with
      | true => exact absurd (.inl h) hg
      | false => rfl
    have d1 : decide (n < 0) = false := by simp; omega
    have d2 : decide (4096 < n) = false := by simp; omega
    have hm20 : m ≤ 20 := by rw [← H.out.2.2.2.2]; exact great_not hgf
    have hbm := bad_may (n := n) (lsn := lsn) (l := l) (by omega) (by omega)
    have hn0 : 0 ≤ n ∧ n ≤ 4096 := by omega
    obtain ⟨x, hx⟩ : ∃ x : Int, (if Pg.may lsn l = true then (2 : Int) else 1) = x := ⟨_, rfl⟩
    rw [hx] at hbm
    have hxx : (x = 2 ∧ Pg.may lsn l = true) ∨ (x = 1 ∧ Pg.may lsn l = false) := by
      cases h : Pg.may lsn l with
      | true => rw [if_pos h] at hx; exact .inl ⟨hx.symm, rfl⟩
      | false => rw [if_neg (by rw [h]; simp)] at hx; exact .inr ⟨hx.symm, rfl⟩
    have HG := Lib.hid (And.intro hgf (And.intro hbm hxx))
    clear hg hgf hbm hx hxx
    go_enter Try.func13, Try.ntmps13
    go_wp2_with fail
    generalize hW0 : w.alloc (.cells (pCells lsn A m c) 24) = W0 at *
    clear hW0
    refine H.out.2.2.1.mono ?_
    rw [HG.out.1]
    rintro e w1 ⟨rfl, hb1⟩
    have hk1 := H.out.2.1.below hb1 H.out.2.1.lt
    have hbw1 := H.out.1.trans (hb1.mono H.out.1.size)
    have c0 : w1.cell? ⟨w.heap.size, 0, none⟩ = some (.int .i64 lsn) := hk1.cell 0
    have c1 : w1.cell? ⟨w.heap.size, 1, none⟩ = some (.slice A m c) := hk1.cell 1
    have H1 := Lib.hid (And.intro hk1 hbw1)
    clear hb1 hk1 hbw1
    go_wp2_with fail
    refine (copy10_any lsn A m c l w1 (H.out.2.2.2.1.below H1.out.2) (by omega)).mono ?_
    rintro e w2 ⟨A2, d2', rfl, ho2, hb2⟩
    have hst2 := ST.of_own cellK_len (by decide) ho2 (fun x hx => H.out.2.2.2.1.ok x hx)
    simp only [H.out.2.2.2.2] at hst2 ⊢
    have hbw2 := H1.out.2.trans (hb2.mono H1.out.2.size)
    have H2 := Lib.hid (And.intro hst2 (And.intro (H1.out.1.below hb2 H1.out.1.lt) hbw2))
    clear ho2 hst2 hb2 hbw2 c0 c1
    go_wp2_with fail
    have hsv := ssave_nil 0 n 1 lsn A2 m d2' l w2 H2.out.1 (by omega) ⟨hl1, hl2⟩
    rw [HG.out.2.1] at hsv
    refine hsv.mono ?_
    clear hsv
    rintro e w3 ⟨rfl, hb3⟩
    have H3 := Lib.hid (And.intro (H2.out.2.1.below hb3 H2.out.2.1.lt) (H2.out.2.2.trans (hb3.mono H2.out.2.2.size)))
    clear hb3
    go_wp2_with fail
    refine (nil_sload n hn0 w3).mono ?_
    rintro e w4 ⟨A4, c4, rfl, ho4, hb4⟩
    have hb5 : ∀ o, Below w3.heap.size w3 (w4.alloc o) := fun o => hb4.alloc hb4.size o
    have H5 := Lib.hid hb5
    clear ho4 hb4 hb5
    unfold Sp.none_
    go_wp2_with fail
    have hbw5 := H3.out.2.trans ((H5.out (.cells (pCells 0 A4 0 c4) 24)).mono H3.out.2.size)
    have hk5 := H3.out.1.below (H5.out (.cells (pCells 0 A4 0 c4) 24)) H3.out.1.lt
    have HH5 := Lib.hid (And.intro hk5 hbw5)
    clear hbw5 hk5 H5
    generalize w4.alloc (.cells #[.int .i64 0, .slice A4 0 c4] 24) = w5 at *
    refine (own_new 2 (by omega) w5 w5 (Below.refl _ _)).mono ?_
    rintro e w6 ⟨p2, rfl, ho6⟩
    have H6 := Lib.hid ho6
    clear ho6
    go_wp2_with fail
    refine (own_fuse H6.out 0).mono ?_
    rintro e w7 ⟨rfl, ho7⟩
    have H7 := Lib.hid ho7
    clear ho7
    go_wp2_with fail
    refine (own_sync H7.out ok2 (by simp [Dk.fused, Dk.new])).mono ?_
    rw [show (Dk.sync (Dk.fused (Dk.new 2) 0)).1 = 40 from rfl, show (Dk.sync (Dk.fused (Dk.new 2) 0)).2 = dn from rfl]
    rintro e w8 ⟨rfl, ho8⟩
    have H8 := Lib.hid ho8
    clear ho8
    go_wp2_with fail
    have hld := own_sload H8.out 0 0 okn
    rw [load3] at hld
    refine hld.mono ?_
    clear hld
    rintro e w9 ⟨A9, c9, rfl, ho9, hb9⟩
    have hb59 := (H8.out.grow hb9).1
    have hb510 : Below w5.heap.size w5 (w9.alloc (.cells (pCells 0 A9 0 c9) 24)) := hb59.alloc hb59.size _
    have hk10 := HH5.out.1.below hb510 HH5.out.1.lt
    have hbw10 := HH5.out.2.trans (hb510.mono HH5.out.2.size)
    have c0 : (w9.alloc (.cells (pCells 0 A9 0 c9) 24)).cell? ⟨w.heap.size, 0, none⟩ = some (.int .i64 lsn) := hk10.cell 0
    have c1 : (w9.alloc (.cells (pCells 0 A9 0 c9) 24)).cell? ⟨w.heap.size, 1, none⟩ = some (.slice A m c) := hk10.cell 1
    have hlt9 : w.heap.size < w9.heap.size := by have := HH5.out.1.lt; have := hb59.size; omega
    have hmy := refMay10_any lsn A m c l (w9.alloc (.cells (pCells 0 A9 0 c9) 24)) (H.out.2.2.2.1.below hbw10) (by omega)
    have H10 := Lib.hid (And.intro hmy hbw10)
    clear ho9 hb9 hb59 hb510 hk10 hbw10 hmy
    unfold Sp.none_
    rcases HG.out.2.2 with ⟨rfl, hm⟩ | ⟨rfl, hm⟩
    · have HM := Lib.hid hm
      clear hm
      go_wp2_with fail
      refine H10.out.1.mono ?_
      rw [HM.out]
      rintro e w11 ⟨rfl, hb11⟩
      have H11 := Lib.hid (H10.out.2.trans (hb11.mono H10.out.2.size))
      clear hb11
      go_wp2_with fail
      refine (awake11_any w11).mono ?_
      rintro e w12 ⟨rfl, hb12⟩
      have H12 := Lib.hid (H11.out.trans (hb12.mono H11.out.size))
      clear hb12
      go_wp2_with fail
      go_ret
      exact ⟨rfl, H12.out⟩
    · have HM := Lib.hid hm
      clear hm
      go_wp2_with fail
      refine H10.out.1.mono ?_
      rw [HM.out]
      rintro e w11 ⟨rfl, hb11⟩
      have H11 := Lib.hid (H10.out.2.trans (hb11.mono H10.out.2.size))
      clear hb11
      go_wp2_with fail
      refine (awake11_any w11).mono ?_
      rintro e w12 ⟨rfl, hb12⟩
      have H12 := Lib.hid (H11.out.trans (hb12.mono H11.out.size))
      clear hb12
      go_wp2_with fail
      go_ret
      exact ⟨rfl, H12.out⟩

theorem own : ownKnob Try.prog.godebug = none := by kernel_rfl
theorem laidOut : laidOutB Try.prog = true := by kernel_rfl
theorem params_ok : ∀ t ∈ Try.f13.params.toList, Try.prog.readableRec t = true ∧ t < Try.prog.types.size := by
  rw [Try.params13]
  intro t ht
  have ht' : t = 3 ∨ t = 24 := by
    simpa using ht
  rcases ht' with rfl | rfl
  · exact ⟨(show Try.prog.readableRec 3 = true by kernel_rfl), of_decide_eq_true (show decide (3 < Try.prog.types.size) = true by kernel_rfl)⟩
  · exact ⟨(show Try.prog.readableRec 24 = true by kernel_rfl), of_decide_eq_true (show decide (24 < Try.prog.types.size) = true by kernel_rfl)⟩

set_option maxRecDepth 100000 in
theorem contract (H : Type) (enc : TypeId × Value → H) (W : World) (base : Nat) (args : Array Value) (ds gs : List (DataW H)) (before : List MemPlace)
    (hval : ∀ (j : Nat) t v, Try.f13.params[j]? = some t → args[j]? = some v → Value.okWide Try.prog W .any base t v)
    (hW : DataW.Whole enc Try.prog Try.f13.params.toList Rows.slotNilSpec.vars false W args.toList ds gs before) :
    Calls Try.prog 13 args W fun e W' => ∃ v, e = .returned v ∧ Rows.slotNilSpec.post enc Try.prog Try.f13 false true false false W args v W' := by
  have hW' := hW
  obtain ⟨p, q, hA0, hV, rfl, hfz, hnd⟩ := hW
  have hA : DataW.TrodAll enc Try.prog W 0 (fun _ => true) true Try.f13.params.toList args.toList ds p := hA0
  rw [Try.params13] at hA hval
  obtain ⟨v0, vs0, d0, ds0, p0, q0, hargs, rfl, rfl, h0, r0⟩ := trodAll_cons hA
  obtain ⟨v1, vs1, d1, ds1, p1, q1, rfl, rfl, rfl, h1, r1⟩ := trodAll_cons r0
  obtain ⟨rfl, rfl, rfl⟩ := trodAll_nil r1
  obtain rfl : args = #[v0, v1] := by cases args; simp_all
  obtain ⟨rfl, rfl⟩ := trodVars_none hV
  obtain ⟨x0, rfl, rfl, rfl, w0⟩ := open_int Try.underlying3 (hval 0 3 v0 rfl rfl) h0
  have b0 := bounds_i64 w0
  obtain ⟨x1, A1, n1, c1, l1, rfl, xb1, lh1, nc1, cm1⟩ := open_page (hval 1 24 v1 rfl rfl) h1
  refine (walk x0 x1 A1 n1 c1 l1 W b0.1 b0.2 lh1 nc1 cm1 xb1.1 xb1.2).mono fun e W' ⟨he, bel⟩ => ?_
  exact ⟨_, he, post_true laidOut Try.underlying4 (show Try.f13.resultTypes = #[4] from rfl) params_ok rfl hW' rfl bel⟩

theorem laid_met (os : Os) : laidMet Try.prog Rows.slotNilRow.laid ((World.holding Try.prog os ⟨#[], #[], []⟩).forCall (fun _ _ => 0) ⟨#[], #[.int .i64 0, .agg #[.int .i64 0, .slice none 0 0]], []⟩).memory :=
  laidMet_of_run' 8 (by kernel_rfl) (by kernel_rfl)
theorem reads (os : Os) {H : Type} (enc : TypeId × Value → H) : ∃ places, DataW.whole enc Try.prog ((World.holding Try.prog os ⟨#[], #[], []⟩).forCall (fun _ _ => 0) ⟨#[], #[.int .i64 0, .agg #[.int .i64 0, .slice none 0 0]], []⟩).memory Try.f13.params.toList Rows.slotNilSpec.vars false (#[Value.int .i64 0, Value.agg #[.int .i64 0, .slice none 0 0]] : Array Value).toList 8 = some ([.lit (.int .i64 0), .agg [.lit (.int .i64 0), .nil]], [], places) :=
  ⟨[], by kernel_rfl⟩
set_option maxRecDepth 100000 in
theorem lifted (os : Os) (started : os.Started) (H : Type) (enc : TypeId × Value → H) (F : Stop.Interp) :
    ReturnsInHanded {} Try.checked os 13 .any ((OpenSpec.ofChange Rows.slotNilSpec).preRow enc Try.prog Try.f13 Rows.slotNilRow.domain false Rows.slotNilRow.laid) (((OpenSpec.ofChange Rows.slotNilSpec).at F).post enc Try.prog Try.f13 false true false false) := by
  obtain ⟨places, hx⟩ := reads os enc
  refine returnsInHanded_of_row (C := Try.checked) (s := OpenSpec.ofChange Rows.slotNilSpec) own started (by kernel_rfl) Try.func13
    (witness_row_at (enc := enc) (C := Try.checked) false (World.holding Try.prog os ⟨#[], #[], []⟩) #[.int .i64 0, .agg #[.int .i64 0, .slice none 0 0]] rfl (by kernel_rfl) (by kernel_rfl) (by kernel_rfl)
      (OpenSpec.preRow_of_cond 8 hx (by kernel_rfl) (fun k hk => by cases hk) (by kernel_rfl) (laid_met os))) ?_
  intro W base args ds gs before hval hW _ _ hsz hL _ _
  exact contract H enc W base args ds gs before hval hW
theorem said : Rows.SlotNilSaid :=
  OpenClaim.holds_of_cond 13 Try.f13 rfl rfl rfl rfl rfl rfl rfl ⟨rfl, rfl, rfl, rfl, rfl⟩ rfl rfl rfl rfl rfl (by kernel_rfl) Try.func13 (by kernel_rfl)
    (of_decide_eq_true (by kernel_rfl)) (by unfold Func.isWrapper; first | (rw [if_pos (by decide +kernel)]; kernel_rfl) | (rw [if_neg (by decide +kernel)]; exact ⟨rfl, rfl⟩))
    (fun os started H enc _ F => by rw [OpenClaim.pre_eq_preRow]; exact lifted os started H enc F)
#print axioms said
end Go.Proofs.Ytfcmlfcpgboigaa.slotNil
