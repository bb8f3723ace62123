/- MsgNumbers: a transaction's number is the document's, or the error, and tells the node; unlike ones are of unlike incs, counts or nodes; no condition. -/
import Derived.Test.YtlpdjpkdgagjpaaDoorMsgEnc
import Derived.Test.YtlpdjpkdgagjpaaDoorLift
import Derived.Test.YtlpdjpkdgagjpaaDoorCards
import Derived.Test.YtlpdjpkdgagjpaaDoorTie
import Derived.Lib.LaidTab
namespace Go.Proofs.YtlpdjpkdgagjpaaDoor.msgNumbers
open Go.ChangeShapes Go.WideShapes Go.ChangeAt Go.RowKit Mem Lift
set_option maxRecDepth 100000
set_option linter.unusedVariables false
set_option linter.unusedSimpArgs false

theorem number_cases (a b c : Int) : (((Mg.number a b c).2 : Nat) : Int) = 1 ∨ (((Mg.number a b c).2 : Nat) : Int) = 0 ∧ (Mg.number a b c).1 = (a * 65536 + b) * 8 + c ∧ 1 ≤ a ∧ a ≤ 1048576 ∧ 0 ≤ b ∧ b < 65536 ∧ 0 ≤ c ∧ c < 8 := by
  unfold Mg.number
  by_cases h : 1 ≤ a ∧ a ≤ 1048576 ∧ 0 ≤ b ∧ b < 65536 ∧ Rc.node c = true
  · rw [if_pos h]
    have := node_bounds h.2.2.2.2
    exact .inr ⟨rfl, rfl, h.1, h.2.1, h.2.2.1, h.2.2.2.1, this.1, this.2⟩
  · rw [if_neg h]; exact .inl rfl
set_option maxHeartbeats 8000000 in
theorem walk (a b c x y z : Int) (w : World) (a0 : -9223372036854775808 ≤ a) (a1 : a ≤ 9223372036854775807) (b0 : -9223372036854775808 ≤ b) (b1 : b ≤ 9223372036854775807) (c0 : -9223372036854775808 ≤ c) (c1 : c ≤ 9223372036854775807)
    (x0 : -9223372036854775808 ≤ x) (x1 : x ≤ 9223372036854775807) (y0 : -9223372036854775808 ≤ y) (y1 : y ≤ 9223372036854775807) (z0 : -9223372036854775808 ≤ z) (z1 : z ≤ 9223372036854775807) (ht : Half w) :
    Calls Tryd.prog 3 #[.int .i64 a, .int .i64 b, .int .i64 c, .int .i64 x, .int .i64 y, .int .i64 z] w fun e w' => e = .returned (.bool true) ∧ Below w.heap.size w w' := by
  have h1 := mnumber_any a b c w
  have h2 := rnumber_any a b c w
  have h3 := mnumber_any x y z w
  have h4 := mnodeof_any a w ⟨a0, a1⟩
  have h5 := awake19_any w ht
  have hn1 := number_cases a b c
  have hn2 := number_cases x y z
  generalize Mg.number a b c = N at *
  generalize Mg.number x y z = K at *
  obtain ⟨n, e⟩ := N
  obtain ⟨k, g⟩ := K
  simp only at h1 h2 h3 hn1 hn2
  generalize ((e : Nat) : Int) = E at *
  generalize ((g : Nat) : Int) = G at *
  have h6 := fun hb => mnodeof_any n w hb
  have HA := Lib.hid (And.intro h1 (And.intro h2 (And.intro h3 (And.intro h4 (And.intro h5 h6)))))
  clear h1 h2 h3 h4 h5 h6 ht
  -- how the node of a number is told
  have hna : (a < 0 ∧ Mg.nodeOf a = 0) ∨ (0 ≤ a ∧ Mg.nodeOf a = a % 8 ∧ a.tmod 8 = a % 8) := by
    unfold Mg.nodeOf
    by_cases h : a < 0
    · exact .inl ⟨h, by rw [show max a 0 = 0 by omega]; rfl⟩
    · exact .inr ⟨by omega, by rw [show max a 0 = a by omega], Int.tmod_eq_emod_of_nonneg (by omega)⟩
  have hways : E = 1 ∨ (E = 0 ∧ Mg.nodeOf n = c ∧ -9223372036854775808 ≤ n ∧ n ≤ 9223372036854775807 ∧ (G = 1 ∨ (G = 0 ∧ (a = x ∧ b = y ∧ c = z ∧ n = k ∨ n ≠ k ∧ (a ≠ x ∨ a = x ∧ b ≠ y ∨ a = x ∧ b = y ∧ c ≠ z))))) := by
    rcases hn1 with h | ⟨h, hN, ha1, ha2, hb1, hb2, hc1, hc2⟩
    · exact .inl h
    · refine .inr ⟨h, ?_, by omega, by omega, ?_⟩
      · unfold Mg.nodeOf; omega
      · rcases hn2 with h' | ⟨h', hK, hx1, hx2, hy1, hy2, hz1, hz2⟩
        · exact .inl h'
        · refine .inr ⟨h', ?_⟩
          by_cases hall : a = x ∧ b = y ∧ c = z
          · obtain ⟨rfl, rfl, rfl⟩ := hall
            exact .inl ⟨rfl, rfl, rfl, by omega⟩
          · refine .inr ⟨by omega, by omega⟩
  clear hn1 hn2 b0 b1 c0 c1 x0 x1 y0 y1 z0 z1
  have HN := Lib.hid hna
  clear hna
  rcases hways with rfl | ⟨rfl, hnd, hnl, hnh, hg⟩
  · go_enter Tryd.func3, Tryd.ntmps3
    go_wp2_with fail
    refine HA.out.1.mono ?_
    rintro e1 w1 ⟨rfl, rfl⟩
    go_wp2_with fail
    refine HA.out.2.1.mono ?_
    rintro e1 w1 ⟨rfl, rfl⟩
    go_wp2_with fail
    refine HA.out.2.2.1.mono ?_
    rintro e1 w1 ⟨rfl, rfl⟩
    go_wp2_with fail
    refine HA.out.2.2.2.1.mono ?_
    rcases HN.out with ⟨n1, n2⟩ | ⟨n1, n2, n3⟩
    · rw [n2]
      have m1 : decide (a < 0) = true := by simpa using n1
      clear n1
      have N2 := Lib.hid n2
      clear n2
      rintro e1 w1 ⟨rfl, rfl⟩
      cases h8 : ((0 : Int) == a.tmod 8) with
      | true =>
        go_wp2_with fail
        refine HA.out.2.2.2.2.1.mono ?_
        rintro e1 w1 ⟨rfl, hb1⟩
        have H1 := Lib.hid hb1
        clear hb1
        go_wp2_with fail
        go_ret
        exact ⟨rfl, H1.out⟩
      | false =>
        go_wp2_with fail
        refine HA.out.2.2.2.1.mono ?_
        rw [N2.out]
        rintro e1 w1 ⟨rfl, rfl⟩
        go_wp2_with fail
        refine HA.out.2.2.2.2.1.mono ?_
        rintro e1 w1 ⟨rfl, hb1⟩
        have H1 := Lib.hid hb1
        clear hb1
        go_wp2_with fail
        go_ret
        exact ⟨rfl, H1.out⟩
    · rw [n2]
      clear n2 n3
      rintro e1 w1 ⟨rfl, rfl⟩
      go_wp2_with fail
      refine HA.out.2.2.2.2.1.mono ?_
      rintro e1 w1 ⟨rfl, hb1⟩
      have H1 := Lib.hid hb1
      clear hb1
      go_wp2_with fail
      go_ret
      exact ⟨rfl, H1.out⟩
  · have HB := Lib.hid (And.intro (And.intro hnl hnh) hnd)
    clear hnd hnl hnh
    rcases hg with rfl | ⟨rfl, hq⟩
    · go_enter Tryd.func3, Tryd.ntmps3
      go_wp2_with fail
      refine HA.out.1.mono ?_
      rintro e1 w1 ⟨rfl, rfl⟩
      go_wp2_with fail
      refine HA.out.2.1.mono ?_
      rintro e1 w1 ⟨rfl, rfl⟩
      go_wp2_with fail
      refine HA.out.2.2.1.mono ?_
      rintro e1 w1 ⟨rfl, rfl⟩
      go_wp2_with fail
      refine (HA.out.2.2.2.2.2 HB.out.1).mono ?_
      rw [HB.out.2]
      rintro e1 w1 ⟨rfl, rfl⟩
      go_wp2_with fail
      refine HA.out.2.2.2.1.mono ?_
      rcases HN.out with ⟨n1, n2⟩ | ⟨n1, n2, n3⟩
      · rw [n2]
        have m1 : decide (a < 0) = true := by simpa using n1
        clear n1
        have N2 := Lib.hid n2
        clear n2
        rintro e1 w1 ⟨rfl, rfl⟩
        cases h8 : ((0 : Int) == a.tmod 8) with
        | true =>
          go_wp2_with fail
          refine HA.out.2.2.2.2.1.mono ?_
          rintro e1 w1 ⟨rfl, hb1⟩
          have H1 := Lib.hid hb1
          clear hb1
          go_wp2_with fail
          go_ret
          exact ⟨rfl, H1.out⟩
        | false =>
          go_wp2_with fail
          refine HA.out.2.2.2.1.mono ?_
          rw [N2.out]
          rintro e1 w1 ⟨rfl, rfl⟩
          go_wp2_with fail
          refine HA.out.2.2.2.2.1.mono ?_
          rintro e1 w1 ⟨rfl, hb1⟩
          have H1 := Lib.hid hb1
          clear hb1
          go_wp2_with fail
          go_ret
          exact ⟨rfl, H1.out⟩
      · rw [n2]
        clear n2 n3
        rintro e1 w1 ⟨rfl, rfl⟩
        go_wp2_with fail
        refine HA.out.2.2.2.2.1.mono ?_
        rintro e1 w1 ⟨rfl, hb1⟩
        have H1 := Lib.hid hb1
        clear hb1
        go_wp2_with fail
        go_ret
        exact ⟨rfl, H1.out⟩
    · rcases hq with ⟨rfl, rfl, rfl, rfl⟩ | ⟨hk, hq⟩
      · go_enter Tryd.func3, Tryd.ntmps3
        go_wp2_with fail
        refine HA.out.1.mono ?_
        rintro e1 w1 ⟨rfl, rfl⟩
        go_wp2_with fail
        refine HA.out.2.1.mono ?_
        rintro e1 w1 ⟨rfl, rfl⟩
        go_wp2_with fail
        refine HA.out.2.2.1.mono ?_
        rintro e1 w1 ⟨rfl, rfl⟩
        go_wp2_with fail
        refine (HA.out.2.2.2.2.2 HB.out.1).mono ?_
        rw [HB.out.2]
        rintro e1 w1 ⟨rfl, rfl⟩
        go_wp2_with fail
        refine HA.out.2.2.2.1.mono ?_
        rcases HN.out with ⟨n1, n2⟩ | ⟨n1, n2, n3⟩
        · rw [n2]
          have m1 : decide (a < 0) = true := by simpa using n1
          clear n1
          have N2 := Lib.hid n2
          clear n2
          rintro e1 w1 ⟨rfl, rfl⟩
          cases h8 : ((0 : Int) == a.tmod 8) with
          | true =>
            go_wp2_with fail
            refine HA.out.2.2.2.2.1.mono ?_
            rintro e1 w1 ⟨rfl, hb1⟩
            have H1 := Lib.hid hb1
            clear hb1
            go_wp2_with fail
            go_ret
            exact ⟨rfl, H1.out⟩
          | false =>
            go_wp2_with fail
            refine HA.out.2.2.2.1.mono ?_
            rw [N2.out]
            rintro e1 w1 ⟨rfl, rfl⟩
            go_wp2_with fail
            refine HA.out.2.2.2.2.1.mono ?_
            rintro e1 w1 ⟨rfl, hb1⟩
            have H1 := Lib.hid hb1
            clear hb1
            go_wp2_with fail
            go_ret
            exact ⟨rfl, H1.out⟩
        · rw [n2]
          clear n2 n3
          rintro e1 w1 ⟨rfl, rfl⟩
          go_wp2_with fail
          refine HA.out.2.2.2.2.1.mono ?_
          rintro e1 w1 ⟨rfl, hb1⟩
          have H1 := Lib.hid hb1
          clear hb1
          go_wp2_with fail
          go_ret
          exact ⟨rfl, H1.out⟩
      · have k1 : (n == k) = false := by simpa using hk
        have hq2 : (a == x) = false ∨ (a == x) = true ∧ (b == y) = false ∨ (a == x) = true ∧ (b == y) = true ∧ (c == z) = false := by simpa using hq
        clear hq hk
        rcases hq2 with q1 | ⟨q1, q2⟩ | ⟨q1, q2, q3⟩
        all_goals
          go_enter Tryd.func3, Tryd.ntmps3
          go_wp2_with fail
          refine HA.out.1.mono ?_
          rintro e1 w1 ⟨rfl, rfl⟩
          go_wp2_with fail
          refine HA.out.2.1.mono ?_
          rintro e1 w1 ⟨rfl, rfl⟩
          go_wp2_with fail
          refine HA.out.2.2.1.mono ?_
          rintro e1 w1 ⟨rfl, rfl⟩
          go_wp2_with fail
          refine (HA.out.2.2.2.2.2 HB.out.1).mono ?_
          rw [HB.out.2]
          rintro e1 w1 ⟨rfl, rfl⟩
          go_wp2_with fail
          refine HA.out.2.2.2.1.mono ?_
          rcases HN.out with ⟨n1, n2⟩ | ⟨n1, n2, n3⟩
          · rw [n2]
            have m1 : decide (a < 0) = true := by simpa using n1
            clear n1
            have N2 := Lib.hid n2
            clear n2
            rintro e1 w1 ⟨rfl, rfl⟩
            cases h8 : ((0 : Int) == a.tmod 8) with
            | true =>
              go_wp2_with fail
              refine HA.out.2.2.2.2.1.mono ?_
              rintro e1 w1 ⟨rfl, hb1⟩
              have H1 := Lib.hid hb1
              clear hb1
              go_wp2_with fail
              go_ret
              exact ⟨rfl, H1.out⟩
            | false =>
              go_wp2_with fail
              refine HA.out.2.2.2.1.mono ?_
              rw [N2.out]
              rintro e1 w1 ⟨rfl, rfl⟩
              go_wp2_with fail
              refine HA.out.2.2.2.2.1.mono ?_
              rintro e1 w1 ⟨rfl, hb1⟩
              have H1 := Lib.hid hb1
              clear hb1
              go_wp2_with fail
              go_ret
              exact ⟨rfl, H1.out⟩
          · rw [n2]
            clear n2 n3
            rintro e1 w1 ⟨rfl, rfl⟩
            go_wp2_with fail
            refine HA.out.2.2.2.2.1.mono ?_
            rintro e1 w1 ⟨rfl, hb1⟩
            have H1 := Lib.hid hb1
            clear hb1
            go_wp2_with fail
            go_ret
            exact ⟨rfl, H1.out⟩

theorem own : ownKnob Tryd.prog.godebug = none := by kernel_rfl
theorem laidOut : laidOutB Tryd.prog = true := by kernel_rfl
theorem params_ok : ∀ t ∈ Tryd.f3.params.toList, Tryd.prog.readableRec t = true ∧ t < Tryd.prog.types.size := by
  rw [Tryd.params3]
  intro t ht
  have ht' : t = 3 := by
    simpa using ht
  subst ht'
  exact ⟨(show Tryd.prog.readableRec 3 = true by kernel_rfl), of_decide_eq_true (show decide (3 < Tryd.prog.types.size) = true by kernel_rfl)⟩
theorem gTab : Tryd.prog.globalNamed "troth/crc.half" = some 0 := by kernel_rfl
theorem gTabType : (Tryd.prog.globals[0]?).map (·.type) = some 172 := by kernel_rfl
theorem cellsTab : Tryd.prog.cellsOf 172 = 16 := by kernel_rfl
theorem cells32 : Tryd.prog.cellsOf 71 = 1 := by kernel_rfl
theorem table {W : World} (h : laidMetH Tryd.prog Rows.msgNumbersRow.laid W) : Half W := by
  have h1 : Lib.TabIs Tryd.prog W "troth/crc.half" .u32 (Crc.tab.map (fun n : Nat => (n : Int))) :=
    Lib.tabIs_of_head (rest := []) gTab gTabType Tryd.underlying172 Tryd.underlying71 cells32 cellsTab h
  intro i hi
  have h2 := h1.cell gTab i (by rw [List.length_map]; exact hi)
  rw [h2]
  have hi' : i < Crc.tab.length := hi
  rw [List.getD_eq_getElem?_getD, List.getElem?_map, List.getD_eq_getElem?_getD, List.getElem?_eq_getElem hi']
  rfl

set_option maxRecDepth 100000 in
theorem contract (H : Type) (enc : TypeId × Value → H) (W : World) (base : Nat) (args : Array Value) (ds gs : List (DataW H)) (before : List MemPlace)
    (hval : ∀ (j : Nat) t v, Tryd.f3.params[j]? = some t → args[j]? = some v → Value.okWide Tryd.prog W .any base t v)
    (hW : DataW.Whole enc Tryd.prog Tryd.f3.params.toList Rows.msgNumbersSpec.vars false W args.toList ds gs before) (hL : laidMetH Tryd.prog Rows.msgNumbersRow.laid W) :
    Calls Tryd.prog 3 args W fun e W' => ∃ v, e = .returned v ∧ Rows.msgNumbersSpec.post enc Tryd.prog Tryd.f3 false true false false W args v W' := by
  have hW' := hW
  obtain ⟨p, q, hA0, hV, rfl, hfz, hnd⟩ := hW
  have hA : DataW.TrodAll enc Tryd.prog W 0 (fun _ => true) true Tryd.f3.params.toList args.toList ds p := hA0
  rw [Tryd.params3] at hA hval
  obtain ⟨v0, vs0, d0, ds0, p0, q0, hargs, rfl, rfl, h0, r0⟩ := trodAll_cons hA
  obtain ⟨v1, vs1, d1, ds1, p1, q1, rfl, rfl, rfl, h1, r1⟩ := trodAll_cons r0
  obtain ⟨v2, vs2, d2, ds2, p2, q2, rfl, rfl, rfl, h2, r2⟩ := trodAll_cons r1
  obtain ⟨v3, vs3, d3, ds3, p3, q3, rfl, rfl, rfl, h3, r3⟩ := trodAll_cons r2
  obtain ⟨v4, vs4, d4, ds4, p4, q4, rfl, rfl, rfl, h4, r4⟩ := trodAll_cons r3
  obtain ⟨v5, vs5, d5, ds5, p5, q5, rfl, rfl, rfl, h5, r5⟩ := trodAll_cons r4
  obtain ⟨rfl, rfl, rfl⟩ := trodAll_nil r5
  obtain rfl : args = #[v0, v1, v2, v3, v4, v5] := by cases args; simp_all
  obtain ⟨rfl, rfl⟩ := trodVars_none hV
  obtain ⟨x0, rfl, rfl, rfl, w0⟩ := open_int Tryd.underlying3 (hval 0 3 v0 rfl rfl) h0
  have b0 := bounds_i64 w0
  obtain ⟨x1, rfl, rfl, rfl, w1⟩ := open_int Tryd.underlying3 (hval 1 3 v1 rfl rfl) h1
  have b1 := bounds_i64 w1
  obtain ⟨x2, rfl, rfl, rfl, w2⟩ := open_int Tryd.underlying3 (hval 2 3 v2 rfl rfl) h2
  have b2 := bounds_i64 w2
  obtain ⟨x3, rfl, rfl, rfl, w3⟩ := open_int Tryd.underlying3 (hval 3 3 v3 rfl rfl) h3
  have b3 := bounds_i64 w3
  obtain ⟨x4, rfl, rfl, rfl, w4⟩ := open_int Tryd.underlying3 (hval 4 3 v4 rfl rfl) h4
  have b4 := bounds_i64 w4
  obtain ⟨x5, rfl, rfl, rfl, w5⟩ := open_int Tryd.underlying3 (hval 5 3 v5 rfl rfl) h5
  have b5 := bounds_i64 w5
  refine (walk x0 x1 x2 x3 x4 x5 W b0.1 b0.2 b1.1 b1.2 b2.1 b2.2 b3.1 b3.2 b4.1 b4.2 b5.1 b5.2 (table hL)).mono fun e W' ⟨he, bel⟩ => ?_
  exact ⟨_, he, post_true laidOut Tryd.underlying4 (show Tryd.f3.resultTypes = #[4] from rfl) params_ok rfl hW' rfl bel⟩

noncomputable def laidWorld (os : Os) : World :=
  { World.holding Tryd.prog os ⟨#[], #[], []⟩ with heap := (World.holding Tryd.prog os ⟨#[], #[], []⟩).heap.modify 0 fun
      | .cells _ t frozen => .cells #[.int .u32 0, .int .u32 498536548, .int .u32 997073096, .int .u32 651767980, .int .u32 1994146192, .int .u32 1802195444, .int .u32 1303535960, .int .u32 1342533948, .int .u32 3988292384, .int .u32 4027552580, .int .u32 3604390888, .int .u32 3412177804, .int .u32 2607071920, .int .u32 2262029012, .int .u32 2685067896, .int .u32 3183342108] t frozen
      | o => o }
theorem laid_met (os : Os) : laidMet Tryd.prog Rows.msgNumbersRow.laid ((laidWorld os).forCall (fun _ _ => 0) ⟨#[], #[.int .i64 0, .int .i64 0, .int .i64 0, .int .i64 0, .int .i64 0, .int .i64 0], []⟩).memory :=
  laidMet_of_run' 8 (by kernel_rfl) (by kernel_rfl)
theorem reads (os : Os) {H : Type} (enc : TypeId × Value → H) : ∃ places, DataW.whole enc Tryd.prog ((laidWorld os).forCall (fun _ _ => 0) ⟨#[], #[.int .i64 0, .int .i64 0, .int .i64 0, .int .i64 0, .int .i64 0, .int .i64 0], []⟩).memory Tryd.f3.params.toList Rows.msgNumbersSpec.vars false (#[Value.int .i64 0, Value.int .i64 0, Value.int .i64 0, Value.int .i64 0, Value.int .i64 0, Value.int .i64 0] : Array Value).toList 8 = some ([.lit (.int .i64 0), .lit (.int .i64 0), .lit (.int .i64 0), .lit (.int .i64 0), .lit (.int .i64 0), .lit (.int .i64 0)], [], places) :=
  ⟨[], by kernel_rfl⟩
set_option maxRecDepth 100000 in
theorem lifted (os : Os) (started : os.Started) (H : Type) (enc : TypeId × Value → H) (F : Stop.Interp) :
    ReturnsInHanded {} Tryd.checked os 3 .any ((OpenSpec.ofChange Rows.msgNumbersSpec).preRow enc Tryd.prog Tryd.f3 Rows.msgNumbersRow.domain false Rows.msgNumbersRow.laid) (((OpenSpec.ofChange Rows.msgNumbersSpec).at F).post enc Tryd.prog Tryd.f3 false true false false) := by
  obtain ⟨places, hx⟩ := reads os enc
  refine returnsInHanded_of_row (C := Tryd.checked) (s := OpenSpec.ofChange Rows.msgNumbersSpec) own started (by kernel_rfl) Tryd.func3
    (witness_row_at (enc := enc) (C := Tryd.checked) false (laidWorld os) #[.int .i64 0, .int .i64 0, .int .i64 0, .int .i64 0, .int .i64 0, .int .i64 0] rfl (by kernel_rfl) (by kernel_rfl) (by kernel_rfl)
      (OpenSpec.preRow_of_cond 8 hx (by kernel_rfl) (fun k hk => by cases hk) (by kernel_rfl) (laid_met os))) ?_
  intro W base args ds gs before hval hW _ _ hsz hL _ _
  exact contract H enc W base args ds gs before hval hW hL
theorem said : Rows.MsgNumbersSaid :=
  OpenClaim.holds_of_cond 3 Tryd.f3 rfl rfl rfl rfl rfl rfl rfl ⟨rfl, rfl, rfl, rfl, rfl⟩ rfl rfl rfl rfl rfl (by kernel_rfl) Tryd.func3 (by kernel_rfl)
    (of_decide_eq_true (by kernel_rfl)) (by unfold Func.isWrapper; first | (rw [if_pos (by decide +kernel)]; kernel_rfl) | (rw [if_neg (by decide +kernel)]; exact ⟨rfl, rfl⟩))
    (fun os started H enc _ F => by rw [OpenClaim.pre_eq_preRow]; exact lifted os started H enc F)
theorem plain (f : FuncId) (fn : Func) (hf : Tryd.pinned.checked.prog.funcNamed "troth/trothlaw19.MsgNumbers" = some f) (hfn : Tryd.pinned.checked.prog.funcs[f]? = some fn) :
    false = Tryd.pinned.checked.prog.looks [] ∧ ∀ (j : Nat) t, fn.params[j]? = some t → Tryd.pinned.checked.prog.wantsStandIn t = false := by
  obtain rfl : f = 3 := Option.some.inj ((show Tryd.prog.funcNamed "troth/trothlaw19.MsgNumbers" = some 3 by kernel_rfl).symm.trans hf) |>.symm
  obtain rfl : fn = Tryd.f3 := (Option.some.inj (Tryd.func3.symm.trans hfn)).symm
  refine ⟨by kernel_rfl, fun j t ht => ?_⟩
  rw [Tryd.params3] at ht
  have ht' : t = 3 := by simpa using Array.mem_of_getElem? ht
  subst ht'
  exact (show Tryd.prog.wantsStandIn 3 = false by kernel_rfl)
theorem card : Rows.MsgNumbersCardSaid :=
  Claim7.holds_tied_plain_at .later [] _ _ _ _ said (fun _ h => by cases h) (by kernel_rfl) (fun _ h => by cases h) msgNumbers_row_tie rfl ⟨rfl, rfl⟩ (by kernel_rfl) rfl plain (by kernel_rfl)
#print axioms card
end Go.Proofs.YtlpdjpkdgagjpaaDoor.msgNumbers
