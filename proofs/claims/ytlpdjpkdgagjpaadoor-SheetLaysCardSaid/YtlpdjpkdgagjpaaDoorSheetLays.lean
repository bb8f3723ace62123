/- SheetLays: what is laid is the document's, or the error; no condition. -/
import Derived.Test.YtlpdjpkdgagjpaaDoorSheetOpen
import Derived.Test.YtlpdjpkdgagjpaaDoorLift
import Derived.Test.YtlpdjpkdgagjpaaDoorCards
import Derived.Test.YtlpdjpkdgagjpaaDoorTie
import Derived.Lib.LaidTab
namespace Go.Proofs.YtlpdjpkdgagjpaaDoor.sheetLays
open Go.ChangeShapes Go.WideShapes Go.ChangeAt Go.RowKit Mem Lift
set_option linter.unusedVariables false
set_option linter.unusedSimpArgs false
set_option maxRecDepth 100000

set_option maxHeartbeats 8000000 in
theorem walk (inc pos : Int) (A : Option Addr) (n c : Nat) (ls : List Bd) (more : Int) (w : World) (i0 : -9223372036854775808 ≤ inc) (i1 : inc ≤ 9223372036854775807) (p0 : -9223372036854775808 ≤ pos) (p1 : pos ≤ 9223372036854775807) (hl : ST bodyK w A n ls) (hnc : n ≤ c) (hcm : c ≤ maxLen)
    (m0 : -9223372036854775808 ≤ more) (m1 : more ≤ 9223372036854775807) (ht : Half w) :
    Calls Tryd.prog 4 #[.int .i64 inc, .int .i64 pos, .slice A n c, .int .i64 more] w fun e w' => e = .returned (.bool true) ∧ Below w.heap.size w w' := by
  unfold maxLen at hcm
  have hgr := great08_any A n c ls w hl
  cases hg : Sh.great (bodiesOf ls) with
  | true =>
    rw [hg] at hgr
    have H := Lib.hid (And.intro hgr ht)
    clear hgr ht hl hg
    go_enter Tryd.func4, Tryd.ntmps4
    go_wp2_with fail
    refine H.out.1.mono ?_
    rintro e w1 ⟨rfl, rfl⟩
    go_wp2_with fail
    refine (awake08_any _ H.out.2).mono ?_
    rintro e w2 ⟨rfl, hb⟩
    have HB := Lib.hid hb
    clear hb
    go_wp2_with fail
    go_ret
    exact ⟨rfl, HB.out⟩
  | false =>
    rw [hg] at hgr
    obtain ⟨hf, hb40, hb15, _⟩ := Sh.flat_great hg
    have hn : n ≤ 40 := by rw [bodiesOf_length, hl.len] at hb40; exact hb40
    have hbl : (bodiesOf ls).length = n := by rw [bodiesOf_length, hl.len]
    have hlen := Sh.layR_len inc pos (bodiesOf ls)
    have hdat := Sh.layR_data inc pos (bodiesOf ls)
    obtain ⟨bs, hbs⟩ : ∃ bs, bs = bodiesOf ls := ⟨_, rfl⟩
    rw [← hbs] at hf hb15 hlen hdat hbl
    obtain ⟨R, hR⟩ : ∃ R, Sh.layR inc pos bs = R := ⟨_, rfl⟩
    rw [hR] at hlen hdat
    obtain ⟨l, er⟩ := R
    simp only at hlen hdat
    have hll : l.length ≤ 100000 := by omega
    have H := Lib.hid (And.intro hgr (And.intro ht (And.intro hl (And.intro hf (And.intro hb15 (And.intro hbs (And.intro hdat (And.intro hR hbl))))))))
    clear hgr ht hl hf hb15 hbs hdat hR hg hb40 hlen hbl
    go_enter Tryd.func4, Tryd.ntmps4
    go_wp2_with fail
    refine H.out.1.mono ?_
    rintro e w1 ⟨rfl, rfl⟩
    go_wp2_with fail
    refine (own08_any A n c ls bs _ H.out.2.2.2.2.2.1 H.out.2.2.1 (by omega) (fun b hb => by have := H.out.2.2.2.2.1 b hb; omega)).mono ?_
    rintro e w2 ⟨A2, c2, xs, rfl, hst2, hxs, hb2⟩
    have hl2 := lay_any inc pos A2 bs.length c2 xs bs w2 hxs.symm hst2 (by rw [H.out.2.2.2.2.2.2.2.2]; omega) (by have := H.out.2.2.2.1; omega) ⟨i0, i1⟩ ⟨p0, p1⟩ (H.out.2.1.below hb2)
    rw [H.out.2.2.2.2.2.2.2.1] at hl2
    have H2 := Lib.hid (And.intro hl2 hb2)
    clear hl2 hb2 hst2 hxs
    go_wp2_with fail
    refine H2.out.1.mono ?_
    rintro e w3 ⟨A3, c3, rfl, ho3, hb3⟩
    simp only at ho3 ⊢
    have hbb3 := below_of H2.out.2 H2.out.2.size hb3
    have hl3 := rlay_any inc pos A n c ls bs w3 H.out.2.2.2.2.2.1 (H.out.2.2.1.below hbb3) (by omega) (by have := H.out.2.2.2.1; omega) ⟨i0, i1⟩ ⟨p0, p1⟩
    rw [H.out.2.2.2.2.2.2.2.1] at hl3
    have H3 := Lib.hid (And.intro hl3 (And.intro hbb3 ho3))
    clear hl3 hbb3 ho3 hb3
    go_wp2_with fail
    refine H3.out.1.mono ?_
    rintro e w4 ⟨A4, c4, rfl, ho4, hb4⟩
    simp only at ho4 ⊢
    have hbb4 := below_of H3.out.2.1 H3.out.2.1.size hb4
    have hs4 : ∀ w5, Below w4.heap.size w4 w5 → Calls Tryd.prog 20 #[.slice A3 l.length c3, .slice A4 l.length c4] w5 fun e w' => e = .returned (.bool true) ∧ Drawn w5 w' := fun w5 hb5 => by
      have s3 := ST.of_own sheetK_len (by decide) (own_below (own_below H3.out.2.2 hb4) hb5) (fun x hx => H.out.2.2.2.2.2.2.1 x hx)
      have s4 := ST.of_own sheetK_len (by decide) (own_below ho4 hb5) (fun x hx => H.out.2.2.2.2.2.2.1 x hx)
      exact same08_eq A3 A4 l.length c3 c4 l w5 s3 s4 (by omega)
    have H4 := Lib.hid (And.intro hs4 hbb4)
    clear hs4 hbb4 ho4 hb4
    by_cases hm : 0 ≤ more ∧ more < 3
    · have hlz : ∃ (k : Nat) (ez : Nat), more = (k : Int) ∧ k ≤ 2 ∧ (Sh.layR 0 0 [List.replicate (4095 + k) 0]).2 = ez ∧ (k = 0 ∧ ez = 0 ∨ k = 1 ∧ ez = 0 ∨ k = 2 ∧ ez = 12) := by
        obtain ⟨k, rfl⟩ := Int.eq_ofNat_of_zero_le hm.1
        have hk : k = 0 ∨ k = 1 ∨ k = 2 := by omega
        rcases hk with rfl | rfl | rfl
        · exact ⟨0, 0, rfl, by omega, Sh.zeros_ok 4095 (by omega), by omega⟩
        · exact ⟨1, 0, rfl, by omega, Sh.zeros_ok 4096 (by omega), by omega⟩
        · exact ⟨2, 12, rfl, by omega, Sh.zeros_long, by omega⟩
      obtain ⟨k, ez, rfl, hk2, hez, hcmp⟩ := hlz
      obtain ⟨i8, hi8, hz0, hz1, hz2⟩ := info_parts ninfo8
      have hmk := run_make_lit (P := Tryd.prog) 38 5 i8 Tryd.underlying38 hi8 hz0 hz1 hz2 (4095 + k) (4095 + (k : Int)) (by omega) (by omega)
      obtain ⟨hbz, hlz⟩ := lay_zeros (4095 + k) (by omega) w4 (H.out.2.1.below H4.out.2)
      obtain ⟨Z, hZ⟩ : ∃ Z, Sh.layR 0 0 [List.replicate (4095 + k) 0] = Z := ⟨_, rfl⟩
      rw [hZ] at hlz hez
      obtain ⟨lz, ez'⟩ := Z
      simp only at hez
      subst hez
      have HZ := Lib.hid (And.intro hlz hbz)
      have hsz := mkB_size 5 (4095 + k) w4
      have hki : (k : Int) < 3 := by omega
      clear hlz hbz hZ hi8 hz0 hz1 hz2 hm
      go_wp2_with fail
      refine HZ.out.1.mono ?_
      rintro e w5 ⟨A5, c5, rfl, _, hb5⟩
      simp only
      have hb5' := below_of HZ.out.2 HZ.out.2.size hb5
      have H5 := Lib.hid (And.intro hb5' (below_of H4.out.2 H4.out.2.size hb5'))
      clear hb5 hb5' hsz hmk
      rcases hcmp with ⟨rfl, rfl⟩ | ⟨rfl, rfl⟩ | ⟨rfl, rfl⟩
      all_goals
        go_wp2_with fail
        refine (H4.out.1 _ H5.out.1).mono ?_
        rintro e w6 ⟨rfl, hd6⟩
        have H6 := Lib.hid (below_of H5.out.2 H5.out.2.size hd6.below)
        clear hd6
        go_wp2_with fail
        refine (awake08_any _ (H.out.2.1.below H6.out)).mono ?_
        rintro e w7 ⟨rfl, hb7⟩
        have H7 := Lib.hid (below_of H6.out H6.out.size hb7)
        clear hb7
        go_wp2_with fail
        go_ret
        exact ⟨rfl, H7.out⟩
    · have hways : decide (0 ≤ more) = false ∨ decide (0 ≤ more) = true ∧ decide (more < 3) = false := by
        by_cases h0 : 0 ≤ more
        · exact .inr ⟨by simpa using h0, by rw [decide_eq_false_iff_not]; exact fun h => hm ⟨h0, h⟩⟩
        · exact .inl (by simpa using h0)
      clear hm
      rcases hways with g | ⟨g, g2⟩
      all_goals
        go_wp2_with fail
        refine (H4.out.1 _ (Below.refl _ _)).mono ?_
        rintro e w6 ⟨rfl, hd6⟩
        have H6 := Lib.hid (below_of H4.out.2 H4.out.2.size hd6.below)
        clear hd6
        go_wp2_with fail
        refine (awake08_any _ (H.out.2.1.below H6.out)).mono ?_
        rintro e w7 ⟨rfl, hb7⟩
        have H7 := Lib.hid (below_of H6.out H6.out.size hb7)
        clear hb7
        go_wp2_with fail
        go_ret
        exact ⟨rfl, H7.out⟩

theorem own : ownKnob Tryd.prog.godebug = none := by kernel_rfl
theorem laidOut : laidOutB Tryd.prog = true := by kernel_rfl
theorem params_ok : ∀ t ∈ Tryd.f4.params.toList, Tryd.prog.readableRec t = true ∧ t < Tryd.prog.types.size := by
  rw [Tryd.params4]
  intro t ht
  have ht' : t = 3 ∨ t = 30 := by
    have ha : t = 3 ∨ t = 30 ∨ t = 3 := by simpa using ht
    rcases ha with h | h | h <;> simp [h]
  rcases ht' with rfl | rfl
  · exact ⟨(show Tryd.prog.readableRec 3 = true by kernel_rfl), of_decide_eq_true (show decide (3 < Tryd.prog.types.size) = true by kernel_rfl)⟩
  · exact ⟨(show Tryd.prog.readableRec 30 = true by kernel_rfl), of_decide_eq_true (show decide (30 < Tryd.prog.types.size) = true by kernel_rfl)⟩
theorem gTab : Tryd.prog.globalNamed "troth/crc.half" = some 0 := by kernel_rfl
theorem gTabType : (Tryd.prog.globals[0]?).map (·.type) = some 172 := by kernel_rfl
theorem cellsTab : Tryd.prog.cellsOf 172 = 16 := by kernel_rfl
theorem cells32 : Tryd.prog.cellsOf 71 = 1 := by kernel_rfl
theorem table {W : World} (h : laidMetH Tryd.prog Rows.sheetLaysRow.laid W) : Half W := by
  have h1 : Lib.TabIs Tryd.prog W "troth/crc.half" .u32 (Crc.tab.map (fun n : Nat => (n : Int))) :=
    Lib.tabIs_of_head (rest := []) gTab gTabType Tryd.underlying172 Tryd.underlying71 cells32 cellsTab h
  intro i hi
  have h2 := h1.cell gTab i (by rw [List.length_map]; exact hi)
  rw [h2]
  have hi' : i < Crc.tab.length := hi
  rw [List.getD_eq_getElem?_getD, List.getElem?_map, List.getD_eq_getElem?_getD, List.getElem?_eq_getElem hi']
  rfl

set_option maxRecDepth 100000 in
theorem contract (H : Type) (enc : TypeId × Value → H) (W : World) (base : Nat) (args : Array Value) (ds gs : List (DataW H)) (before : List MemPlace)
    (hval : ∀ (j : Nat) t v, Tryd.f4.params[j]? = some t → args[j]? = some v → Value.okWide Tryd.prog W .any base t v)
    (hW : DataW.Whole enc Tryd.prog Tryd.f4.params.toList Rows.sheetLaysSpec.vars false W args.toList ds gs before) (hL : laidMetH Tryd.prog Rows.sheetLaysRow.laid W) :
    Calls Tryd.prog 4 args W fun e W' => ∃ v, e = .returned v ∧ Rows.sheetLaysSpec.post enc Tryd.prog Tryd.f4 false true false false W args v W' := by
  have hW' := hW
  obtain ⟨p, q, hA0, hV, rfl, hfz, hnd⟩ := hW
  have hA : DataW.TrodAll enc Tryd.prog W 0 (fun _ => true) true Tryd.f4.params.toList args.toList ds p := hA0
  rw [Tryd.params4] at hA hval
  obtain ⟨v0, vs0, d0, ds0, p0, q0, hargs, rfl, rfl, h0, r0⟩ := trodAll_cons hA
  obtain ⟨v1, vs1, d1, ds1, p1, q1, rfl, rfl, rfl, h1, r1⟩ := trodAll_cons r0
  obtain ⟨v2, vs2, d2, ds2, p2, q2, rfl, rfl, rfl, h2, r2⟩ := trodAll_cons r1
  obtain ⟨v3, vs3, d3, ds3, p3, q3, rfl, rfl, rfl, h3, r3⟩ := trodAll_cons r2
  obtain ⟨rfl, rfl, rfl⟩ := trodAll_nil r3
  obtain rfl : args = #[v0, v1, v2, v3] := by cases args; simp_all
  obtain ⟨rfl, rfl⟩ := trodVars_none hV
  obtain ⟨x0, rfl, rfl, rfl, w0⟩ := open_int Tryd.underlying3 (hval 0 3 v0 rfl rfl) h0
  have b0 := bounds_i64 w0
  obtain ⟨x1, rfl, rfl, rfl, w1⟩ := open_int Tryd.underlying3 (hval 1 3 v1 rfl rfl) h1
  have b1 := bounds_i64 w1
  obtain ⟨A2, n2, c2, l2, rfl, lh2, nc2, cm2⟩ := open_structs (K := bodyK) Tryd.underlying30 (show Tryd.prog.cellsOf 38 = (bodyK).k by kernel_rfl) (by decide) body_cells (hval 2 30 v2 rfl rfl) h2
  obtain ⟨x3, rfl, rfl, rfl, w3⟩ := open_int Tryd.underlying3 (hval 3 3 v3 rfl rfl) h3
  have b3 := bounds_i64 w3
  refine (walk x0 x1 A2 n2 c2 l2 x3 W b0.1 b0.2 b1.1 b1.2 lh2 nc2 cm2 b3.1 b3.2 (table hL)).mono fun e W' ⟨he, bel⟩ => ?_
  exact ⟨_, he, post_true laidOut Tryd.underlying4 (show Tryd.f4.resultTypes = #[4] from rfl) params_ok rfl hW' rfl bel⟩

noncomputable def laidWorld (os : Os) : World :=
  { World.holding Tryd.prog os ⟨#[], #[], []⟩ with heap := (World.holding Tryd.prog os ⟨#[], #[], []⟩).heap.modify 0 fun
      | .cells _ t frozen => .cells #[.int .u32 0, .int .u32 498536548, .int .u32 997073096, .int .u32 651767980, .int .u32 1994146192, .int .u32 1802195444, .int .u32 1303535960, .int .u32 1342533948, .int .u32 3988292384, .int .u32 4027552580, .int .u32 3604390888, .int .u32 3412177804, .int .u32 2607071920, .int .u32 2262029012, .int .u32 2685067896, .int .u32 3183342108] t frozen
      | o => o }
theorem laid_met (os : Os) : laidMet Tryd.prog Rows.sheetLaysRow.laid ((laidWorld os).forCall (fun _ _ => 0) ⟨#[], #[.int .i64 0, .int .i64 0, .slice none 0 0, .int .i64 0], []⟩).memory :=
  laidMet_of_run' 8 (by kernel_rfl) (by kernel_rfl)
theorem reads (os : Os) {H : Type} (enc : TypeId × Value → H) : ∃ places, DataW.whole enc Tryd.prog ((laidWorld os).forCall (fun _ _ => 0) ⟨#[], #[.int .i64 0, .int .i64 0, .slice none 0 0, .int .i64 0], []⟩).memory Tryd.f4.params.toList Rows.sheetLaysSpec.vars false (#[Value.int .i64 0, Value.int .i64 0, Value.slice none 0 0, Value.int .i64 0] : Array Value).toList 8 = some ([.lit (.int .i64 0), .lit (.int .i64 0), .nil, .lit (.int .i64 0)], [], places) :=
  ⟨[], by kernel_rfl⟩
set_option maxRecDepth 100000 in
theorem lifted (os : Os) (started : os.Started) (H : Type) (enc : TypeId × Value → H) (F : Stop.Interp) :
    ReturnsInHanded {} Tryd.checked os 4 .any ((OpenSpec.ofChange Rows.sheetLaysSpec).preRow enc Tryd.prog Tryd.f4 Rows.sheetLaysRow.domain false Rows.sheetLaysRow.laid) (((OpenSpec.ofChange Rows.sheetLaysSpec).at F).post enc Tryd.prog Tryd.f4 false true false false) := by
  obtain ⟨places, hx⟩ := reads os enc
  refine returnsInHanded_of_row (C := Tryd.checked) (s := OpenSpec.ofChange Rows.sheetLaysSpec) own started (by kernel_rfl) Tryd.func4
    (witness_row_at (enc := enc) (C := Tryd.checked) false (laidWorld os) #[.int .i64 0, .int .i64 0, .slice none 0 0, .int .i64 0] rfl (by kernel_rfl) (by kernel_rfl) (by kernel_rfl)
      (OpenSpec.preRow_of_cond 8 hx (by kernel_rfl) (fun k hk => by cases hk) (by kernel_rfl) (laid_met os))) ?_
  intro W base args ds gs before hval hW _ _ hsz hL _ _
  exact contract H enc W base args ds gs before hval hW hL
theorem said : Rows.SheetLaysSaid :=
  OpenClaim.holds_of_cond 4 Tryd.f4 rfl rfl rfl rfl rfl rfl rfl ⟨rfl, rfl, rfl, rfl, rfl⟩ rfl rfl rfl rfl rfl (by kernel_rfl) Tryd.func4 (by kernel_rfl)
    (of_decide_eq_true (by kernel_rfl)) (by unfold Func.isWrapper; first | (rw [if_pos (by decide +kernel)]; kernel_rfl) | (rw [if_neg (by decide +kernel)]; exact ⟨rfl, rfl⟩))
    (fun os started H enc _ F => by rw [OpenClaim.pre_eq_preRow]; exact lifted os started H enc F)
theorem plain (f : FuncId) (fn : Func) (hf : Tryd.pinned.checked.prog.funcNamed "troth/trothlaw08.SheetLays" = some f) (hfn : Tryd.pinned.checked.prog.funcs[f]? = some fn) :
    false = Tryd.pinned.checked.prog.looks [] ∧ ∀ (j : Nat) t, fn.params[j]? = some t → Tryd.pinned.checked.prog.wantsStandIn t = false := by
  obtain rfl : f = 4 := Option.some.inj ((show Tryd.prog.funcNamed "troth/trothlaw08.SheetLays" = some 4 by kernel_rfl).symm.trans hf) |>.symm
  obtain rfl : fn = Tryd.f4 := (Option.some.inj (Tryd.func4.symm.trans hfn)).symm
  refine ⟨by kernel_rfl, fun j t ht => ?_⟩
  rw [Tryd.params4] at ht
  have ha : t = 3 ∨ t = 30 ∨ t = 3 := by simpa using Array.mem_of_getElem? ht
  have ht' : t = 3 ∨ t = 30 := by rcases ha with h | h | h <;> simp [h]
  rcases ht' with rfl | rfl
  · exact (show Tryd.prog.wantsStandIn 3 = false by kernel_rfl)
  · exact (show Tryd.prog.wantsStandIn 30 = false by kernel_rfl)
theorem card : Rows.SheetLaysCardSaid :=
  Claim7.holds_tied_plain_at .later [] _ _ _ _ said (fun _ h => by cases h) (by kernel_rfl) (fun _ h => by cases h) sheetLays_row_tie rfl ⟨rfl, rfl⟩ (by kernel_rfl) rfl plain (by kernel_rfl)
#print axioms card
end Go.Proofs.YtlpdjpkdgagjpaaDoor.sheetLays
