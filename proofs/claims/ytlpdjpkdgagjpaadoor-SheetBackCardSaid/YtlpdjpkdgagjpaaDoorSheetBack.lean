/- SheetBack: of what was laid all bodies are found, in order; of the first sheets of it just those that end in them; no condition. -/
import Derived.Test.YtlpdjpkdgagjpaaDoorSheetHelp
import Derived.Test.YtlpdjpkdgagjpaaDoorLift
import Derived.Test.YtlpdjpkdgagjpaaDoorCards
import Derived.Test.YtlpdjpkdgagjpaaDoorTie
import Derived.Lib.LaidTab
namespace Go.Proofs.YtlpdjpkdgagjpaaDoor.sheetBack
open Go.ChangeShapes Go.WideShapes Go.ChangeAt Go.RowKit Mem Lift
set_option linter.unusedVariables false
set_option linter.unusedSimpArgs false
set_option maxRecDepth 100000

set_option maxHeartbeats 8000000 in
theorem walk (inc pos : Int) (A : Option Addr) (n c : Nat) (ls : List Bd) (cut : Int) (w : World) (i0 : -9223372036854775808 ≤ inc) (i1 : inc ≤ 9223372036854775807) (p0 : -9223372036854775808 ≤ pos) (p1 : pos ≤ 9223372036854775807) (hl : ST bodyK w A n ls) (hnc : n ≤ c) (hcm : c ≤ maxLen)
    (m0 : -9223372036854775808 ≤ cut) (m1 : cut ≤ 9223372036854775807) (ht : Half w) :
    Calls Tryd.prog 5 #[.int .i64 inc, .int .i64 pos, .slice A n c, .int .i64 cut] w fun e w' => e = .returned (.bool true) ∧ Below w.heap.size w w' := by
  unfold maxLen at hcm
  have hgr := great08_any A n c ls w hl
  have haw := to_awake ht (Below.refl _ _)
  by_cases hbad : Sh.great (bodiesOf ls) = true ∨ inc < 0 ∨ 1099511627776 ≤ inc ∨ pos < 0 ∨ 549755813888 < pos ∨ cut < 0
  · have hways : Sh.great (bodiesOf ls) = true ∨ Sh.great (bodiesOf ls) = false ∧ (decide (inc < 0) = true ∨ decide (inc < 0) = false ∧ (decide (1099511627776 ≤ inc) = true ∨ decide (1099511627776 ≤ inc) = false ∧ (decide (pos < 0) = true ∨ decide (pos < 0) = false ∧ (decide (549755813888 < pos) = true ∨ decide (549755813888 < pos) = false ∧ decide (cut < 0) = true)))) := by
      cases hg : Sh.great (bodiesOf ls) with
      | true => exact .inl rfl
      | false =>
        rw [hg] at hbad
        refine .inr ⟨rfl, ?_⟩
        simp only [decide_eq_true_eq, decide_eq_false_iff_not, Bool.false_eq_true, false_or] at hbad ⊢
        omega
    have HA := Lib.hid haw
    clear hbad hl haw ht
    rcases hways with g | ⟨g, g1 | ⟨g1, g2 | ⟨g2, g3 | ⟨g3, g4 | ⟨g4, g5⟩⟩⟩⟩⟩
    all_goals
      rw [g] at hgr
      have HG := Lib.hid hgr
      clear hgr g
      go_enter Tryd.func5, Tryd.ntmps5
      go_wp2_with fail
      refine HG.out.mono ?_
      rintro e w1 ⟨rfl, rfl⟩
      go_wp2_with fail
      refine HA.out.mono ?_
      rintro e w2 ⟨rfl, hb⟩
      have HB := Lib.hid hb
      clear hb
      go_wp2_with fail
      go_ret
      exact ⟨rfl, HB.out⟩
  · have hg : Sh.great (bodiesOf ls) = false := by
      cases hg : Sh.great (bodiesOf ls) with
      | true => exact absurd (.inl hg) hbad
      | false => rfl
    obtain ⟨j0, j1, q0, q1, k0⟩ : 0 ≤ inc ∧ inc < 1099511627776 ∧ 0 ≤ pos ∧ pos ≤ 549755813888 ∧ 0 ≤ cut := by omega
    rw [hg] at hgr
    obtain ⟨hf, hb40, hb15, hlong⟩ := Sh.flat_great hg
    have hn : n ≤ 40 := by rw [bodiesOf_length, hl.len] at hb40; exact hb40
    have hbl : (bodiesOf ls).length = n := by rw [bodiesOf_length, hl.len]
    obtain ⟨bs, hbs⟩ : ∃ bs, bs = bodiesOf ls := ⟨_, rfl⟩
    rw [← hbs] at hf hb15 hbl hlong
    have hcount : Sh.count bs ≤ 300 := by unfold Sh.count; omega
    have hR := Sh.layR_ok (inc := inc) (pos := pos) (bs := bs) (by unfold Sh.badPos; simp; omega) hlong (by unfold Sh.fullAt; rw [decide_eq_false_iff_not]; omega)
    have hlen := Sh.laid_length inc pos bs (Sh.count bs)
    have hdat := Sh.laid_data inc pos bs (Sh.count bs)
    have hb4 : ∀ b ∈ bs, b.length ≤ 4096 := fun b hb => by have := hb15 b hb; omega
    have hall := Sh.findR_all (inc := inc) (pos := pos) hb4
    have hsome := fun m hm => Sh.findR_some (inc := inc) (pos := pos) (bs := bs) hb4 (n := m) hm
    have htake := fun m hm => Sh.laid_take inc pos bs (Sh.count bs) m hm
    have hend := fun m => ended08_any A n c ls m
    generalize Sh.laid inc pos bs (Sh.count bs) = l at *
    obtain ⟨N, hN⟩ : ∃ N, N = Sh.count bs := ⟨_, rfl⟩
    rw [← hN] at hcount hlen hsome htake
    have H := Lib.hid (And.intro hgr (And.intro ht (And.intro hl (And.intro hf (And.intro hb15 (And.intro hbs (And.intro hdat (And.intro hR (And.intro hbl (And.intro hall (And.intro hsome (And.intro htake (And.intro hlen hg)))))))))))))
    clear hgr ht hl hf hb15 hbs hdat hR hbl hall hsome htake hlen hg hb40 hbad haw hb4 hlong hN hend
    go_enter Tryd.func5, Tryd.ntmps5
    go_wp2_with fail
    refine H.out.1.mono ?_
    rintro e w1 ⟨rfl, rfl⟩
    go_wp2_with fail
    refine (own08_any A n c ls bs _ H.out.2.2.2.2.2.1 H.out.2.2.1 (by omega) (fun b hb => by have := H.out.2.2.2.2.1 b hb; omega)).mono ?_
    rintro e w2 ⟨A2, c2, xs, rfl, hst2, hxs, hb2⟩
    have hl2 := lay_any inc pos A2 bs.length c2 xs bs w2 hxs.symm hst2 (by rw [H.out.2.2.2.2.2.2.2.2.1]; omega) (by have := H.out.2.2.2.1; omega) ⟨i0, i1⟩ ⟨p0, p1⟩ (H.out.2.1.below hb2)
    rw [H.out.2.2.2.2.2.2.2.1] at hl2
    have H2 := Lib.hid (And.intro hl2 hb2)
    clear hl2 hb2 hst2 hxs
    go_wp2_with fail
    refine H2.out.1.mono ?_
    rintro e w3 ⟨A3, c3, rfl, ho3, hb3⟩
    have hbb3 := below_of H2.out.2 H2.out.2.size hb3
    rw [H.out.2.2.2.2.2.2.2.2.2.2.2.2.1] at ho3 ⊢
    have hst3 := ST.of_own sheetK_len (by decide) ho3 (fun x hx => H.out.2.2.2.2.2.2.1 x hx)
    have hcap3 := own_capS ho3
    have hf3 := find_any A3 N c3 l w3 hst3 (by omega) (H.out.2.1.below hbb3)
    have hfl := map_len H.out.2.2.2.2.2.2.2.2.2.1
    have hfm := H.out.2.2.2.2.2.2.2.2.2.1
    obtain ⟨fl, hfl0⟩ : ∃ fl, (Sh.findR l).out = fl := ⟨_, rfl⟩
    rw [hfl0] at hf3 hfl hfm
    have H3 := Lib.hid (And.intro hf3 (And.intro hbb3 (And.intro hst3 (And.intro hfm hfl))))
    clear hf3 hbb3 hst3 hfm hfl ho3 hb3 hfl0
    go_wp2_with fail
    refine H3.out.1.mono ?_
    rintro e w4 ⟨A4, c4, rfl, ho4, hb4⟩
    have hbb4 := below_of H3.out.2.1 H3.out.2.1.size hb4
    have hst4 := ST.of_own foundK_len (by decide) ho4 (found_ok H3.out.2.2.2.1 H.out.2.2.2.2.1)
    rw [H3.out.2.2.2.2, H.out.2.2.2.2.2.2.2.2.1] at hst4 ⊢
    have hbo := bodies08_eq A4 A n c4 c fl ls w4 hst4 (H.out.2.2.1.below hbb4) (by rw [H3.out.2.2.2.1]; exact H.out.2.2.2.2.2.1) (by omega)
    have H4 := Lib.hid (And.intro hbo (And.intro hbb4 (H3.out.2.2.1.below hb4)))
    clear hbo hbb4 hst4 ho4 hb4
    go_wp2_with fail
    refine H4.out.1.mono ?_
    rintro e w5 ⟨rfl, hd5⟩
    have hbb5 := below_of H4.out.2.1 H4.out.2.1.size hd5.below
    have H5 := Lib.hid (And.intro hbb5 (H4.out.2.2.below hd5.below))
    clear hbb5 hd5
    obtain ⟨m, hm, hmN⟩ : ∃ m : Nat, cut % ((N : Int) + 1) = (m : Int) ∧ m ≤ N := by
      have h1 := Int.emod_nonneg cut (show (N : Int) + 1 ≠ 0 by omega)
      have h2 := Int.emod_lt_of_pos cut (show (0 : Int) < (N : Int) + 1 by omega)
      exact ⟨(cut % ((N : Int) + 1)).toNat, by omega, by omega⟩
    have HM := Lib.hid hm
    clear hm
    go_upto_region 7 with fail
    rw [HM.out]
    by_cases hmN2 : m = N
    · subst hmN2
      go_wp2_with fail
      refine (to_awake H.out.2.1 H5.out.1).mono ?_
      rintro e w6 ⟨rfl, hb6⟩
      have H6 := Lib.hid hb6
      clear hb6
      go_wp2_with fail
      go_ret
      exact ⟨rfl, H6.out⟩
    · have hne : ((m : Int) == (N : Int)) = false := by rw [beq_eq_false_iff_ne]; omega
      have hlt : m < N := by omega
      have hcutA := fun W => cutSheet A3 N c3 m (m : Int) rfl (by have := hcap3.1; omega) W
      have hfm := H.out.2.2.2.2.2.2.2.2.2.2.1 m hlt
      rw [← H.out.2.2.2.2.2.2.2.2.2.2.2.1 m (by omega)] at hfm
      have hf5 := find_any A3 m c3 (l.take m) w5 (H5.out.2.take_ (by omega)) (by omega) (H.out.2.1.below H5.out.1)
      obtain ⟨fl2, hfl0⟩ : ∃ fl2, (Sh.findR (l.take m)).out = fl2 := ⟨_, rfl⟩
      rw [hfl0] at hf5 hfm
      obtain ⟨K, hK⟩ : ∃ K, K = Sh.ended bs (242 * m) := ⟨_, rfl⟩
      rw [← hK] at hfm
      have hKn : K ≤ n := by
        have := Sh.ended_le bs (242 * m)
        rw [H.out.2.2.2.2.2.2.2.2.1] at this
        omega
      have hfl := map_len hfm
      rw [List.length_take, H.out.2.2.2.2.2.2.2.2.1, Nat.min_eq_left hKn] at hfl
      have hen := fun W hW => ended08_any A n c ls m W hW H.out.2.2.2.2.2.2.2.2.2.2.2.2.2 (by omega)
      rw [← H.out.2.2.2.2.2.1, ← hK] at hen
      have hcutB := fun W => cutBody A n c K (K : Int) rfl (by omega) W
      have H6 := Lib.hid (And.intro hf5 (And.intro hfm (And.intro hfl hen)))
      clear hf5 hfm hfl hen hfl0 hK hmN2
      go_wp2_with fail
      refine H6.out.1.mono ?_
      rintro e w6 ⟨A6, c6, rfl, ho6, hb6⟩
      have hbb6 := below_of H5.out.1 H5.out.1.size hb6
      have hst6 := ST.of_own foundK_len (by decide) ho6 (found_ok H6.out.2.1 (fun b hb => H.out.2.2.2.2.1 b (List.mem_of_mem_take hb)))
      rw [H6.out.2.2.1] at hst6 ⊢
      have hbo := bodies08_eq A6 A K c6 c fl2 (ls.take K) w6 hst6 ((H.out.2.2.1.below hbb6).take_ hKn) (by rw [H6.out.2.1, bodiesOf_take, ← H.out.2.2.2.2.2.1]) (by omega)
      have H7 := Lib.hid (And.intro hbo (And.intro hbb6 (H6.out.2.2.2 w6 (H.out.2.2.1.below hbb6))))
      clear hbo hbb6 hst6 ho6 hb6 hcutA
      go_wp2_with fail
      refine H7.out.2.2.mono ?_
      rintro e w7 ⟨rfl, rfl⟩
      go_wp2_with fail
      refine H7.out.1.mono ?_
      rintro e w8 ⟨rfl, hd8⟩
      have H8 := Lib.hid (below_of H7.out.2.1 H7.out.2.1.size hd8.below)
      clear hd8 hcutB
      go_wp2_with fail
      refine (to_awake H.out.2.1 H8.out).mono ?_
      rintro e w9 ⟨rfl, hb9⟩
      have H9 := Lib.hid hb9
      clear hb9
      go_wp2_with fail
      go_ret
      exact ⟨rfl, H9.out⟩

theorem own : ownKnob Tryd.prog.godebug = none := by kernel_rfl
theorem laidOut : laidOutB Tryd.prog = true := by kernel_rfl
theorem params_ok : ∀ t ∈ Tryd.f5.params.toList, Tryd.prog.readableRec t = true ∧ t < Tryd.prog.types.size := by
  rw [Tryd.params5]
  intro t ht
  have ht' : t = 3 ∨ t = 30 := by
    have ha : t = 3 ∨ t = 30 ∨ t = 3 := by simpa using ht
    rcases ha with h | h | h <;> simp [h]
  rcases ht' with rfl | rfl
  · exact ⟨(show Tryd.prog.readableRec 3 = true by kernel_rfl), of_decide_eq_true (show decide (3 < Tryd.prog.types.size) = true by kernel_rfl)⟩
  · exact ⟨(show Tryd.prog.readableRec 30 = true by kernel_rfl), of_decide_eq_true (show decide (30 < Tryd.prog.types.size) = true by kernel_rfl)⟩
theorem gTab : Tryd.prog.globalNamed "troth/crc.half" = some 0 := by kernel_rfl
theorem gTabType : (Tryd.prog.globals[0]?).map (·.type) = some 172 := by kernel_rfl
theorem cellsTab : Tryd.prog.cellsOf 172 = 16 := by kernel_rfl
theorem cells32 : Tryd.prog.cellsOf 71 = 1 := by kernel_rfl
theorem table {W : World} (h : laidMetH Tryd.prog Rows.sheetBackRow.laid W) : Half W := by
  have h1 : Lib.TabIs Tryd.prog W "troth/crc.half" .u32 (Crc.tab.map (fun n : Nat => (n : Int))) :=
    Lib.tabIs_of_head (rest := []) gTab gTabType Tryd.underlying172 Tryd.underlying71 cells32 cellsTab h
  intro i hi
  have h2 := h1.cell gTab i (by rw [List.length_map]; exact hi)
  rw [h2]
  have hi' : i < Crc.tab.length := hi
  rw [List.getD_eq_getElem?_getD, List.getElem?_map, List.getD_eq_getElem?_getD, List.getElem?_eq_getElem hi']
  rfl

set_option maxRecDepth 100000 in
theorem contract (H : Type) (enc : TypeId × Value → H) (W : World) (base : Nat) (args : Array Value) (ds gs : List (DataW H)) (before : List MemPlace)
    (hval : ∀ (j : Nat) t v, Tryd.f5.params[j]? = some t → args[j]? = some v → Value.okWide Tryd.prog W .any base t v)
    (hW : DataW.Whole enc Tryd.prog Tryd.f5.params.toList Rows.sheetBackSpec.vars false W args.toList ds gs before) (hL : laidMetH Tryd.prog Rows.sheetBackRow.laid W) :
    Calls Tryd.prog 5 args W fun e W' => ∃ v, e = .returned v ∧ Rows.sheetBackSpec.post enc Tryd.prog Tryd.f5 false true false false W args v W' := by
  have hW' := hW
  obtain ⟨p, q, hA0, hV, rfl, hfz, hnd⟩ := hW
  have hA : DataW.TrodAll enc Tryd.prog W 0 (fun _ => true) true Tryd.f5.params.toList args.toList ds p := hA0
  rw [Tryd.params5] at hA hval
  obtain ⟨v0, vs0, d0, ds0, p0, q0, hargs, rfl, rfl, h0, r0⟩ := trodAll_cons hA
  obtain ⟨v1, vs1, d1, ds1, p1, q1, rfl, rfl, rfl, h1, r1⟩ := trodAll_cons r0
  obtain ⟨v2, vs2, d2, ds2, p2, q2, rfl, rfl, rfl, h2, r2⟩ := trodAll_cons r1
  obtain ⟨v3, vs3, d3, ds3, p3, q3, rfl, rfl, rfl, h3, r3⟩ := trodAll_cons r2
  obtain ⟨rfl, rfl, rfl⟩ := trodAll_nil r3
  obtain rfl : args = #[v0, v1, v2, v3] := by cases args; simp_all
  obtain ⟨rfl, rfl⟩ := trodVars_none hV
  obtain ⟨x0, rfl, rfl, rfl, w0⟩ := open_int Tryd.underlying3 (hval 0 3 v0 rfl rfl) h0
  have b0 := bounds_i64 w0
  obtain ⟨x1, rfl, rfl, rfl, w1⟩ := open_int Tryd.underlying3 (hval 1 3 v1 rfl rfl) h1
  have b1 := bounds_i64 w1
  obtain ⟨A2, n2, c2, l2, rfl, lh2, nc2, cm2⟩ := open_structs (K := bodyK) Tryd.underlying30 (show Tryd.prog.cellsOf 38 = (bodyK).k by kernel_rfl) (by decide) body_cells (hval 2 30 v2 rfl rfl) h2
  obtain ⟨x3, rfl, rfl, rfl, w3⟩ := open_int Tryd.underlying3 (hval 3 3 v3 rfl rfl) h3
  have b3 := bounds_i64 w3
  refine (walk x0 x1 A2 n2 c2 l2 x3 W b0.1 b0.2 b1.1 b1.2 lh2 nc2 cm2 b3.1 b3.2 (table hL)).mono fun e W' ⟨he, bel⟩ => ?_
  exact ⟨_, he, post_true laidOut Tryd.underlying4 (show Tryd.f5.resultTypes = #[4] from rfl) params_ok rfl hW' rfl bel⟩

noncomputable def laidWorld (os : Os) : World :=
  { World.holding Tryd.prog os ⟨#[], #[], []⟩ with heap := (World.holding Tryd.prog os ⟨#[], #[], []⟩).heap.modify 0 fun
      | .cells _ t frozen => .cells #[.int .u32 0, .int .u32 498536548, .int .u32 997073096, .int .u32 651767980, .int .u32 1994146192, .int .u32 1802195444, .int .u32 1303535960, .int .u32 1342533948, .int .u32 3988292384, .int .u32 4027552580, .int .u32 3604390888, .int .u32 3412177804, .int .u32 2607071920, .int .u32 2262029012, .int .u32 2685067896, .int .u32 3183342108] t frozen
      | o => o }
theorem laid_met (os : Os) : laidMet Tryd.prog Rows.sheetBackRow.laid ((laidWorld os).forCall (fun _ _ => 0) ⟨#[], #[.int .i64 0, .int .i64 0, .slice none 0 0, .int .i64 0], []⟩).memory :=
  laidMet_of_run' 8 (by kernel_rfl) (by kernel_rfl)
theorem reads (os : Os) {H : Type} (enc : TypeId × Value → H) : ∃ places, DataW.whole enc Tryd.prog ((laidWorld os).forCall (fun _ _ => 0) ⟨#[], #[.int .i64 0, .int .i64 0, .slice none 0 0, .int .i64 0], []⟩).memory Tryd.f5.params.toList Rows.sheetBackSpec.vars false (#[Value.int .i64 0, Value.int .i64 0, Value.slice none 0 0, Value.int .i64 0] : Array Value).toList 8 = some ([.lit (.int .i64 0), .lit (.int .i64 0), .nil, .lit (.int .i64 0)], [], places) :=
  ⟨[], by kernel_rfl⟩
set_option maxRecDepth 100000 in
theorem lifted (os : Os) (started : os.Started) (H : Type) (enc : TypeId × Value → H) (F : Stop.Interp) :
    ReturnsInHanded {} Tryd.checked os 5 .any ((OpenSpec.ofChange Rows.sheetBackSpec).preRow enc Tryd.prog Tryd.f5 Rows.sheetBackRow.domain false Rows.sheetBackRow.laid) (((OpenSpec.ofChange Rows.sheetBackSpec).at F).post enc Tryd.prog Tryd.f5 false true false false) := by
  obtain ⟨places, hx⟩ := reads os enc
  refine returnsInHanded_of_row (C := Tryd.checked) (s := OpenSpec.ofChange Rows.sheetBackSpec) own started (by kernel_rfl) Tryd.func5
    (witness_row_at (enc := enc) (C := Tryd.checked) false (laidWorld os) #[.int .i64 0, .int .i64 0, .slice none 0 0, .int .i64 0] rfl (by kernel_rfl) (by kernel_rfl) (by kernel_rfl)
      (OpenSpec.preRow_of_cond 8 hx (by kernel_rfl) (fun k hk => by cases hk) (by kernel_rfl) (laid_met os))) ?_
  intro W base args ds gs before hval hW _ _ hsz hL _ _
  exact contract H enc W base args ds gs before hval hW hL
theorem said : Rows.SheetBackSaid :=
  OpenClaim.holds_of_cond 5 Tryd.f5 rfl rfl rfl rfl rfl rfl rfl ⟨rfl, rfl, rfl, rfl, rfl⟩ rfl rfl rfl rfl rfl (by kernel_rfl) Tryd.func5 (by kernel_rfl)
    (of_decide_eq_true (by kernel_rfl)) (by unfold Func.isWrapper; first | (rw [if_pos (by decide +kernel)]; kernel_rfl) | (rw [if_neg (by decide +kernel)]; exact ⟨rfl, rfl⟩))
    (fun os started H enc _ F => by rw [OpenClaim.pre_eq_preRow]; exact lifted os started H enc F)
theorem plain (f : FuncId) (fn : Func) (hf : Tryd.pinned.checked.prog.funcNamed "troth/trothlaw08.SheetBack" = some f) (hfn : Tryd.pinned.checked.prog.funcs[f]? = some fn) :
    false = Tryd.pinned.checked.prog.looks [] ∧ ∀ (j : Nat) t, fn.params[j]? = some t → Tryd.pinned.checked.prog.wantsStandIn t = false := by
  obtain rfl : f = 5 := Option.some.inj ((show Tryd.prog.funcNamed "troth/trothlaw08.SheetBack" = some 5 by kernel_rfl).symm.trans hf) |>.symm
  obtain rfl : fn = Tryd.f5 := (Option.some.inj (Tryd.func5.symm.trans hfn)).symm
  refine ⟨by kernel_rfl, fun j t ht => ?_⟩
  rw [Tryd.params5] at ht
  have ha : t = 3 ∨ t = 30 ∨ t = 3 := by simpa using Array.mem_of_getElem? ht
  have ht' : t = 3 ∨ t = 30 := by rcases ha with h | h | h <;> simp [h]
  rcases ht' with rfl | rfl
  · exact (show Tryd.prog.wantsStandIn 3 = false by kernel_rfl)
  · exact (show Tryd.prog.wantsStandIn 30 = false by kernel_rfl)
theorem card : Rows.SheetBackCardSaid :=
  Claim7.holds_tied_plain_at .later [] _ _ _ _ said (fun _ h => by cases h) (by kernel_rfl) (fun _ h => by cases h) sheetBack_row_tie rfl ⟨rfl, rfl⟩ (by kernel_rfl) rfl plain (by kernel_rfl)
#print axioms card
end Go.Proofs.YtlpdjpkdgagjpaaDoor.sheetBack
