/- MsgWrites: whether a message may be, and its bytes, are the document's, or the error; there and back; no condition. -/
import Derived.Test.YtlpdjpkdgagjpaaDoorRefMsgDec
import Derived.Test.YtlpdjpkdgagjpaaDoorMsgOpen
import Derived.Test.YtlpdjpkdgagjpaaDoorSame
import Derived.Test.YtlpdjpkdgagjpaaDoorLift
import Derived.Test.YtlpdjpkdgagjpaaDoorCards
import Derived.Test.YtlpdjpkdgagjpaaDoorTie
import Derived.Lib.LaidTab
import Derived.Deep.RegionHeld3
import Derived.Deep.DeepMust
namespace Go.Proofs.YtlpdjpkdgagjpaaDoor.msgWrites
open Go.ChangeShapes Go.WideShapes Go.ChangeAt Go.RowKit Mem Lift
set_option maxRecDepth 100000
set_option linter.unusedVariables false
set_option linter.unusedSimpArgs false
attribute [local go_sem ↓] Go.wp_at_zero Go.wp_at_succ

theorem below_ud {w w' : World} (h : Below w.drew.heap.size w.drew w') : Below w.heap.size w w' := ⟨h.os, h.tape, h.output, h.size, h.block⟩
theorem mg_keep {w w' : World} {b : Nat} {m : Mg.M} {A : Option Addr} {n c : Nat} (h : Blk w b 60 (mgCells m A n c)) (hb : Below w.heap.size w w') : Blk w' b 60 (mgCells m A n c) := h.below hb h.lt
theorem enc_cases (m : Mg.M) : Mg.may m = false ∧ Mg.enc m = ([], 1) ∨ Mg.may m = true ∧ Mg.enc m = (Sl.sealB (Mg.body m), 0) ∧ (Sl.sealB (Mg.body m)).length ≤ 158 ∧ Mg.dec (Sl.sealB (Mg.body m)) = (m, 0) := by
  cases h : Mg.may m with
  | false => exact .inl ⟨rfl, Mg.enc_not m (by rw [h]; simp)⟩
  | true =>
    have he := Mg.enc_ok m h
    have hd := Mg.dec_enc m h
    rw [he] at hd
    refine .inr ⟨rfl, he, ?_, hd⟩
    rw [Sl.sealB_length, Sl.textB_length]
    have := Mg.body_small m h
    have := (Sl.numB_length ((Mg.body m).length : Int)).2
    omega
set_option maxHeartbeats 16000000 in
theorem walk (m : Mg.M) (A : Option Addr) (n c : Nat) (w : World) (hl : IS w A n m.mem) (hnc : n ≤ c) (hcm : c ≤ maxLen) (hnum : Mg.Nums m) (ht : Half w) :
    Calls Tryd.prog 8 #[mgVal m A n c] w fun e w' => e = .returned (.bool true) ∧ Below w.heap.size w w' := by
  unfold maxLen at hcm
  have hb0 : Below w.heap.size w (w.alloc (.cells (mgCells m A n c) 60)) := (Below.refl _ _).alloc (Nat.le_refl _) _
  have hk0 := Blk.new w 60 (mgCells m A n c)
  by_cases h20 : 20 < n
  · have hd20 : decide ((20 : Int) < (n : Int)) = true := by simp; omega
    have HH := Lib.hid (And.intro hb0 ht)
    clear hl hnum ht hk0 hb0
    go_enter Tryd.func8, Tryd.ntmps8
    go_wp2_with fail
    refine (awake19_any _ (HH.out.2.below HH.out.1)).mono ?_
    rintro e w1 ⟨rfl, hb1⟩
    have H1 := Lib.hid (HH.out.1.trans (hb1.mono HH.out.1.size))
    clear hb1
    go_wp2_with fail
    go_ret
    exact ⟨rfl, H1.out⟩
  · have hd20 : decide ((20 : Int) < (n : Int)) = false := by simp; omega
    have hc63 : c ≤ 9223372036854775807 := by omega
    have H := Lib.hid (And.intro hb0 (And.intro hk0 (And.intro hl (And.intro hnum ht))))
    clear hl hnum ht hb0 hk0
    obtain ⟨E, hE⟩ : ∃ E, Mg.enc m = E := ⟨_, rfl⟩
    have hcase := enc_cases m
    rw [hE] at hcase
    obtain ⟨S, ec⟩ := E
    have hcase2 : (Mg.may m = false ∧ S = [] ∧ ec = 1) ∨ (Mg.may m = true ∧ S.length ≤ 158 ∧ ec = 0 ∧ Mg.dec S = (m, 0)) := by
      rcases hcase with ⟨h1, h2⟩ | ⟨h1, h2, h3, h4⟩
      · injection h2 with h2 h3; exact .inl ⟨h1, h2, h3⟩
      · injection h2 with h2 h5; subst h2; exact .inr ⟨h1, h3, h5, h4⟩
    clear hcase
    have hS : S.length ≤ 158 := by rcases hcase2 with ⟨_, h, _⟩ | ⟨_, h, _⟩ <;> first | exact h | (rw [h]; simp)
    have HE := Lib.hid hE
    clear hE
    go_enter Tryd.func8, Tryd.ntmps8
    go_wp2_with fail
    generalize hW0 : w.alloc (.cells (mgCells m A n c) 60) = W0 at *
    clear hW0
    refine (own19_any m A n c W0 (H.out.2.2.1.below H.out.1) (by omega)).mono ?_
    rintro e w1 ⟨B1, d1, rfl, hi1, hd1, hd2, hb1⟩
    have H1 := Lib.hid (And.intro hi1 hb1)
    clear hi1 hb1
    go_wp2_with fail
    refine (menc_any m B1 n d1 w1 H1.out.1 (by omega) hd2 H.out.2.2.2.1 (H.out.2.2.2.2.below (H.out.1.trans (H1.out.2.mono H.out.1.size)))).mono ?_
    rw [HE.out]
    rintro e w2 ⟨v2, rfl, ho2, hb2⟩
    have hv : ∃ A' d', v2 = .slice A' S.length d' := by
      rcases ho2.2 with ⟨rfl, e⟩ | ⟨g, cap, cur, rfl, _⟩
      · exact ⟨none, 0, by rw [show S.length = 0 from e]⟩
      · exact ⟨_, _, rfl⟩
    obtain ⟨B2, d2', rfl⟩ := hv
    have hcap2 := own_capI ho2
    have hbw2 := H1.out.2.trans (hb2.mono H1.out.2.size)
    obtain ⟨c0, c1, c2, c3, c4⟩ := mg_cells (H.out.2.1.below hbw2 H.out.2.1.lt)
    have H2 := Lib.hid (And.intro (BS.of_own ho2) hbw2)
    clear ho2 hb2 hbw2
    go_wp2_with fail
    refine (refEnc19_any m A n c w2 (H.out.2.2.1.below (H.out.1.trans (H2.out.2.mono H.out.1.size))) (by omega) hc63 H.out.2.2.2.1).mono ?_
    rw [HE.out]
    rintro e w3 ⟨v3, rfl, ho3, hb3⟩
    have hv : ∃ A' d', v3 = .slice A' S.length d' := by
      rcases ho3.2 with ⟨rfl, e⟩ | ⟨g, cap, cur, rfl, _⟩
      · exact ⟨none, 0, by rw [show S.length = 0 from e]⟩
      · exact ⟨_, _, rfl⟩
    obtain ⟨B3, d3, rfl⟩ := hv
    have hbw3 := H2.out.2.trans (hb3.mono H2.out.2.size)
    have hk3 := H.out.2.1.below hbw3 H.out.2.1.lt
    have H3 := Lib.hid (And.intro (H2.out.1.below hb3) (And.intro (BS.of_own ho3) hbw3))
    clear ho3 hb3 hbw3
    have HS := mg_cells hk3
    have hkb : w.heap.size < w3.heap.size := hk3.lt
    have HK := Lib.hid hk3
    clear hk3 c0 c1 c2 c3 c4
    go_upto_region 5 with fail
    have hisW := fun W (h : Below W0.heap.size W0 W) => H.out.2.2.1.below (H.out.1.trans (h.mono H.out.1.size))
    have HIS := Lib.hid hisW
    clear hisW
    go_region_held3 (fun w' => w'.cell? ⟨w.heap.size, 0, none⟩ = some (.int .i64 m.kind) ∧ w'.cell? ⟨w.heap.size, 1, none⟩ = some (.int .i64 m.from_) ∧ w'.cell? ⟨w.heap.size, 2, none⟩ = some (.int .i64 m.to) ∧ w'.cell? ⟨w.heap.size, 3, none⟩ = some (.int .i64 m.tx) ∧ w'.cell? ⟨w.heap.size, 4, none⟩ = some (.slice A n c)) ((first | exact HS)) (first
      | (go_at_call 28; go_must (refine (same_any B2 B3 S.length S.length d2' d3 S S _ (H3.out.1.below (show Below w3.heap.size w3 w3.drew from ⟨rfl, rfl, rfl, Nat.le_refl _, fun _ _ => rfl⟩)) (H3.out.2.1.below (show Below w3.heap.size w3 w3.drew from ⟨rfl, rfl, rfl, Nat.le_refl _, fun _ _ => rfl⟩)) (by omega) (by omega)).mono ?_; rw [decide_eq_true rfl]; rintro e w4 ⟨rfl, hd4⟩; have hb4 := below_ud hd4.below; have hk4 := HK.out.below hb4 HK.out.lt; have HS := mg_cells hk4; have H4 := Lib.hid (And.intro hk4 (And.intro (H3.out.1.below hb4) (H3.out.2.2.trans (hb4.mono H3.out.2.2.size)))); clear hd4 hb4 hk4))
      | (go_at_call 30; go_must (refine (own19_any m A n c w4 (HIS.out w4 H4.out.2.2) (by omega)).mono ?_; rintro e w5 ⟨B5, d5, rfl, hi5, hd5, hd5', hb5⟩; have hk5 := H4.out.1.below hb5 H4.out.1.lt; have HS := mg_cells hk5; have H5 := Lib.hid (And.intro hk5 (And.intro hi5 (And.intro (H4.out.2.1.below hb5) (H4.out.2.2.trans (hb5.mono H4.out.2.2.size))))); clear hi5 hb5 hk5))
      | (go_at_call 32; go_must (refine (mgmay_any m B5 n d5 w5 H5.out.2.1 (by omega) hd5').mono ?_; rintro e w6 ⟨rfl, hb6⟩; have hk6 := H5.out.1.below hb6 H5.out.1.lt; have HS := mg_cells hk6; have H6 := Lib.hid (And.intro hk6 (And.intro (H5.out.2.2.1.below hb6) (H5.out.2.2.2.trans (hb6.mono H5.out.2.2.2.size)))); clear hb6 hk6))
      | (go_at_call 33; go_must (refine (refMay19_any m A n c w6 (HIS.out w6 H6.out.2.2) (by omega) hc63).mono ?_; rintro e w7 ⟨rfl, hb7⟩; have hk7 := H6.out.1.below hb7 H6.out.1.lt; have HS := mg_cells hk7; have H7 := Lib.hid (And.intro hk7 (And.intro (H6.out.2.1.below hb7) (H6.out.2.2.trans (hb7.mono H6.out.2.2.size)))); clear hb7 hk7)))
    all_goals
      obtain ⟨c0, c1, c2, c3, c4⟩ := HS
      rcases hcase2 with ⟨g1, g2, g3⟩ | ⟨g1, g2, g3, g4⟩
      · have e1 : ((ec : Int) == 0) = false := by rw [g3]; rfl
        clear g1 g2 g3
        go_wp2_with fail
        refine (awake19_any w7 (H.out.2.2.2.2.below (H.out.1.trans (H7.out.2.2.mono H.out.1.size)))).mono ?_
        rintro e w8 ⟨rfl, hb8⟩
        have hz := H.out.1.trans (H7.out.2.2.mono H.out.1.size)
        have H8 := Lib.hid (hz.trans (hb8.mono hz.size))
        clear hb8 hz
        go_wp2_with fail
        go_ret
        exact ⟨rfl, H8.out⟩
      · have e1 : ((ec : Int) == 0) = true := by rw [g3]; rfl
        have hdec := mdec_any B2 S.length d2' S w7 H7.out.2.1 (by omega) hcap2.1 hcap2.2 (H.out.2.2.2.2.below (H.out.1.trans (H7.out.2.2.mono H.out.1.size)))
        rw [g4] at hdec
        have HD := Lib.hid hdec
        clear g1 g2 g3 g4 hdec
        go_wp2_with fail
        refine HD.out.mono ?_
        rintro e w8 ⟨A8, k8, rfl, hi8, hk8a, hk8b, hb8⟩
        simp only [H.out.2.2.1.1] at hi8 ⊢
        have hz := H7.out.2.2.trans (hb8.mono H7.out.2.2.size)
        have hk8 := H.out.2.1.below hz H.out.2.1.lt
        have hb9 : Below w8.heap.size w8 (w8.alloc (.cells (mgCells m A8 n k8) 60)) := (Below.refl _ _).alloc (Nat.le_refl _) _
        have hz9 := hz.trans (hb9.mono hz.size)
        obtain ⟨c0', c1', c2', c3', c4'⟩ := mg_cells hk8
        have hsame := same19_eq m A8 A n k8 c _ (hi8.below hb9) (HIS.out _ hz9) (by omega)
        have hlt8 := hk8.lt
        have H8 := Lib.hid (And.intro hsame hz9)
        clear hb8 hz hk8 hb9 hz9 hsame hi8 c0 c1 c2 c3 c4
        go_wp2_with fail
        refine H8.out.1.mono ?_
        rintro e w9 ⟨rfl, hb9⟩
        have H9 := Lib.hid (H8.out.2.trans (hb9.mono H8.out.2.size))
        clear hb9
        go_wp2_with fail
        refine (awake19_any w9 (H.out.2.2.2.2.below (H.out.1.trans (H9.out.mono H.out.1.size)))).mono ?_
        rintro e w10 ⟨rfl, hb10⟩
        have hz := H.out.1.trans (H9.out.mono H.out.1.size)
        have H10 := Lib.hid (hz.trans (hb10.mono hz.size))
        clear hb10 hz
        go_wp2_with fail
        go_ret
        exact ⟨rfl, H10.out⟩

theorem own : ownKnob Tryd.prog.godebug = none := by kernel_rfl
theorem laidOut : laidOutB Tryd.prog = true := by kernel_rfl
theorem params_ok : ∀ t ∈ Tryd.f8.params.toList, Tryd.prog.readableRec t = true ∧ t < Tryd.prog.types.size := by
  rw [Tryd.params8]
  intro t ht
  have ht' : t = 60 := by
    simpa using ht
  subst ht'
  exact ⟨(show Tryd.prog.readableRec 60 = true by kernel_rfl), of_decide_eq_true (show decide (60 < Tryd.prog.types.size) = true by kernel_rfl)⟩
theorem gTab : Tryd.prog.globalNamed "troth/crc.half" = some 0 := by kernel_rfl
theorem gTabType : (Tryd.prog.globals[0]?).map (·.type) = some 172 := by kernel_rfl
theorem cellsTab : Tryd.prog.cellsOf 172 = 16 := by kernel_rfl
theorem cells32 : Tryd.prog.cellsOf 71 = 1 := by kernel_rfl
theorem table {W : World} (h : laidMetH Tryd.prog Rows.msgWritesRow.laid W) : Half W := by
  have h1 : Lib.TabIs Tryd.prog W "troth/crc.half" .u32 (Crc.tab.map (fun n : Nat => (n : Int))) :=
    Lib.tabIs_of_head (rest := []) gTab gTabType Tryd.underlying172 Tryd.underlying71 cells32 cellsTab h
  intro i hi
  have h2 := h1.cell gTab i (by rw [List.length_map]; exact hi)
  rw [h2]
  have hi' : i < Crc.tab.length := hi
  rw [List.getD_eq_getElem?_getD, List.getElem?_map, List.getD_eq_getElem?_getD, List.getElem?_eq_getElem hi']
  rfl

set_option maxRecDepth 100000 in
theorem contract (H : Type) (enc : TypeId × Value → H) (W : World) (base : Nat) (args : Array Value) (ds gs : List (DataW H)) (before : List MemPlace)
    (hval : ∀ (j : Nat) t v, Tryd.f8.params[j]? = some t → args[j]? = some v → Value.okWide Tryd.prog W .any base t v)
    (hW : DataW.Whole enc Tryd.prog Tryd.f8.params.toList Rows.msgWritesSpec.vars false W args.toList ds gs before) (hL : laidMetH Tryd.prog Rows.msgWritesRow.laid W) :
    Calls Tryd.prog 8 args W fun e W' => ∃ v, e = .returned v ∧ Rows.msgWritesSpec.post enc Tryd.prog Tryd.f8 false true false false W args v W' := by
  have hW' := hW
  obtain ⟨p, q, hA0, hV, rfl, hfz, hnd⟩ := hW
  have hA : DataW.TrodAll enc Tryd.prog W 0 (fun _ => true) true Tryd.f8.params.toList args.toList ds p := hA0
  rw [Tryd.params8] at hA hval
  obtain ⟨v0, vs0, d0, ds0, p0, q0, hargs, rfl, rfl, h0, r0⟩ := trodAll_cons hA
  obtain ⟨rfl, rfl, rfl⟩ := trodAll_nil r0
  obtain rfl : args = #[v0] := by cases args; simp_all
  obtain ⟨rfl, rfl⟩ := trodVars_none hV
  obtain ⟨m0, A0, n0, c0, rfl, lh0, nc0, cm0, nu0⟩ := open_msg (hval 0 60 v0 rfl rfl) h0
  refine (walk m0 A0 n0 c0 W lh0 nc0 cm0 nu0 (table hL)).mono fun e W' ⟨he, bel⟩ => ?_
  exact ⟨_, he, post_true laidOut Tryd.underlying4 (show Tryd.f8.resultTypes = #[4] from rfl) params_ok rfl hW' rfl bel⟩

noncomputable def laidWorld (os : Os) : World :=
  { World.holding Tryd.prog os ⟨#[], #[], []⟩ with heap := (World.holding Tryd.prog os ⟨#[], #[], []⟩).heap.modify 0 fun
      | .cells _ t frozen => .cells #[.int .u32 0, .int .u32 498536548, .int .u32 997073096, .int .u32 651767980, .int .u32 1994146192, .int .u32 1802195444, .int .u32 1303535960, .int .u32 1342533948, .int .u32 3988292384, .int .u32 4027552580, .int .u32 3604390888, .int .u32 3412177804, .int .u32 2607071920, .int .u32 2262029012, .int .u32 2685067896, .int .u32 3183342108] t frozen
      | o => o }
theorem laid_met (os : Os) : laidMet Tryd.prog Rows.msgWritesRow.laid ((laidWorld os).forCall (fun _ _ => 0) ⟨#[], #[.agg #[.int .i64 0, .int .i64 0, .int .i64 0, .int .i64 0, .slice none 0 0]], []⟩).memory :=
  laidMet_of_run' 8 (by kernel_rfl) (by kernel_rfl)
theorem reads (os : Os) {H : Type} (enc : TypeId × Value → H) : ∃ places, DataW.whole enc Tryd.prog ((laidWorld os).forCall (fun _ _ => 0) ⟨#[], #[.agg #[.int .i64 0, .int .i64 0, .int .i64 0, .int .i64 0, .slice none 0 0]], []⟩).memory Tryd.f8.params.toList Rows.msgWritesSpec.vars false (#[Value.agg #[.int .i64 0, .int .i64 0, .int .i64 0, .int .i64 0, .slice none 0 0]] : Array Value).toList 8 = some ([.agg [.lit (.int .i64 0), .lit (.int .i64 0), .lit (.int .i64 0), .lit (.int .i64 0), .nil]], [], places) :=
  ⟨[], by kernel_rfl⟩
set_option maxRecDepth 100000 in
theorem lifted (os : Os) (started : os.Started) (H : Type) (enc : TypeId × Value → H) (F : Stop.Interp) :
    ReturnsInHanded {} Tryd.checked os 8 .any ((OpenSpec.ofChange Rows.msgWritesSpec).preRow enc Tryd.prog Tryd.f8 Rows.msgWritesRow.domain false Rows.msgWritesRow.laid) (((OpenSpec.ofChange Rows.msgWritesSpec).at F).post enc Tryd.prog Tryd.f8 false true false false) := by
  obtain ⟨places, hx⟩ := reads os enc
  refine returnsInHanded_of_row (C := Tryd.checked) (s := OpenSpec.ofChange Rows.msgWritesSpec) own started (by kernel_rfl) Tryd.func8
    (witness_row_at (enc := enc) (C := Tryd.checked) false (laidWorld os) #[.agg #[.int .i64 0, .int .i64 0, .int .i64 0, .int .i64 0, .slice none 0 0]] rfl (by kernel_rfl) (by kernel_rfl) (by kernel_rfl)
      (OpenSpec.preRow_of_cond 8 hx (by kernel_rfl) (fun k hk => by cases hk) (by kernel_rfl) (laid_met os))) ?_
  intro W base args ds gs before hval hW _ _ hsz hL _ _
  exact contract H enc W base args ds gs before hval hW hL
theorem said : Rows.MsgWritesSaid :=
  OpenClaim.holds_of_cond 8 Tryd.f8 rfl rfl rfl rfl rfl rfl rfl ⟨rfl, rfl, rfl, rfl, rfl⟩ rfl rfl rfl rfl rfl (by kernel_rfl) Tryd.func8 (by kernel_rfl)
    (of_decide_eq_true (by kernel_rfl)) (by unfold Func.isWrapper; first | (rw [if_pos (by decide +kernel)]; kernel_rfl) | (rw [if_neg (by decide +kernel)]; exact ⟨rfl, rfl⟩))
    (fun os started H enc _ F => by rw [OpenClaim.pre_eq_preRow]; exact lifted os started H enc F)
theorem plain (f : FuncId) (fn : Func) (hf : Tryd.pinned.checked.prog.funcNamed "troth/trothlaw19.MsgWrites" = some f) (hfn : Tryd.pinned.checked.prog.funcs[f]? = some fn) :
    false = Tryd.pinned.checked.prog.looks [] ∧ ∀ (j : Nat) t, fn.params[j]? = some t → Tryd.pinned.checked.prog.wantsStandIn t = false := by
  obtain rfl : f = 8 := Option.some.inj ((show Tryd.prog.funcNamed "troth/trothlaw19.MsgWrites" = some 8 by kernel_rfl).symm.trans hf) |>.symm
  obtain rfl : fn = Tryd.f8 := (Option.some.inj (Tryd.func8.symm.trans hfn)).symm
  refine ⟨by kernel_rfl, fun j t ht => ?_⟩
  rw [Tryd.params8] at ht
  have ht' : t = 60 := by simpa using Array.mem_of_getElem? ht
  subst ht'
  exact (show Tryd.prog.wantsStandIn 60 = false by kernel_rfl)
theorem card : Rows.MsgWritesCardSaid :=
  Claim7.holds_tied_plain_at .later [] _ _ _ _ said (fun _ h => by cases h) (by kernel_rfl) (fun _ h => by cases h) msgWrites_row_tie rfl ⟨rfl, rfl⟩ (by kernel_rfl) rfl plain (by kernel_rfl)
#print axioms card
end Go.Proofs.YtlpdjpkdgagjpaaDoor.msgWrites
