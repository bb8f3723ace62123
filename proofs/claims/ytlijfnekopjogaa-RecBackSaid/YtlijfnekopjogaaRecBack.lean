/- A record's bytes are the record again; no condition. -/
import Derived.Test.YtlijfnekopjogaaRecAwake
import Derived.Test.YtlijfnekopjogaaRecCopys
import Derived.Test.YtlijfnekopjogaaRecOpen
import Derived.Test.YtlijfnekopjogaaRecMayG
import Derived.Test.YtlijfnekopjogaaLift
import Derived.Test.YtlijfnekopjogaaRows
namespace Go.Proofs.Ytlijfnekopjogaa.recBack
open Go.ChangeMaps Go.ChangeShapes Go.WideShapes Go.ChangeAt Go.RowKit Mem Lift Rc
set_option maxRecDepth 100000
set_option linter.unusedVariables false
set_option linter.unusedSimpArgs false

set_option maxHeartbeats 8000000 in
theorem walk (x : MD) (w : World) (hok : MOk w x) :
    Calls Try.prog 5 #[mVal x] w fun e w' => e = .returned (.bool true) ∧ Below w.heap.size w w' := by
  obtain ⟨W0, hW0⟩ : ∃ W0, w.alloc (.cells (mCells x) 30) = W0 := ⟨_, rfl⟩
  have hb0 : Below w.heap.size w W0 := by rw [← hW0]; exact (Below.refl _ _).alloc (Nat.le_refl _) _
  have hx0 : Blk W0 w.heap.size 30 (mCells x) := by rw [← hW0]; exact Blk.new _ _ _
  have H := Lib.hid (And.intro hb0 (hok.below hb0))
  clear hok hb0
  go_enter Try.func5, Try.ntmps5
  go_wp2_with (refine wpList_load_rec' _ (by rfl) (by rfl) (by rfl) hx0 ?_)
  refine (great_any x _ H.out.2).mono ?_
  rintro e w1 ⟨g, rfl, hb1, hng⟩
  have hx1 := hx0.below hb1 hx0.lt
  have H1 := Lib.hid (And.intro (H.out.1.trans (hb1.mono H.out.1.size)) (And.intro (H.out.2.below hb1) hng))
  clear hb1 hng hx0 hW0
  cases g with
  | true =>
    go_wp2_with fail
    refine (awake07_any _).mono ?_
    rintro e w2 ⟨rfl, hb2⟩
    have H2 := Lib.hid (H1.out.1.trans (hb2.mono H1.out.1.size))
    clear hb2
    go_wp2
    go_ret
    exact ⟨rfl, H2.out⟩
  | false =>
    have HNG := Lib.hid (H1.out.2.2 rfl)
    go_wp2_with (refine wpList_load_rec' _ (by rfl) (by rfl) (by rfl) hx1 ?_)
    refine (copy07_any x _ H1.out.2.1 HNG.out).mono ?_
    rintro e w2 ⟨y, rfl, hym, hoky, _, hb2⟩
    have hx2 := hx1.below hb2 hx1.lt
    have H2 := Lib.hid (And.intro hym (And.intro hoky (And.intro (H1.out.1.trans (hb2.mono H1.out.1.size)) (And.intro (H1.out.2.1.below hb2) hx2))))
    clear hym hoky hb2 hx1 hx2
    go_wp2_with fail
    refine (rencode_any y _ H2.out.2.1 (small_m H2.out.1 HNG.out.small)).mono ?_
    rintro e w3 ⟨v, rfl, ho, hb3⟩
    have hx3 := H2.out.2.2.2.2.below hb3 H2.out.2.2.2.2.lt
    have H3 := Lib.hid (And.intro (H2.out.2.2.1.trans (hb3.mono H2.out.2.2.1.size)) (H2.out.2.2.2.1.below hb3))
    clear hb3
    rcases enc_ways y.m with ⟨en, hen, he, hno⟩ | ⟨hmay, hlen, he⟩
    · rw [he] at ho ⊢
      dsimp only at ho ⊢
      have hv : ∃ A c, v = .slice A 0 c := by obtain ⟨A, c, rfl⟩ := own_slice ho; exact ⟨A, c, rfl⟩
      obtain ⟨A, c, rfl⟩ := hv
      clear ho he
      rcases hen with rfl | rfl
      · have hmn := hno rfl
        rw [H2.out.1] at hmn
        have HMN := Lib.hid hmn
        clear hno hmn
        go_wp2_with (refine wpList_load_rec' _ (by rfl) (by rfl) (by rfl) hx3 ?_)
        refine (fmay_any x _ H3.out.2 HNG.out.small).mono ?_
        rw [HMN.out]
        rintro e w4 ⟨rfl, hb4⟩
        have H4 := Lib.hid (H3.out.1.trans (hb4.mono H3.out.1.size))
        clear hb4 hx3
        go_wp2_with fail
        refine (awake07_any _).mono ?_
        rintro e w5 ⟨rfl, hb5⟩
        have H5 := Lib.hid (H4.out.trans (hb5.mono H4.out.size))
        clear hb5
        go_wp2
        go_ret
        exact ⟨rfl, H5.out⟩
      · clear hno hx3
        go_wp2_with fail
        refine (awake07_any _).mono ?_
        rintro e w5 ⟨rfl, hb5⟩
        have H5 := Lib.hid (H3.out.1.trans (hb5.mono H3.out.1.size))
        clear hb5
        go_wp2
        go_ret
        exact ⟨rfl, H5.out⟩
    · rw [he] at ho ⊢
      dsimp only at ho ⊢
      have hde : Rc.dec (Rc.body y.m) = (y.m, 0) := dec_enc hmay hlen
      obtain ⟨A2, c2, rfl⟩ := own_slice ho
      have hBS := BS.of_own ho
      generalize Rc.body y.m = bs at *
      have hd := rdecode_any A2 bs.length c2 bs w3 hBS (by omega)
      rw [hde] at hd
      have HD := Lib.hid hd
      clear ho he hmay hde hBS hd
      go_wp2_with fail
      refine HD.out.mono ?_
      rintro e w4 ⟨z, rfl, hzm, hokz, _, hb4⟩
      have hbz : Blk (w4.alloc (.cells #[.int .i64 0, .int .i64 0, .int .i64 0, .int .i64 0, .string ⟨#[]⟩, .bool false, .string ⟨#[]⟩, .bool false, .string ⟨#[]⟩, .int .i64 0, .slice none 0 0, .slice none 0 0, .slice none 0 0, .slice none 0 0, .slice none 0 0, .slice none 0 0] 30)) w4.heap.size 30 zCells := Blk.new _ _ _
      have hx4 := hx3.below hb4 hx3.lt
      have H4 := Lib.hid (And.intro hzm (And.intro hokz (And.intro (H3.out.1.trans (hb4.mono H3.out.1.size)) (And.intro (H3.out.2.below hb4) hx4))))
      clear hzm hokz hb4 hx3 hx4
      go_upto_region 7 with (refine wpList_store_rec z (by rfl) _ _ (by rfl) (by rfl) (by rfl) hbz (by rfl) ?_; intro w5 hB5 hF5 hS5)
      have hb5 : Below w4.heap.size w4 w5 := ((Below.refl _ w4).alloc (Nat.le_refl _) _).trans (hF5.below (by simp) (fun j hj => by have e : j = w4.heap.size := hj; omega))
      have hx5 := H4.out.2.2.2.2.below hb5 H4.out.2.2.2.2.lt
      have HB5 := Lib.hid (And.intro (H4.out.2.2.2.1.below hb5) (And.intro (H4.out.2.1.below hb5) (H4.out.2.2.1.trans (hb5.mono H4.out.2.2.1.size))))
      clear hb5 hbz hF5 hS5
      go_wp2_with (first | (refine wpList_load_rec' _ (by rfl) (by rfl) (by rfl) hB5 ?_) | (refine wpList_load_rec' _ (by rfl) (by rfl) (by rfl) hx5 ?_))
      refine (same07_eq x z _ HB5.out.1 HB5.out.2.1 HNG.out.small (by rw [H4.out.1, H2.out.1])).mono ?_
      rintro e w6 ⟨rfl, hb6⟩
      have H6 := Lib.hid (HB5.out.2.2.trans (hb6.mono HB5.out.2.2.size))
      clear hb6 hB5 hx5
      go_wp2_with fail
      refine (awake07_any _).mono ?_
      rintro e w7 ⟨rfl, hb7⟩
      have H7 := Lib.hid (H6.out.trans (hb7.mono H6.out.size))
      clear hb7
      go_wp2
      go_ret
      exact ⟨rfl, H7.out⟩

theorem own : ownKnob Try.prog.godebug = none := by kernel_rfl
theorem laidOut : laidOutB Try.prog = true := by kernel_rfl
theorem params_ok : ∀ t ∈ Try.f5.params.toList, Try.prog.readableRec t = true ∧ t < Try.prog.types.size := by
  rw [Try.params5]
  intro t ht
  have ht' : t = 30 := by
    simpa using ht
  subst ht'
  exact ⟨(show Try.prog.readableRec 30 = true by kernel_rfl), of_decide_eq_true (show decide (30 < Try.prog.types.size) = true by kernel_rfl)⟩

set_option maxRecDepth 100000 in
theorem contract (H : Type) (enc : TypeId × Value → H) (W : World) (base : Nat) (args : Array Value) (ds gs : List (DataW H)) (before : List MemPlace)
    (hval : ∀ (j : Nat) t v, Try.f5.params[j]? = some t → args[j]? = some v → Value.okWide Try.prog W .any base t v)
    (hW : DataW.Whole enc Try.prog Try.f5.params.toList Rows.recBackSpec.vars false W args.toList ds gs before) :
    Calls Try.prog 5 args W fun e W' => ∃ v, e = .returned v ∧ Rows.recBackSpec.post enc Try.prog Try.f5 false true false false W args v W' := by
  have hW' := hW
  obtain ⟨p, q, hA0, hV, rfl, hfz, hnd⟩ := hW
  have hA : DataW.TrodAll enc Try.prog W 0 (fun _ => true) true Try.f5.params.toList args.toList ds p := hA0
  rw [Try.params5] at hA hval
  obtain ⟨v0, vs0, d0, ds0, p0, q0, hargs, rfl, rfl, h0, r0⟩ := trodAll_cons hA
  obtain ⟨rfl, rfl, rfl⟩ := trodAll_nil r0
  obtain rfl : args = #[v0] := by cases args; simp_all
  obtain ⟨rfl, rfl⟩ := trodVars_none hV
  obtain ⟨x0, rfl, ok0⟩ := open_rec (hval 0 30 v0 rfl rfl) h0
  refine (walk x0 W ok0).mono fun e W' ⟨he, bel⟩ => ?_
  exact ⟨_, he, post_true laidOut Try.underlying4 (show Try.f5.resultTypes = #[4] from rfl) params_ok rfl hW' rfl bel⟩

theorem laid_met (os : Os) : laidMet Try.prog Rows.recBackRow.laid ((World.holding Try.prog os ⟨#[], #[], []⟩).forCall (fun _ _ => 0) ⟨#[], #[.agg #[.int .i64 0, .int .i64 0, .int .i64 0, .int .i64 0, .string ⟨#[]⟩, .bool false, .string ⟨#[]⟩, .bool false, .string ⟨#[]⟩, .int .i64 0, .slice none 0 0, .slice none 0 0, .slice none 0 0, .slice none 0 0, .slice none 0 0, .slice none 0 0]], []⟩).memory :=
  laidMet_of_run' 8 (by kernel_rfl) (by kernel_rfl)
theorem reads (os : Os) {H : Type} (enc : TypeId × Value → H) : ∃ places, DataW.whole enc Try.prog ((World.holding Try.prog os ⟨#[], #[], []⟩).forCall (fun _ _ => 0) ⟨#[], #[.agg #[.int .i64 0, .int .i64 0, .int .i64 0, .int .i64 0, .string ⟨#[]⟩, .bool false, .string ⟨#[]⟩, .bool false, .string ⟨#[]⟩, .int .i64 0, .slice none 0 0, .slice none 0 0, .slice none 0 0, .slice none 0 0, .slice none 0 0, .slice none 0 0]], []⟩).memory Try.f5.params.toList Rows.recBackSpec.vars false (#[Value.agg #[.int .i64 0, .int .i64 0, .int .i64 0, .int .i64 0, .string ⟨#[]⟩, .bool false, .string ⟨#[]⟩, .bool false, .string ⟨#[]⟩, .int .i64 0, .slice none 0 0, .slice none 0 0, .slice none 0 0, .slice none 0 0, .slice none 0 0, .slice none 0 0]] : Array Value).toList 8 = some ([.agg [.lit (.int .i64 0), .lit (.int .i64 0), .lit (.int .i64 0), .lit (.int .i64 0), .lit (.string []), .agg [.lit (.bool false), .lit (.string [])], .agg [.lit (.bool false), .lit (.string [])], .lit (.int .i64 0), .nil, .nil, .nil, .nil, .nil, .nil]], [], places) :=
  ⟨[], by kernel_rfl⟩
set_option maxRecDepth 100000 in
theorem lifted (os : Os) (started : os.Started) (H : Type) (enc : TypeId × Value → H) (F : Stop.Interp) :
    ReturnsInHanded {} Try.checked os 5 .any ((OpenSpec.ofChange Rows.recBackSpec).preRow enc Try.prog Try.f5 Rows.recBackRow.domain false Rows.recBackRow.laid) (((OpenSpec.ofChange Rows.recBackSpec).at F).post enc Try.prog Try.f5 false true false false) := by
  obtain ⟨places, hx⟩ := reads os enc
  refine returnsInHanded_of_row (C := Try.checked) (s := OpenSpec.ofChange Rows.recBackSpec) own started (by kernel_rfl) Try.func5
    (witness_row_at (enc := enc) (C := Try.checked) false (World.holding Try.prog os ⟨#[], #[], []⟩) #[.agg #[.int .i64 0, .int .i64 0, .int .i64 0, .int .i64 0, .string ⟨#[]⟩, .bool false, .string ⟨#[]⟩, .bool false, .string ⟨#[]⟩, .int .i64 0, .slice none 0 0, .slice none 0 0, .slice none 0 0, .slice none 0 0, .slice none 0 0, .slice none 0 0]] rfl (by kernel_rfl) (by kernel_rfl) (by kernel_rfl)
      (OpenSpec.preRow_of_cond 8 hx (by kernel_rfl) (fun k hk => by cases hk) (by kernel_rfl) (laid_met os))) ?_
  intro W base args ds gs before hval hW _ _ hsz hL _ _
  exact contract H enc W base args ds gs before hval hW
theorem said : Rows.RecBackSaid :=
  OpenClaim.holds_of_cond 5 Try.f5 rfl rfl rfl rfl rfl rfl rfl ⟨rfl, rfl, rfl, rfl, rfl⟩ rfl rfl rfl rfl rfl (by kernel_rfl) Try.func5 (by kernel_rfl)
    (of_decide_eq_true (by kernel_rfl)) (by unfold Func.isWrapper; first | (rw [if_pos (by decide +kernel)]; kernel_rfl) | (rw [if_neg (by decide +kernel)]; exact ⟨rfl, rfl⟩))
    (fun os started H enc _ F => by rw [OpenClaim.pre_eq_preRow]; exact lifted os started H enc F)
#print axioms said
end Go.Proofs.Ytlijfnekopjogaa.recBack
