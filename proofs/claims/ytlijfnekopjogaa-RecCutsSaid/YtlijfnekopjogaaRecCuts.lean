/- No beginning of a record's bytes is one; no condition. -/
import Derived.Test.YtlijfnekopjogaaRecAwake
import Derived.Test.YtlijfnekopjogaaRecCopys
import Derived.Test.YtlijfnekopjogaaRecOpen
import Derived.Test.YtlijfnekopjogaaLift
import Derived.Test.YtlijfnekopjogaaRows
namespace Go.Proofs.Ytlijfnekopjogaa.recCuts
open Go.ChangeMaps Go.ChangeShapes Go.WideShapes Go.ChangeAt Go.RowKit Mem Lift Rc
set_option maxRecDepth 100000
set_option linter.unusedVariables false
set_option linter.unusedSimpArgs false

theorem k0_small : Small (MD.k0 0) := by
  have h0 : (0 : Nat) ≤ 1000000 := Nat.zero_le _
  exact ⟨h0, h0, h0, h0, h0, h0, fun k hk => absurd hk (Nat.not_lt_zero _), fun k hk => absurd hk (Nat.not_lt_zero _)⟩
set_option maxHeartbeats 8000000 in
theorem walk (x : MD) (cut : Int) (w : World) (hok : MOk w x) (hc1 : -9223372036854775808 ≤ cut) (hc2 : cut ≤ 9223372036854775807) :
    Calls Try.prog 6 #[mVal x, .int .i64 cut] w fun e w' => e = .returned (.bool true) ∧ Below w.heap.size w w' := by
  obtain ⟨W0, hW0⟩ : ∃ W0, w.alloc (.cells (mCells x) 30) = W0 := ⟨_, rfl⟩
  have hb0 : Below w.heap.size w W0 := by rw [← hW0]; exact (Below.refl _ _).alloc (Nat.le_refl _) _
  have hx0 : Blk W0 w.heap.size 30 (mCells x) := by rw [← hW0]; exact Blk.new _ _ _
  have H := Lib.hid (And.intro hb0 (hok.below hb0))
  clear hok hb0
  go_enter Try.func6, Try.ntmps6
  go_wp2_with (refine wpList_load_rec' _ (by rfl) (by rfl) (by rfl) hx0 ?_)
  refine (great_any x _ H.out.2).mono ?_
  rintro e w1 ⟨g, rfl, hb1, hng⟩
  have hx1 := hx0.below hb1 hx0.lt
  have H1 := Lib.hid (And.intro (H.out.1.trans (hb1.mono H.out.1.size)) (And.intro (H.out.2.below hb1) hng))
  clear hb1 hng hx0 hW0
  have hways : g = true ∨ (g = false ∧ decide (cut < 0) = true) ∨ (g = false ∧ decide (cut < 0) = false) := by
    cases g
    · cases h : decide (cut < 0)
      · exact .inr (.inr ⟨rfl, rfl⟩)
      · exact .inr (.inl ⟨rfl, rfl⟩)
    · exact .inl rfl
  rcases hways with rfl | ⟨rfl, hcut⟩ | ⟨rfl, hcut⟩
  · go_wp2_with fail
    refine (awake07_any _).mono ?_
    rintro e w2 ⟨rfl, hb2⟩
    have H2 := Lib.hid (H1.out.1.trans (hb2.mono H1.out.1.size))
    clear hb2
    go_wp2
    go_ret
    exact ⟨rfl, H2.out⟩
  · go_wp2_with fail
    refine (awake07_any _).mono ?_
    rintro e w2 ⟨rfl, hb2⟩
    have H2 := Lib.hid (H1.out.1.trans (hb2.mono H1.out.1.size))
    clear hb2
    go_wp2
    go_ret
    exact ⟨rfl, H2.out⟩
  · have hcn : 0 ≤ cut := by simpa using hcut
    have HNG := Lib.hid (H1.out.2.2 rfl)
    obtain ⟨m, rfl⟩ := Int.eq_ofNat_of_zero_le hcn
    go_wp2_with (refine wpList_load_rec' _ (by rfl) (by rfl) (by rfl) hx1 ?_)
    refine (copy07_any x _ H1.out.2.1 HNG.out).mono ?_
    rintro e w2 ⟨y, rfl, hym, hoky, _, hb2⟩
    have H2 := Lib.hid (And.intro hym (And.intro hoky (H1.out.1.trans (hb2.mono H1.out.1.size))))
    clear hym hoky hb2 hx1
    go_wp2_with fail
    refine (rencode_any y _ H2.out.2.1 (small_m H2.out.1 HNG.out.small)).mono ?_
    rintro e w3 ⟨v, rfl, ho, hb3⟩
    have H3 := Lib.hid (H2.out.2.2.trans (hb3.mono H2.out.2.2.size))
    clear hb3
    rcases enc_ways y.m with ⟨en, hen, he, _⟩ | ⟨hmay, hlen, he⟩
    · rw [he] at ho ⊢
      dsimp only at ho ⊢
      clear ho he
      rcases hen with rfl | rfl
      all_goals
        go_wp2_with fail
        refine (awake07_any _).mono ?_
        rintro e w4 ⟨rfl, hb4⟩
        have H4 := Lib.hid (H3.out.trans (hb4.mono H3.out.size))
        clear hb4
        go_wp2
        go_ret
        exact ⟨rfl, H4.out⟩
    · rw [he] at ho ⊢
      dsimp only at ho ⊢
      have hpos := body_pos y.m
      have hcutE : Rc.dec ((Rc.body y.m).take (m % (Rc.body y.m).length)) = (M.zero, 10) := dec_cut hmay hlen (Nat.mod_lt _ hpos)
      obtain ⟨A2, c2, rfl⟩ := own_slice ho
      have hcp := own_capI ho
      have hBS := BS.of_own ho
      generalize Rc.body y.m = bs at *
      have hmod : m % bs.length < bs.length := Nat.mod_lt _ hpos
      have hd := rdecode_any A2 (m % bs.length) c2 (bs.take (m % bs.length)) w3 (hBS.take_ _ (by omega)) (by omega)
      rw [hcutE] at hd
      have hch := fun W => cut_h A2 bs.length c2 (m % bs.length) ((m : Int) % (bs.length : Int)) (by omega) (by omega) W
      have hne : ((bs.length : Int) == 0) = false := by rw [beq_eq_false_iff_ne]; omega
      have hmi : 0 ≤ (m : Int) % (bs.length : Int) ∧ (m : Int) % (bs.length : Int) < (bs.length : Int) := by omega
      have HD := Lib.hid hd
      clear ho he hmay hcutE hBS hd hmod hcp
      go_wp2_with fail
      refine HD.out.mono ?_
      rintro e w4 ⟨z, rfl, hzm, hokz, _, hb4⟩
      have hbz : Blk (w4.alloc (.cells #[.int .i64 0, .int .i64 0, .int .i64 0, .int .i64 0, .string ⟨#[]⟩, .bool false, .string ⟨#[]⟩, .bool false, .string ⟨#[]⟩, .int .i64 0, .slice none 0 0, .slice none 0 0, .slice none 0 0, .slice none 0 0, .slice none 0 0, .slice none 0 0] 30)) w4.heap.size 30 zCells := Blk.new _ _ _
      have H4 := Lib.hid (And.intro hzm (And.intro hokz (H3.out.trans (hb4.mono H3.out.size))))
      clear hzm hokz hb4
      go_wp2_with (first | (refine wpList_store_rec z (by rfl) _ _ (by rfl) (by rfl) (by rfl) hbz (by rfl) ?_; intro w5 hB5 hF5 hS5; have H5 := Lib.hid (And.intro hF5 hS5); clear hF5 hS5) | (refine wpList_load_rec' _ (by rfl) (by rfl) (by rfl) hB5 ?_))
      have hb5 : Below w4.heap.size w4 w5 := ((Below.refl _ w4).alloc (Nat.le_refl _) _).trans (H5.out.1.below (by simp) (fun j hj => by have e : j = w4.heap.size := hj; omega))
      have HB5 := Lib.hid (And.intro hb5 (And.intro (H4.out.2.1.below hb5) (H4.out.2.2.trans (hb5.mono H4.out.2.2.size))))
      clear hb5 hbz
      refine (show Calls Try.prog 19 #[mVal z, mVal (MD.k0 0)] _ _ from (same07_eq z (MD.k0 0) _ HB5.out.2.1 (MOk.k0 _ 0) (small_m (x := MD.k0 0) (by rw [H4.out.1]; rfl) k0_small) (by rw [H4.out.1]; rfl)).mono ?_)
      rintro e w6 ⟨rfl, hb6⟩
      have H6 := Lib.hid (HB5.out.2.2.trans (hb6.mono HB5.out.2.2.size))
      clear hb6
      go_wp2_with fail
      refine (awake07_any _).mono ?_
      rintro e w7 ⟨rfl, hb7⟩
      have H7 := Lib.hid (H6.out.trans (hb7.mono H6.out.size))
      clear hb7
      go_wp2
      go_ret
      exact ⟨rfl, H7.out⟩

theorem own : ownKnob Try.prog.godebug = none := by kernel_rfl
theorem laidOut : laidOutB Try.prog = true := by kernel_rfl
theorem params_ok : ∀ t ∈ Try.f6.params.toList, Try.prog.readableRec t = true ∧ t < Try.prog.types.size := by
  rw [Try.params6]
  intro t ht
  have ht' : t = 30 ∨ t = 3 := by
    simpa using ht
  rcases ht' with rfl | rfl
  · exact ⟨(show Try.prog.readableRec 30 = true by kernel_rfl), of_decide_eq_true (show decide (30 < Try.prog.types.size) = true by kernel_rfl)⟩
  · exact ⟨(show Try.prog.readableRec 3 = true by kernel_rfl), of_decide_eq_true (show decide (3 < Try.prog.types.size) = true by kernel_rfl)⟩

set_option maxRecDepth 100000 in
theorem contract (H : Type) (enc : TypeId × Value → H) (W : World) (base : Nat) (args : Array Value) (ds gs : List (DataW H)) (before : List MemPlace)
    (hval : ∀ (j : Nat) t v, Try.f6.params[j]? = some t → args[j]? = some v → Value.okWide Try.prog W .any base t v)
    (hW : DataW.Whole enc Try.prog Try.f6.params.toList Rows.recCutsSpec.vars false W args.toList ds gs before) :
    Calls Try.prog 6 args W fun e W' => ∃ v, e = .returned v ∧ Rows.recCutsSpec.post enc Try.prog Try.f6 false true false false W args v W' := by
  have hW' := hW
  obtain ⟨p, q, hA0, hV, rfl, hfz, hnd⟩ := hW
  have hA : DataW.TrodAll enc Try.prog W 0 (fun _ => true) true Try.f6.params.toList args.toList ds p := hA0
  rw [Try.params6] at hA hval
  obtain ⟨v0, vs0, d0, ds0, p0, q0, hargs, rfl, rfl, h0, r0⟩ := trodAll_cons hA
  obtain ⟨v1, vs1, d1, ds1, p1, q1, rfl, rfl, rfl, h1, r1⟩ := trodAll_cons r0
  obtain ⟨rfl, rfl, rfl⟩ := trodAll_nil r1
  obtain rfl : args = #[v0, v1] := by cases args; simp_all
  obtain ⟨rfl, rfl⟩ := trodVars_none hV
  obtain ⟨x0, rfl, ok0⟩ := open_rec (hval 0 30 v0 rfl rfl) h0
  obtain ⟨x1, rfl, rfl, rfl, w1⟩ := open_int Try.underlying3 (hval 1 3 v1 rfl rfl) h1
  have b1 := bounds_i64 w1
  refine (walk x0 x1 W ok0 b1.1 b1.2).mono fun e W' ⟨he, bel⟩ => ?_
  exact ⟨_, he, post_true laidOut Try.underlying4 (show Try.f6.resultTypes = #[4] from rfl) params_ok rfl hW' rfl bel⟩

theorem laid_met (os : Os) : laidMet Try.prog Rows.recCutsRow.laid ((World.holding Try.prog os ⟨#[], #[], []⟩).forCall (fun _ _ => 0) ⟨#[], #[.agg #[.int .i64 0, .int .i64 0, .int .i64 0, .int .i64 0, .string ⟨#[]⟩, .bool false, .string ⟨#[]⟩, .bool false, .string ⟨#[]⟩, .int .i64 0, .slice none 0 0, .slice none 0 0, .slice none 0 0, .slice none 0 0, .slice none 0 0, .slice none 0 0], .int .i64 0], []⟩).memory :=
  laidMet_of_run' 8 (by kernel_rfl) (by kernel_rfl)
theorem reads (os : Os) {H : Type} (enc : TypeId × Value → H) : ∃ places, DataW.whole enc Try.prog ((World.holding Try.prog os ⟨#[], #[], []⟩).forCall (fun _ _ => 0) ⟨#[], #[.agg #[.int .i64 0, .int .i64 0, .int .i64 0, .int .i64 0, .string ⟨#[]⟩, .bool false, .string ⟨#[]⟩, .bool false, .string ⟨#[]⟩, .int .i64 0, .slice none 0 0, .slice none 0 0, .slice none 0 0, .slice none 0 0, .slice none 0 0, .slice none 0 0], .int .i64 0], []⟩).memory Try.f6.params.toList Rows.recCutsSpec.vars false (#[Value.agg #[.int .i64 0, .int .i64 0, .int .i64 0, .int .i64 0, .string ⟨#[]⟩, .bool false, .string ⟨#[]⟩, .bool false, .string ⟨#[]⟩, .int .i64 0, .slice none 0 0, .slice none 0 0, .slice none 0 0, .slice none 0 0, .slice none 0 0, .slice none 0 0], Value.int .i64 0] : Array Value).toList 8 = some ([.agg [.lit (.int .i64 0), .lit (.int .i64 0), .lit (.int .i64 0), .lit (.int .i64 0), .lit (.string []), .agg [.lit (.bool false), .lit (.string [])], .agg [.lit (.bool false), .lit (.string [])], .lit (.int .i64 0), .nil, .nil, .nil, .nil, .nil, .nil], .lit (.int .i64 0)], [], places) :=
  ⟨[], by kernel_rfl⟩
set_option maxRecDepth 100000 in
theorem lifted (os : Os) (started : os.Started) (H : Type) (enc : TypeId × Value → H) (F : Stop.Interp) :
    ReturnsInHanded {} Try.checked os 6 .any ((OpenSpec.ofChange Rows.recCutsSpec).preRow enc Try.prog Try.f6 Rows.recCutsRow.domain false Rows.recCutsRow.laid) (((OpenSpec.ofChange Rows.recCutsSpec).at F).post enc Try.prog Try.f6 false true false false) := by
  obtain ⟨places, hx⟩ := reads os enc
  refine returnsInHanded_of_row (C := Try.checked) (s := OpenSpec.ofChange Rows.recCutsSpec) own started (by kernel_rfl) Try.func6
    (witness_row_at (enc := enc) (C := Try.checked) false (World.holding Try.prog os ⟨#[], #[], []⟩) #[.agg #[.int .i64 0, .int .i64 0, .int .i64 0, .int .i64 0, .string ⟨#[]⟩, .bool false, .string ⟨#[]⟩, .bool false, .string ⟨#[]⟩, .int .i64 0, .slice none 0 0, .slice none 0 0, .slice none 0 0, .slice none 0 0, .slice none 0 0, .slice none 0 0], .int .i64 0] rfl (by kernel_rfl) (by kernel_rfl) (by kernel_rfl)
      (OpenSpec.preRow_of_cond 8 hx (by kernel_rfl) (fun k hk => by cases hk) (by kernel_rfl) (laid_met os))) ?_
  intro W base args ds gs before hval hW _ _ hsz hL _ _
  exact contract H enc W base args ds gs before hval hW
theorem said : Rows.RecCutsSaid :=
  OpenClaim.holds_of_cond 6 Try.f6 rfl rfl rfl rfl rfl rfl rfl ⟨rfl, rfl, rfl, rfl, rfl⟩ rfl rfl rfl rfl rfl (by kernel_rfl) Try.func6 (by kernel_rfl)
    (of_decide_eq_true (by kernel_rfl)) (by unfold Func.isWrapper; first | (rw [if_pos (by decide +kernel)]; kernel_rfl) | (rw [if_neg (by decide +kernel)]; exact ⟨rfl, rfl⟩))
    (fun os started H enc _ F => by rw [OpenClaim.pre_eq_preRow]; exact lifted os started H enc F)
#print axioms said
end Go.Proofs.Ytlijfnekopjogaa.recCuts
