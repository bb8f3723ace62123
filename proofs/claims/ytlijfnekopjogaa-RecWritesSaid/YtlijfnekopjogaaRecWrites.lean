/- Whether a record may be, its bytes, and how many they are, are the document's; no condition. -/
import Derived.Test.YtlijfnekopjogaaRecAwake
import Derived.Test.YtlijfnekopjogaaRecCopys
import Derived.Test.YtlijfnekopjogaaRecOpen
import Derived.Test.YtlijfnekopjogaaRecRefEnc
import Derived.Test.YtlijfnekopjogaaLift
import Derived.Test.YtlijfnekopjogaaRows
namespace Go.Proofs.Ytlijfnekopjogaa.recWrites
open Go.ChangeMaps Go.ChangeShapes Go.WideShapes Go.ChangeAt Go.RowKit Mem Lift Rc
set_option maxRecDepth 100000
set_option linter.unusedVariables false
set_option linter.unusedSimpArgs false

/-- what stands where the answers are compared -/
structure WrH (x : MD) (w W : World) (A2 A3 : Option Addr) (n : Nat) (bs : List UInt8) : Prop where
  hb : Below w.heap.size w W
  hx : Blk W w.heap.size 30 (mCells x)
  ok : MOk W x
  b : BS W A2 n bs
  c : BS W A3 n bs
  le : n ≤ 4096
set_option maxHeartbeats 16000000 in
theorem walk (x : MD) (w : World) (hok : MOk w x) :
    Calls Try.prog 3 #[mVal x] w fun e w' => e = .returned (.bool true) ∧ Below w.heap.size w w' := by
  obtain ⟨W0, hW0⟩ : ∃ W0, w.alloc (.cells (mCells x) 30) = W0 := ⟨_, rfl⟩
  have hb0 : Below w.heap.size w W0 := by rw [← hW0]; exact (Below.refl _ _).alloc (Nat.le_refl _) _
  have hx0 : Blk W0 w.heap.size 30 (mCells x) := by rw [← hW0]; exact Blk.new _ _ _
  have H := Lib.hid (And.intro hb0 (hok.below hb0))
  clear hok hb0
  go_enter Try.func3, Try.ntmps3
  go_wp2_with (refine wpList_load_rec' _ (by rfl) (by rfl) (by rfl) hx0 ?_)
  refine (great_any x _ H.out.2).mono ?_
  rintro e w1 ⟨g, rfl, hb1, hng⟩
  have hx1 := hx0.below hb1 hx0.lt
  have H1 := Lib.hid (And.intro (H.out.1.trans (hb1.mono H.out.1.size)) (And.intro (H.out.2.below hb1) hng))
  clear hb1 hng hx0 hW0
  cases g with
  | true =>
    go_wp2_with fail
    refine (awake07_any _).mono ?_
    rintro e w2 ⟨rfl, hb2⟩
    have H2 := Lib.hid (H1.out.1.trans (hb2.mono H1.out.1.size))
    clear hb2
    go_wp2
    go_ret
    exact ⟨rfl, H2.out⟩
  | false =>
    have HNG := Lib.hid (H1.out.2.2 rfl)
    go_wp2_with (refine wpList_load_rec' _ (by rfl) (by rfl) (by rfl) hx1 ?_)
    refine (copy07_any x _ H1.out.2.1 HNG.out).mono ?_
    rintro e w2 ⟨y, rfl, hym, hoky, _, hb2⟩
    have hx2 := hx1.below hb2 hx1.lt
    have H2 := Lib.hid (And.intro hym (And.intro hoky (And.intro (H1.out.1.trans (hb2.mono H1.out.1.size)) (And.intro (H1.out.2.1.below hb2) hx2))))
    clear hym hoky hb2 hx1 hx2
    go_wp2_with fail
    refine (rencode_any y _ H2.out.2.1 (small_m H2.out.1 HNG.out.small)).mono ?_
    rintro e w3 ⟨v, rfl, ho, hb3⟩
    have hx3 := H2.out.2.2.2.2.below hb3 H2.out.2.2.2.2.lt
    have H3 := Lib.hid (And.intro (H2.out.2.2.1.trans (hb3.mono H2.out.2.2.1.size)) (H2.out.2.2.2.1.below hb3))
    clear hb3
    obtain ⟨bs, en, henc, hle⟩ : ∃ bs en, Rc.enc x.m = (bs, en) ∧ bs.length ≤ 4096 := by
      rcases enc_ways x.m with ⟨e, _, he, _⟩ | ⟨_, hl, he⟩
      · exact ⟨_, _, he, by simp⟩
      · exact ⟨_, _, he, hl⟩
    obtain ⟨n, hn⟩ : ∃ n, bs.length = n := ⟨_, rfl⟩
    obtain ⟨M, hM⟩ : ∃ M, Rc.may x.m = M := ⟨_, rfl⟩
    have HM := Lib.hid hM
    rw [H2.out.1, henc] at ho ⊢
    dsimp only at ho ⊢
    obtain ⟨A2, c2, rfl⟩ := own_slice ho
    rw [hn] at ho ⊢
    have HE := Lib.hid (And.intro henc hn)
    have H3b := Lib.hid (And.intro (BS.of_own ho) (show n ≤ 4096 by omega))
    have HX3 := Lib.hid hx3
    clear ho henc hn hM hle
    go_wp2_with (refine wpList_load_rec' _ (by rfl) (by rfl) (by rfl) hx3 ?_)
    refine (frenc_any x _ H3.out.2 HNG.out.small).mono ?_
    rw [HE.out.1]
    rintro e W4 ⟨v4, rfl, ho4, hb4⟩
    dsimp only at ho4 ⊢
    obtain ⟨A3, c3, rfl⟩ := own_slice ho4
    rw [HE.out.2] at ho4 ⊢
    have H4 := Lib.hid (show WrH x w W4 A2 A3 n bs from ⟨H3.out.1.trans (hb4.mono H3.out.1.size), HX3.out.below hb4 HX3.out.lt, H3.out.2.below hb4, H3b.out.1.below hb4, BS.of_own ho4, H3b.out.2⟩)
    clear ho4 hb4 hx3
    go_wp2_with fail
    refine wp_region_held_drew (S := (fun W => Below W4.heap.size W4 W)) (by kernel_rfl) (Below.refl _ _).drew (fun hHeld => ?_)
    refine tk 0 21 (hi := rfl) (v := mVal x) (hy := fun W hW => exec_load_rec (x := x) (.tmp 1) rfl (by rfl) (H4.out.hx.below hW H4.out.hx.lt)) (h := ?_)
    refine tk 3 24 (hi := rfl) (v := mVal x) (hy := fun W hW => exec_load_rec (x := x) (.tmp 1) rfl (by rfl) (H4.out.hx.below hW H4.out.hx.lt)) (h := ?_)
    refine wpAnyH_ready (rs := [1]) (by kernel_rfl) (by simp) ?_
    refine AllReadyH.cons rfl (fun K hK => ?_) AllReadyH.nil
    go_simp
    have hS : Below W4.heap.size W4 _ := hHeld
    refine (copy07_any x _ (H4.out.ok.below hS) HNG.out).mono ?_
    rintro e wc ⟨y2, rfl, hym2, hoky2, _, hb⟩
    have HY := Lib.hid (And.intro hym2 hoky2)
    have hS2 := hS.trans (hb.mono hS.size)
    clear hym2 hoky2 hb
    refine hK.out _ _ hS2 (fun hHeld => ?_)
    clear hK K
    try simp only [Act.put, List.setIfInBounds_toArray, List.set_cons_zero, List.set_cons_succ]
    refine wpAnyH_ready (rs := [2]) (by kernel_rfl) (by simp) ?_
    refine AllReadyH.cons rfl (fun K hK => ?_) AllReadyH.nil
    go_simp
    have hS : Below W4.heap.size W4 _ := hHeld
    have hm2 := may_any y2 _ HY.out.2 (small_m HY.out.1 HNG.out.small)
    rw [HY.out.1, HM.out] at hm2
    refine hm2.mono ?_
    rintro e wm ⟨rfl, hb⟩
    have hS2 := hS.trans (hb.mono hS.size)
    clear hm2 hb
    refine hK.out _ _ hS2 (fun hHeld => ?_)
    clear hK K
    try simp only [Act.put, List.setIfInBounds_toArray, List.set_cons_zero, List.set_cons_succ]
    refine wpAnyH_ready (rs := [4]) (by kernel_rfl) (by simp) ?_
    refine AllReadyH.cons rfl (fun K hK => ?_) AllReadyH.nil
    go_simp
    have hS : Below W4.heap.size W4 _ := hHeld
    have hm3 := fmay_any x _ (H4.out.ok.below hS) HNG.out.small
    rw [HM.out] at hm3
    refine hm3.mono ?_
    rintro e wn ⟨rfl, hb⟩
    have hS2 := hS.trans (hb.mono hS.size)
    clear hm3 hb
    refine hK.out _ _ hS2 (fun hHeld => ?_)
    clear hK K
    try simp only [Act.put, List.setIfInBounds_toArray, List.set_cons_zero, List.set_cons_succ]
    refine tk 5 26 (h := ?_)
    refine tk 6 27 (h := ?_)
    refine tk 7 28 (h := ?_)
    refine tk 8 29 (h := ?_)
    refine tk 9 30 (h := ?_)
    refine tk 10 31 (h := ?_)
    refine tk 11 32 (h := ?_)
    refine tk 12 33 (h := ?_)
    refine tk 13 34 (h := ?_)
    refine wpAnyH_ready (rs := [14]) (by kernel_rfl) (by simp) ?_
    refine AllReadyH.cons rfl (fun K hK => ?_) AllReadyH.nil
    go_simp
    have hS : Below W4.heap.size W4 _ := hHeld
    refine (same_any A2 A3 n n c2 c3 bs bs _ (H4.out.b.below hS) (H4.out.c.below hS) (by have := H4.out.le; omega) (by have := H4.out.le; omega)).mono ?_
    rintro e ws ⟨rfl, hd⟩
    have hS2 := hS.trans (hd.below.mono hS.size)
    clear hd
    rw [decide_eq_true (show bs = bs from rfl)]
    refine hK.out _ _ hS2 (fun hHeld => ?_)
    clear hK K
    try simp only [Act.put, List.setIfInBounds_toArray, List.set_cons_zero, List.set_cons_succ]
    refine tk 15 36 (h := ?_)
    refine tk 16 37 (h := ?_)
    refine tk 17 38 (hi := rfl) (v := mVal x) (hy := fun W hW => exec_load_rec (x := x) (.tmp 1) rfl (by rfl) (H4.out.hx.below hW H4.out.hx.lt)) (h := ?_)
    refine tk 20 41 (h := ?_)
    refine tk 21 42 (h := ?_)
    refine wpAnyH_ready (rs := [18]) (by kernel_rfl) (by simp) ?_
    refine AllReadyH.cons rfl (fun K hK => ?_) AllReadyH.nil
    go_simp
    have hS : Below W4.heap.size W4 _ := hHeld
    refine (copy07_any x _ (H4.out.ok.below hS) HNG.out).mono ?_
    rintro e wc ⟨y2, rfl, hym2, hoky2, _, hb⟩
    have HY := Lib.hid (And.intro hym2 hoky2)
    have hS2 := hS.trans (hb.mono hS.size)
    clear hym2 hoky2 hb
    refine hK.out _ _ hS2 (fun hHeld => ?_)
    clear hK K
    try simp only [Act.put, List.setIfInBounds_toArray, List.set_cons_zero, List.set_cons_succ]
    refine wpAnyH_ready (rs := [19]) (by kernel_rfl) (by simp) ?_
    refine AllReadyH.cons rfl (fun K hK => ?_) AllReadyH.nil
    go_simp
    have hS : Below W4.heap.size W4 _ := hHeld
    have hz := rsize_any y2 _ HY.out.2 (small_m HY.out.1 HNG.out.small)
    rw [HY.out.1, HE.out.1] at hz
    dsimp only at hz
    rw [HE.out.2] at hz
    refine hz.mono ?_
    rintro e wz ⟨rfl, hb⟩
    have hS2 := hS.trans (hb.mono hS.size)
    clear hz hb
    refine hK.out _ _ hS2 (fun hHeld => ?_)
    clear hK K
    try simp only [Act.put, List.setIfInBounds_toArray, List.set_cons_zero, List.set_cons_succ]
    refine tk 22 43 (h := ?_)
    refine tk 23 44 (h := ?_)
    refine tk 24 45 (h := ?_)
    refine wpAnyH_ready (rs := [25]) (by kernel_rfl) (by simp) ?_
    refine AllReadyH.cons rfl (fun K hK => ?_) AllReadyH.nil
    go_simp
    have hS : Below W4.heap.size W4 _ := hHeld
    refine (awake07_any _).mono ?_
    rintro e wa ⟨rfl, hb⟩
    have hS2 := hS.trans (hb.mono hS.size)
    clear hb
    refine hK.out _ _ hS2 (fun hHeld => ?_)
    clear hK K
    try simp only [Act.put, List.setIfInBounds_toArray, List.set_cons_zero, List.set_cons_succ]
    refine tk 26 47 (h := ?_)
    refine wpAnyH_ready (rs := [27]) (by kernel_rfl) (by simp) ?_
    refine AllReadyH.cons rfl (fun K hK => ?_) AllReadyH.nil
    go_simp
    refine hK.out _ _ hHeld (fun hHeld => ?_)
    clear hK K
    try simp only [Act.put, List.setIfInBounds_toArray, List.set_cons_zero, List.set_cons_succ]
    refine wpAnyH_done (by kernel_rfl) ?_ _
    have hS : Below W4.heap.size W4 _ := hHeld
    have HF := Lib.hid (H4.out.hb.trans (hS.mono H4.out.hb.size))
    clear hS hHeld
    go_wp2
    go_ret
    exact ⟨rfl, HF.out⟩

theorem own : ownKnob Try.prog.godebug = none := by kernel_rfl
theorem laidOut : laidOutB Try.prog = true := by kernel_rfl
theorem params_ok : ∀ t ∈ Try.f3.params.toList, Try.prog.readableRec t = true ∧ t < Try.prog.types.size := by
  rw [Try.params3]
  intro t ht
  have ht' : t = 30 := by
    simpa using ht
  subst ht'
  exact ⟨(show Try.prog.readableRec 30 = true by kernel_rfl), of_decide_eq_true (show decide (30 < Try.prog.types.size) = true by kernel_rfl)⟩

set_option maxRecDepth 100000 in
theorem contract (H : Type) (enc : TypeId × Value → H) (W : World) (base : Nat) (args : Array Value) (ds gs : List (DataW H)) (before : List MemPlace)
    (hval : ∀ (j : Nat) t v, Try.f3.params[j]? = some t → args[j]? = some v → Value.okWide Try.prog W .any base t v)
    (hW : DataW.Whole enc Try.prog Try.f3.params.toList Rows.recWritesSpec.vars false W args.toList ds gs before) :
    Calls Try.prog 3 args W fun e W' => ∃ v, e = .returned v ∧ Rows.recWritesSpec.post enc Try.prog Try.f3 false true false false W args v W' := by
  have hW' := hW
  obtain ⟨p, q, hA0, hV, rfl, hfz, hnd⟩ := hW
  have hA : DataW.TrodAll enc Try.prog W 0 (fun _ => true) true Try.f3.params.toList args.toList ds p := hA0
  rw [Try.params3] at hA hval
  obtain ⟨v0, vs0, d0, ds0, p0, q0, hargs, rfl, rfl, h0, r0⟩ := trodAll_cons hA
  obtain ⟨rfl, rfl, rfl⟩ := trodAll_nil r0
  obtain rfl : args = #[v0] := by cases args; simp_all
  obtain ⟨rfl, rfl⟩ := trodVars_none hV
  obtain ⟨x0, rfl, ok0⟩ := open_rec (hval 0 30 v0 rfl rfl) h0
  refine (walk x0 W ok0).mono fun e W' ⟨he, bel⟩ => ?_
  exact ⟨_, he, post_true laidOut Try.underlying4 (show Try.f3.resultTypes = #[4] from rfl) params_ok rfl hW' rfl bel⟩

theorem laid_met (os : Os) : laidMet Try.prog Rows.recWritesRow.laid ((World.holding Try.prog os ⟨#[], #[], []⟩).forCall (fun _ _ => 0) ⟨#[], #[.agg #[.int .i64 0, .int .i64 0, .int .i64 0, .int .i64 0, .string ⟨#[]⟩, .bool false, .string ⟨#[]⟩, .bool false, .string ⟨#[]⟩, .int .i64 0, .slice none 0 0, .slice none 0 0, .slice none 0 0, .slice none 0 0, .slice none 0 0, .slice none 0 0]], []⟩).memory :=
  laidMet_of_run' 8 (by kernel_rfl) (by kernel_rfl)
theorem reads (os : Os) {H : Type} (enc : TypeId × Value → H) : ∃ places, DataW.whole enc Try.prog ((World.holding Try.prog os ⟨#[], #[], []⟩).forCall (fun _ _ => 0) ⟨#[], #[.agg #[.int .i64 0, .int .i64 0, .int .i64 0, .int .i64 0, .string ⟨#[]⟩, .bool false, .string ⟨#[]⟩, .bool false, .string ⟨#[]⟩, .int .i64 0, .slice none 0 0, .slice none 0 0, .slice none 0 0, .slice none 0 0, .slice none 0 0, .slice none 0 0]], []⟩).memory Try.f3.params.toList Rows.recWritesSpec.vars false (#[Value.agg #[.int .i64 0, .int .i64 0, .int .i64 0, .int .i64 0, .string ⟨#[]⟩, .bool false, .string ⟨#[]⟩, .bool false, .string ⟨#[]⟩, .int .i64 0, .slice none 0 0, .slice none 0 0, .slice none 0 0, .slice none 0 0, .slice none 0 0, .slice none 0 0]] : Array Value).toList 8 = some ([.agg [.lit (.int .i64 0), .lit (.int .i64 0), .lit (.int .i64 0), .lit (.int .i64 0), .lit (.string []), .agg [.lit (.bool false), .lit (.string [])], .agg [.lit (.bool false), .lit (.string [])], .lit (.int .i64 0), .nil, .nil, .nil, .nil, .nil, .nil]], [], places) :=
  ⟨[], by kernel_rfl⟩
set_option maxRecDepth 100000 in
theorem lifted (os : Os) (started : os.Started) (H : Type) (enc : TypeId × Value → H) (F : Stop.Interp) :
    ReturnsInHanded {} Try.checked os 3 .any ((OpenSpec.ofChange Rows.recWritesSpec).preRow enc Try.prog Try.f3 Rows.recWritesRow.domain false Rows.recWritesRow.laid) (((OpenSpec.ofChange Rows.recWritesSpec).at F).post enc Try.prog Try.f3 false true false false) := by
  obtain ⟨places, hx⟩ := reads os enc
  refine returnsInHanded_of_row (C := Try.checked) (s := OpenSpec.ofChange Rows.recWritesSpec) own started (by kernel_rfl) Try.func3
    (witness_row_at (enc := enc) (C := Try.checked) false (World.holding Try.prog os ⟨#[], #[], []⟩) #[.agg #[.int .i64 0, .int .i64 0, .int .i64 0, .int .i64 0, .string ⟨#[]⟩, .bool false, .string ⟨#[]⟩, .bool false, .string ⟨#[]⟩, .int .i64 0, .slice none 0 0, .slice none 0 0, .slice none 0 0, .slice none 0 0, .slice none 0 0, .slice none 0 0]] rfl (by kernel_rfl) (by kernel_rfl) (by kernel_rfl)
      (OpenSpec.preRow_of_cond 8 hx (by kernel_rfl) (fun k hk => by cases hk) (by kernel_rfl) (laid_met os))) ?_
  intro W base args ds gs before hval hW _ _ hsz hL _ _
  exact contract H enc W base args ds gs before hval hW
theorem said : Rows.RecWritesSaid :=
  OpenClaim.holds_of_cond 3 Try.f3 rfl rfl rfl rfl rfl rfl rfl ⟨rfl, rfl, rfl, rfl, rfl⟩ rfl rfl rfl rfl rfl (by kernel_rfl) Try.func3 (by kernel_rfl)
    (of_decide_eq_true (by kernel_rfl)) (by unfold Func.isWrapper; first | (rw [if_pos (by decide +kernel)]; kernel_rfl) | (rw [if_neg (by decide +kernel)]; exact ⟨rfl, rfl⟩))
    (fun os started H enc _ F => by rw [OpenClaim.pre_eq_preRow]; exact lifted os started H enc F)
#print axioms said
end Go.Proofs.Ytlijfnekopjogaa.recWrites
