/- CrcPatches: with the bytes that are told behind it every text has every sum that is wanted; no condition. -/
import Derived.Test.YtggknkkoaaekkaaDoorCrcPatch
import Derived.Test.YtggknkkoaaekkaaDoorLift
import Derived.Test.YtggknkkoaaekkaaDoorCards
import Derived.Test.YtggknkkoaaekkaaDoorTie
import Derived.Lib.LaidTab
namespace Go.Proofs.YtggknkkoaaekkaaDoor.crcPatches
open Go.ChangeShapes Go.WideShapes Go.ChangeAt Go.RowKit Mem Lift
set_option linter.unusedVariables false

set_option maxHeartbeats 400000 in
theorem walk0 (A : Option Addr) (n cap : Nat) (bs : List UInt8) (want : BitVec 32) (w : World) (hbs : BS w A n bs) (ht : Half w) :
    Calls Tryd.prog 5 #[.slice A n cap, .int .u32 want.toNat] w fun e w' => e = .returned (.bool true) ∧ Below w.heap.size w w' := by
  by_cases hl : n ≤ 2000
  · have hg : decide ((2000 : Int) < (n : Int)) = false := by simp; omega
    obtain ⟨i0, hi0, hz0, hz1, hz2⟩ := info_parts info8
    have HI := Lib.hid (And.intro hi0 (And.intro hz0 (And.intro hz1 hz2)))
    clear hi0 hz0 hz1 hz2
    go_enter Tryd.func5, Tryd.ntmps5
    go_wp2_with fail
    refine (own_any A n cap bs w hbs (by omega)).mono ?_
    rintro e w1 ⟨v, rfl, hown, hb1⟩
    rw [hbs.1] at hown
    obtain ⟨A1, c1, rfl⟩ := own_slice hown
    have HH := Lib.hid (And.intro hown (And.intro hbs (ht.below hb1)))
    clear hown ht hbs
    go_wp2_with fail
    refine (patch_any A1 n c1 bs want w1 (BS.of_own HH.out.1) (by omega) HH.out.2.2).mono ?_
    rintro e w2 ⟨v, rfl, hown2, hb2⟩
    have hb12 : Below w.heap.size w w2 := hb1.trans (hb2.mono hb1.size)
    obtain ⟨A2, c2, rfl⟩ := own_slice hown2
    have h4 : (Crc.four (Crc.xr (Crc.un 32 (Crc.inv want)) (Crc.crc bs))).length = 4 := rfl
    rw [h4] at hown2 ⊢
    have HH2 := Lib.hid (And.intro hown2 (And.intro (HH.out.2.1.below hb12) (HH.out.2.2.below hb2)))
    clear hown2 h4
    go_wp2_with fail
    refine (own_any A n cap bs w2 HH2.out.2.1 (by omega)).mono ?_
    rintro e w3 ⟨v, rfl, hown3, hb3⟩
    rw [HH.out.2.1.1] at hown3
    obtain ⟨A3, c3, rfl⟩ := own_slice hown3
    have HH3 := Lib.hid (And.intro hown3 (And.intro (own_below HH2.out.1 hb3) (HH2.out.2.2.below hb3)))
    clear hown3
    go_wp2_with (at_builtin; refine wpList_append_bs _ rfl _ _ 22 rfl w2.heap.size 5 i0 Tryd.underlying22 HI.out.1 HI.out.2.1 HI.out.2.2.1 HI.out.2.2.2 (.slice A3 n c3) n (u8s bs) rfl HH3.out.1 A2 4 c2 (Crc.four (Crc.xr (Crc.un 32 (Crc.inv want)) (Crc.crc bs))) rfl (BS.of_own HH3.out.2.1) (by omega) hb3.size ?_; intro v' w4 hown4 hg4 hat4)
    have hb34 : Below w2.heap.size w2 w4 := hb3.grown hg4 hb3.size (fun k hk => (HH3.out.1.lt k hk).1)
    rw [← u8s_append] at hown4
    obtain ⟨A4, c4, rfl⟩ := own_slice hown4
    have HH4 := Lib.hid (And.intro (BS.of_own hown4) (HH2.out.2.2.below hb34))
    clear hown4 hat4 hg4
    go_wp2_with fail
    refine (crcSum_any A4 (n + 4) c4 _ w4 HH4.out.1 (by omega) HH4.out.2).mono ?_
    rintro e w5 ⟨rfl, rfl⟩
    rw [Crc.patch]
    go_wp2_with fail
    refine (awake_any w4 HH4.out.2).mono ?_
    rintro e w5 ⟨rfl, hb5⟩
    go_wp2
    go_ret
    exact ⟨rfl, (hb12.trans (hb34.mono hb12.size)).trans (hb5.mono (Nat.le_trans hb12.size hb34.size))⟩
  · go_enter Tryd.func5, Tryd.ntmps5
    go_wp2_with fail
    refine (awake_any w ht).mono ?_
    rintro e w2 ⟨rfl, hb2⟩
    go_wp2
    go_ret
    exact ⟨rfl, hb2⟩
theorem walk (A : Option Addr) (n cap : Nat) (bs : List UInt8) (x : Int) (w : World) (hbs : BS w A n bs) (hnc : n ≤ cap) (hcm : cap ≤ maxLen) (h0 : 0 ≤ x) (h1 : x ≤ 4294967295) (ht : Half w) :
    Calls Tryd.prog 5 #[.slice A n cap, .int .u32 x] w fun e w' => e = .returned (.bool true) ∧ Below w.heap.size w w' := by
  have e : x = ((BitVec.ofNat 32 x.toNat).toNat : Int) := by rw [BitVec.toNat_ofNat]; omega
  rw [e]
  exact walk0 A n cap bs _ w hbs ht

theorem own : ownKnob Tryd.prog.godebug = none := by kernel_rfl
theorem laidOut : laidOutB Tryd.prog = true := by kernel_rfl
theorem params_ok : ∀ t ∈ Tryd.f5.params.toList, Tryd.prog.readableRec t = true ∧ t < Tryd.prog.types.size := by
  rw [Tryd.params5]
  intro t ht
  have ht' : t = 22 ∨ t = 24 := by
    simpa using ht
  rcases ht' with rfl | rfl
  · exact ⟨(show Tryd.prog.readableRec 22 = true by kernel_rfl), of_decide_eq_true (show decide (22 < Tryd.prog.types.size) = true by kernel_rfl)⟩
  · exact ⟨(show Tryd.prog.readableRec 24 = true by kernel_rfl), of_decide_eq_true (show decide (24 < Tryd.prog.types.size) = true by kernel_rfl)⟩
theorem gTab : Tryd.prog.globalNamed "troth/crc.half" = some 0 := by kernel_rfl
theorem gTabType : (Tryd.prog.globals[0]?).map (·.type) = some 35 := by kernel_rfl
theorem cellsTab : Tryd.prog.cellsOf 35 = 16 := by kernel_rfl
theorem cells32 : Tryd.prog.cellsOf 24 = 1 := by kernel_rfl
theorem table {W : World} (h : laidMetH Tryd.prog Rows.crcPatchesRow.laid W) : Half W := by
  have h1 : Lib.TabIs Tryd.prog W "troth/crc.half" .u32 (Crc.tab.map (fun n : Nat => (n : Int))) :=
    Lib.tabIs_of_head (rest := []) gTab gTabType Tryd.underlying35 Tryd.underlying24 cells32 cellsTab h
  intro i hi
  have h2 := h1.cell gTab i (by rw [List.length_map]; exact hi)
  rw [h2]
  have hi' : i < Crc.tab.length := hi
  rw [List.getD_eq_getElem?_getD, List.getElem?_map, List.getD_eq_getElem?_getD, List.getElem?_eq_getElem hi']
  rfl

set_option maxRecDepth 100000 in
theorem contract (H : Type) (enc : TypeId × Value → H) (W : World) (base : Nat) (args : Array Value) (ds gs : List (DataW H)) (before : List MemPlace)
    (hval : ∀ (j : Nat) t v, Tryd.f5.params[j]? = some t → args[j]? = some v → Value.okWide Tryd.prog W .any base t v)
    (hW : DataW.Whole enc Tryd.prog Tryd.f5.params.toList Rows.crcPatchesSpec.vars false W args.toList ds gs before) (hL : laidMetH Tryd.prog Rows.crcPatchesRow.laid W) :
    Calls Tryd.prog 5 args W fun e W' => ∃ v, e = .returned v ∧ Rows.crcPatchesSpec.post enc Tryd.prog Tryd.f5 false true false false W args v W' := by
  have hW' := hW
  obtain ⟨p, q, hA0, hV, rfl, hfz, hnd⟩ := hW
  have hA : DataW.TrodAll enc Tryd.prog W 0 (fun _ => true) true Tryd.f5.params.toList args.toList ds p := hA0
  rw [Tryd.params5] at hA hval
  obtain ⟨v0, vs0, d0, ds0, p0, q0, hargs, rfl, rfl, h0, r0⟩ := trodAll_cons hA
  obtain ⟨v1, vs1, d1, ds1, p1, q1, rfl, rfl, rfl, h1, r1⟩ := trodAll_cons r0
  obtain ⟨rfl, rfl, rfl⟩ := trodAll_nil r1
  obtain rfl : args = #[v0, v1] := by cases args; simp_all
  obtain ⟨rfl, rfl⟩ := trodVars_none hV
  obtain ⟨A0, n0, c0, bs0, rfl, bs0h, nc0, cm0⟩ := open_bytes Tryd.underlying22 Tryd.underlying5 (show Tryd.prog.cellsOf 5 = 1 by kernel_rfl) (hval 0 22 v0 rfl rfl) h0
  obtain ⟨x1, rfl, rfl, rfl, w1⟩ := open_int Tryd.underlying24 (hval 1 24 v1 rfl rfl) h1
  have b1 := bounds_u32 w1
  refine (walk A0 n0 c0 bs0 x1 W bs0h nc0 cm0 b1.1 b1.2 (table hL)).mono fun e W' ⟨he, bel⟩ => ?_
  exact ⟨_, he, post_true laidOut Tryd.underlying4 (show Tryd.f5.resultTypes = #[4] from rfl) params_ok rfl hW' rfl bel⟩

noncomputable def laidWorld (os : Os) : World :=
  { World.holding Tryd.prog os ⟨#[], #[], []⟩ with heap := (World.holding Tryd.prog os ⟨#[], #[], []⟩).heap.modify 0 fun
      | .cells _ t frozen => .cells #[.int .u32 0, .int .u32 498536548, .int .u32 997073096, .int .u32 651767980, .int .u32 1994146192, .int .u32 1802195444, .int .u32 1303535960, .int .u32 1342533948, .int .u32 3988292384, .int .u32 4027552580, .int .u32 3604390888, .int .u32 3412177804, .int .u32 2607071920, .int .u32 2262029012, .int .u32 2685067896, .int .u32 3183342108] t frozen
      | o => o }
theorem laid_met (os : Os) : laidMet Tryd.prog Rows.crcPatchesRow.laid ((laidWorld os).forCall (fun _ _ => 0) ⟨#[], #[.slice none 0 0, .int .u32 0], []⟩).memory :=
  laidMet_of_run' 8 (by kernel_rfl) (by kernel_rfl)
theorem reads (os : Os) {H : Type} (enc : TypeId × Value → H) : ∃ places, DataW.whole enc Tryd.prog ((laidWorld os).forCall (fun _ _ => 0) ⟨#[], #[.slice none 0 0, .int .u32 0], []⟩).memory Tryd.f5.params.toList Rows.crcPatchesSpec.vars false (#[Value.slice none 0 0, Value.int .u32 0] : Array Value).toList 8 = some ([.nil, .lit (.int .u32 0)], [], places) :=
  ⟨[], by kernel_rfl⟩
set_option maxRecDepth 100000 in
theorem lifted (os : Os) (started : os.Started) (H : Type) (enc : TypeId × Value → H) (F : Stop.Interp) :
    ReturnsInHanded {} Tryd.checked os 5 .any ((OpenSpec.ofChange Rows.crcPatchesSpec).preRow enc Tryd.prog Tryd.f5 Rows.crcPatchesRow.domain false Rows.crcPatchesRow.laid) (((OpenSpec.ofChange Rows.crcPatchesSpec).at F).post enc Tryd.prog Tryd.f5 false true false false) := by
  obtain ⟨places, hx⟩ := reads os enc
  refine returnsInHanded_of_row (C := Tryd.checked) (s := OpenSpec.ofChange Rows.crcPatchesSpec) own started (by kernel_rfl) Tryd.func5
    (witness_row_at (enc := enc) (C := Tryd.checked) false (laidWorld os) #[.slice none 0 0, .int .u32 0] rfl (by kernel_rfl) (by kernel_rfl) (by kernel_rfl)
      (OpenSpec.preRow_of_cond 8 hx (by kernel_rfl) (fun k hk => by cases hk) (by kernel_rfl) (laid_met os))) ?_
  intro W base args ds gs before hval hW _ _ _ hL _ _
  exact contract H enc W base args ds gs before hval hW hL
theorem said : Rows.CrcPatchesSaid :=
  OpenClaim.holds_of_cond 5 Tryd.f5 rfl rfl rfl rfl rfl rfl rfl ⟨rfl, rfl, rfl, rfl, rfl⟩ rfl rfl rfl rfl rfl (by kernel_rfl) Tryd.func5 (by kernel_rfl)
    (of_decide_eq_true (by kernel_rfl)) (by unfold Func.isWrapper; first | (rw [if_pos (by decide +kernel)]; kernel_rfl) | (rw [if_neg (by decide +kernel)]; exact ⟨rfl, rfl⟩))
    (fun os started H enc _ F => by rw [OpenClaim.pre_eq_preRow]; exact lifted os started H enc F)
theorem plain (f : FuncId) (fn : Func) (hf : Tryd.pinned.checked.prog.funcNamed "troth/trothlaw02.CrcPatches" = some f) (hfn : Tryd.pinned.checked.prog.funcs[f]? = some fn) :
    false = Tryd.pinned.checked.prog.looks [] ∧ ∀ (j : Nat) t, fn.params[j]? = some t → Tryd.pinned.checked.prog.wantsStandIn t = false := by
  obtain rfl : f = 5 := Option.some.inj ((show Tryd.prog.funcNamed "troth/trothlaw02.CrcPatches" = some 5 by kernel_rfl).symm.trans hf) |>.symm
  obtain rfl : fn = Tryd.f5 := (Option.some.inj (Tryd.func5.symm.trans hfn)).symm
  refine ⟨by kernel_rfl, fun j t ht => ?_⟩
  rw [Tryd.params5] at ht
  have ht' : t = 22 ∨ t = 24 := by simpa using Array.mem_of_getElem? ht
  rcases ht' with rfl | rfl
  · exact (show Tryd.prog.wantsStandIn 22 = false by kernel_rfl)
  · exact (show Tryd.prog.wantsStandIn 24 = false by kernel_rfl)
theorem card : Rows.CrcPatchesCardSaid :=
  Claim7.holds_tied_plain_at .later [] _ _ _ _ said (fun _ h => by cases h) (by kernel_rfl) (fun _ h => by cases h) crcPatches_row_tie rfl ⟨rfl, rfl⟩ (by kernel_rfl) rfl plain (by kernel_rfl)
#print axioms card
end Go.Proofs.YtggknkkoaaekkaaDoor.crcPatches
