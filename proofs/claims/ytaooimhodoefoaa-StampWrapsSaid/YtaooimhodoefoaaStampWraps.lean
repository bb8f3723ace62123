/- StampWraps: a wrapped sector, and the stamp for what stands there, are the document's, or the error; no condition. -/
import Derived.Test.YtaooimhodoefoaaStampRefs
import Derived.Test.YtaooimhodoefoaaOwn05
import Derived.Test.YtaooimhodoefoaaLift
namespace Go.Proofs.Ytaooimhodoefoaa.stampWraps
open Go.ChangeShapes Go.WideShapes Go.ChangeAt Go.RowKit Mem Lift
set_option linter.unusedVariables false

theorem wrapR_len (m : UInt8) (p : List UInt8) : (Stamp.wrapR m p).1.length ≤ 256 ∧ (Stamp.wrapR m p).2 ≤ 12 := by
  unfold Stamp.wrapR
  split
  · simp
  · split
    · simp
    · simp only; rw [Stamp.wrapB_length _ _ (by omega)]; omega
theorem nextR_le (l : List UInt8) : (Stamp.nextR l).2 ≤ 12 := by
  unfold Stamp.nextR
  split <;> simp
set_option maxRecDepth 100000 in
set_option maxHeartbeats 1000000 in
theorem walk_main (m : UInt8) (A B : Option Addr) (n k capa capb : Nat) (p old : List UInt8) (w : World) (hA : BS w A n p) (hB : BS w B k old) (hn : n ≤ 1000) (hk : k ≤ 1000) :
    Calls Try.prog 5 #[.int .u8 m.toNat, .slice A n capa, .slice B k capb] w fun e w' => e = .returned (.bool true) ∧ Below w.heap.size w w' := by
  have hg1 : decide ((1000 : Int) < (n : Int)) = false := by simp; omega
  have hg2 : decide ((1000 : Int) < (k : Int)) = false := by simp; omega
  have H0 := Lib.hid (And.intro hA hB)
  clear hA hB
  have hr := wrapR_len m p
  have hs := nextR_le old
  go_enter Try.func5, Try.ntmps5
  go_wp2_with fail
  refine (own05_any A n capa p w H0.out.1 (by omega)).mono ?_
  rintro e w1 ⟨v, rfl, hown, hb1⟩
  rw [H0.out.1.1] at hown
  obtain ⟨A1, c1, rfl⟩ := own_slice hown
  have HO1 := Lib.hid hown
  clear hown
  go_wp2_with fail
  refine (wrap_any m A1 n c1 p w1 (BS.of_own HO1.out) (by omega)).mono ?_
  rintro e w2 ⟨A2, c2, rfl, hB2, hc2, hm2, hb2'⟩
  have hb2 : Below w.heap.size w w2 := hb1.trans (hb2'.mono hb1.size)
  have HB2 := Lib.hid hB2
  clear hB2 hb1 hb2'
  go_wp2_with fail
  refine (refWrap_any m A n capa p w2 (H0.out.1.below hb2) (by omega)).mono ?_
  rintro e w3 ⟨A3, c3, rfl, hB3, hc3, hm3, hb3'⟩
  have hb3 : Below w.heap.size w w3 := hb2.trans (hb3'.mono hb2.size)
  have HB3 := Lib.hid (And.intro hB3 (HB2.out.below hb3'))
  clear hB3 hb2 hb3' HB2
  generalize Stamp.wrapR m p = r at *
  obtain ⟨r0, r1⟩ := r
  simp only at hr hc2 hc3
  obtain ⟨hr0, hr1⟩ := hr
  go_wp2_with fail
  refine (own05_any B k capb old w3 (H0.out.2.below hb3) (by omega)).mono ?_
  rintro e w4 ⟨v, rfl, hown, hb4'⟩
  have hb4 : Below w.heap.size w w4 := hb3.trans (hb4'.mono hb3.size)
  rw [H0.out.2.1] at hown
  obtain ⟨A4, c4, rfl⟩ := own_slice hown
  have HO4 := Lib.hid (And.intro hown (And.intro (HB3.out.1.below hb4') (HB3.out.2.below hb4')))
  clear hown hb3 hb4' HB3
  go_wp2_with fail
  refine (next_any A4 k c4 old w4 (BS.of_own HO4.out.1)).mono ?_
  rintro e w5 ⟨rfl, rfl⟩
  go_wp2_with fail
  refine (refNext_any B k capb old w4 (H0.out.2.below hb4)).mono ?_
  rintro e w5 ⟨rfl, rfl⟩
  generalize Stamp.nextR old = s at *
  obtain ⟨s0, s1⟩ := s
  simp only at hs
  have e1 : ((r1 : Int) == (r1 : Int)) = true := by simp
  have e2 : ((s0.toNat : Int) == (s0.toNat : Int)) = true := by simp
  have e3 : ((s1 : Int) == (s1 : Int)) = true := by simp
  go_wp2_with fail
  refine (same_any A2 A3 _ _ c2 c3 _ _ w4 HO4.out.2.2 HO4.out.2.1 (by omega) (by omega)).mono ?_
  rintro e w5 ⟨rfl, hd⟩
  have hb5 : Below w.heap.size w w5 := hb4.trans (hd.below.mono hb4.size)
  clear hb4 hd
  rw [decide_eq_true rfl]
  go_wp2_with fail
  refine (awake05_any w5).mono ?_
  rintro e w6 ⟨rfl, hb6⟩
  go_wp2
  go_ret
  exact ⟨rfl, hb5.trans (hb6.mono hb5.size)⟩
set_option maxHeartbeats 400000 in
theorem walk (x : Int) (A : Option Addr) (n capa : Nat) (p : List UInt8) (B : Option Addr) (k capb : Nat) (old : List UInt8) (w : World) (h0 : 0 ≤ x) (h1 : x ≤ 255) (hA : BS w A n p) (hnc : n ≤ capa) (hcm : capa ≤ maxLen) (hB : BS w B k old) (hnc2 : k ≤ capb) (hcm2 : capb ≤ maxLen) :
    Calls Try.prog 5 #[.int .u8 x, .slice A n capa, .slice B k capb] w fun e w' => e = .returned (.bool true) ∧ Below w.heap.size w w' := by
  have e : x = ((UInt8.ofNat x.toNat).toNat : Int) := by rw [UInt8.toNat_ofNat']; omega
  by_cases h2 : n ≤ 1000
  · by_cases h3 : k ≤ 1000
    · rw [e]; exact walk_main _ A B n k capa capb p old w hA hB h2 h3
    · have hg : decide ((1000 : Int) < (n : Int)) = false := by simp; omega
      have hg2 : decide ((1000 : Int) < (k : Int)) = true := by simp; omega
      clear e
      go_enter Try.func5, Try.ntmps5
      go_wp2_with fail
      refine (awake05_any w).mono ?_
      rintro e w2 ⟨rfl, hb2⟩
      go_wp2
      go_ret
      exact ⟨rfl, hb2⟩
  · have hg : decide ((1000 : Int) < (n : Int)) = true := by simp; omega
    clear e
    go_enter Try.func5, Try.ntmps5
    go_wp2_with fail
    refine (awake05_any w).mono ?_
    rintro e w2 ⟨rfl, hb2⟩
    go_wp2
    go_ret
    exact ⟨rfl, hb2⟩

theorem own : ownKnob Try.prog.godebug = none := by kernel_rfl
theorem laidOut : laidOutB Try.prog = true := by kernel_rfl
theorem params_ok : ∀ t ∈ Try.f5.params.toList, Try.prog.readableRec t = true ∧ t < Try.prog.types.size := by
  rw [Try.params5]
  intro t ht
  have ht' : t = 5 ∨ t = 22 := by
    simpa using ht
  rcases ht' with rfl | rfl
  · exact ⟨(show Try.prog.readableRec 5 = true by kernel_rfl), of_decide_eq_true (show decide (5 < Try.prog.types.size) = true by kernel_rfl)⟩
  · exact ⟨(show Try.prog.readableRec 22 = true by kernel_rfl), of_decide_eq_true (show decide (22 < Try.prog.types.size) = true by kernel_rfl)⟩

set_option maxRecDepth 100000 in
theorem contract (H : Type) (enc : TypeId × Value → H) (W : World) (base : Nat) (args : Array Value) (ds gs : List (DataW H)) (before : List MemPlace)
    (hval : ∀ (j : Nat) t v, Try.f5.params[j]? = some t → args[j]? = some v → Value.okWide Try.prog W .any base t v)
    (hW : DataW.Whole enc Try.prog Try.f5.params.toList Rows.stampWrapsSpec.vars false W args.toList ds gs before) :
    Calls Try.prog 5 args W fun e W' => ∃ v, e = .returned v ∧ Rows.stampWrapsSpec.post enc Try.prog Try.f5 false true false false W args v W' := by
  have hW' := hW
  obtain ⟨p, q, hA0, hV, rfl, hfz, hnd⟩ := hW
  have hA : DataW.TrodAll enc Try.prog W 0 (fun _ => true) true Try.f5.params.toList args.toList ds p := hA0
  rw [Try.params5] at hA hval
  obtain ⟨v0, vs0, d0, ds0, p0, q0, hargs, rfl, rfl, h0, r0⟩ := trodAll_cons hA
  obtain ⟨v1, vs1, d1, ds1, p1, q1, rfl, rfl, rfl, h1, r1⟩ := trodAll_cons r0
  obtain ⟨v2, vs2, d2, ds2, p2, q2, rfl, rfl, rfl, h2, r2⟩ := trodAll_cons r1
  obtain ⟨rfl, rfl, rfl⟩ := trodAll_nil r2
  obtain rfl : args = #[v0, v1, v2] := by cases args; simp_all
  obtain ⟨rfl, rfl⟩ := trodVars_none hV
  obtain ⟨x0, rfl, rfl, rfl, w0⟩ := open_int Try.underlying5 (hval 0 5 v0 rfl rfl) h0
  have b0 := bounds_u8 w0
  obtain ⟨A1, n1, c1, bs1, rfl, bs1h, nc1, cm1, dd1⟩ := open_bytes Try.underlying22 Try.underlying5 (show Try.prog.cellsOf 5 = 1 by kernel_rfl) (hval 1 22 v1 rfl rfl) h1
  obtain ⟨A2, n2, c2, bs2, rfl, bs2h, nc2, cm2, dd2⟩ := open_bytes Try.underlying22 Try.underlying5 (show Try.prog.cellsOf 5 = 1 by kernel_rfl) (hval 2 22 v2 rfl rfl) h2
  refine (walk x0 A1 n1 c1 bs1 A2 n2 c2 bs2 W b0.1 b0.2 bs1h nc1 cm1 bs2h nc2 cm2).mono fun e W' ⟨he, bel⟩ => ?_
  exact ⟨_, he, post_true laidOut Try.underlying4 (show Try.f5.resultTypes = #[4] from rfl) params_ok rfl hW' rfl bel⟩

theorem laid_met (os : Os) : laidMet Try.prog Rows.stampWrapsRow.laid ((World.holding Try.prog os ⟨#[], #[], []⟩).forCall (fun _ _ => 0) ⟨#[], #[.int .u8 0, .slice none 0 0, .slice none 0 0], []⟩).memory :=
  laidMet_of_run' 8 (by kernel_rfl) (by kernel_rfl)
theorem reads (os : Os) {H : Type} (enc : TypeId × Value → H) : ∃ places, DataW.whole enc Try.prog ((World.holding Try.prog os ⟨#[], #[], []⟩).forCall (fun _ _ => 0) ⟨#[], #[.int .u8 0, .slice none 0 0, .slice none 0 0], []⟩).memory Try.f5.params.toList Rows.stampWrapsSpec.vars false (#[Value.int .u8 0, Value.slice none 0 0, Value.slice none 0 0] : Array Value).toList 8 = some ([.lit (.int .u8 0), .nil, .nil], [], places) :=
  ⟨[], by kernel_rfl⟩
set_option maxRecDepth 100000 in
theorem lifted (os : Os) (started : os.Started) (H : Type) (enc : TypeId × Value → H) (F : Stop.Interp) :
    ReturnsInHanded {} Try.checked os 5 .any ((OpenSpec.ofChange Rows.stampWrapsSpec).preRow enc Try.prog Try.f5 Rows.stampWrapsRow.domain false Rows.stampWrapsRow.laid) (((OpenSpec.ofChange Rows.stampWrapsSpec).at F).post enc Try.prog Try.f5 false true false false) := by
  obtain ⟨places, hx⟩ := reads os enc
  refine returnsInHanded_of_row (C := Try.checked) (s := OpenSpec.ofChange Rows.stampWrapsSpec) own started (by kernel_rfl) Try.func5
    (witness_row_at (enc := enc) (C := Try.checked) false (World.holding Try.prog os ⟨#[], #[], []⟩) #[.int .u8 0, .slice none 0 0, .slice none 0 0] rfl (by kernel_rfl) (by kernel_rfl) (by kernel_rfl)
      (OpenSpec.preRow_of_cond 8 hx (by kernel_rfl) (fun k hk => by cases hk) (by kernel_rfl) (laid_met os))) ?_
  intro W base args ds gs before hval hW _ _ hsz hL _ _
  exact contract H enc W base args ds gs before hval hW
theorem said : Rows.StampWrapsSaid :=
  OpenClaim.holds_of_cond 5 Try.f5 rfl rfl rfl rfl rfl rfl rfl ⟨rfl, rfl, rfl, rfl, rfl⟩ rfl rfl rfl rfl rfl (by kernel_rfl) Try.func5 (by kernel_rfl)
    (of_decide_eq_true (by kernel_rfl)) (by unfold Func.isWrapper; first | (rw [if_pos (by decide +kernel)]; kernel_rfl) | (rw [if_neg (by decide +kernel)]; exact ⟨rfl, rfl⟩))
    (fun os started H enc _ F => by rw [OpenClaim.pre_eq_preRow]; exact lifted os started H enc F)
#print axioms said
end Go.Proofs.Ytaooimhodoefoaa.stampWraps
