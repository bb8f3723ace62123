/- NumShorts: a number's short bytes, and the number of whatever bytes, are the document's, or the error; no condition. -/
import Derived.Test.YtggknkkoaaekkaaNumRefs
import Derived.Test.YtggknkkoaaekkaaOwn01
import Derived.Test.YtggknkkoaaekkaaLift
namespace Go.Proofs.Ytggknkkoaaekkaa.numShorts
open Go.ChangeShapes Go.WideShapes Go.ChangeAt Go.RowKit Mem Lift
set_option linter.unusedVariables false

set_option maxHeartbeats 1000000 in
theorem walk0 (n : Nat) (A : Option Addr) (m cap : Nat) (bs : List UInt8) (w : World) (hn : n < 18446744073709551616) (hbs : BS w A m bs) :
    Calls Try.prog 4 #[.int .u64 n, .slice A m cap] w fun e w' => e = .returned (.bool true) ∧ Below w.heap.size w w' := by
  by_cases hm : m ≤ 1000
  · have hg : decide ((1000 : Int) < (m : Int)) = false := by simp; omega
    have hl := Num.shortB_length_le n
    have H0 := Lib.hid hbs
    clear hbs
    go_enter Try.func4, Try.ntmps4
    go_wp2_with fail
    refine (own01_any A m cap bs w H0.out (by omega)).mono ?_
    rintro e w1 ⟨v, rfl, hown, hb1⟩
    rw [H0.out.1] at hown
    obtain ⟨A1, c1, rfl⟩ := own_slice hown
    have HO := Lib.hid hown
    clear hown
    go_wp2_with fail
    refine (takeShort_any A1 m c1 bs w1 (BS.of_own HO.out) (by omega)).mono ?_
    rintro e w2 ⟨rfl, rfl⟩
    go_wp2_with fail
    refine (refTakeShort_any A m cap bs w1 (H0.out.below hb1) (by omega)).mono ?_
    rintro e w2 ⟨rfl, rfl⟩
    have hbd := Num.takeGo_bounds bs 0 0 (by omega)
    have hr : Num.takeGo 0 0 bs = Num.takeShort bs := rfl
    rw [hr] at hbd
    clear hr
    obtain ⟨hb1', hb2', hb3'⟩ := hbd
    generalize Num.takeShort bs = r at *
    obtain ⟨r0, r1, r2⟩ := r
    simp only at hb1' hb2' hb3'
    have c0 : ((r0 : Int) == (r0 : Int)) = true := by simp
    have c1' : ((r1 : Int) == (r1 : Int)) = true := by simp
    have c2 : ((r2 : Int) == (r2 : Int)) = true := by simp
    go_wp2_with fail
    refine (short_any n w1 hn).mono ?_
    rintro e w2 ⟨v, rfl, hown, hb2p⟩
    have hb2 : Below w.heap.size w w2 := hb1.trans (hb2p.mono hb1.size)
    obtain ⟨A2, c2', rfl⟩ := own_slice hown
    have HO2 := Lib.hid hown
    clear hown hb1 hb2p
    go_wp2_with fail
    refine (refShort_any n w2 hn).mono ?_
    rintro e w3 ⟨v, rfl, hown, hb3p⟩
    have hb3 : Below w.heap.size w w3 := hb2.trans (hb3p.mono hb2.size)
    obtain ⟨A3, c3', rfl⟩ := own_slice hown
    have HO3 := Lib.hid (And.intro hown ((BS.of_own HO2.out).below hb3p))
    clear hown hb2 hb3p
    go_wp2_with fail
    refine (same_any A2 A3 _ _ c2' c3' _ _ w3 HO3.out.2 (BS.of_own HO3.out.1) (by omega) (by omega)).mono ?_
    rintro e w4 ⟨rfl, hd⟩
    have hb4 : Below w.heap.size w w4 := hb3.trans (hd.below.mono hb3.size)
    clear hb3 hd
    rw [decide_eq_true rfl]
    go_wp2_with fail
    refine (awake01_any w4).mono ?_
    rintro e w5 ⟨rfl, hb5⟩
    go_wp2
    go_ret
    exact ⟨rfl, hb4.trans (hb5.mono hb4.size)⟩
  · have hg : decide ((1000 : Int) < (m : Int)) = true := by simp; omega
    go_enter Try.func4, Try.ntmps4
    go_wp2_with fail
    refine (awake01_any w).mono ?_
    rintro e w2 ⟨rfl, hb2⟩
    go_wp2
    go_ret
    exact ⟨rfl, hb2⟩
theorem walk (x : Int) (A : Option Addr) (m cap : Nat) (bs : List UInt8) (w : World) (h0 : 0 ≤ x) (h1 : x ≤ 18446744073709551615) (hbs : BS w A m bs) (hnc : m ≤ cap) (hcm : cap ≤ maxLen) :
    Calls Try.prog 4 #[.int .u64 x, .slice A m cap] w fun e w' => e = .returned (.bool true) ∧ Below w.heap.size w w' := by
  obtain ⟨a, rfl⟩ := Int.eq_ofNat_of_zero_le h0
  exact walk0 a A m cap bs w (by omega) hbs

theorem own : ownKnob Try.prog.godebug = none := by kernel_rfl
theorem laidOut : laidOutB Try.prog = true := by kernel_rfl
theorem params_ok : ∀ t ∈ Try.f4.params.toList, Try.prog.readableRec t = true ∧ t < Try.prog.types.size := by
  rw [Try.params4]
  intro t ht
  have ht' : t = 22 ∨ t = 23 := by
    simpa using ht
  rcases ht' with rfl | rfl
  · exact ⟨(show Try.prog.readableRec 22 = true by kernel_rfl), of_decide_eq_true (show decide (22 < Try.prog.types.size) = true by kernel_rfl)⟩
  · exact ⟨(show Try.prog.readableRec 23 = true by kernel_rfl), of_decide_eq_true (show decide (23 < Try.prog.types.size) = true by kernel_rfl)⟩

set_option maxRecDepth 100000 in
theorem contract (H : Type) (enc : TypeId × Value → H) (W : World) (base : Nat) (args : Array Value) (ds gs : List (DataW H)) (before : List MemPlace)
    (hval : ∀ (j : Nat) t v, Try.f4.params[j]? = some t → args[j]? = some v → Value.okWide Try.prog W .any base t v)
    (hW : DataW.Whole enc Try.prog Try.f4.params.toList Rows.numShortsSpec.vars false W args.toList ds gs before) :
    Calls Try.prog 4 args W fun e W' => ∃ v, e = .returned v ∧ Rows.numShortsSpec.post enc Try.prog Try.f4 false true false false W args v W' := by
  have hW' := hW
  obtain ⟨p, q, hA0, hV, rfl, hfz, hnd⟩ := hW
  have hA : DataW.TrodAll enc Try.prog W 0 (fun _ => true) true Try.f4.params.toList args.toList ds p := hA0
  rw [Try.params4] at hA hval
  obtain ⟨v0, vs0, d0, ds0, p0, q0, hargs, rfl, rfl, h0, r0⟩ := trodAll_cons hA
  obtain ⟨v1, vs1, d1, ds1, p1, q1, rfl, rfl, rfl, h1, r1⟩ := trodAll_cons r0
  obtain ⟨rfl, rfl, rfl⟩ := trodAll_nil r1
  obtain rfl : args = #[v0, v1] := by cases args; simp_all
  obtain ⟨rfl, rfl⟩ := trodVars_none hV
  obtain ⟨x0, rfl, rfl, rfl, w0⟩ := open_int Try.underlying22 (hval 0 22 v0 rfl rfl) h0
  have b0 := bounds_u64 w0
  obtain ⟨A1, n1, c1, bs1, rfl, bs1h, nc1, cm1⟩ := open_bytes Try.underlying23 Try.underlying5 (show Try.prog.cellsOf 5 = 1 by kernel_rfl) (hval 1 23 v1 rfl rfl) h1
  refine (walk x0 A1 n1 c1 bs1 W b0.1 b0.2 bs1h nc1 cm1).mono fun e W' ⟨he, bel⟩ => ?_
  exact ⟨_, he, post_true laidOut Try.underlying4 (show Try.f4.resultTypes = #[4] from rfl) params_ok rfl hW' rfl bel⟩

theorem laid_met (os : Os) : laidMet Try.prog Rows.numShortsRow.laid ((World.holding Try.prog os ⟨#[], #[], []⟩).forCall (fun _ _ => 0) ⟨#[], #[.int .u64 0, .slice none 0 0], []⟩).memory :=
  laidMet_of_run' 8 (by kernel_rfl) (by kernel_rfl)
theorem reads (os : Os) {H : Type} (enc : TypeId × Value → H) : ∃ places, DataW.whole enc Try.prog ((World.holding Try.prog os ⟨#[], #[], []⟩).forCall (fun _ _ => 0) ⟨#[], #[.int .u64 0, .slice none 0 0], []⟩).memory Try.f4.params.toList Rows.numShortsSpec.vars false (#[Value.int .u64 0, Value.slice none 0 0] : Array Value).toList 8 = some ([.lit (.int .u64 0), .nil], [], places) :=
  ⟨[], by kernel_rfl⟩
set_option maxRecDepth 100000 in
theorem lifted (os : Os) (started : os.Started) (H : Type) (enc : TypeId × Value → H) (F : Stop.Interp) :
    ReturnsInHanded {} Try.checked os 4 .any ((OpenSpec.ofChange Rows.numShortsSpec).preRow enc Try.prog Try.f4 Rows.numShortsRow.domain false Rows.numShortsRow.laid) (((OpenSpec.ofChange Rows.numShortsSpec).at F).post enc Try.prog Try.f4 false true false false) := by
  obtain ⟨places, hx⟩ := reads os enc
  refine returnsInHanded_of_row (C := Try.checked) (s := OpenSpec.ofChange Rows.numShortsSpec) own started (by kernel_rfl) Try.func4
    (witness_row_at (enc := enc) (C := Try.checked) false (World.holding Try.prog os ⟨#[], #[], []⟩) #[.int .u64 0, .slice none 0 0] rfl (by kernel_rfl) (by kernel_rfl) (by kernel_rfl)
      (OpenSpec.preRow_of_cond 8 hx (by kernel_rfl) (fun k hk => by cases hk) (by kernel_rfl) (laid_met os))) ?_
  intro W base args ds gs before hval hW _ _ _ hL _ _
  exact contract H enc W base args ds gs before hval hW
theorem said : Rows.NumShortsSaid :=
  OpenClaim.holds_of_cond 4 Try.f4 rfl rfl rfl rfl rfl rfl rfl ⟨rfl, rfl, rfl, rfl, rfl⟩ rfl rfl rfl rfl rfl (by kernel_rfl) Try.func4 (by kernel_rfl)
    (of_decide_eq_true (by kernel_rfl)) (by unfold Func.isWrapper; first | (rw [if_pos (by decide +kernel)]; kernel_rfl) | (rw [if_neg (by decide +kernel)]; exact ⟨rfl, rfl⟩))
    (fun os started H enc _ F => by rw [OpenClaim.pre_eq_preRow]; exact lifted os started H enc F)
#print axioms said
end Go.Proofs.Ytggknkkoaaekkaa.numShorts
