/- DiskNil: a nil disk answers so; no condition. -/
import Derived.Test.YtaooimhodoefoaaDisk04
import Derived.Test.YtaooimhodoefoaaDiskOpen
namespace Go.Proofs.Ytaooimhodoefoaa.diskNil
open Go.ChangeShapes Go.WideShapes Go.ChangeAt Go.RowKit Mem Lift
set_option linter.unusedVariables false
set_option linter.unusedSimpArgs false

set_option maxRecDepth 100000 in
set_option maxHeartbeats 2000000 in
theorem walk (n : Int) (A : Option Addr) (m cap : Nat) (bs : List UInt8) (AK : Option Addr) (nk ck : Nat) (torn : Bool) (cut : Int) (ks : List Int) (w : World) (h0 : -9223372036854775808 ≤ n) (h1 : n ≤ 9223372036854775807) (hA : BS w A m bs) (hnc : m ≤ cap) (hcm : cap ≤ maxLen)
    (hK : IS w AK nk ks) (hkc : nk ≤ ck) (hkm : ck ≤ maxLen) (hc0 : -9223372036854775808 ≤ cut) (hc1 : cut ≤ 9223372036854775807) :
    Calls Try.prog 13 #[.int .i64 n, .slice A m cap, .agg #[.slice AK nk ck, .bool torn, .int .i64 cut]] w fun e w' => e = .returned (.bool true) ∧ Below w.heap.size w w' := by
  clear hA hcm hK hkc hkm hc0 hc1 h0 h1 hnc
  go_enter Try.func13, Try.ntmps13
  go_wp2_with fail
  generalize hw1 : w.alloc (.cells #[.slice AK nk ck, .bool torn, .int .i64 cut] 52) = w1
  have hb1 : Below w.heap.size w w1 := by rw [← hw1]; exact (Below.refl _ _).alloc (Nat.le_refl _) _
  have hq1 : Blk w1 w.heap.size 52 #[.slice AK nk ck, .bool torn, .int .i64 cut] := by rw [← hw1]; exact Blk.new w _ _
  have H1 := Lib.hid (And.intro hb1 hq1)
  clear hw1 hb1 hq1
  refine (fuse_nil n w1).mono ?_
  rintro e w2 ⟨rfl, hw2⟩
  subst hw2
  go_wp2_with fail
  refine (read_nil n w2).mono ?_
  rintro e w3 ⟨A3, c3, rfl, hB3, hc3, hm3, hb3, _⟩
  have hq3 := H1.out.2.below hb3 H1.out.2.lt
  have k0 := hq3.cell 0
  have k1 := hq3.cell 1
  have k2 := hq3.cell 2
  have H3 := Lib.hid (H1.out.1.trans (hb3.mono H1.out.1.size))
  clear hB3 hc3 hm3 hb3 hq3 H1
  go_wp2_with fail
  refine (write_nil n A m cap w3).mono ?_
  rintro e w4 ⟨rfl, hw4⟩
  subst hw4
  go_wp2_with fail
  refine (sync_nil w4).mono ?_
  rintro e w5 ⟨rfl, hw5⟩
  subst hw5
  go_wp2_with fail
  refine (pending_nil w5).mono ?_
  rintro e w6 ⟨rfl, hw6⟩
  subst hw6
  go_wp2_with fail
  refine (sectors_nil w6).mono ?_
  rintro e w7 ⟨rfl, hw7⟩
  subst hw7
  go_wp2_with fail
  refine (syncs_nil w7).mono ?_
  rintro e w8 ⟨rfl, hw8⟩
  subst hw8
  go_wp2_with fail
  refine (down_nil w8).mono ?_
  rintro e w9 ⟨rfl, hw9⟩
  subst hw9
  go_wp2_with fail
  refine (crash_nil AK nk ck torn cut w9).mono ?_
  rintro e w10 ⟨rfl, hb10⟩
  have H10 := Lib.hid (H3.out.trans (hb10.mono H3.out.size))
  clear hb10 H3 k0 k1 k2
  go_wp2_with fail
  refine (awake04_any w10).mono ?_
  rintro e w11 ⟨rfl, hb11⟩
  have H11 := Lib.hid (H10.out.trans (hb11.mono H10.out.size))
  clear hb11 H10
  go_wp2
  go_ret
  exact ⟨rfl, H11.out⟩


theorem own : ownKnob Try.prog.godebug = none := by kernel_rfl
theorem laidOut : laidOutB Try.prog = true := by kernel_rfl
theorem params_ok : ∀ t ∈ Try.f13.params.toList, Try.prog.readableRec t = true ∧ t < Try.prog.types.size := by
  rw [Try.params13]
  intro t ht
  have ht' : t = 3 ∨ t = 22 ∨ t = 52 := by
    simpa using ht
  rcases ht' with rfl | rfl | rfl
  · exact ⟨(show Try.prog.readableRec 3 = true by kernel_rfl), of_decide_eq_true (show decide (3 < Try.prog.types.size) = true by kernel_rfl)⟩
  · exact ⟨(show Try.prog.readableRec 22 = true by kernel_rfl), of_decide_eq_true (show decide (22 < Try.prog.types.size) = true by kernel_rfl)⟩
  · exact ⟨(show Try.prog.readableRec 52 = true by kernel_rfl), of_decide_eq_true (show decide (52 < Try.prog.types.size) = true by kernel_rfl)⟩

set_option maxRecDepth 100000 in
theorem contract (H : Type) (enc : TypeId × Value → H) (W : World) (base : Nat) (args : Array Value) (ds gs : List (DataW H)) (before : List MemPlace)
    (hval : ∀ (j : Nat) t v, Try.f13.params[j]? = some t → args[j]? = some v → Value.okWide Try.prog W .any base t v)
    (hW : DataW.Whole enc Try.prog Try.f13.params.toList Rows.diskNilSpec.vars false W args.toList ds gs before) :
    Calls Try.prog 13 args W fun e W' => ∃ v, e = .returned v ∧ Rows.diskNilSpec.post enc Try.prog Try.f13 false true false false W args v W' := by
  have hW' := hW
  obtain ⟨p, q, hA0, hV, rfl, hfz, hnd⟩ := hW
  have hA : DataW.TrodAll enc Try.prog W 0 (fun _ => true) true Try.f13.params.toList args.toList ds p := hA0
  rw [Try.params13] at hA hval
  obtain ⟨v0, vs0, d0, ds0, p0, q0, hargs, rfl, rfl, h0, r0⟩ := trodAll_cons hA
  obtain ⟨v1, vs1, d1, ds1, p1, q1, rfl, rfl, rfl, h1, r1⟩ := trodAll_cons r0
  obtain ⟨v2, vs2, d2, ds2, p2, q2, rfl, rfl, rfl, h2, r2⟩ := trodAll_cons r1
  obtain ⟨rfl, rfl, rfl⟩ := trodAll_nil r2
  obtain rfl : args = #[v0, v1, v2] := by cases args; simp_all
  obtain ⟨rfl, rfl⟩ := trodVars_none hV
  obtain ⟨x0, rfl, rfl, rfl, w0⟩ := open_int Try.underlying3 (hval 0 3 v0 rfl rfl) h0
  have b0 := bounds_i64 w0
  obtain ⟨A1, n1, c1, bs1, rfl, bs1h, nc1, cm1, dd1⟩ := open_bytes Try.underlying22 Try.underlying5 (show Try.prog.cellsOf 5 = 1 by kernel_rfl) (hval 1 22 v1 rfl rfl) h1
  obtain ⟨A2, n2, c2, tn2, ct2, ks2, rfl, ksh2, nc2, cm2, cb2⟩ := open_crash (hval 2 52 v2 rfl rfl) h2
  refine (walk x0 A1 n1 c1 bs1 A2 n2 c2 tn2 ct2 ks2 W b0.1 b0.2 bs1h nc1 cm1 ksh2 nc2 cm2 cb2.1 cb2.2).mono fun e W' ⟨he, bel⟩ => ?_
  exact ⟨_, he, post_true laidOut Try.underlying4 (show Try.f13.resultTypes = #[4] from rfl) params_ok rfl hW' rfl bel⟩

theorem laid_met (os : Os) : laidMet Try.prog Rows.diskNilRow.laid ((World.holding Try.prog os ⟨#[], #[], []⟩).forCall (fun _ _ => 0) ⟨#[], #[.int .i64 0, .slice none 0 0, .agg #[.slice none 0 0, .bool false, .int .i64 0]], []⟩).memory :=
  laidMet_of_run' 8 (by kernel_rfl) (by kernel_rfl)
theorem reads (os : Os) {H : Type} (enc : TypeId × Value → H) : ∃ places, DataW.whole enc Try.prog ((World.holding Try.prog os ⟨#[], #[], []⟩).forCall (fun _ _ => 0) ⟨#[], #[.int .i64 0, .slice none 0 0, .agg #[.slice none 0 0, .bool false, .int .i64 0]], []⟩).memory Try.f13.params.toList Rows.diskNilSpec.vars false (#[Value.int .i64 0, Value.slice none 0 0, Value.agg #[.slice none 0 0, .bool false, .int .i64 0]] : Array Value).toList 8 = some ([.lit (.int .i64 0), .nil, .agg [.nil, .lit (.bool false), .lit (.int .i64 0)]], [], places) :=
  ⟨[], by kernel_rfl⟩
set_option maxRecDepth 100000 in
theorem lifted (os : Os) (started : os.Started) (H : Type) (enc : TypeId × Value → H) (F : Stop.Interp) :
    ReturnsInHanded {} Try.checked os 13 .any ((OpenSpec.ofChange Rows.diskNilSpec).preRow enc Try.prog Try.f13 Rows.diskNilRow.domain false Rows.diskNilRow.laid) (((OpenSpec.ofChange Rows.diskNilSpec).at F).post enc Try.prog Try.f13 false true false false) := by
  obtain ⟨places, hx⟩ := reads os enc
  refine returnsInHanded_of_row (C := Try.checked) (s := OpenSpec.ofChange Rows.diskNilSpec) own started (by kernel_rfl) Try.func13
    (witness_row_at (enc := enc) (C := Try.checked) false (World.holding Try.prog os ⟨#[], #[], []⟩) #[.int .i64 0, .slice none 0 0, .agg #[.slice none 0 0, .bool false, .int .i64 0]] rfl (by kernel_rfl) (by kernel_rfl) (by kernel_rfl)
      (OpenSpec.preRow_of_cond 8 hx (by kernel_rfl) (fun k hk => by cases hk) (by kernel_rfl) (laid_met os))) ?_
  intro W base args ds gs before hval hW _ _ hsz hL _ _
  exact contract H enc W base args ds gs before hval hW
theorem said : Rows.DiskNilSaid :=
  OpenClaim.holds_of_cond 13 Try.f13 rfl rfl rfl rfl rfl rfl rfl ⟨rfl, rfl, rfl, rfl, rfl⟩ rfl rfl rfl rfl rfl (by kernel_rfl) Try.func13 (by kernel_rfl)
    (of_decide_eq_true (by kernel_rfl)) (by unfold Func.isWrapper; first | (rw [if_pos (by decide +kernel)]; kernel_rfl) | (rw [if_neg (by decide +kernel)]; exact ⟨rfl, rfl⟩))
    (fun os started H enc _ F => by rw [OpenClaim.pre_eq_preRow]; exact lifted os started H enc F)
#print axioms said
end Go.Proofs.Ytaooimhodoefoaa.diskNil
