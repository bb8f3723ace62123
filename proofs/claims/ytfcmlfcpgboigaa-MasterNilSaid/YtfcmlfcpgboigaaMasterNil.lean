/- MasterNil: of no disk, of one that is too small, of one without a record, and of one that is down, nothing is loaded, each with its error; no condition. -/
import Derived.Test.YtfcmlfcpgboigaaMaster06
import Derived.Test.YtfcmlfcpgboigaaMasterOpen
import Derived.Test.YtfcmlfcpgboigaaLift
namespace Go.Proofs.Ytfcmlfcpgboigaa.masterNil
open Go.ChangeShapes Go.WideShapes Go.ChangeAt Go.RowKit Mem Lift
set_option linter.unusedVariables false
set_option linter.unusedSimpArgs false
set_option maxRecDepth 100000

theorem below_then {w w1 w2 : World} (h : Below w.heap.size w w1) (k : Below w1.heap.size w1 w2) : Below w.heap.size w w2 := h.trans (k.mono h.size)
theorem load1 : Ms.load (Dk.get2 (Dk.new 1)) = (Ms.zero, 1) := Ms.load_err1 _ 1 (by simp) (by simp) (Dk.get_new 1 0 (by omega) (by omega)) (Dk.get_out _ _ (.inr (by simp [Dk.new])))
theorem load2 : Ms.load (Dk.get2 (Dk.new 2)) = (Ms.zero, 60) := Ms.load_none _ (Dk.get_new 2 0 (by omega) (by omega)) (Dk.get_new 2 1 (by omega) (by omega))
def dn : Dk.D := (Dk.sync (Dk.fused (Dk.new 2) 0)).2
theorem dn_eq : dn = { Dk.fused (Dk.new 2) 0 with down := true } := rfl
theorem load3 : Ms.load (Dk.get2 dn) = (Ms.zero, 40) := Ms.load_err0 _ 40 (by simp) (by simp) (Dk.get_down _ _ (by omega) (by rw [dn_eq]; simp [Dk.fused, Dk.new]) rfl)
theorem ok2 : Dk.Ok (Dk.fused (Dk.new 2) 0) := Dk.fused_ok (Dk.new_ok 2 (by omega)) 0 (by omega)
theorem okn : Dk.Ok dn := Dk.sync_ok ok2
set_option maxHeartbeats 4000000 in
theorem walk (m : Ms.M) (w : World) (hm : MOk m) :
    Calls Try.prog 6 #[mVal m] w fun e w' => e = .returned (.bool true) ∧ Below w.heap.size w w' := by
  have hb0 : Below w.heap.size w (w.alloc (.cells (mCells m) 48)) := (Below.refl _ _).alloc (Nat.le_refl _) _
  have hblk : Blk (w.alloc (.cells (mCells m) 48)) w.heap.size 48 (mCells m) := Blk.new _ _ _
  have hs0 : (w.alloc (.cells (mCells m) 48)).heap.size = w.heap.size + 1 := by simp
  have hsv := fun W => msave_nil m W
  have hmy := fun W => ref06may_any m W
  have hk : ∀ W, Below (w.heap.size + 1) (w.alloc (.cells (mCells m) 48)) W → Blk W w.heap.size 48 (mCells m) ∧ Below w.heap.size w W := fun W h => ⟨hblk.below h (by omega), hb0.trans (h.mono (by omega))⟩
  have hnl := nil_load (w.alloc (.cells (mCells m) 48))
  rw [hs0] at hnl
  obtain ⟨b, hb⟩ : ∃ b, Ms.may m = b := ⟨_, rfl⟩
  rw [hb] at hsv
  have H := Lib.hid (And.intro hsv (And.intro hmy (And.intro hk (And.intro hnl (And.intro hb hs0)))))
  clear hb0 hblk hsv hmy hk hnl hb hs0 hm
  unfold mVal mCells at *
  go_enter Try.func6, Try.ntmps6
  go_wp2_with fail
  refine H.out.2.2.2.1.mono ?_
  rintro e w1 ⟨rfl, hb1⟩
  generalize hW0 : w.alloc (.cells #[.int .i64 m.gen, .int .i64 m.inc, .int .i64 m.first, .int .i64 m.lsn, .int .i64 m.check] 48) = W0 at *
  rw [← H.out.2.2.2.2.2] at hb1
  have hb1' : ∀ o, Below W0.heap.size W0 (w1.alloc o) := fun o => hb1.alloc hb1.size o
  have H1 := Lib.hid hb1'
  clear hb1 hb1' hW0
  go_wp2_with fail
  refine (own_new 1 (by omega) W0 _ (H1.out _)).mono ?_
  rintro e w2 ⟨p1, rfl, ho2⟩
  have H2 := Lib.hid ho2
  clear ho2
  go_wp2_with fail
  refine (own_load H2.out (Dk.new_ok 1 (by omega))).mono ?_
  rw [load1]
  unfold mVal mCells Ms.zero
  rintro e w3 ⟨rfl, hb3⟩
  have hb3' : ∀ o, Below W0.heap.size W0 (w3.alloc o) := fun o => (H2.out.grow hb3).1.alloc (H2.out.grow hb3).1.size o
  have H3 := Lib.hid hb3'
  clear hb3 hb3'
  go_wp2_with fail
  refine (own_new 2 (by omega) W0 _ (H3.out _)).mono ?_
  rintro e w4 ⟨p2, rfl, ho4⟩
  have H4 := Lib.hid ho4
  clear ho4
  go_wp2_with fail
  refine (own_load H4.out (Dk.new_ok 2 (by omega))).mono ?_
  rw [load2]
  unfold mVal mCells Ms.zero
  rintro e w5 ⟨rfl, hb5⟩
  have ho5 : ∀ o, OwnD W0 (w5.alloc o) p2 (Dk.new 2) := fun o => (H4.out.grow hb5).grow ((Below.refl _ _).alloc (Nat.le_refl _) o)
  have H5 := Lib.hid ho5
  clear hb5 ho5
  go_wp2_with fail
  refine (own_fuse (H5.out _) 0).mono ?_
  rintro e w6 ⟨rfl, ho6⟩
  have H6 := Lib.hid ho6
  clear ho6
  go_wp2_with fail
  refine (own_sync H6.out ok2 (by simp [Dk.fused, Dk.new])).mono ?_
  rw [show (Dk.sync (Dk.fused (Dk.new 2) 0)).1 = 40 from rfl, show (Dk.sync (Dk.fused (Dk.new 2) 0)).2 = dn from rfl]
  rintro e w7 ⟨rfl, ho7⟩
  have H7 := Lib.hid ho7
  clear ho7
  go_wp2_with fail
  refine (own_load H7.out okn).mono ?_
  rw [load3]
  unfold mVal mCells Ms.zero
  rintro e w8 ⟨rfl, hb8⟩
  have hb8' := (H7.out.grow hb8).1
  have hx8 : ∀ o, Below W0.heap.size W0 (w8.alloc o) := fun o => hb8'.alloc hb8'.size o
  rw [H.out.2.2.2.2.2] at hb8'
  have hbk := (H.out.2.2.1 _ hb8').1
  have c0 : w8.cell? ⟨w.heap.size, 0, none⟩ = some (.int .i64 m.gen) := hbk.cell 0
  have c1 : w8.cell? ⟨w.heap.size, 1, none⟩ = some (.int .i64 m.inc) := hbk.cell 1
  have c2 : w8.cell? ⟨w.heap.size, 2, none⟩ = some (.int .i64 m.first) := hbk.cell 2
  have c3 : w8.cell? ⟨w.heap.size, 3, none⟩ = some (.int .i64 m.lsn) := hbk.cell 3
  have c4 : w8.cell? ⟨w.heap.size, 4, none⟩ = some (.int .i64 m.check) := hbk.cell 4
  have hlt8 := hbk.lt
  have H8 := Lib.hid hx8
  clear hb8 hb8' hbk hx8
  cases b
  · go_wp2_with fail
    refine (H.out.1 _).mono ?_
    rw [if_neg (by simp)]
    rintro e w9 ⟨rfl, hb9⟩
    have hb9' := below_then (H8.out _) hb9
    have hx9 := hb9'
    rw [H.out.2.2.2.2.2] at hx9
    obtain ⟨hbk, hbw⟩ := H.out.2.2.1 _ hx9
    have d0 : w9.cell? ⟨w.heap.size, 0, none⟩ = some (.int .i64 m.gen) := hbk.cell 0
    have d1 : w9.cell? ⟨w.heap.size, 1, none⟩ = some (.int .i64 m.inc) := hbk.cell 1
    have d2 : w9.cell? ⟨w.heap.size, 2, none⟩ = some (.int .i64 m.first) := hbk.cell 2
    have d3 : w9.cell? ⟨w.heap.size, 3, none⟩ = some (.int .i64 m.lsn) := hbk.cell 3
    have d4 : w9.cell? ⟨w.heap.size, 4, none⟩ = some (.int .i64 m.check) := hbk.cell 4
    have H9 := Lib.hid hbw
    clear hb9 hb9' hx9 hbk hbw
    go_wp2_with fail
    refine (H.out.2.1 _).mono ?_
    rw [H.out.2.2.2.2.1]
    rintro e w10 ⟨rfl, hb10⟩
    have H10 := Lib.hid (below_then H9.out hb10)
    clear hb10
    go_wp2_with fail
    refine (awake06_any w10).mono ?_
    rintro e w11 ⟨rfl, hb11⟩
    have H11 := Lib.hid (below_then H10.out hb11)
    clear hb11
    go_wp2
    go_ret
    exact ⟨rfl, H11.out⟩
  · go_wp2_with fail
    refine (H.out.1 _).mono ?_
    rw [if_pos trivial]
    rintro e w9 ⟨rfl, hb9⟩
    have hx9 := below_then (H8.out _) hb9
    rw [H.out.2.2.2.2.2] at hx9
    have H9 := Lib.hid (H.out.2.2.1 _ hx9).2
    clear hb9 hx9
    go_wp2_with fail
    refine (awake06_any w9).mono ?_
    rintro e w11 ⟨rfl, hb11⟩
    have H11 := Lib.hid (below_then H9.out hb11)
    clear hb11
    go_wp2
    go_ret
    exact ⟨rfl, H11.out⟩

theorem own : ownKnob Try.prog.godebug = none := by kernel_rfl
theorem laidOut : laidOutB Try.prog = true := by kernel_rfl
theorem params_ok : ∀ t ∈ Try.f6.params.toList, Try.prog.readableRec t = true ∧ t < Try.prog.types.size := by
  rw [Try.params6]
  intro t ht
  have ht' : t = 48 := by
    simpa using ht
  subst ht'
  exact ⟨(show Try.prog.readableRec 48 = true by kernel_rfl), of_decide_eq_true (show decide (48 < Try.prog.types.size) = true by kernel_rfl)⟩

set_option maxRecDepth 100000 in
theorem contract (H : Type) (enc : TypeId × Value → H) (W : World) (base : Nat) (args : Array Value) (ds gs : List (DataW H)) (before : List MemPlace)
    (hval : ∀ (j : Nat) t v, Try.f6.params[j]? = some t → args[j]? = some v → Value.okWide Try.prog W .any base t v)
    (hW : DataW.Whole enc Try.prog Try.f6.params.toList Rows.masterNilSpec.vars false W args.toList ds gs before) :
    Calls Try.prog 6 args W fun e W' => ∃ v, e = .returned v ∧ Rows.masterNilSpec.post enc Try.prog Try.f6 false true false false W args v W' := by
  have hW' := hW
  obtain ⟨p, q, hA0, hV, rfl, hfz, hnd⟩ := hW
  have hA : DataW.TrodAll enc Try.prog W 0 (fun _ => true) true Try.f6.params.toList args.toList ds p := hA0
  rw [Try.params6] at hA hval
  obtain ⟨v0, vs0, d0, ds0, p0, q0, hargs, rfl, rfl, h0, r0⟩ := trodAll_cons hA
  obtain ⟨rfl, rfl, rfl⟩ := trodAll_nil r0
  obtain rfl : args = #[v0] := by cases args; simp_all
  obtain ⟨rfl, rfl⟩ := trodVars_none hV
  obtain ⟨m0, rfl, mo0⟩ := open_master (hval 0 48 v0 rfl rfl) h0
  refine (walk m0 W mo0).mono fun e W' ⟨he, bel⟩ => ?_
  exact ⟨_, he, post_true laidOut Try.underlying4 (show Try.f6.resultTypes = #[4] from rfl) params_ok rfl hW' rfl bel⟩

theorem laid_met (os : Os) : laidMet Try.prog Rows.masterNilRow.laid ((World.holding Try.prog os ⟨#[], #[], []⟩).forCall (fun _ _ => 0) ⟨#[], #[.agg #[.int .i64 0, .int .i64 0, .int .i64 0, .int .i64 0, .int .i64 0]], []⟩).memory :=
  laidMet_of_run' 8 (by kernel_rfl) (by kernel_rfl)
theorem reads (os : Os) {H : Type} (enc : TypeId × Value → H) : ∃ places, DataW.whole enc Try.prog ((World.holding Try.prog os ⟨#[], #[], []⟩).forCall (fun _ _ => 0) ⟨#[], #[.agg #[.int .i64 0, .int .i64 0, .int .i64 0, .int .i64 0, .int .i64 0]], []⟩).memory Try.f6.params.toList Rows.masterNilSpec.vars false (#[Value.agg #[.int .i64 0, .int .i64 0, .int .i64 0, .int .i64 0, .int .i64 0]] : Array Value).toList 8 = some ([.agg [.lit (.int .i64 0), .lit (.int .i64 0), .lit (.int .i64 0), .lit (.int .i64 0), .lit (.int .i64 0)]], [], places) :=
  ⟨[], by kernel_rfl⟩
set_option maxRecDepth 100000 in
theorem lifted (os : Os) (started : os.Started) (H : Type) (enc : TypeId × Value → H) (F : Stop.Interp) :
    ReturnsInHanded {} Try.checked os 6 .any ((OpenSpec.ofChange Rows.masterNilSpec).preRow enc Try.prog Try.f6 Rows.masterNilRow.domain false Rows.masterNilRow.laid) (((OpenSpec.ofChange Rows.masterNilSpec).at F).post enc Try.prog Try.f6 false true false false) := by
  obtain ⟨places, hx⟩ := reads os enc
  refine returnsInHanded_of_row (C := Try.checked) (s := OpenSpec.ofChange Rows.masterNilSpec) own started (by kernel_rfl) Try.func6
    (witness_row_at (enc := enc) (C := Try.checked) false (World.holding Try.prog os ⟨#[], #[], []⟩) #[.agg #[.int .i64 0, .int .i64 0, .int .i64 0, .int .i64 0, .int .i64 0]] rfl (by kernel_rfl) (by kernel_rfl) (by kernel_rfl)
      (OpenSpec.preRow_of_cond 8 hx (by kernel_rfl) (fun k hk => by cases hk) (by kernel_rfl) (laid_met os))) ?_
  intro W base args ds gs before hval hW _ _ hsz hL _ _
  exact contract H enc W base args ds gs before hval hW
theorem said : Rows.MasterNilSaid :=
  OpenClaim.holds_of_cond 6 Try.f6 rfl rfl rfl rfl rfl rfl rfl ⟨rfl, rfl, rfl, rfl, rfl⟩ rfl rfl rfl rfl rfl (by kernel_rfl) Try.func6 (by kernel_rfl)
    (of_decide_eq_true (by kernel_rfl)) (by unfold Func.isWrapper; first | (rw [if_pos (by decide +kernel)]; kernel_rfl) | (rw [if_neg (by decide +kernel)]; exact ⟨rfl, rfl⟩))
    (fun os started H enc _ F => by rw [OpenClaim.pre_eq_preRow]; exact lifted os started H enc F)
#print axioms said
end Go.Proofs.Ytfcmlfcpgboigaa.masterNil
