/- MasterSaves: a record that may be is loaded as it was saved, and stands in its sector as the document says; another one is refused, and nothing is written; no condition. -/
import Derived.Test.YtfcmlfcpgboigaaMaster06
import Derived.Test.YtfcmlfcpgboigaaRef06B
import Derived.Test.YtfcmlfcpgboigaaMasterOpen
import Derived.Test.YtfcmlfcpgboigaaSame
import Derived.Test.YtfcmlfcpgboigaaLift
namespace Go.Proofs.Ytfcmlfcpgboigaa.masterSaves
open Go.ChangeShapes Go.WideShapes Go.ChangeAt Go.RowKit Mem Lift
set_option linter.unusedVariables false
set_option linter.unusedSimpArgs false
set_option maxRecDepth 100000

theorem below_then {w w1 w2 : World} (h : Below w.heap.size w w1) (k : Below w1.heap.size w1 w2) : Below w.heap.size w w2 := h.trans (k.mono h.size)
theorem load2 : Ms.load (Dk.get2 (Dk.new 2)) = (Ms.zero, 60) := Ms.load_none _ (Dk.get_new 2 0 (by omega) (by omega)) (Dk.get_new 2 1 (by omega) (by omega))
theorem saved_facts (m : Ms.M) (hm : Ms.may m = true) : ∃ d, Ms.save (Dk.new 2) m = (0, d) ∧ Dk.Ok d ∧ Dk.read d (m.gen % 2) = (Stamp.wrapB 1 (Ms.body m), 0) ∧ d.syncs = 1 ∧ Ms.load (Dk.get2 d) = (m, 0) := by
  have hq := Dk.q_new 2 (by omega)
  have hb := Ms.body_le m
  have hs := Ms.save_q hq (by omega) m hm
  have hl := Ms.load_saved m hm
  rw [hs] at hl
  have hk := Dk.kept_q hq (N := m.gen % 2) (by omega) (by omega) (p := Ms.body m) (by omega)
  refine ⟨_, hs, hk.ok, ?_, rfl, hl⟩
  rw [Dk.read_q hk (by omega) (by omega), Dk.kept_cur hq, if_pos rfl]
  unfold Dk.secOf
  rw [Ms.cur_new, Dk.nextB_zeros]
set_option maxHeartbeats 4000000 in
theorem walk (m : Ms.M) (w : World) (hm : MOk m) :
    Calls Try.prog 7 #[mVal m] w fun e w' => e = .returned (.bool true) ∧ Below w.heap.size w w' := by
  have hb0 : Below w.heap.size w (w.alloc (.cells (mCells m) 48)) := (Below.refl _ _).alloc (Nat.le_refl _) _
  have hblk : Blk (w.alloc (.cells (mCells m) 48)) w.heap.size 48 (mCells m) := Blk.new _ _ _
  have hs0 : (w.alloc (.cells (mCells m) 48)).heap.size = w.heap.size + 1 := by simp
  have hmy := fun W => ref06may_any m W
  have hbd := fun W => ref06body_any m W hm
  have hW : ∃ W0, w.alloc (.cells (mCells m) 48) = W0 := ⟨_, rfl⟩
  obtain ⟨W0, hW0⟩ := hW
  rw [hW0] at hb0 hblk hs0
  have hk : ∀ W, Below W0.heap.size W0 W → (W.cell? ⟨w.heap.size, 0, none⟩ = some (.int .i64 m.gen) ∧ W.cell? ⟨w.heap.size, 1, none⟩ = some (.int .i64 m.inc) ∧ W.cell? ⟨w.heap.size, 2, none⟩ = some (.int .i64 m.first) ∧ W.cell? ⟨w.heap.size, 3, none⟩ = some (.int .i64 m.lsn) ∧ W.cell? ⟨w.heap.size, 4, none⟩ = some (.int .i64 m.check)) ∧ Below w.heap.size w W := fun W h =>
    ⟨⟨(hblk.below h (by omega)).cell 0, (hblk.below h (by omega)).cell 1, (hblk.below h (by omega)).cell 2, (hblk.below h (by omega)).cell 3, (hblk.below h (by omega)).cell 4⟩, hb0.trans (h.mono (by omega))⟩
  have hs := fun W p (h : OwnD W0 W p (Dk.new 2)) => own_save h m (Dk.new_ok 2 (by omega)) (by simp [Dk.new]) (by simp [Dk.new])
  have H := Lib.hid (And.intro hmy (And.intro hbd (And.intro hk (And.intro hs hW0))))
  clear hmy hbd hk hs hb0 hblk
  unfold mVal mCells at *
  cases hmay : Ms.may m
  · have hsv : Ms.save (Dk.new 2) m = (1, Dk.new 2) := by unfold Ms.save; rw [if_pos hmay]
    have HM := Lib.hid (And.intro hmay hsv)
    clear hmay hsv
    go_enter Try.func7, Try.ntmps7
    go_wp2_with fail
    refine (own_new 2 (by omega) W0 _ (Below.refl _ _)).mono ?_
    rintro e w1 ⟨p, rfl, ho1⟩
    obtain ⟨⟨c0, c1, c2, c3, c4⟩, _⟩ := H.out.2.2.1 w1 ho1.1
    have H1 := Lib.hid ho1
    clear ho1
    go_wp2_with fail
    refine (H.out.2.2.2.1 w1 p H1.out).mono ?_
    rw [HM.out.2]
    rintro e w2 ⟨rfl, ho2⟩
    have H2 := Lib.hid ho2
    clear ho2
    go_wp2_with fail
    refine (own_load H2.out (Dk.new_ok 2 (by omega))).mono ?_
    rw [load2]
    unfold mVal mCells Ms.zero
    rintro e w3 ⟨rfl, hb3⟩
    have hsz3 : ∀ o, OwnD W0 (w3.alloc o) p (Dk.new 2) := fun o => (H2.out.grow hb3).grow ((Below.refl _ _).alloc (Nat.le_refl _) o)
    obtain ⟨⟨b0, b1, b2, b3, b4⟩, _⟩ := H.out.2.2.1 w3 (H2.out.grow hb3).1
    have hlt3 : w.heap.size < w3.heap.size := by have := (H2.out.grow hb3).1.size; omega
    have H3 := Lib.hid hsz3
    clear hb3 hsz3
    go_wp2_with fail
    refine (H.out.1 _).mono ?_
    rw [HM.out.1]
    rintro e w4 ⟨rfl, hb4⟩
    have ho4 := (H3.out _).grow hb4
    obtain ⟨A4, d4, _, _, _, _, s4⟩ := own_cells ho4
    have hcz : w4.cell? ⟨w3.heap.size, 0, none⟩ = some (.int .i64 0) ∧ w4.cell? ⟨w3.heap.size, 1, none⟩ = some (.int .i64 0) ∧ w4.cell? ⟨w3.heap.size, 2, none⟩ = some (.int .i64 0) ∧ w4.cell? ⟨w3.heap.size, 3, none⟩ = some (.int .i64 0) ∧ w4.cell? ⟨w3.heap.size, 4, none⟩ = some (.int .i64 0) := by
      have hk := (Blk.new w3 48 #[.int .i64 0, .int .i64 0, .int .i64 0, .int .i64 0, .int .i64 0]).below hb4 (by simp)
      exact ⟨hk.cell 0, hk.cell 1, hk.cell 2, hk.cell 3, hk.cell 4⟩
    obtain ⟨z0, z1, z2, z3, z4⟩ := hcz
    have H4 := Lib.hid (And.intro ho4 (syncs_any p (Dk.new 2).syncs w4 s4))
    clear ho4 hb4 s4
    go_wp2_with fail
    refine H4.out.2.mono ?_
    rintro e w5 ⟨rfl, rfl⟩
    have hsy : (Dk.new 2).syncs = 0 := rfl
    go_wp2_with fail
    refine (awake06_any _).mono ?_
    rintro e w6 ⟨rfl, hb6⟩
    have hbw := (H.out.2.2.1 _ (below_then H4.out.1.1 hb6)).2
    have H6 := Lib.hid hbw
    clear hb6 hbw
    go_wp2
    go_ret
    exact ⟨rfl, H6.out⟩
  · obtain ⟨d, hd1, hd2, hd3, hd4, hd5⟩ := saved_facts m hmay
    have hgen := Ms.may_gen hmay
    have htm : m.gen.tmod 2 = m.gen % 2 := Int.tmod_eq_emod_of_nonneg (by omega)
    have hbl := Ms.body_le m
    have hwl := Stamp.wrapB_length 1 (Ms.body m) (by omega)
    have hwr : Stamp.wrapR 1 (Ms.body m) = (Stamp.wrapB 1 (Ms.body m), 0) := by unfold Stamp.wrapR; rw [if_neg (by decide), if_neg (by omega)]
    obtain ⟨sx, hsx⟩ : ∃ l, Stamp.wrapB 1 (Ms.body m) = l := ⟨_, rfl⟩
    rw [hsx] at hwl hwr hd3
    clear hsx
    have HM := Lib.hid (And.intro hmay hd1)
    have HD := Lib.hid (And.intro hd2 (And.intro hd3 (And.intro hd4 (And.intro hd5 hwr))))
    clear hmay hd1 hd2 hd3 hd4 hd5 hwr
    go_enter Try.func7, Try.ntmps7
    go_wp2_with fail
    refine (own_new 2 (by omega) W0 _ (Below.refl _ _)).mono ?_
    rintro e w1 ⟨p, rfl, ho1⟩
    obtain ⟨⟨c0, c1, c2, c3, c4⟩, _⟩ := H.out.2.2.1 w1 ho1.1
    have H1 := Lib.hid ho1
    clear ho1
    go_wp2_with fail
    refine (H.out.2.2.2.1 w1 p H1.out).mono ?_
    rw [HM.out.2]
    rintro e w2 ⟨rfl, ho2⟩
    have H2 := Lib.hid ho2
    clear ho2
    go_wp2_with fail
    refine (own_load H2.out HD.out.1).mono ?_
    rw [HD.out.2.2.2.1]
    unfold mVal mCells
    rintro e w3 ⟨rfl, hb3⟩
    have hsz3 : ∀ o, OwnD W0 (w3.alloc o) p d := fun o => (H2.out.grow hb3).grow ((Below.refl _ _).alloc (Nat.le_refl _) o)
    obtain ⟨⟨b0, b1, b2, b3, b4⟩, _⟩ := H.out.2.2.1 w3 (H2.out.grow hb3).1
    have hlt3 : w.heap.size < w3.heap.size := by have := (H2.out.grow hb3).1.size; omega
    have H3 := Lib.hid hsz3
    clear hb3 hsz3
    go_wp2_with fail
    refine (H.out.1 _).mono ?_
    rw [HM.out.1]
    rintro e w4 ⟨rfl, hb4⟩
    have ho4 := (H3.out _).grow hb4
    obtain ⟨⟨e0, e1, e2, e3, e4⟩, _⟩ := H.out.2.2.1 w4 ho4.1
    have hkz := (Blk.new w3 48 #[.int .i64 m.gen, .int .i64 m.inc, .int .i64 m.first, .int .i64 m.lsn, .int .i64 m.check]).below hb4 (by simp)
    have H4 := Lib.hid (And.intro ho4 hkz)
    have hlt4 : w3.heap.size < w4.heap.size := hkz.lt
    clear ho4 hb4 hkz
    go_wp2_with fail
    refine (own_read H4.out.1 HD.out.1 (m.gen % 2)).mono ?_
    rw [HD.out.2.1]
    rintro e w5 ⟨B5, f5, rfl, hB5, _, _, hb5, _⟩
    simp only at hB5 ⊢
    rw [hwl] at hB5
    have ho5 := H4.out.1.grow hb5
    obtain ⟨⟨g0, g1, g2, g3, g4⟩, _⟩ := H.out.2.2.1 w5 ho5.1
    have H5 := Lib.hid (And.intro ho5 (And.intro (H4.out.2.below hb5 (by omega)) hB5))
    have hlt5 : w3.heap.size < w5.heap.size := Nat.lt_of_lt_of_le hlt4 hb5.size
    clear ho5 hB5 hb5
    go_wp2_with fail
    refine (H.out.2.1 w5).mono ?_
    rintro e w6 ⟨v6, rfl, ho6, hb6⟩
    obtain ⟨B6, f6, rfl⟩ := own_slice ho6
    have H6 := Lib.hid (And.intro (H5.out.1.grow hb6) (And.intro (H5.out.2.1.below hb6 hlt5) (And.intro (H5.out.2.2.below hb6) (BS.of_own ho6))))
    have hlt6 : w3.heap.size < w6.heap.size := Nat.lt_of_lt_of_le hlt5 hb6.size
    clear ho6 hb6
    go_wp2_with fail
    refine (refWrap_any 1 B6 _ f6 (Ms.body m) w6 H6.out.2.2.2 (by omega)).mono ?_
    rw [HD.out.2.2.2.2]
    rintro e w7 ⟨B7, f7, rfl, hB7, _, _, hb7⟩
    simp only at hB7 ⊢
    rw [hwl] at hB7
    have ho7 := H6.out.1.grow hb7
    have hkz := H6.out.2.1.below hb7 hlt6
    obtain ⟨⟨y0, y1, y2, y3, y4⟩, _⟩ := H.out.2.2.1 w7 ho7.1
    have z0 : w7.cell? ⟨w3.heap.size, 0, none⟩ = some (.int .i64 m.gen) := hkz.cell 0
    have z1 : w7.cell? ⟨w3.heap.size, 1, none⟩ = some (.int .i64 m.inc) := hkz.cell 1
    have z2 : w7.cell? ⟨w3.heap.size, 2, none⟩ = some (.int .i64 m.first) := hkz.cell 2
    have z3 : w7.cell? ⟨w3.heap.size, 3, none⟩ = some (.int .i64 m.lsn) := hkz.cell 3
    have z4 : w7.cell? ⟨w3.heap.size, 4, none⟩ = some (.int .i64 m.check) := hkz.cell 4
    have H7 := Lib.hid (And.intro ho7 (And.intro (H6.out.2.2.1.below hb7) hB7))
    clear ho7 hkz hB7 hb7
    go_wp2_with fail
    refine (same_any B5 B7 256 256 f5 f7 sx sx w7 H7.out.2.1 H7.out.2.2 (by omega) (by omega)).mono ?_
    rintro e w8 ⟨rfl, hd8⟩
    have ho8 := H7.out.1.grow hd8.below
    obtain ⟨A8, c8, _, _, _, _, s8⟩ := own_cells ho8
    rw [HD.out.2.2.1] at s8
    have H8 := Lib.hid (And.intro ho8 (syncs_any p 1 w8 s8))
    clear hd8 ho8 s8
    go_wp2_with fail
    refine H8.out.2.mono ?_
    rintro e w9 ⟨rfl, rfl⟩
    go_wp2_with fail
    refine (awake06_any _).mono ?_
    rintro e w10 ⟨rfl, hb10⟩
    have H10 := Lib.hid (H.out.2.2.1 _ (below_then H8.out.1.1 hb10)).2
    clear hb10
    go_wp2
    go_ret
    exact ⟨rfl, H10.out⟩

theorem own : ownKnob Try.prog.godebug = none := by kernel_rfl
theorem laidOut : laidOutB Try.prog = true := by kernel_rfl
theorem params_ok : ∀ t ∈ Try.f7.params.toList, Try.prog.readableRec t = true ∧ t < Try.prog.types.size := by
  rw [Try.params7]
  intro t ht
  have ht' : t = 48 := by
    simpa using ht
  subst ht'
  exact ⟨(show Try.prog.readableRec 48 = true by kernel_rfl), of_decide_eq_true (show decide (48 < Try.prog.types.size) = true by kernel_rfl)⟩

set_option maxRecDepth 100000 in
theorem contract (H : Type) (enc : TypeId × Value → H) (W : World) (base : Nat) (args : Array Value) (ds gs : List (DataW H)) (before : List MemPlace)
    (hval : ∀ (j : Nat) t v, Try.f7.params[j]? = some t → args[j]? = some v → Value.okWide Try.prog W .any base t v)
    (hW : DataW.Whole enc Try.prog Try.f7.params.toList Rows.masterSavesSpec.vars false W args.toList ds gs before) :
    Calls Try.prog 7 args W fun e W' => ∃ v, e = .returned v ∧ Rows.masterSavesSpec.post enc Try.prog Try.f7 false true false false W args v W' := by
  have hW' := hW
  obtain ⟨p, q, hA0, hV, rfl, hfz, hnd⟩ := hW
  have hA : DataW.TrodAll enc Try.prog W 0 (fun _ => true) true Try.f7.params.toList args.toList ds p := hA0
  rw [Try.params7] at hA hval
  obtain ⟨v0, vs0, d0, ds0, p0, q0, hargs, rfl, rfl, h0, r0⟩ := trodAll_cons hA
  obtain ⟨rfl, rfl, rfl⟩ := trodAll_nil r0
  obtain rfl : args = #[v0] := by cases args; simp_all
  obtain ⟨rfl, rfl⟩ := trodVars_none hV
  obtain ⟨m0, rfl, mo0⟩ := open_master (hval 0 48 v0 rfl rfl) h0
  refine (walk m0 W mo0).mono fun e W' ⟨he, bel⟩ => ?_
  exact ⟨_, he, post_true laidOut Try.underlying4 (show Try.f7.resultTypes = #[4] from rfl) params_ok rfl hW' rfl bel⟩

theorem laid_met (os : Os) : laidMet Try.prog Rows.masterSavesRow.laid ((World.holding Try.prog os ⟨#[], #[], []⟩).forCall (fun _ _ => 0) ⟨#[], #[.agg #[.int .i64 0, .int .i64 0, .int .i64 0, .int .i64 0, .int .i64 0]], []⟩).memory :=
  laidMet_of_run' 8 (by kernel_rfl) (by kernel_rfl)
theorem reads (os : Os) {H : Type} (enc : TypeId × Value → H) : ∃ places, DataW.whole enc Try.prog ((World.holding Try.prog os ⟨#[], #[], []⟩).forCall (fun _ _ => 0) ⟨#[], #[.agg #[.int .i64 0, .int .i64 0, .int .i64 0, .int .i64 0, .int .i64 0]], []⟩).memory Try.f7.params.toList Rows.masterSavesSpec.vars false (#[Value.agg #[.int .i64 0, .int .i64 0, .int .i64 0, .int .i64 0, .int .i64 0]] : Array Value).toList 8 = some ([.agg [.lit (.int .i64 0), .lit (.int .i64 0), .lit (.int .i64 0), .lit (.int .i64 0), .lit (.int .i64 0)]], [], places) :=
  ⟨[], by kernel_rfl⟩
set_option maxRecDepth 100000 in
theorem lifted (os : Os) (started : os.Started) (H : Type) (enc : TypeId × Value → H) (F : Stop.Interp) :
    ReturnsInHanded {} Try.checked os 7 .any ((OpenSpec.ofChange Rows.masterSavesSpec).preRow enc Try.prog Try.f7 Rows.masterSavesRow.domain false Rows.masterSavesRow.laid) (((OpenSpec.ofChange Rows.masterSavesSpec).at F).post enc Try.prog Try.f7 false true false false) := by
  obtain ⟨places, hx⟩ := reads os enc
  refine returnsInHanded_of_row (C := Try.checked) (s := OpenSpec.ofChange Rows.masterSavesSpec) own started (by kernel_rfl) Try.func7
    (witness_row_at (enc := enc) (C := Try.checked) false (World.holding Try.prog os ⟨#[], #[], []⟩) #[.agg #[.int .i64 0, .int .i64 0, .int .i64 0, .int .i64 0, .int .i64 0]] rfl (by kernel_rfl) (by kernel_rfl) (by kernel_rfl)
      (OpenSpec.preRow_of_cond 8 hx (by kernel_rfl) (fun k hk => by cases hk) (by kernel_rfl) (laid_met os))) ?_
  intro W base args ds gs before hval hW _ _ hsz hL _ _
  exact contract H enc W base args ds gs before hval hW
theorem said : Rows.MasterSavesSaid :=
  OpenClaim.holds_of_cond 7 Try.f7 rfl rfl rfl rfl rfl rfl rfl ⟨rfl, rfl, rfl, rfl, rfl⟩ rfl rfl rfl rfl rfl (by kernel_rfl) Try.func7 (by kernel_rfl)
    (of_decide_eq_true (by kernel_rfl)) (by unfold Func.isWrapper; first | (rw [if_pos (by decide +kernel)]; kernel_rfl) | (rw [if_neg (by decide +kernel)]; exact ⟨rfl, rfl⟩))
    (fun os started H enc _ F => by rw [OpenClaim.pre_eq_preRow]; exact lifted os started H enc F)
#print axioms said
end Go.Proofs.Ytfcmlfcpgboigaa.masterSaves
