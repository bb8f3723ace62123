/- NumWides: a number's wide bytes, and the number of wide bytes, are the document's, or the error; no condition. -/
import Derived.Test.YtggknkkoaaekkaaNumRefs
import Derived.Test.YtggknkkoaaekkaaOwn01
import Derived.Test.YtggknkkoaaekkaaLift
namespace Go.Proofs.Ytggknkkoaaekkaa.numWides
open Go.ChangeShapes Go.WideShapes Go.ChangeAt Go.RowKit Mem Lift
set_option linter.unusedVariables false

/-- what a call of Wide comes to: bytes (none, with the error) -/
def wideR (n : Nat) (x : Int) : List UInt8 × Nat := if 1 ≤ x ∧ x ≤ 8 ∧ n < 256 ^ x.toNat then (Num.wideB n x.toNat, 0) else ([], 1)
def WR (w : World) (r : List UInt8 × Nat) (e : Ending) (w' : World) : Prop :=
  ∃ A c, e = .returned (.tuple #[.slice A r.1.length c, .int .i64 (r.2 : Int)]) ∧ BS w' A r.1.length r.1 ∧ Below w.heap.size w w'
theorem wr_of_own {w : World} {bs : List UInt8} {e : Ending} {w' : World} (h : OwnBE 5 w bs e w') : WR w (bs, 0) e w' := by
  obtain ⟨v, rfl, ho, hb⟩ := h
  obtain ⟨A, c, rfl⟩ := own_slice ho
  exact ⟨A, c, rfl, BS.of_own ho, hb⟩
theorem wide_all (n : Nat) (x : Int) (w : World) (hn : n < 18446744073709551616) : Calls Try.prog 9 #[.int .u64 n, .int .i64 x] w (WR w (wideR n x)) := by
  unfold wideR
  by_cases hx : x < 1 ∨ 8 < x
  · rw [if_neg (by omega)]
    refine (wide_bad n x w hx).mono ?_
    rintro e w' ⟨rfl, rfl⟩
    exact ⟨none, 0, rfl, BS.empty _ _, Below.refl _ _⟩
  · obtain ⟨k, rfl⟩ := Int.eq_ofNat_of_zero_le (show 0 ≤ x by omega)
    simp only [Int.toNat_natCast]
    by_cases hw : n < 256 ^ k
    · rw [if_pos ⟨by omega, by omega, hw⟩]
      exact (wide_ok n k w hn (by omega) (by omega) hw).mono fun e w' h => wr_of_own h
    · rw [if_neg (fun h => hw h.2.2)]
      refine (wide_more n k w hn (by omega) (by omega) (by omega)).mono ?_
      rintro e w' ⟨rfl, rfl⟩
      exact ⟨none, 0, rfl, BS.empty _ _, Below.refl _ _⟩
theorem refWide_all (n : Nat) (x : Int) (w : World) (hn : n < 18446744073709551616) : Calls Try.prog 18 #[.int .u64 n, .int .i64 x] w (WR w (wideR n x)) := by
  unfold wideR
  by_cases hx : x < 1 ∨ 8 < x
  · rw [if_neg (by omega)]
    refine (refWide_bad n x w hx).mono ?_
    rintro e w' ⟨rfl, rfl⟩
    exact ⟨none, 0, rfl, BS.empty _ _, Below.refl _ _⟩
  · obtain ⟨k, rfl⟩ := Int.eq_ofNat_of_zero_le (show 0 ≤ x by omega)
    simp only [Int.toNat_natCast]
    refine (refWide_any n k w hn (by omega) (by omega)).mono ?_
    rintro e w' ⟨h1, h2, hb⟩
    by_cases hw : n < 256 ^ k
    · rw [if_pos ⟨by omega, by omega, hw⟩]
      exact wr_of_own (h1 hw)
    · rw [if_neg (fun h => hw h.2.2)]
      exact ⟨none, 0, h2 hw, BS.empty _ _, hb⟩
def takeR (bs : List UInt8) (x : Int) : Nat × Nat := if 1 ≤ x ∧ x ≤ 8 then (if bs.length < x.toNat then (0, 10) else (Num.unwide (bs.take x.toNat), 0)) else (0, 1)
def TR (w : World) (r : Nat × Nat) (e : Ending) (w' : World) : Prop := e = .returned (.tuple #[.int .u64 (r.1 : Int), .int .i64 (r.2 : Int)]) ∧ w = w'
theorem take_all (A : Option Addr) (n cap : Nat) (bs : List UInt8) (x : Int) (w : World) (hbs : BS w A n bs) (hnc : n ≤ cap) (hcm : cap ≤ maxLen) :
    Calls Try.prog 19 #[.slice A n cap, .int .i64 x] w (TR w (takeR bs x)) := by
  unfold takeR
  by_cases hx : x < 1 ∨ 8 < x
  · rw [if_neg (by omega)]
    exact takeWide_bad A n cap x w hx
  · obtain ⟨k, rfl⟩ := Int.eq_ofNat_of_zero_le (show 0 ≤ x by omega)
    simp only [Int.toNat_natCast]
    rw [if_pos (by omega), hbs.1]
    by_cases h : n < k
    · rw [if_pos h]; exact takeWide_short A n cap k w (by omega) (by omega) h
    · rw [if_neg h]; exact takeWide_ok A n cap k bs w hbs hnc hcm (by omega) (by omega) (by omega)
theorem refTake_all (A : Option Addr) (n cap : Nat) (bs : List UInt8) (x : Int) (w : World) (hbs : BS w A n bs) :
    Calls Try.prog 20 #[.slice A n cap, .int .i64 x] w (TR w (takeR bs x)) := by
  unfold takeR
  by_cases hx : x < 1 ∨ 8 < x
  · rw [if_neg (by omega)]
    exact refTakeWide_bad A n cap x w hx
  · obtain ⟨k, rfl⟩ := Int.eq_ofNat_of_zero_le (show 0 ≤ x by omega)
    simp only [Int.toNat_natCast]
    rw [if_pos (by omega), hbs.1]
    by_cases h : n < k
    · rw [if_pos h]; exact refTakeWide_short A n cap k w (by omega) (by omega) h
    · rw [if_neg h]; exact refTakeWide_ok A n cap k bs w hbs (by omega) (by omega) (by omega)
theorem own_cap {w : World} {base : Nat} {e : TypeId} {A : Option Addr} {n c : Nat} {xs : List Value} (h : w.ownsRow base e 1 (.slice A n c) n xs) : n ≤ c ∧ c ≤ maxLen := by
  rcases h.2 with ⟨h, h'⟩ | ⟨g, cap, cur, h, _, _, hnc, hcm, _⟩
  · injection h with _ _ h; subst h; subst h'; simp [maxLen]
  · injection h with _ _ h; subst h; exact ⟨hnc, hcm⟩
theorem wideR_len (n : Nat) (x : Int) : (wideR n x).1.length ≤ 8 ∧ (wideR n x).2 ≤ 1 := by
  unfold wideR
  split
  · simp only [Num.wideB_length]; omega
  · simp
set_option maxHeartbeats 1000000 in
theorem walk0 (n : Nat) (x : Int) (A : Option Addr) (m cap : Nat) (bs : List UInt8) (w : World) (hn : n < 18446744073709551616) (hbs : BS w A m bs) (hm : m ≤ 140737488351232) :
    Calls Try.prog 6 #[.int .u64 n, .int .i64 x, .slice A m cap] w fun e w' => e = .returned (.bool true) ∧ Below w.heap.size w w' := by
  have H0 := Lib.hid hbs
  clear hbs
  have hr := wideR_len n x
  go_enter Try.func6, Try.ntmps6
  go_wp2_with fail
  refine (wide_all n x w hn).mono ?_
  rintro e w1 ⟨A1, c1, rfl, hB1, hb1⟩
  have HB1 := Lib.hid hB1
  clear hB1
  go_wp2_with fail
  refine (refWide_all n x w1 hn).mono ?_
  rintro e w2 ⟨A2, c2, rfl, hB2, hb2'⟩
  have hb2 : Below w.heap.size w w2 := hb1.trans (hb2'.mono hb1.size)
  have HB2 := Lib.hid (And.intro hB2 (HB1.out.below hb2'))
  clear hB2 hb1 hb2' HB1
  generalize wideR n x = r at *
  obtain ⟨r0, r1⟩ := r
  simp only at hr
  obtain ⟨hr0, hr1⟩ := hr
  go_wp2_with fail
  refine (own01_any A m cap bs w2 (H0.out.below hb2) (by omega)).mono ?_
  rintro e w3 ⟨v, rfl, hown, hb3'⟩
  have hb3 : Below w.heap.size w w3 := hb2.trans (hb3'.mono hb2.size)
  rw [H0.out.1] at hown
  obtain ⟨A3, c3, rfl⟩ := own_slice hown
  have HB3 := Lib.hid (And.intro hown (And.intro (HB2.out.1.below hb3') (HB2.out.2.below hb3')))
  clear hown hb2 hb3' HB2
  go_wp2_with fail
  refine (take_all A3 m c3 bs x w3 (BS.of_own HB3.out.1) (own_cap HB3.out.1).1 (own_cap HB3.out.1).2).mono ?_
  rintro e w4 ⟨rfl, rfl⟩
  go_wp2_with fail
  refine (refTake_all A m cap bs x w3 (H0.out.below hb3)).mono ?_
  rintro e w4 ⟨rfl, rfl⟩
  generalize takeR bs x = t at *
  obtain ⟨t0, t1⟩ := t
  have c0 : ((r1 : Int) == (r1 : Int)) = true := by simp
  have c1' : ((t0 : Int) == (t0 : Int)) = true := by simp
  have c2' : ((t1 : Int) == (t1 : Int)) = true := by simp
  go_wp2_with fail
  refine (same_any A1 A2 _ _ c1 c2 _ _ w3 HB3.out.2.2 HB3.out.2.1 (by omega) (by omega)).mono ?_
  rintro e w4 ⟨rfl, hd⟩
  have hb4 : Below w.heap.size w w4 := hb3.trans (hd.below.mono hb3.size)
  clear hb3 hd
  rw [decide_eq_true rfl]
  go_wp2_with fail
  refine (awake01_any w4).mono ?_
  rintro e w5 ⟨rfl, hb5⟩
  go_wp2
  go_ret
  exact ⟨rfl, hb4.trans (hb5.mono hb4.size)⟩
theorem walk (x : Int) (y : Int) (A : Option Addr) (m cap : Nat) (bs : List UInt8) (w : World) (h0 : 0 ≤ x) (h1 : x ≤ 18446744073709551615) (h2 : -9223372036854775808 ≤ y) (h3 : y ≤ 9223372036854775807) (hbs : BS w A m bs) (hnc : m ≤ cap) (hcm : cap ≤ maxLen) (hcr : cap ≤ 140737488351232) :
    Calls Try.prog 6 #[.int .u64 x, .int .i64 y, .slice A m cap] w fun e w' => e = .returned (.bool true) ∧ Below w.heap.size w w' := by
  obtain ⟨a, rfl⟩ := Int.eq_ofNat_of_zero_le h0
  exact walk0 a y A m cap bs w (by omega) hbs (by omega)

theorem own : ownKnob Try.prog.godebug = none := by kernel_rfl
theorem laidOut : laidOutB Try.prog = true := by kernel_rfl
theorem params_ok : ∀ t ∈ Try.f6.params.toList, Try.prog.readableRec t = true ∧ t < Try.prog.types.size := by
  rw [Try.params6]
  intro t ht
  have ht' : t = 22 ∨ t = 3 ∨ t = 23 := by
    simpa using ht
  rcases ht' with rfl | rfl | rfl
  · exact ⟨(show Try.prog.readableRec 22 = true by kernel_rfl), of_decide_eq_true (show decide (22 < Try.prog.types.size) = true by kernel_rfl)⟩
  · exact ⟨(show Try.prog.readableRec 3 = true by kernel_rfl), of_decide_eq_true (show decide (3 < Try.prog.types.size) = true by kernel_rfl)⟩
  · exact ⟨(show Try.prog.readableRec 23 = true by kernel_rfl), of_decide_eq_true (show decide (23 < Try.prog.types.size) = true by kernel_rfl)⟩

set_option maxRecDepth 100000 in
theorem contract (H : Type) (enc : TypeId × Value → H) (W : World) (base : Nat) (args : Array Value) (ds gs : List (DataW H)) (before : List MemPlace)
    (hval : ∀ (j : Nat) t v, Try.f6.params[j]? = some t → args[j]? = some v → Value.okWide Try.prog W .any base t v)
    (hW : DataW.Whole enc Try.prog Try.f6.params.toList Rows.numWidesSpec.vars false W args.toList ds gs before) (hsz : (DataW.weightsEach Try.prog (Try.f6.params.toList ++ (OpenSpec.ofChange Rows.numWidesSpec).bare.plain.varTypes Try.prog) (ds ++ gs)).all (· ≤ reachBytes) = true) :
    Calls Try.prog 6 args W fun e W' => ∃ v, e = .returned v ∧ Rows.numWidesSpec.post enc Try.prog Try.f6 false true false false W args v W' := by
  have hW' := hW
  obtain ⟨p, q, hA0, hV, rfl, hfz, hnd⟩ := hW
  have hA : DataW.TrodAll enc Try.prog W 0 (fun _ => true) true Try.f6.params.toList args.toList ds p := hA0
  rw [Try.params6] at hA hval
  obtain ⟨v0, vs0, d0, ds0, p0, q0, hargs, rfl, rfl, h0, r0⟩ := trodAll_cons hA
  obtain ⟨v1, vs1, d1, ds1, p1, q1, rfl, rfl, rfl, h1, r1⟩ := trodAll_cons r0
  obtain ⟨v2, vs2, d2, ds2, p2, q2, rfl, rfl, rfl, h2, r2⟩ := trodAll_cons r1
  obtain ⟨rfl, rfl, rfl⟩ := trodAll_nil r2
  obtain rfl : args = #[v0, v1, v2] := by cases args; simp_all
  obtain ⟨rfl, rfl⟩ := trodVars_none hV
  obtain ⟨x0, rfl, rfl, rfl, w0⟩ := open_int Try.underlying22 (hval 0 22 v0 rfl rfl) h0
  have b0 := bounds_u64 w0
  obtain ⟨x1, rfl, rfl, rfl, w1⟩ := open_int Try.underlying3 (hval 1 3 v1 rfl rfl) h1
  have b1 := bounds_i64 w1
  obtain ⟨A2, n2, c2, bs2, rfl, bs2h, nc2, cm2, dd2⟩ := open_bytes Try.underlying23 Try.underlying5 (show Try.prog.cellsOf 5 = 1 by kernel_rfl) (hval 2 23 v2 rfl rfl) h2
  have cr2 := reach_bytes (j := 2) hsz (show (Try.f6.params.toList ++ _)[2]? = some 23 from by rw [Try.params6]; rfl) rfl Try.underlying23 (show Try.prog.bytesOf 5 = 1 by kernel_rfl) dd2
  refine (walk x0 x1 A2 n2 c2 bs2 W b0.1 b0.2 b1.1 b1.2 bs2h nc2 cm2 cr2).mono fun e W' ⟨he, bel⟩ => ?_
  exact ⟨_, he, post_true laidOut Try.underlying4 (show Try.f6.resultTypes = #[4] from rfl) params_ok rfl hW' rfl bel⟩

theorem laid_met (os : Os) : laidMet Try.prog Rows.numWidesRow.laid ((World.holding Try.prog os ⟨#[], #[], []⟩).forCall (fun _ _ => 0) ⟨#[], #[.int .u64 0, .int .i64 0, .slice none 0 0], []⟩).memory :=
  laidMet_of_run' 8 (by kernel_rfl) (by kernel_rfl)
theorem reads (os : Os) {H : Type} (enc : TypeId × Value → H) : ∃ places, DataW.whole enc Try.prog ((World.holding Try.prog os ⟨#[], #[], []⟩).forCall (fun _ _ => 0) ⟨#[], #[.int .u64 0, .int .i64 0, .slice none 0 0], []⟩).memory Try.f6.params.toList Rows.numWidesSpec.vars false (#[Value.int .u64 0, Value.int .i64 0, Value.slice none 0 0] : Array Value).toList 8 = some ([.lit (.int .u64 0), .lit (.int .i64 0), .nil], [], places) :=
  ⟨[], by kernel_rfl⟩
set_option maxRecDepth 100000 in
theorem lifted (os : Os) (started : os.Started) (H : Type) (enc : TypeId × Value → H) (F : Stop.Interp) :
    ReturnsInHanded {} Try.checked os 6 .any ((OpenSpec.ofChange Rows.numWidesSpec).preRow enc Try.prog Try.f6 Rows.numWidesRow.domain false Rows.numWidesRow.laid) (((OpenSpec.ofChange Rows.numWidesSpec).at F).post enc Try.prog Try.f6 false true false false) := by
  obtain ⟨places, hx⟩ := reads os enc
  refine returnsInHanded_of_row (C := Try.checked) (s := OpenSpec.ofChange Rows.numWidesSpec) own started (by kernel_rfl) Try.func6
    (witness_row_at (enc := enc) (C := Try.checked) false (World.holding Try.prog os ⟨#[], #[], []⟩) #[.int .u64 0, .int .i64 0, .slice none 0 0] rfl (by kernel_rfl) (by kernel_rfl) (by kernel_rfl)
      (OpenSpec.preRow_of_cond 8 hx (by kernel_rfl) (fun k hk => by cases hk) (by kernel_rfl) (laid_met os))) ?_
  intro W base args ds gs before hval hW _ _ hsz hL _ _
  exact contract H enc W base args ds gs before hval hW hsz
theorem said : Rows.NumWidesSaid :=
  OpenClaim.holds_of_cond 6 Try.f6 rfl rfl rfl rfl rfl rfl rfl ⟨rfl, rfl, rfl, rfl, rfl⟩ rfl rfl rfl rfl rfl (by kernel_rfl) Try.func6 (by kernel_rfl)
    (of_decide_eq_true (by kernel_rfl)) (by unfold Func.isWrapper; first | (rw [if_pos (by decide +kernel)]; kernel_rfl) | (rw [if_neg (by decide +kernel)]; exact ⟨rfl, rfl⟩))
    (fun os started H enc _ F => by rw [OpenClaim.pre_eq_preRow]; exact lifted os started H enc F)
#print axioms said
end Go.Proofs.Ytggknkkoaaekkaa.numWides
