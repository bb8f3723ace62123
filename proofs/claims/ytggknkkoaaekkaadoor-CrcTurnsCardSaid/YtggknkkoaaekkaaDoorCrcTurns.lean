/- CrcTurns: where up to 32 neighbouring bits of a text are other ones its sum is another one; no condition. -/
import Derived.Test.YtggknkkoaaekkaaDoorCrcWalks
import Derived.Test.YtggknkkoaaekkaaDoorCrcMath2
import Derived.Test.YtggknkkoaaekkaaDoorLift
import Derived.Test.YtggknkkoaaekkaaDoorCards
import Derived.Test.YtggknkkoaaekkaaDoorTie
import Derived.Lib.LaidTab
import Derived.IntWalk
import Derived.RegionTactic
import Derived.ChangeAlike
namespace Go.Proofs.YtggknkkoaaekkaaDoor.crcTurns
open Go.ChangeShapes Go.WideShapes Go.ChangeAt Go.RowKit Mem Lift
set_option linter.unusedVariables false

def turnedB (t k : Nat) : Bool := decide (t % 2 ^ k ≠ 0)

theorem turnedB_succ (t k : Nat) : turnedB t (k + 1) = if t.testBit k then true else turnedB t k := by
  unfold turnedB
  have e : t % 2 ^ (k + 1) = t % 2 ^ k + 2 ^ k * (t / 2 ^ k % 2) := by rw [Nat.pow_succ, Nat.mod_mul]
  have h2 : 0 < 2 ^ k := Nat.two_pow_pos k
  rw [e, Nat.testBit_eq_decide_div_mod_eq]
  have h : t / 2 ^ k % 2 = 0 ∨ t / 2 ^ k % 2 = 1 := by omega
  rcases h with h | h
  · simp [h]
  · rw [h]
    have : t % 2 ^ k + 2 ^ k * 1 ≠ 0 := by omega
    simp
theorem bit_of (t k : Nat) (ht : t < 4294967296) : bits .and .u32 ((t : Int) / 2 ^ k) 1 = if t.testBit k then 1 else 0 := by
  have e : (t : Int) / 2 ^ k = ((t / 2 ^ k : Nat) : Int) := by simp
  have hlt : t / 2 ^ k < 4294967296 := Nat.lt_of_le_of_lt (Nat.div_le_self _ _) ht
  rw [e, show (1 : Int) = ((1 : Nat) : Int) from rfl, u32_and_nat _ _ hlt (by omega), nat_mask1, Nat.testBit_eq_decide_div_mod_eq]
  have : t / 2 ^ k % 2 = 0 ∨ t / 2 ^ k % 2 = 1 := by omega
  rcases this with h | h <;> rw [h] <;> rfl

set_option maxHeartbeats 400000 in
theorem walk_main (A : Option Addr) (n cap : Nat) (bs : List UInt8) (at_ : Int) (t : Nat) (w : World) (hbs : BS w A n bs) (hn0 : 0 < n) (hn : n ≤ 2000) (ha0 : -9223372036854775808 ≤ at_) (ha1 : at_ ≤ 9223372036854775807) (ht0 : 0 < t) (ht1 : t < 4294967296) (ht : Half w) :
    Calls Tryd.prog 4 #[.slice A n cap, .int .i64 at_, .int .u32 t] w fun e w' => e = .returned (.bool true) ∧ Below w.heap.size w w' := by
  have hg : decide ((2000 : Int) < (n : Int)) = false := by simp; omega
  have hg2 : ((n : Int) == 0) = false := by simp; omega
  have hg3 : ((t : Int) == 0) = false := by simp; omega
  go_enter Tryd.func4, Tryd.ntmps4
  go_wp2_with fail
  refine (own_any A n cap bs w hbs (by omega)).mono ?_
  rintro e w1 ⟨v, rfl, hown, hb1⟩
  rw [hbs.1] at hown
  obtain ⟨A1, c1, rfl⟩ := own_slice hown
  have HH := Lib.hid (And.intro hown (And.intro hbs ht))
  clear hown hbs ht
  go_wp2_with fail
  obtain ⟨p, hp, hpl⟩ : ∃ p : Nat, wrap64 ((IntKind.u64.wrap at_).tmod (8 * (n : Int))) = (p : Int) ∧ p < 8 * n := by
    have h0 : 0 ≤ IntKind.u64.wrap at_ := by rw [IntKind.wrap_u64]; omega
    have h1 : (IntKind.u64.wrap at_).tmod (8 * (n : Int)) = (IntKind.u64.wrap at_) % (8 * (n : Int)) := Int.tmod_eq_emod_of_nonneg h0
    have h2 : 0 ≤ (IntKind.u64.wrap at_) % (8 * (n : Int)) := Int.emod_nonneg _ (by omega)
    have h3 : (IntKind.u64.wrap at_) % (8 * (n : Int)) < 8 * (n : Int) := Int.emod_lt_of_pos _ (by omega)
    refine ⟨((IntKind.u64.wrap at_) % (8 * (n : Int))).toNat, ?_, by omega⟩
    rw [h1, Int.toNat_of_nonneg h2, IntWalk.wrap64_in _ (by omega)]
  rw [hp]
  clear hp
  have hform : ∃ g, A1 = some ⟨g, 0, none⟩ := by
    obtain ⟨g, c, e, _⟩ := HH.out.1.form hn0
    exact ⟨g, by injection e⟩
  obtain ⟨g, rfl⟩ := hform
  go_loopw [8, 9] (fun b i wr => ∃ (k : Nat), k ≤ 32 ∧ p + k ≤ 8 * n ∧ i = .int .i64 k ∧ b = .bool (turnedB t k) ∧ wr.ownsRow w.heap.size 5 1 (.slice (some ⟨g, 0, none⟩) n c1) n (u8s (Crc.flips bs p t k)) ∧ Below w.heap.size w wr) (fun _ i _ => 32 - (intOf i).toNat)
  case atStart => exact ⟨0, by omega, by omega, rfl, by simp [turnedB, Nat.mod_one], HH.out.1, hb1⟩
  case round =>
    obtain ⟨k, hk, hpk, rfl, rfl, ho, hb⟩ := hrel
    by_cases hlt : k < 32 ∧ p + k < 8 * n
    · obtain ⟨hk2, hpk2⟩ := hlt
      have HO := Lib.hid (And.intro ho hb)
      generalize hT : turnedB t k = tb at *
      have HT := Lib.hid hT
      clear ho hb hT
      by_cases hbit : t.testBit k = true
      · have hb1 : (bits .and .u32 ((t : Int) / 2 ^ k) 1 == 1) = true := by rw [bit_of t k ht1, hbit]; rfl
        obtain ⟨q, r, hr, hqr⟩ : ∃ q r : Nat, r < 8 ∧ p + k = 8 * q + r := ⟨(p + k) / 8, (p + k) % 8, by omega, by omega⟩
        have hq : q < n := by omega
        have hx : (Crc.flips bs p t k).length = n := by rw [Crc.flips_length]; exact HH.out.2.1.1
        have hcell : wr.cell? ⟨g, q, none⟩ = some (u8 ((Crc.flips bs p t k).getD q 0)) := by
          rw [HO.out.1.cellAt q (by omega), u8s_getElem?, List.getD_eq_getElem?_getD, List.getElem?_eq_getElem (by omega)]; rfl
        have hfr : wr.frozen? ⟨g, q, none⟩ = false := HO.out.1.frozenAt q
        have HX := Lib.hid (And.intro hx hqr)
        generalize hxx : (Crc.flips bs p t k).getD q 0 = x at *
        have HX2 := Lib.hid hxx
        clear hxx
        have e1 : IntKind.i64.wrap ((p : Int) + (k : Int)) = (p : Int) + (k : Int) := IntWalk.i64_in _ (by omega)
        have e2 : IntKind.i64.wrap (((p : Int) + (k : Int)).tdiv 8) = (q : Int) := by
          rw [Int.tdiv_eq_ediv_of_nonneg (by omega), IntWalk.i64_in _ (by omega)]; omega
        have e3 : ((p : Int) + (k : Int)).tmod 8 = (r : Int) := by
          rw [Int.tmod_eq_emod_of_nonneg (by omega)]; omega
        have e4 : IntKind.i64.wrap (r : Int) = (r : Int) := IntWalk.i64_in _ (by omega)
        have hqi : (q : Int) < (n : Int) := by omega
        clear hx hqr
        go_wp2
        go_region
        go_wp2
        go_roundw
        case rel =>
          have e : bits .xor .u8 (x.toNat : Int) (2 ^ r % 256) = ((x ^^^ UInt8.ofNat (2 ^ r)).toNat : Int) := by
            have e1 : ((2 : Int) ^ r % 256) = ((UInt8.ofNat (2 ^ r)).toNat : Int) := by rw [UInt8.toNat_ofNat']; simp
            rw [e1, u8_xor_nat _ _ x.toNat_lt (UInt8.toNat_lt _), UInt8.toNat_xor]
          have h1 := HO.out.1.stored q (u8 (x ^^^ UInt8.ofNat (2 ^ r)))
          rw [e]
          refine ⟨k + 1, by omega, by omega, by go_num, by rw [turnedB_succ, if_pos hbit], ?_, ?_⟩
          · have e5 : Crc.flips bs p t (k + 1) = (Crc.flips bs p t k).set q (x ^^^ UInt8.ofNat (2 ^ r)) := by
              rw [Crc.flips_succ, if_pos hbit]
              unfold Crc.flip
              have a1 : (p + k) / 8 = q := by have := HX.out.2; omega
              have a2 : (p + k) % 8 = r := by have := HX.out.2; omega
              rw [a1, a2, HX2.out]
            rw [e5]
            have e6 : u8s ((Crc.flips bs p t k).set q (x ^^^ UInt8.ofNat (2 ^ r))) = (u8s (Crc.flips bs p t k)).set q (u8 (x ^^^ UInt8.ofNat (2 ^ r))) := by simp [u8s, List.map_set]
            rw [e6]
            exact h1.1.drew
          · exact (HO.out.2.grown h1.2 HO.out.2.size (fun j hj => by injection hj with hj; subst hj; exact (HO.out.1.lt g rfl).1)).drew
        case measure => simp [intOf]; omega
      · have hb1 : (bits .and .u32 ((t : Int) / 2 ^ k) 1 == 1) = false := by rw [bit_of t k ht1, if_neg hbit]; rfl
        go_wp2
        go_roundw
        case rel => exact ⟨k + 1, by omega, by omega, by go_num, by rw [← HT.out, turnedB_succ, if_neg hbit], by rw [Crc.flips_succ, if_neg hbit]; exact HO.out.1, HO.out.2⟩
        case measure => simp [intOf]; omega
    · have hb1' := hb
      have HO := Lib.hid (And.intro ho hb)
      generalize hT : turnedB t k = tb at *
      have HT := Lib.hid hT
      clear ho hb hT
      have hfin : ((Crc.sum (Crc.flips bs p t k) = Crc.sum bs) ↔ tb = false) := by
        rw [Crc.turns bs p t k hk (by rw [HH.out.2.1.1]; omega), ← HT.out]
        unfold turnedB Crc.low
        have hlt : t % 2 ^ k < 2 ^ 32 := Nat.lt_of_le_of_lt (Nat.mod_le _ _) ht1
        constructor
        · intro h
          have := congrArg BitVec.toNat h
          rw [BitVec.toNat_ofNat, Nat.mod_eq_of_lt hlt] at this
          simpa using this
        · intro h
          have : t % 2 ^ k = 0 := by simpa using h
          rw [this]
      have hfin2 : (((Crc.sum (Crc.flips bs p t k)).toNat : Int) == ((Crc.sum bs).toNat : Int)) = !tb := by
        cases tb
        · rw [hfin.2 rfl]; simp
        · have hne : Crc.sum (Crc.flips bs p t k) ≠ Crc.sum bs := fun h => by have := hfin.1 h; cases this
          have : (Crc.sum (Crc.flips bs p t k)).toNat ≠ (Crc.sum bs).toNat := fun h => hne (BitVec.eq_of_toNat_eq h)
          simp; omega
      have HF := Lib.hid hfin2
      clear hfin hfin2
      by_cases hk2 : k < 32
      all_goals
        go_wp2_with fail
        refine (crcSum_any _ n c1 _ wr (BS.of_own HO.out.1) (by omega) (HH.out.2.2.below hb1')).mono ?_
        rintro e w2 ⟨rfl, rfl⟩
        go_wp2_with fail
        refine (own_any A n cap bs wr (HH.out.2.1.below hb1') (by omega)).mono ?_
        rintro e w2 ⟨v, rfl, hown2, hb2⟩
        rw [HH.out.2.1.1] at hown2
        obtain ⟨A2, c2, rfl⟩ := own_slice hown2
        have HO2 := Lib.hid hown2
        clear hown2
        go_wp2_with fail
        refine (crcSum_any A2 n c2 bs w2 (BS.of_own HO2.out) (by omega) ((HH.out.2.2.below hb1').below hb2)).mono ?_
        rintro e w3 ⟨rfl, rfl⟩
        have hf := HF.out
        have hf2 : ((!tb) == (!tb)) = true := by simp
        go_wp2_with fail
        refine (awake_any w2 ((HH.out.2.2.below hb1').below hb2)).mono ?_
        rintro e w4 ⟨rfl, hb4⟩
        go_wp2
        go_ret
        exact ⟨rfl, (hb1'.trans (hb2.mono hb1'.size)).trans (hb4.mono (Nat.le_trans hb1'.size hb2.size))⟩

set_option maxHeartbeats 400000 in
theorem walk_no (A : Option Addr) (n cap : Nat) (at_ t : Int) (w : World) (hno : 2000 < n ∨ n = 0 ∨ t = 0) (ht : Half w) :
    Calls Tryd.prog 4 #[.slice A n cap, .int .i64 at_, .int .u32 t] w fun e w' => e = .returned (.bool true) ∧ Below w.heap.size w w' := by
  by_cases h1 : 2000 < n
  · have hg : decide ((2000 : Int) < (n : Int)) = true := by simp; omega
    go_enter Tryd.func4, Tryd.ntmps4
    go_wp2_with fail
    refine (awake_any w ht).mono ?_
    rintro e w2 ⟨rfl, hb2⟩
    go_wp2
    go_ret
    exact ⟨rfl, hb2⟩
  · have hg : decide ((2000 : Int) < (n : Int)) = false := by simp; omega
    by_cases h2 : n = 0
    · subst h2
      go_enter Tryd.func4, Tryd.ntmps4
      go_wp2_with fail
      refine (awake_any w ht).mono ?_
      rintro e w2 ⟨rfl, hb2⟩
      go_wp2
      go_ret
      exact ⟨rfl, hb2⟩
    · have hg2 : ((n : Int) == 0) = false := by simp; omega
      obtain rfl : t = 0 := by omega
      go_enter Tryd.func4, Tryd.ntmps4
      go_wp2_with fail
      refine (awake_any w ht).mono ?_
      rintro e w2 ⟨rfl, hb2⟩
      go_wp2
      go_ret
      exact ⟨rfl, hb2⟩
theorem walk (A : Option Addr) (n cap : Nat) (bs : List UInt8) (at_ x : Int) (w : World) (hbs : BS w A n bs) (hnc : n ≤ cap) (hcm : cap ≤ maxLen) (ha0 : -9223372036854775808 ≤ at_) (ha1 : at_ ≤ 9223372036854775807) (h0 : 0 ≤ x) (h1 : x ≤ 4294967295) (ht : Half w) :
    Calls Tryd.prog 4 #[.slice A n cap, .int .i64 at_, .int .u32 x] w fun e w' => e = .returned (.bool true) ∧ Below w.heap.size w w' := by
  by_cases hno : 2000 < n ∨ n = 0 ∨ x = 0
  · exact walk_no A n cap at_ x w hno ht
  · obtain ⟨t, rfl⟩ := Int.eq_ofNat_of_zero_le h0
    exact walk_main A n cap bs at_ t w hbs (by omega) (by omega) ha0 ha1 (by omega) (by omega) ht

theorem own : ownKnob Tryd.prog.godebug = none := by kernel_rfl
theorem laidOut : laidOutB Tryd.prog = true := by kernel_rfl
theorem params_ok : ∀ t ∈ Tryd.f4.params.toList, Tryd.prog.readableRec t = true ∧ t < Tryd.prog.types.size := by
  rw [Tryd.params4]
  intro t ht
  have ht' : t = 22 ∨ t = 3 ∨ t = 24 := by
    simpa using ht
  rcases ht' with rfl | rfl | rfl
  · exact ⟨(show Tryd.prog.readableRec 22 = true by kernel_rfl), of_decide_eq_true (show decide (22 < Tryd.prog.types.size) = true by kernel_rfl)⟩
  · exact ⟨(show Tryd.prog.readableRec 3 = true by kernel_rfl), of_decide_eq_true (show decide (3 < Tryd.prog.types.size) = true by kernel_rfl)⟩
  · exact ⟨(show Tryd.prog.readableRec 24 = true by kernel_rfl), of_decide_eq_true (show decide (24 < Tryd.prog.types.size) = true by kernel_rfl)⟩
theorem gTab : Tryd.prog.globalNamed "troth/crc.half" = some 0 := by kernel_rfl
theorem gTabType : (Tryd.prog.globals[0]?).map (·.type) = some 35 := by kernel_rfl
theorem cellsTab : Tryd.prog.cellsOf 35 = 16 := by kernel_rfl
theorem cells32 : Tryd.prog.cellsOf 24 = 1 := by kernel_rfl
theorem table {W : World} (h : laidMetH Tryd.prog Rows.crcTurnsRow.laid W) : Half W := by
  have h1 : Lib.TabIs Tryd.prog W "troth/crc.half" .u32 (Crc.tab.map (fun n : Nat => (n : Int))) :=
    Lib.tabIs_of_head (rest := []) gTab gTabType Tryd.underlying35 Tryd.underlying24 cells32 cellsTab h
  intro i hi
  have h2 := h1.cell gTab i (by rw [List.length_map]; exact hi)
  rw [h2]
  have hi' : i < Crc.tab.length := hi
  rw [List.getD_eq_getElem?_getD, List.getElem?_map, List.getD_eq_getElem?_getD, List.getElem?_eq_getElem hi']
  rfl

set_option maxRecDepth 100000 in
theorem contract (H : Type) (enc : TypeId × Value → H) (W : World) (base : Nat) (args : Array Value) (ds gs : List (DataW H)) (before : List MemPlace)
    (hval : ∀ (j : Nat) t v, Tryd.f4.params[j]? = some t → args[j]? = some v → Value.okWide Tryd.prog W .any base t v)
    (hW : DataW.Whole enc Tryd.prog Tryd.f4.params.toList Rows.crcTurnsSpec.vars false W args.toList ds gs before) (hL : laidMetH Tryd.prog Rows.crcTurnsRow.laid W) :
    Calls Tryd.prog 4 args W fun e W' => ∃ v, e = .returned v ∧ Rows.crcTurnsSpec.post enc Tryd.prog Tryd.f4 false true false false W args v W' := by
  have hW' := hW
  obtain ⟨p, q, hA0, hV, rfl, hfz, hnd⟩ := hW
  have hA : DataW.TrodAll enc Tryd.prog W 0 (fun _ => true) true Tryd.f4.params.toList args.toList ds p := hA0
  rw [Tryd.params4] at hA hval
  obtain ⟨v0, vs0, d0, ds0, p0, q0, hargs, rfl, rfl, h0, r0⟩ := trodAll_cons hA
  obtain ⟨v1, vs1, d1, ds1, p1, q1, rfl, rfl, rfl, h1, r1⟩ := trodAll_cons r0
  obtain ⟨v2, vs2, d2, ds2, p2, q2, rfl, rfl, rfl, h2, r2⟩ := trodAll_cons r1
  obtain ⟨rfl, rfl, rfl⟩ := trodAll_nil r2
  obtain rfl : args = #[v0, v1, v2] := by cases args; simp_all
  obtain ⟨rfl, rfl⟩ := trodVars_none hV
  obtain ⟨A0, n0, c0, bs0, rfl, bs0h, nc0, cm0⟩ := open_bytes Tryd.underlying22 Tryd.underlying5 (show Tryd.prog.cellsOf 5 = 1 by kernel_rfl) (hval 0 22 v0 rfl rfl) h0
  obtain ⟨x1, rfl, rfl, rfl, w1⟩ := open_int Tryd.underlying3 (hval 1 3 v1 rfl rfl) h1
  have b1 := bounds_i64 w1
  obtain ⟨x2, rfl, rfl, rfl, w2⟩ := open_int Tryd.underlying24 (hval 2 24 v2 rfl rfl) h2
  have b2 := bounds_u32 w2
  refine (walk A0 n0 c0 bs0 x1 x2 W bs0h nc0 cm0 b1.1 b1.2 b2.1 b2.2 (table hL)).mono fun e W' ⟨he, bel⟩ => ?_
  exact ⟨_, he, post_true laidOut Tryd.underlying4 (show Tryd.f4.resultTypes = #[4] from rfl) params_ok rfl hW' rfl bel⟩

noncomputable def laidWorld (os : Os) : World :=
  { World.holding Tryd.prog os ⟨#[], #[], []⟩ with heap := (World.holding Tryd.prog os ⟨#[], #[], []⟩).heap.modify 0 fun
      | .cells _ t frozen => .cells #[.int .u32 0, .int .u32 498536548, .int .u32 997073096, .int .u32 651767980, .int .u32 1994146192, .int .u32 1802195444, .int .u32 1303535960, .int .u32 1342533948, .int .u32 3988292384, .int .u32 4027552580, .int .u32 3604390888, .int .u32 3412177804, .int .u32 2607071920, .int .u32 2262029012, .int .u32 2685067896, .int .u32 3183342108] t frozen
      | o => o }
theorem laid_met (os : Os) : laidMet Tryd.prog Rows.crcTurnsRow.laid ((laidWorld os).forCall (fun _ _ => 0) ⟨#[], #[.slice none 0 0, .int .i64 0, .int .u32 0], []⟩).memory :=
  laidMet_of_run' 8 (by kernel_rfl) (by kernel_rfl)
theorem reads (os : Os) {H : Type} (enc : TypeId × Value → H) : ∃ places, DataW.whole enc Tryd.prog ((laidWorld os).forCall (fun _ _ => 0) ⟨#[], #[.slice none 0 0, .int .i64 0, .int .u32 0], []⟩).memory Tryd.f4.params.toList Rows.crcTurnsSpec.vars false (#[Value.slice none 0 0, Value.int .i64 0, Value.int .u32 0] : Array Value).toList 8 = some ([.nil, .lit (.int .i64 0), .lit (.int .u32 0)], [], places) :=
  ⟨[], by kernel_rfl⟩
set_option maxRecDepth 100000 in
theorem lifted (os : Os) (started : os.Started) (H : Type) (enc : TypeId × Value → H) (F : Stop.Interp) :
    ReturnsInHanded {} Tryd.checked os 4 .any ((OpenSpec.ofChange Rows.crcTurnsSpec).preRow enc Tryd.prog Tryd.f4 Rows.crcTurnsRow.domain false Rows.crcTurnsRow.laid) (((OpenSpec.ofChange Rows.crcTurnsSpec).at F).post enc Tryd.prog Tryd.f4 false true false false) := by
  obtain ⟨places, hx⟩ := reads os enc
  refine returnsInHanded_of_row (C := Tryd.checked) (s := OpenSpec.ofChange Rows.crcTurnsSpec) own started (by kernel_rfl) Tryd.func4
    (witness_row_at (enc := enc) (C := Tryd.checked) false (laidWorld os) #[.slice none 0 0, .int .i64 0, .int .u32 0] rfl (by kernel_rfl) (by kernel_rfl) (by kernel_rfl)
      (OpenSpec.preRow_of_cond 8 hx (by kernel_rfl) (fun k hk => by cases hk) (by kernel_rfl) (laid_met os))) ?_
  intro W base args ds gs before hval hW _ _ _ hL _ _
  exact contract H enc W base args ds gs before hval hW hL
theorem said : Rows.CrcTurnsSaid :=
  OpenClaim.holds_of_cond 4 Tryd.f4 rfl rfl rfl rfl rfl rfl rfl ⟨rfl, rfl, rfl, rfl, rfl⟩ rfl rfl rfl rfl rfl (by kernel_rfl) Tryd.func4 (by kernel_rfl)
    (of_decide_eq_true (by kernel_rfl)) (by unfold Func.isWrapper; first | (rw [if_pos (by decide +kernel)]; kernel_rfl) | (rw [if_neg (by decide +kernel)]; exact ⟨rfl, rfl⟩))
    (fun os started H enc _ F => by rw [OpenClaim.pre_eq_preRow]; exact lifted os started H enc F)
theorem plain (f : FuncId) (fn : Func) (hf : Tryd.pinned.checked.prog.funcNamed "troth/trothlaw02.CrcTurns" = some f) (hfn : Tryd.pinned.checked.prog.funcs[f]? = some fn) :
    false = Tryd.pinned.checked.prog.looks [] ∧ ∀ (j : Nat) t, fn.params[j]? = some t → Tryd.pinned.checked.prog.wantsStandIn t = false := by
  obtain rfl : f = 4 := Option.some.inj ((show Tryd.prog.funcNamed "troth/trothlaw02.CrcTurns" = some 4 by kernel_rfl).symm.trans hf) |>.symm
  obtain rfl : fn = Tryd.f4 := (Option.some.inj (Tryd.func4.symm.trans hfn)).symm
  refine ⟨by kernel_rfl, fun j t ht => ?_⟩
  rw [Tryd.params4] at ht
  have ht' : t = 22 ∨ t = 3 ∨ t = 24 := by simpa using Array.mem_of_getElem? ht
  rcases ht' with rfl | rfl | rfl
  · exact (show Tryd.prog.wantsStandIn 22 = false by kernel_rfl)
  · exact (show Tryd.prog.wantsStandIn 3 = false by kernel_rfl)
  · exact (show Tryd.prog.wantsStandIn 24 = false by kernel_rfl)
theorem card : Rows.CrcTurnsCardSaid :=
  Claim7.holds_tied_plain_at .later [] _ _ _ _ said (fun _ h => by cases h) (by kernel_rfl) (fun _ h => by cases h) crcTurns_row_tie rfl ⟨rfl, rfl⟩ (by kernel_rfl) rfl plain (by kernel_rfl)
#print axioms card
end Go.Proofs.YtggknkkoaaekkaaDoor.crcTurns
