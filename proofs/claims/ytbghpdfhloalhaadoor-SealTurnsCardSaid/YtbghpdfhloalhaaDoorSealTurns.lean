/- SealTurns: a body in which, or in whose sum, up to 32 neighbouring bits are other ones isn't opened; no condition. -/
import Derived.Test.YtbghpdfhloalhaaDoorLaw03
import Derived.Test.YtbghpdfhloalhaaDoorSealTurnMath
import Derived.Test.YtbghpdfhloalhaaDoorSealRefs
import Derived.Test.YtbghpdfhloalhaaDoorLift
import Derived.Test.YtbghpdfhloalhaaDoorCards
import Derived.Test.YtbghpdfhloalhaaDoorTie
import Derived.Lib.LaidTab
import Derived.IntWalk
import Derived.RegionTactic
import Derived.ChangeAlike
namespace Go.Proofs.YtbghpdfhloalhaaDoor.sealTurns
open Go.ChangeShapes Go.WideShapes Go.ChangeAt Go.RowKit Mem Lift
set_option linter.unusedVariables false
set_option linter.unusedSimpArgs false

def turnedB (t k : Nat) : Bool := decide (t % 2 ^ k ≠ 0)

theorem turnedB_succ (t k : Nat) : turnedB t (k + 1) = if t.testBit k then true else turnedB t k := by
  unfold turnedB
  have e : t % 2 ^ (k + 1) = t % 2 ^ k + 2 ^ k * (t / 2 ^ k % 2) := by rw [Nat.pow_succ, Nat.mod_mul]
  have h2 : 0 < 2 ^ k := Nat.two_pow_pos k
  rw [e, Nat.testBit_eq_decide_div_mod_eq]
  have h : t / 2 ^ k % 2 = 0 ∨ t / 2 ^ k % 2 = 1 := by omega
  rcases h with h | h
  · simp [h]
  · rw [h]
    have : t % 2 ^ k + 2 ^ k * 1 ≠ 0 := by omega
    simp
theorem turned_low (t k : Nat) (ht : t < 4294967296) : (Crc.low t k = 0#32) ↔ turnedB t k = false := by
  unfold turnedB Crc.low
  have hlt : t % 2 ^ k < 2 ^ 32 := Nat.lt_of_le_of_lt (Nat.mod_le _ _) ht
  constructor
  · intro h
    have := congrArg BitVec.toNat h
    rw [BitVec.toNat_ofNat, Nat.mod_eq_of_lt hlt] at this
    simpa using this
  · intro h
    have : t % 2 ^ k = 0 := by simpa using h
    rw [this]
theorem bit_of (t k : Nat) (ht : t < 4294967296) : bits .and .u32 ((t : Int) / 2 ^ k) 1 = if t.testBit k then 1 else 0 := by
  have e : (t : Int) / 2 ^ k = ((t / 2 ^ k : Nat) : Int) := by simp
  have hlt : t / 2 ^ k < 4294967296 := Nat.lt_of_le_of_lt (Nat.div_le_self _ _) ht
  rw [e, show (1 : Int) = ((1 : Nat) : Int) from rfl, u32_and_nat _ _ hlt (by omega), nat_mask1, Nat.testBit_eq_decide_div_mod_eq]
  have : t / 2 ^ k % 2 = 0 ∨ t / 2 ^ k % 2 = 1 := by omega
  rcases this with h | h <;> rw [h] <;> rfl
set_option maxHeartbeats 1000000 in
theorem walk_main (A : Option Addr) (n cap : Nat) (bs : List UInt8) (at_ : Int) (t : Nat) (w : World) (hbs : BS w A n bs) (hn : n ≤ 1000) (ha0 : -9223372036854775808 ≤ at_) (ha1 : at_ ≤ 9223372036854775807) (ht1 : t < 4294967296) (ht : Half w) :
    Calls Tryd.prog 5 #[.slice A n cap, .int .i64 at_, .int .u32 t] w fun e w' => e = .returned (.bool true) ∧ Below w.heap.size w w' := by
  have hg : decide ((1000 : Int) < (n : Int)) = false := by simp; omega
  have hof := fun p k hk hp => Sl.open_flips bs p t k (by rw [hbs.1]; omega) hk hp
  rw [hbs.1] at hof
  have hhd := Sl.numB_length (n : Int)
  have hxl : (Sl.sealB bs).length = (Sl.numB (n : Int)).length + n + 4 := by rw [Sl.sealB_length, Sl.textB_length, hbs.1]
  have e0 := sealE_ok (bs := bs) (by rw [hbs.1]; omega)
  generalize (Sl.numB (n : Int)).length = hd at *
  have H := Lib.hid (And.intro hbs (And.intro ht (And.intro hof e0)))
  clear hbs ht hof e0
  go_enter Tryd.func5, Tryd.ntmps5
  go_wp2_with fail
  refine (own03_any A n cap bs w H.out.1 (by omega)).mono ?_
  rintro e w1 ⟨v, rfl, ho1, hb1⟩
  rw [H.out.1.1] at ho1
  obtain ⟨A1, c1, rfl⟩ := own_slice ho1
  have H1 := Lib.hid (And.intro hb1 (BS.of_own ho1))
  clear ho1 hb1
  go_wp2_with fail
  refine (seal_any A1 n c1 bs w1 H1.out.2 (by omega) (H.out.2.1.below H1.out.1)).mono ?_
  rw [H.out.2.2.2]
  rintro e w2 ⟨v, rfl, ho2, hb2⟩
  simp only at ho2
  have hxl' := hxl
  generalize hN : (Sl.sealB bs).length = N at *
  obtain ⟨A2, c2, rfl⟩ := own_slice ho2
  have hform : ∃ g, A2 = some ⟨g, 0, none⟩ := by
    obtain ⟨g, c, e, _⟩ := ho2.form (by omega)
    exact ⟨g, by injection e⟩
  obtain ⟨g, rfl⟩ := hform
  have hge : w.heap.size ≤ g := Nat.le_trans H1.out.1.size (own_ge ho2 rfl)
  have H2 := Lib.hid (And.intro (below_then H1.out.1 hb2) (And.intro (own_base ho2 H1.out.1.size) hN))
  have hcap2 := own_cap ho2
  clear ho2 hb2 hN hxl
  have hg1 : decide ((N : Int) - (n : Int) - 4 < 1) = false := by simp; omega
  have ehd : (N : Int) - (n : Int) - 4 = (hd : Int) := by omega
  have ehd2 : (N : Int) - (hd : Int) = (n : Int) + 4 := by omega
  have hN1 : N ≤ hd + n + 4 := by omega
  have hN2 : hd + n + 4 ≤ N := by omega
  clear hxl'
  obtain ⟨p, hp, hpl⟩ : ∃ p : Nat, wrap64 ((IntKind.u64.wrap at_).tmod (8 * ((n : Int) + 4))) = (p : Int) ∧ p < 8 * (n + 4) := by
    have h0 : 0 ≤ IntKind.u64.wrap at_ := by rw [IntKind.wrap_u64]; omega
    have h1 : (IntKind.u64.wrap at_).tmod (8 * ((n : Int) + 4)) = (IntKind.u64.wrap at_) % (8 * ((n : Int) + 4)) := Int.tmod_eq_emod_of_nonneg h0
    have h2 : 0 ≤ (IntKind.u64.wrap at_) % (8 * ((n : Int) + 4)) := Int.emod_nonneg _ (by omega)
    have h3 : (IntKind.u64.wrap at_) % (8 * ((n : Int) + 4)) < 8 * ((n : Int) + 4) := Int.emod_lt_of_pos _ (by omega)
    refine ⟨((IntKind.u64.wrap at_) % (8 * ((n : Int) + 4))).toNat, ?_, by omega⟩
    rw [h1, Int.toNat_of_nonneg h2, IntWalk.wrap64_in _ (by omega)]
  go_wp2_with fail
  rw [hp]
  clear hp
  go_loopw [11, 12, 13] (fun b i _ wr => ∃ (k : Nat), k ≤ 32 ∧ p + k ≤ 8 * (n + 4) ∧ i = .int .i64 k ∧ b = .bool (turnedB t k) ∧ wr.ownsRow w.heap.size 5 1 (.slice (some ⟨g, 0, none⟩) N c2) N (u8s (Crc.flips (Sl.sealB bs) (8 * hd + p) t k)) ∧ Below w.heap.size w wr) (fun _ i _ _ => 32 - (intOf i).toNat)
  case atStart => exact ⟨0, by omega, by omega, rfl, by simp [turnedB, Nat.mod_one], H2.out.2.1, H2.out.1⟩
  case round =>
    obtain ⟨k, hk, hpk, rfl, rfl, ho, hb⟩ := hrel
    by_cases hlt : k < 32 ∧ p + k < 8 * (n + 4)
    · obtain ⟨hk2, hpk2⟩ := hlt
      have HO := Lib.hid (And.intro ho hb)
      generalize hT : turnedB t k = tb at *
      have HT := Lib.hid hT
      clear ho hb hT
      by_cases hbit : t.testBit k = true
      · have hb1 : (bits .and .u32 ((t : Int) / 2 ^ k) 1 == 1) = true := by rw [bit_of t k ht1, hbit]; rfl
        obtain ⟨q, r, hr, hqr⟩ : ∃ q r : Nat, r < 8 ∧ 8 * hd + p + k = 8 * q + r := ⟨(8 * hd + p + k) / 8, (8 * hd + p + k) % 8, by omega, by omega⟩
        have hq : q < N := by omega
        have hx : (Crc.flips (Sl.sealB bs) (8 * hd + p) t k).length = N := by rw [Crc.flips_length]; exact H2.out.2.2
        have hcell : wr.cell? ⟨g, q, none⟩ = some (u8 ((Crc.flips (Sl.sealB bs) (8 * hd + p) t k).getD q 0)) := by
          rw [HO.out.1.cellAt q (by omega), u8s_getElem?, List.getD_eq_getElem?_getD, List.getElem?_eq_getElem (by omega)]; rfl
        have hfr : wr.frozen? ⟨g, q, none⟩ = false := HO.out.1.frozenAt q
        have HX := Lib.hid (And.intro hx hqr)
        generalize hxx : (Crc.flips (Sl.sealB bs) (8 * hd + p) t k).getD q 0 = x at *
        have HX2 := Lib.hid hxx
        clear hxx
        have e1 : IntKind.i64.wrap ((p : Int) + (k : Int)) = (p : Int) + (k : Int) := IntWalk.i64_in _ (by omega)
        have e2 : IntKind.i64.wrap ((8 * (hd : Int) + (p : Int) + (k : Int)).tdiv 8) = (q : Int) := by
          rw [Int.tdiv_eq_ediv_of_nonneg (by omega), IntWalk.i64_in _ (by omega)]; omega
        have e3 : (8 * (hd : Int) + (p : Int) + (k : Int)).tmod 8 = (r : Int) := by
          rw [Int.tmod_eq_emod_of_nonneg (by omega)]; omega
        have e4 : IntKind.i64.wrap (r : Int) = (r : Int) := IntWalk.i64_in _ (by omega)
        have hqi : (q : Int) < (N : Int) := by omega
        clear hx hqr
        go_wp2
        go_region
        go_wp2
        go_roundw
        case rel =>
          have e : bits .xor .u8 (x.toNat : Int) (2 ^ r % 256) = ((x ^^^ UInt8.ofNat (2 ^ r)).toNat : Int) := by
            have e1 : ((2 : Int) ^ r % 256) = ((UInt8.ofNat (2 ^ r)).toNat : Int) := by rw [UInt8.toNat_ofNat']; simp
            rw [e1, u8_xor_nat _ _ x.toNat_lt (UInt8.toNat_lt _), UInt8.toNat_xor]
          have h1 := HO.out.1.stored q (u8 (x ^^^ UInt8.ofNat (2 ^ r)))
          rw [e]
          refine ⟨k + 1, by omega, by omega, by go_num, by rw [turnedB_succ, if_pos hbit], ?_, ?_⟩
          · have e5 : Crc.flips (Sl.sealB bs) (8 * hd + p) t (k + 1) = (Crc.flips (Sl.sealB bs) (8 * hd + p) t k).set q (x ^^^ UInt8.ofNat (2 ^ r)) := by
              rw [Crc.flips_succ, if_pos hbit]
              unfold Crc.flip
              have a1 : (8 * hd + p + k) / 8 = q := by have := HX.out.2; omega
              have a2 : (8 * hd + p + k) % 8 = r := by have := HX.out.2; omega
              rw [a1, a2, HX2.out]
            rw [e5]
            have e6 : u8s ((Crc.flips (Sl.sealB bs) (8 * hd + p) t k).set q (x ^^^ UInt8.ofNat (2 ^ r))) = (u8s (Crc.flips (Sl.sealB bs) (8 * hd + p) t k)).set q (u8 (x ^^^ UInt8.ofNat (2 ^ r))) := by simp [u8s, List.map_set]
            rw [e6]
            exact h1.1.drew
          · exact (HO.out.2.grown h1.2 HO.out.2.size (fun j hj => by injection hj with hj; subst hj; exact hge)).drew
        case measure => simp [intOf]; omega
      · have hb1 : (bits .and .u32 ((t : Int) / 2 ^ k) 1 == 1) = false := by rw [bit_of t k ht1, if_neg hbit]; rfl
        go_wp2
        go_roundw
        case rel => exact ⟨k + 1, by omega, by omega, by go_num, by rw [← HT.out, turnedB_succ, if_neg hbit], by rw [Crc.flips_succ, if_neg hbit]; exact HO.out.1, HO.out.2⟩
        case measure => simp [intOf]; omega
    · have hop := open_any (some ⟨g, 0, none⟩) N c2 _ wr (BS.of_own ho) (by omega) hcap2.1 hcap2.2 (H.out.2.1.below hb)
      rw [H.out.2.2.1 p k hk hpk] at hop
      by_cases htb : turnedB t k = false
      · rw [if_pos ((turned_low t k ht1).2 htb)] at hop
        rw [htb]
        have HO := Lib.hid (And.intro hop hb)
        clear hop ho hb htb
        by_cases hk2 : k < 32
        all_goals
          go_wp2_with fail
          refine HO.out.1.mono ?_
          rintro e w3 ⟨B3, d3, rfl, hB3, _, _, hb3, _⟩
          simp only [H.out.1.1] at hB3 ⊢
          have H3 := Lib.hid (And.intro (below_then HO.out.2 hb3) hB3)
          clear hB3 hb3
          go_wp2_with fail
          refine (same_any B3 A n n d3 cap bs bs w3 H3.out.2 (H.out.1.below H3.out.1) (by omega) (by omega)).mono ?_
          rintro e w4 ⟨rfl, hd4⟩
          have H4 := Lib.hid (below_then H3.out.1 hd4.below)
          clear hd4
          go_wp2_with fail
          refine (awake03_any w4 (H.out.2.1.below H4.out)).mono ?_
          rintro e w5 ⟨rfl, hb5⟩
          have H5 := Lib.hid (below_then H4.out hb5)
          clear hb5
          go_wp2
          go_ret
          exact ⟨rfl, H5.out⟩
      · rw [if_neg (fun h => htb ((turned_low t k ht1).1 h))] at hop
        have htb' : turnedB t k = true := by simpa using htb
        rw [htb']
        have HO := Lib.hid (And.intro hop hb)
        clear hop ho hb htb htb'
        by_cases hk2 : k < 32
        all_goals
          go_wp2_with fail
          refine HO.out.1.mono ?_
          rintro e w3 ⟨B3, d3, rfl, _, _, _, hb3, _⟩
          have H3 := Lib.hid (below_then HO.out.2 hb3)
          clear hb3
          go_wp2_with fail
          refine (awake03_any w3 (H.out.2.1.below H3.out)).mono ?_
          rintro e w5 ⟨rfl, hb5⟩
          have H5 := Lib.hid (below_then H3.out hb5)
          clear hb5
          go_wp2
          go_ret
          exact ⟨rfl, H5.out⟩
theorem walk (A : Option Addr) (n cap : Nat) (bs : List UInt8) (at_ : Int) (t : Int) (w : World) (hbs : BS w A n bs) (hnc : n ≤ cap) (hm : cap ≤ maxLen) (ha0 : -9223372036854775808 ≤ at_) (ha1 : at_ ≤ 9223372036854775807) (ht0 : 0 ≤ t) (ht1 : t ≤ 4294967295) (ht : Half w) :
    Calls Tryd.prog 5 #[.slice A n cap, .int .i64 at_, .int .u32 t] w fun e w' => e = .returned (.bool true) ∧ Below w.heap.size w w' := by
  by_cases hn : n ≤ 1000
  · obtain ⟨m, rfl⟩ := Int.eq_ofNat_of_zero_le ht0
    exact walk_main A n cap bs at_ m w hbs hn ha0 ha1 (by omega) ht
  · have hg : decide ((1000 : Int) < (n : Int)) = true := by simp; omega
    have H := Lib.hid ht
    clear ht hbs
    go_enter Tryd.func5, Tryd.ntmps5
    go_wp2_with fail
    refine (awake03_any w H.out).mono ?_
    rintro e w4 ⟨rfl, hb4⟩
    have H4 := Lib.hid hb4
    clear hb4
    go_wp2
    go_ret
    exact ⟨rfl, H4.out⟩

theorem own : ownKnob Tryd.prog.godebug = none := by kernel_rfl
theorem laidOut : laidOutB Tryd.prog = true := by kernel_rfl
theorem params_ok : ∀ t ∈ Tryd.f5.params.toList, Tryd.prog.readableRec t = true ∧ t < Tryd.prog.types.size := by
  rw [Tryd.params5]
  intro t ht
  have ht' : t = 22 ∨ t = 3 ∨ t = 36 := by
    simpa using ht
  rcases ht' with rfl | rfl | rfl
  · exact ⟨(show Tryd.prog.readableRec 22 = true by kernel_rfl), of_decide_eq_true (show decide (22 < Tryd.prog.types.size) = true by kernel_rfl)⟩
  · exact ⟨(show Tryd.prog.readableRec 3 = true by kernel_rfl), of_decide_eq_true (show decide (3 < Tryd.prog.types.size) = true by kernel_rfl)⟩
  · exact ⟨(show Tryd.prog.readableRec 36 = true by kernel_rfl), of_decide_eq_true (show decide (36 < Tryd.prog.types.size) = true by kernel_rfl)⟩
theorem gTab : Tryd.prog.globalNamed "troth/crc.half" = some 0 := by kernel_rfl
theorem gTabType : (Tryd.prog.globals[0]?).map (·.type) = some 87 := by kernel_rfl
theorem cellsTab : Tryd.prog.cellsOf 87 = 16 := by kernel_rfl
theorem cells32 : Tryd.prog.cellsOf 36 = 1 := by kernel_rfl
theorem table {W : World} (h : laidMetH Tryd.prog Rows.sealTurnsRow.laid W) : Half W := by
  have h1 : Lib.TabIs Tryd.prog W "troth/crc.half" .u32 (Crc.tab.map (fun n : Nat => (n : Int))) :=
    Lib.tabIs_of_head (rest := []) gTab gTabType Tryd.underlying87 Tryd.underlying36 cells32 cellsTab h
  intro i hi
  have h2 := h1.cell gTab i (by rw [List.length_map]; exact hi)
  rw [h2]
  have hi' : i < Crc.tab.length := hi
  rw [List.getD_eq_getElem?_getD, List.getElem?_map, List.getD_eq_getElem?_getD, List.getElem?_eq_getElem hi']
  rfl

set_option maxRecDepth 100000 in
theorem contract (H : Type) (enc : TypeId × Value → H) (W : World) (base : Nat) (args : Array Value) (ds gs : List (DataW H)) (before : List MemPlace)
    (hval : ∀ (j : Nat) t v, Tryd.f5.params[j]? = some t → args[j]? = some v → Value.okWide Tryd.prog W .any base t v)
    (hW : DataW.Whole enc Tryd.prog Tryd.f5.params.toList Rows.sealTurnsSpec.vars false W args.toList ds gs before) (hL : laidMetH Tryd.prog Rows.sealTurnsRow.laid W) :
    Calls Tryd.prog 5 args W fun e W' => ∃ v, e = .returned v ∧ Rows.sealTurnsSpec.post enc Tryd.prog Tryd.f5 false true false false W args v W' := by
  have hW' := hW
  obtain ⟨p, q, hA0, hV, rfl, hfz, hnd⟩ := hW
  have hA : DataW.TrodAll enc Tryd.prog W 0 (fun _ => true) true Tryd.f5.params.toList args.toList ds p := hA0
  rw [Tryd.params5] at hA hval
  obtain ⟨v0, vs0, d0, ds0, p0, q0, hargs, rfl, rfl, h0, r0⟩ := trodAll_cons hA
  obtain ⟨v1, vs1, d1, ds1, p1, q1, rfl, rfl, rfl, h1, r1⟩ := trodAll_cons r0
  obtain ⟨v2, vs2, d2, ds2, p2, q2, rfl, rfl, rfl, h2, r2⟩ := trodAll_cons r1
  obtain ⟨rfl, rfl, rfl⟩ := trodAll_nil r2
  obtain rfl : args = #[v0, v1, v2] := by cases args; simp_all
  obtain ⟨rfl, rfl⟩ := trodVars_none hV
  obtain ⟨A0, n0, c0, bs0, rfl, bs0h, nc0, cm0, dd0⟩ := open_bytes Tryd.underlying22 Tryd.underlying5 (show Tryd.prog.cellsOf 5 = 1 by kernel_rfl) (hval 0 22 v0 rfl rfl) h0
  obtain ⟨x1, rfl, rfl, rfl, w1⟩ := open_int Tryd.underlying3 (hval 1 3 v1 rfl rfl) h1
  have b1 := bounds_i64 w1
  obtain ⟨x2, rfl, rfl, rfl, w2⟩ := open_int Tryd.underlying36 (hval 2 36 v2 rfl rfl) h2
  have b2 := bounds_u32 w2
  refine (walk A0 n0 c0 bs0 x1 x2 W bs0h nc0 cm0 b1.1 b1.2 b2.1 b2.2 (table hL)).mono fun e W' ⟨he, bel⟩ => ?_
  exact ⟨_, he, post_true laidOut Tryd.underlying4 (show Tryd.f5.resultTypes = #[4] from rfl) params_ok rfl hW' rfl bel⟩

noncomputable def laidWorld (os : Os) : World :=
  { World.holding Tryd.prog os ⟨#[], #[], []⟩ with heap := (World.holding Tryd.prog os ⟨#[], #[], []⟩).heap.modify 0 fun
      | .cells _ t frozen => .cells #[.int .u32 0, .int .u32 498536548, .int .u32 997073096, .int .u32 651767980, .int .u32 1994146192, .int .u32 1802195444, .int .u32 1303535960, .int .u32 1342533948, .int .u32 3988292384, .int .u32 4027552580, .int .u32 3604390888, .int .u32 3412177804, .int .u32 2607071920, .int .u32 2262029012, .int .u32 2685067896, .int .u32 3183342108] t frozen
      | o => o }
theorem laid_met (os : Os) : laidMet Tryd.prog Rows.sealTurnsRow.laid ((laidWorld os).forCall (fun _ _ => 0) ⟨#[], #[.slice none 0 0, .int .i64 0, .int .u32 0], []⟩).memory :=
  laidMet_of_run' 8 (by kernel_rfl) (by kernel_rfl)
theorem reads (os : Os) {H : Type} (enc : TypeId × Value → H) : ∃ places, DataW.whole enc Tryd.prog ((laidWorld os).forCall (fun _ _ => 0) ⟨#[], #[.slice none 0 0, .int .i64 0, .int .u32 0], []⟩).memory Tryd.f5.params.toList Rows.sealTurnsSpec.vars false (#[Value.slice none 0 0, Value.int .i64 0, Value.int .u32 0] : Array Value).toList 8 = some ([.nil, .lit (.int .i64 0), .lit (.int .u32 0)], [], places) :=
  ⟨[], by kernel_rfl⟩
set_option maxRecDepth 100000 in
theorem lifted (os : Os) (started : os.Started) (H : Type) (enc : TypeId × Value → H) (F : Stop.Interp) :
    ReturnsInHanded {} Tryd.checked os 5 .any ((OpenSpec.ofChange Rows.sealTurnsSpec).preRow enc Tryd.prog Tryd.f5 Rows.sealTurnsRow.domain false Rows.sealTurnsRow.laid) (((OpenSpec.ofChange Rows.sealTurnsSpec).at F).post enc Tryd.prog Tryd.f5 false true false false) := by
  obtain ⟨places, hx⟩ := reads os enc
  refine returnsInHanded_of_row (C := Tryd.checked) (s := OpenSpec.ofChange Rows.sealTurnsSpec) own started (by kernel_rfl) Tryd.func5
    (witness_row_at (enc := enc) (C := Tryd.checked) false (laidWorld os) #[.slice none 0 0, .int .i64 0, .int .u32 0] rfl (by kernel_rfl) (by kernel_rfl) (by kernel_rfl)
      (OpenSpec.preRow_of_cond 8 hx (by kernel_rfl) (fun k hk => by cases hk) (by kernel_rfl) (laid_met os))) ?_
  intro W base args ds gs before hval hW _ _ hsz hL _ _
  exact contract H enc W base args ds gs before hval hW hL
theorem said : Rows.SealTurnsSaid :=
  OpenClaim.holds_of_cond 5 Tryd.f5 rfl rfl rfl rfl rfl rfl rfl ⟨rfl, rfl, rfl, rfl, rfl⟩ rfl rfl rfl rfl rfl (by kernel_rfl) Tryd.func5 (by kernel_rfl)
    (of_decide_eq_true (by kernel_rfl)) (by unfold Func.isWrapper; first | (rw [if_pos (by decide +kernel)]; kernel_rfl) | (rw [if_neg (by decide +kernel)]; exact ⟨rfl, rfl⟩))
    (fun os started H enc _ F => by rw [OpenClaim.pre_eq_preRow]; exact lifted os started H enc F)
theorem plain (f : FuncId) (fn : Func) (hf : Tryd.pinned.checked.prog.funcNamed "troth/trothlaw03.SealTurns" = some f) (hfn : Tryd.pinned.checked.prog.funcs[f]? = some fn) :
    false = Tryd.pinned.checked.prog.looks [] ∧ ∀ (j : Nat) t, fn.params[j]? = some t → Tryd.pinned.checked.prog.wantsStandIn t = false := by
  obtain rfl : f = 5 := Option.some.inj ((show Tryd.prog.funcNamed "troth/trothlaw03.SealTurns" = some 5 by kernel_rfl).symm.trans hf) |>.symm
  obtain rfl : fn = Tryd.f5 := (Option.some.inj (Tryd.func5.symm.trans hfn)).symm
  refine ⟨by kernel_rfl, fun j t ht => ?_⟩
  rw [Tryd.params5] at ht
  have ht' : t = 22 ∨ t = 3 ∨ t = 36 := by simpa using Array.mem_of_getElem? ht
  rcases ht' with rfl | rfl | rfl
  · exact (show Tryd.prog.wantsStandIn 22 = false by kernel_rfl)
  · exact (show Tryd.prog.wantsStandIn 3 = false by kernel_rfl)
  · exact (show Tryd.prog.wantsStandIn 36 = false by kernel_rfl)
theorem card : Rows.SealTurnsCardSaid :=
  Claim7.holds_tied_plain_at .later [] _ _ _ _ said (fun _ h => by cases h) (by kernel_rfl) (fun _ h => by cases h) sealTurns_row_tie rfl ⟨rfl, rfl⟩ (by kernel_rfl) rfl plain (by kernel_rfl)
#print axioms card
end Go.Proofs.YtbghpdfhloalhaaDoor.sealTurns
