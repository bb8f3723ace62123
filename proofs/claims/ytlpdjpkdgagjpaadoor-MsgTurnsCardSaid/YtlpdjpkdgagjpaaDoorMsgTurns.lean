/- MsgTurns: of bytes in which up to 32 neighbouring bits behind the length are other ones no message is read; no condition. -/
import Derived.Test.YtlpdjpkdgagjpaaDoorRefMsgDec
import Derived.Test.YtlpdjpkdgagjpaaDoorMsgOpen
import Derived.Test.YtlpdjpkdgagjpaaDoorSealTurnMath
import Derived.Test.YtlpdjpkdgagjpaaDoorSame
import Derived.Test.YtlpdjpkdgagjpaaDoorLift
import Derived.Test.YtlpdjpkdgagjpaaDoorCards
import Derived.Test.YtlpdjpkdgagjpaaDoorTie
import Derived.Lib.LaidTab
import Derived.IntWalk
import Derived.RegionTactic
import Derived.ChangeAlike
namespace Go.Proofs.YtlpdjpkdgagjpaaDoor.msgTurns
open Go.ChangeShapes Go.WideShapes Go.ChangeAt Go.RowKit Mem Lift
set_option maxRecDepth 100000
set_option linter.unusedVariables false
set_option linter.unusedSimpArgs false
attribute [local go_sem ↓] Go.wp_at_zero Go.wp_at_succ

theorem numB_one (x : Int) (h0 : 0 ≤ x) (h1 : x < 128) : (Sl.numB x).length = 1 := by
  obtain ⟨n, rfl⟩ := Int.eq_ofNat_of_zero_le h0
  have hle := Num.shortB_mono n 127 (by omega)
  have h127 : (Num.shortB 127).length = 1 := by decide +kernel
  have := (Sl.numB_length (n : Int)).1
  rw [Sl.numB_nat'] at this ⊢
  omega
theorem flat_ones : ∀ l : List Int, (∀ x ∈ l, 0 ≤ x ∧ x < 128) → (l.flatMap Sl.numB).length = l.length
  | [], _ => rfl
  | x :: l, h => by
    have h1 := numB_one x (h x (by simp)).1 (h x (by simp)).2
    have h2 := flat_ones l (fun y hy => h y (List.mem_cons_of_mem _ hy))
    simp only [List.flatMap_cons, List.length_append, List.length_cons]
    omega
/-- a message's body is short -/
theorem body_short (m : Mg.M) (h : Mg.may m = true) : (Mg.body m).length ≤ 30 := by
  have h8 := (Mg.may_vals h).2.2.1
  have hx := h
  unfold Mg.may at hx
  simp only [Bool.and_eq_true, Bool.not_eq_true', decide_eq_true_eq] at hx
  obtain ⟨⟨⟨⟨⟨g1, g2⟩, g3⟩, g4⟩, g5⟩, g6, g7⟩ := hx
  have n1 := node_bounds g2
  have n2 := node_bounds g3
  have l1 := numB_one m.kind (by omega) (by omega)
  have l2 := numB_one m.from_ (by omega) (by omega)
  have l3 := numB_one m.to (by omega) (by omega)
  have l4 := (Sl.numB_length m.tx).2
  have l5 := numB_one (m.mem.length : Int) (by omega) (by omega)
  rw [Rc.members_up] at g7
  have l6 := flat_ones m.mem (fun x hx => by
    obtain ⟨k, hk, rfl⟩ := List.getElem_of_mem hx
    unfold Rc.up at g7
    rw [List.all_eq_true] at g7
    have := g7 k (List.mem_range.2 hk)
    unfold Rc.okAt at this
    rw [Bool.and_eq_true] at this
    have := node_bounds this.1
    rw [List.getD_eq_getElem?_getD, List.getElem?_eq_getElem hk] at this
    simp at this
    omega)
  unfold Mg.body Mg.M.vals
  split <;> simp only [List.flatMap_cons, List.flatMap_nil, List.length_append, List.length_nil] <;> omega
def turnedB (t k : Nat) : Bool := decide (t % 2 ^ k ≠ 0)
theorem turnedB_succ (t k : Nat) : turnedB t (k + 1) = if t.testBit k then true else turnedB t k := by
  unfold turnedB
  have e : t % 2 ^ (k + 1) = t % 2 ^ k + 2 ^ k * (t / 2 ^ k % 2) := by rw [Nat.pow_succ, Nat.mod_mul]
  have h2 : 0 < 2 ^ k := Nat.two_pow_pos k
  rw [e, Nat.testBit_eq_decide_div_mod_eq]
  have h : t / 2 ^ k % 2 = 0 ∨ t / 2 ^ k % 2 = 1 := by omega
  rcases h with h | h
  · simp [h]
  · rw [h]
    have : t % 2 ^ k + 2 ^ k * 1 ≠ 0 := by omega
    simp
theorem turned_low (t k : Nat) (ht : t < 4294967296) : (Crc.low t k = 0#32) ↔ turnedB t k = false := by
  unfold turnedB Crc.low
  have hlt : t % 2 ^ k < 2 ^ 32 := Nat.lt_of_le_of_lt (Nat.mod_le _ _) ht
  constructor
  · intro h
    have := congrArg BitVec.toNat h
    rw [BitVec.toNat_ofNat, Nat.mod_eq_of_lt hlt] at this
    simpa using this
  · intro h
    have : t % 2 ^ k = 0 := by simpa using h
    rw [this]
theorem bit_of (t k : Nat) (ht : t < 4294967296) : bits .and .u32 ((t : Int) / 2 ^ k) 1 = if t.testBit k then 1 else 0 := by
  have e : (t : Int) / 2 ^ k = ((t / 2 ^ k : Nat) : Int) := by simp
  have hlt : t / 2 ^ k < 4294967296 := Nat.lt_of_le_of_lt (Nat.div_le_self _ _) ht
  rw [e, show (1 : Int) = ((1 : Nat) : Int) from rfl, u32_and_nat _ _ hlt (by omega), nat_mask1, Nat.testBit_eq_decide_div_mod_eq]
  have : t / 2 ^ k % 2 = 0 ∨ t / 2 ^ k % 2 = 1 := by omega
  rcases this with h | h <;> rw [h] <;> rfl
theorem dec_flips (m : Mg.M) (h : Mg.may m = true) (p t k : Nat) (hk : k ≤ 32) (hp : p + k ≤ 8 * ((Mg.body m).length + 4)) :
    Mg.dec (Crc.flips (Sl.sealB (Mg.body m)) (8 + p) t k) = if Crc.low t k = 0#32 then (m, 0) else (Mg.zero, 30) := by
  have hs := body_short m h
  have ho := Sl.open_flips (Mg.body m) p t k (by omega) hk hp
  rw [numB_one _ (by omega) (by omega)] at ho
  unfold Mg.dec
  rw [ho, Crc.flips_length]
  by_cases hz : Crc.low t k = 0#32
  · rw [if_pos hz, if_pos hz, if_neg (by simp), if_neg (by simp)]
    exact Mg.decS_body m h
  · rw [if_neg hz, if_neg hz]
    rfl
set_option maxHeartbeats 16000000 in
theorem walk_main (m : Mg.M) (A : Option Addr) (n c : Nat) (at_ : Int) (t : Nat) (w : World) (hl : IS w A n m.mem) (hc63 : c ≤ 9223372036854775807) (hnum : Mg.Nums m) (hn : n ≤ 20) (ha0 : -9223372036854775808 ≤ at_) (ha1 : at_ ≤ 9223372036854775807) (ht1 : t < 4294967296) (ht : Half w) :
    Calls Tryd.prog 10 #[mgVal m A n c, .int .i64 at_, .int .u32 t] w fun e w' => e = .returned (.bool true) ∧ Below w.heap.size w w' := by
  have hb0 : Below w.heap.size w (w.alloc (.cells (mgCells m A n c) 60)) := (Below.refl _ _).alloc (Nat.le_refl _) _
  have hk0 := Blk.new w 60 (mgCells m A n c)
  have hd20 : decide ((20 : Int) < (n : Int)) = false := by simp; omega
  have H := Lib.hid (And.intro hb0 (And.intro hk0 (And.intro hl (And.intro hnum ht))))
  clear hl hnum ht hb0 hk0
  cases hm : Mg.may m with
  | false =>
    have HE := Lib.hid (Mg.enc_not m (by rw [hm]; simp))
    clear hm
    go_enter Tryd.func10, Tryd.ntmps10
    go_wp2_with fail
    generalize hW0 : w.alloc (.cells (mgCells m A n c) 60) = W0 at *
    clear hW0
    refine (own19_any m A n c W0 (H.out.2.2.1.below H.out.1) (by omega)).mono ?_
    rintro e w1 ⟨B1, d1, rfl, hi1, hd1, hd2, hb1⟩
    have H1 := Lib.hid (And.intro hi1 hb1)
    clear hi1 hb1
    go_wp2_with fail
    refine (menc_any m B1 n d1 w1 H1.out.1 (by omega) hd2 H.out.2.2.2.1 (H.out.2.2.2.2.below (H.out.1.trans (H1.out.2.mono H.out.1.size)))).mono ?_
    rw [HE.out]
    rintro e w2 ⟨v2, rfl, ho2, hb2⟩
    have hz := H.out.1.trans ((H1.out.2.trans (hb2.mono H1.out.2.size)).mono H.out.1.size)
    have H2 := Lib.hid hz
    clear ho2 hb2 hz
    go_wp2_with fail
    refine (awake19_any w2 (H.out.2.2.2.2.below H2.out)).mono ?_
    rintro e w3 ⟨rfl, hb3⟩
    have H3 := Lib.hid (H2.out.trans (hb3.mono H2.out.size))
    clear hb3
    go_wp2_with fail
    go_ret
    exact ⟨rfl, H3.out⟩
  | true =>
    have hbs := body_short m hm
    have hdf := fun p k hk hp => dec_flips m hm p t k hk hp
    have hxl : (Sl.sealB (Mg.body m)).length = 1 + (Mg.body m).length + 4 := by
      rw [Sl.sealB_length, Sl.textB_length, numB_one _ (by omega) (by omega)]
    have HE := Lib.hid (Mg.enc_ok m hm)
    generalize hX : Sl.sealB (Mg.body m) = X at *
    generalize hL : (Mg.body m).length = L at *
    have HD := Lib.hid hdf
    clear hdf hm hX hL
    go_enter Tryd.func10, Tryd.ntmps10
    go_wp2_with fail
    generalize hW0 : w.alloc (.cells (mgCells m A n c) 60) = W0 at *
    clear hW0
    refine (own19_any m A n c W0 (H.out.2.2.1.below H.out.1) (by omega)).mono ?_
    rintro e w1 ⟨B1, d1, rfl, hi1, hd1, hd2, hb1⟩
    have H1 := Lib.hid (And.intro hi1 hb1)
    clear hi1 hb1
    go_wp2_with fail
    refine (menc_any m B1 n d1 w1 H1.out.1 (by omega) hd2 H.out.2.2.2.1 (H.out.2.2.2.2.below (H.out.1.trans (H1.out.2.mono H.out.1.size)))).mono ?_
    rw [HE.out]
    rintro e w2 ⟨v2, rfl, ho2, hb2⟩
    simp only at ho2 ⊢
    have hxl2 := hxl
    generalize hN : X.length = N at *
    obtain ⟨A2, c2, rfl⟩ := own_slice ho2
    have hform : ∃ g, A2 = some ⟨g, 0, none⟩ := by
      obtain ⟨g, c, e, _⟩ := ho2.form (by omega)
      exact ⟨g, by injection e⟩
    obtain ⟨g, rfl⟩ := hform
    have hge : w1.heap.size ≤ g := own_ge ho2 rfl
    have hcap2 := own_capI ho2
    have hbw2 := H1.out.2.trans (hb2.mono H1.out.2.size)
    have H2 := Lib.hid (And.intro hbw2 (And.intro ho2 (And.intro hN hbw2)))
    have hW1 : W0.heap.size ≤ w1.heap.size := H1.out.2.size
    clear ho2 hb2 hN hbw2 hxl
    have hN2 : ((N : Int) < 2) = False := by simp; omega
    have hNd : decide ((N : Int) < 2) = false := by simp; omega
    have eN : (N : Int) - 1 = (L : Int) + 4 := by omega
    have hNl : N = L + 5 := by omega
    clear hN2 hxl2
    obtain ⟨p, hp, hpl⟩ : ∃ p : Nat, wrap64 ((IntKind.u64.wrap at_).tmod (8 * ((L : Int) + 4))) = (p : Int) ∧ p < 8 * (L + 4) := by
      have h0 : 0 ≤ IntKind.u64.wrap at_ := by rw [IntKind.wrap_u64]; omega
      have h1 : (IntKind.u64.wrap at_).tmod (8 * ((L : Int) + 4)) = (IntKind.u64.wrap at_) % (8 * ((L : Int) + 4)) := Int.tmod_eq_emod_of_nonneg h0
      have h2 : 0 ≤ (IntKind.u64.wrap at_) % (8 * ((L : Int) + 4)) := Int.emod_nonneg _ (by omega)
      have h3 : (IntKind.u64.wrap at_) % (8 * ((L : Int) + 4)) < 8 * ((L : Int) + 4) := Int.emod_lt_of_pos _ (by omega)
      refine ⟨((IntKind.u64.wrap at_) % (8 * ((L : Int) + 4))).toNat, ?_, by omega⟩
      rw [h1, Int.toNat_of_nonneg h2, IntWalk.wrap64_in _ (by omega)]
    subst hNl
    go_wp2_with fail
    rw [show (L : Int) + 5 - 1 = (L : Int) + 4 from by omega, hp]
    clear hp
    have hsz0 : w.heap.size ≤ w1.heap.size := by have := H.out.1.size; omega
    go_loopw [10, 11] (fun b i wr => ∃ (k : Nat), k ≤ 32 ∧ p + k ≤ 8 * (L + 4) ∧ i = .int .i64 k ∧ b = .bool (turnedB t k) ∧ wr.ownsRow w1.heap.size 5 1 (.slice (some ⟨g, 0, none⟩) (L + 5) c2) (L + 5) (u8s (Crc.flips X (8 + p) t k)) ∧ Below W0.heap.size W0 wr) (fun _ i _ => 32 - (intOf i).toNat)
    case atStart => exact ⟨0, by omega, by omega, rfl, by simp [turnedB, Nat.mod_one], H2.out.2.1, H2.out.1⟩
    case round =>
      obtain ⟨k, hk, hpk, rfl, rfl, ho, hb⟩ := hrel
      by_cases hlt : k < 32 ∧ p + k < 8 * (L + 4)
      · obtain ⟨hk2, hpk2⟩ := hlt
        have HO := Lib.hid (And.intro ho hb)
        generalize hT : turnedB t k = tb at *
        have HT := Lib.hid hT
        clear ho hb hT
        by_cases hbit : t.testBit k = true
        · have hb1 : (bits .and .u32 ((t : Int) / 2 ^ k) 1 == 1) = true := by rw [bit_of t k ht1, hbit]; rfl
          obtain ⟨q, r, hr, hqr⟩ : ∃ q r : Nat, r < 8 ∧ p + k = 8 * q + r := ⟨(p + k) / 8, (p + k) % 8, by omega, by omega⟩
          have hq : q + 1 < L + 5 := by omega
          have hx : (Crc.flips X (8 + p) t k).length = L + 5 := by rw [Crc.flips_length]; exact H2.out.2.2.1
          have hcell : wr.cell? ⟨g, q + 1, none⟩ = some (u8 ((Crc.flips X (8 + p) t k).getD (q + 1) 0)) := by
            rw [HO.out.1.cellAt (q + 1) (by omega), u8s_getElem?, List.getD_eq_getElem?_getD, List.getElem?_eq_getElem (by omega)]; rfl
          have hfr : wr.frozen? ⟨g, q + 1, none⟩ = false := HO.out.1.frozenAt (q + 1)
          have HX := Lib.hid (And.intro hx hqr)
          generalize hxx : (Crc.flips X (8 + p) t k).getD (q + 1) 0 = x at *
          have HX2 := Lib.hid hxx
          clear hxx
          have e1 : IntKind.i64.wrap ((p : Int) + (k : Int)) = (p : Int) + (k : Int) := IntWalk.i64_in _ (by omega)
          have e2 : IntKind.i64.wrap (((p : Int) + (k : Int)).tdiv 8) = (q : Int) := by
            rw [Int.tdiv_eq_ediv_of_nonneg (by omega), IntWalk.i64_in _ (by omega)]; omega
          have e3 : ((p : Int) + (k : Int)).tmod 8 = (r : Int) := by
            rw [Int.tmod_eq_emod_of_nonneg (by omega)]; omega
          have e4 : IntKind.i64.wrap (r : Int) = (r : Int) := IntWalk.i64_in _ (by omega)
          have e5 : IntKind.i64.wrap (1 + (q : Int)) = ((q + 1 : Nat) : Int) := by rw [IntWalk.i64_in _ (by omega)]; omega
          have e6 : ((q + 1 : Nat) : Int) < ((L + 5 : Nat) : Int) := by omega
          clear hx hqr
          go_wp2
          go_region
          go_wp2
          refine ⟨?_, ?measure⟩
          · have e : bits .xor .u8 (x.toNat : Int) (2 ^ r % 256) = ((x ^^^ UInt8.ofNat (2 ^ r)).toNat : Int) := by
              have e1 : ((2 : Int) ^ r % 256) = ((UInt8.ofNat (2 ^ r)).toNat : Int) := by rw [UInt8.toNat_ofNat']; simp
              rw [e1, u8_xor_nat _ _ x.toNat_lt (UInt8.toNat_lt _), UInt8.toNat_xor]
            have h1 := HO.out.1.stored (q + 1) (u8 (x ^^^ UInt8.ofNat (2 ^ r)))
            rw [e]
            apply Exists.intro
            apply Exists.intro
            (repeat apply Exists.intro)
            refine ⟨?_, rfl⟩
            refine ⟨k + 1, by omega, by omega, by go_num, by rw [turnedB_succ, if_pos hbit], ?_, ?_⟩
            · have e5 : Crc.flips X (8 + p) t (k + 1) = (Crc.flips X (8 + p) t k).set (q + 1) (x ^^^ UInt8.ofNat (2 ^ r)) := by
                rw [Crc.flips_succ, if_pos hbit]
                unfold Crc.flip
                have a1 : (8 + p + k) / 8 = q + 1 := by have := HX.out.2; omega
                have a2 : (8 + p + k) % 8 = r := by have := HX.out.2; omega
                rw [a1, a2, HX2.out]
              rw [e5]
              have e6 : u8s ((Crc.flips X (8 + p) t k).set (q + 1) (x ^^^ UInt8.ofNat (2 ^ r))) = (u8s (Crc.flips X (8 + p) t k)).set (q + 1) (u8 (x ^^^ UInt8.ofNat (2 ^ r))) := by simp [u8s, List.map_set]
              rw [e6]
              exact h1.1.drew
            · exact (HO.out.2.grown h1.2 HO.out.2.size (fun j hj => by injection hj with hj; subst hj; exact Nat.le_trans hW1 hge)).drew
          case measure => simp [intOf]; omega
        · have hb1 : (bits .and .u32 ((t : Int) / 2 ^ k) 1 == 1) = false := by rw [bit_of t k ht1, if_neg hbit]; rfl
          go_wp2
          refine ⟨?_, ?measure⟩
          · apply Exists.intro
            apply Exists.intro
            (repeat apply Exists.intro)
            refine ⟨?_, rfl⟩
            exact ⟨k + 1, by omega, by omega, by go_num, by rw [← HT.out, turnedB_succ, if_neg hbit], by rw [Crc.flips_succ, if_neg hbit]; exact HO.out.1, HO.out.2⟩
          case measure => simp [intOf]; omega
      · have hop := mdec_any (some ⟨g, 0, none⟩) (L + 5) c2 _ wr (BS.of_own ho) (by omega) hcap2.1 hcap2.2 (H.out.2.2.2.2.below (H.out.1.trans (hb.mono H.out.1.size)))
        rw [HD.out p k hk hpk] at hop
        have hs0 : w.heap.size < W0.heap.size := H.out.2.1.lt
        by_cases htb : turnedB t k = false
        · rw [if_pos ((turned_low t k ht1).2 htb)] at hop
          rw [htb]
          have HO := Lib.hid (And.intro hop hb)
          clear hop ho hb htb
          by_cases hk2 : k < 32
          all_goals
            go_wp2_with fail
            refine HO.out.1.mono ?_
            rintro e w3 ⟨A3, c3, rfl, hi3, hc3a, hc3b, hb3⟩
            simp only [H.out.2.2.1.1] at hi3 hc3a ⊢
            have hb4 : Below w3.heap.size w3 (w3.alloc (.cells (mgCells m A3 n c3) 60)) := (Below.refl _ _).alloc (Nat.le_refl _) _
            have hbw3 := HO.out.2.trans (hb3.mono HO.out.2.size)
            have hbw4 := hbw3.trans (hb4.mono hbw3.size)
            have hx4 := H.out.2.1.below hbw4 hs0
            obtain ⟨c0, c1', c2', c3', c4⟩ := mg_cells hx4
            have H3 := Lib.hid (And.intro (H.out.1.trans (hbw4.mono H.out.1.size)) (hi3.below hb4))
            have hrlt := hx4.lt
            clear hi3 hb3 hb4 hbw3 hbw4 hx4
            go_wp2_with fail
            refine (same19_eq m A3 A n c3 c _ H3.out.2 (H.out.2.2.1.below H3.out.1) (by omega)).mono ?_
            rintro e w4 ⟨rfl, hb4⟩
            have H4 := Lib.hid (H3.out.1.trans (hb4.mono H3.out.1.size))
            clear hb4
            go_wp2_with fail
            refine (awake19_any w4 (H.out.2.2.2.2.below H4.out)).mono ?_
            rintro e w5 ⟨rfl, hb5⟩
            have H5 := Lib.hid (H4.out.trans (hb5.mono H4.out.size))
            clear hb5
            go_wp2_with fail
            go_ret
            exact ⟨rfl, H5.out⟩
        · rw [if_neg (fun h => htb ((turned_low t k ht1).1 h))] at hop
          have htb' : turnedB t k = true := by simpa using htb
          rw [htb']
          have HO := Lib.hid (And.intro hop hb)
          clear hop ho hb htb htb'
          by_cases hk2 : k < 32
          all_goals
            go_wp2_with fail
            refine HO.out.1.mono ?_
            rintro e w3 ⟨A3, c3, rfl, hi3, hc3a, hc3b, hb3⟩
            simp only [Mg.zero, List.length_nil] at hi3 hc3a ⊢
            have hbw3 := HO.out.2.trans (hb3.mono HO.out.2.size)
            have H3 := Lib.hid (H.out.1.trans (hbw3.mono H.out.1.size))
            have hw3 : w.heap.size ≤ w3.heap.size := H3.out.size
            clear hi3 hb3 hbw3
            go_wp2_with fail
            refine (awake19_any _ (H.out.2.2.2.2.below (H3.out.alloc H3.out.size _))).mono ?_
            rintro e w5 ⟨rfl, hb5⟩
            have H5 := Lib.hid ((H3.out.alloc H3.out.size _).trans (hb5.mono (H3.out.alloc H3.out.size _).size))
            clear hb5
            go_wp2_with fail
            go_ret
            exact ⟨rfl, H5.out⟩
theorem walk (m : Mg.M) (A : Option Addr) (n c : Nat) (at_ : Int) (t : Int) (w : World) (hl : IS w A n m.mem) (hnc : n ≤ c) (hcm : c ≤ maxLen) (hnum : Mg.Nums m) (ha0 : -9223372036854775808 ≤ at_) (ha1 : at_ ≤ 9223372036854775807) (ht0 : 0 ≤ t) (ht1 : t ≤ 4294967295) (ht : Half w) :
    Calls Tryd.prog 10 #[mgVal m A n c, .int .i64 at_, .int .u32 t] w fun e w' => e = .returned (.bool true) ∧ Below w.heap.size w w' := by
  unfold maxLen at hcm
  by_cases hn : n ≤ 20
  · obtain ⟨k, rfl⟩ := Int.eq_ofNat_of_zero_le ht0
    exact walk_main m A n c at_ k w hl (by omega) hnum hn ha0 ha1 (by omega) ht
  · have hd20 : decide ((20 : Int) < (n : Int)) = true := by simp; omega
    have hb0 : Below w.heap.size w (w.alloc (.cells (mgCells m A n c) 60)) := (Below.refl _ _).alloc (Nat.le_refl _) _
    have H := Lib.hid (And.intro hb0 ht)
    clear ht hl hb0
    go_enter Tryd.func10, Tryd.ntmps10
    go_wp2_with fail
    refine (awake19_any _ (H.out.2.below H.out.1)).mono ?_
    rintro e w4 ⟨rfl, hb4⟩
    have H4 := Lib.hid (H.out.1.trans (hb4.mono H.out.1.size))
    clear hb4
    go_wp2_with fail
    go_ret
    exact ⟨rfl, H4.out⟩

theorem own : ownKnob Tryd.prog.godebug = none := by kernel_rfl
theorem laidOut : laidOutB Tryd.prog = true := by kernel_rfl
theorem params_ok : ∀ t ∈ Tryd.f10.params.toList, Tryd.prog.readableRec t = true ∧ t < Tryd.prog.types.size := by
  rw [Tryd.params10]
  intro t ht
  have ht' : t = 60 ∨ t = 3 ∨ t = 71 := by
    simpa using ht
  rcases ht' with rfl | rfl | rfl
  · exact ⟨(show Tryd.prog.readableRec 60 = true by kernel_rfl), of_decide_eq_true (show decide (60 < Tryd.prog.types.size) = true by kernel_rfl)⟩
  · exact ⟨(show Tryd.prog.readableRec 3 = true by kernel_rfl), of_decide_eq_true (show decide (3 < Tryd.prog.types.size) = true by kernel_rfl)⟩
  · exact ⟨(show Tryd.prog.readableRec 71 = true by kernel_rfl), of_decide_eq_true (show decide (71 < Tryd.prog.types.size) = true by kernel_rfl)⟩
theorem gTab : Tryd.prog.globalNamed "troth/crc.half" = some 0 := by kernel_rfl
theorem gTabType : (Tryd.prog.globals[0]?).map (·.type) = some 172 := by kernel_rfl
theorem cellsTab : Tryd.prog.cellsOf 172 = 16 := by kernel_rfl
theorem cells32 : Tryd.prog.cellsOf 71 = 1 := by kernel_rfl
theorem table {W : World} (h : laidMetH Tryd.prog Rows.msgTurnsRow.laid W) : Half W := by
  have h1 : Lib.TabIs Tryd.prog W "troth/crc.half" .u32 (Crc.tab.map (fun n : Nat => (n : Int))) :=
    Lib.tabIs_of_head (rest := []) gTab gTabType Tryd.underlying172 Tryd.underlying71 cells32 cellsTab h
  intro i hi
  have h2 := h1.cell gTab i (by rw [List.length_map]; exact hi)
  rw [h2]
  have hi' : i < Crc.tab.length := hi
  rw [List.getD_eq_getElem?_getD, List.getElem?_map, List.getD_eq_getElem?_getD, List.getElem?_eq_getElem hi']
  rfl

set_option maxRecDepth 100000 in
theorem contract (H : Type) (enc : TypeId × Value → H) (W : World) (base : Nat) (args : Array Value) (ds gs : List (DataW H)) (before : List MemPlace)
    (hval : ∀ (j : Nat) t v, Tryd.f10.params[j]? = some t → args[j]? = some v → Value.okWide Tryd.prog W .any base t v)
    (hW : DataW.Whole enc Tryd.prog Tryd.f10.params.toList Rows.msgTurnsSpec.vars false W args.toList ds gs before) (hL : laidMetH Tryd.prog Rows.msgTurnsRow.laid W) :
    Calls Tryd.prog 10 args W fun e W' => ∃ v, e = .returned v ∧ Rows.msgTurnsSpec.post enc Tryd.prog Tryd.f10 false true false false W args v W' := by
  have hW' := hW
  obtain ⟨p, q, hA0, hV, rfl, hfz, hnd⟩ := hW
  have hA : DataW.TrodAll enc Tryd.prog W 0 (fun _ => true) true Tryd.f10.params.toList args.toList ds p := hA0
  rw [Tryd.params10] at hA hval
  obtain ⟨v0, vs0, d0, ds0, p0, q0, hargs, rfl, rfl, h0, r0⟩ := trodAll_cons hA
  obtain ⟨v1, vs1, d1, ds1, p1, q1, rfl, rfl, rfl, h1, r1⟩ := trodAll_cons r0
  obtain ⟨v2, vs2, d2, ds2, p2, q2, rfl, rfl, rfl, h2, r2⟩ := trodAll_cons r1
  obtain ⟨rfl, rfl, rfl⟩ := trodAll_nil r2
  obtain rfl : args = #[v0, v1, v2] := by cases args; simp_all
  obtain ⟨rfl, rfl⟩ := trodVars_none hV
  obtain ⟨m0, A0, n0, c0, rfl, lh0, nc0, cm0, nu0⟩ := open_msg (hval 0 60 v0 rfl rfl) h0
  obtain ⟨x1, rfl, rfl, rfl, w1⟩ := open_int Tryd.underlying3 (hval 1 3 v1 rfl rfl) h1
  have b1 := bounds_i64 w1
  obtain ⟨x2, rfl, rfl, rfl, w2⟩ := open_int Tryd.underlying71 (hval 2 71 v2 rfl rfl) h2
  have b2 := bounds_u32 w2
  refine (walk m0 A0 n0 c0 x1 x2 W lh0 nc0 cm0 nu0 b1.1 b1.2 b2.1 b2.2 (table hL)).mono fun e W' ⟨he, bel⟩ => ?_
  exact ⟨_, he, post_true laidOut Tryd.underlying4 (show Tryd.f10.resultTypes = #[4] from rfl) params_ok rfl hW' rfl bel⟩

noncomputable def laidWorld (os : Os) : World :=
  { World.holding Tryd.prog os ⟨#[], #[], []⟩ with heap := (World.holding Tryd.prog os ⟨#[], #[], []⟩).heap.modify 0 fun
      | .cells _ t frozen => .cells #[.int .u32 0, .int .u32 498536548, .int .u32 997073096, .int .u32 651767980, .int .u32 1994146192, .int .u32 1802195444, .int .u32 1303535960, .int .u32 1342533948, .int .u32 3988292384, .int .u32 4027552580, .int .u32 3604390888, .int .u32 3412177804, .int .u32 2607071920, .int .u32 2262029012, .int .u32 2685067896, .int .u32 3183342108] t frozen
      | o => o }
theorem laid_met (os : Os) : laidMet Tryd.prog Rows.msgTurnsRow.laid ((laidWorld os).forCall (fun _ _ => 0) ⟨#[], #[.agg #[.int .i64 0, .int .i64 0, .int .i64 0, .int .i64 0, .slice none 0 0], .int .i64 0, .int .u32 0], []⟩).memory :=
  laidMet_of_run' 8 (by kernel_rfl) (by kernel_rfl)
theorem reads (os : Os) {H : Type} (enc : TypeId × Value → H) : ∃ places, DataW.whole enc Tryd.prog ((laidWorld os).forCall (fun _ _ => 0) ⟨#[], #[.agg #[.int .i64 0, .int .i64 0, .int .i64 0, .int .i64 0, .slice none 0 0], .int .i64 0, .int .u32 0], []⟩).memory Tryd.f10.params.toList Rows.msgTurnsSpec.vars false (#[Value.agg #[.int .i64 0, .int .i64 0, .int .i64 0, .int .i64 0, .slice none 0 0], Value.int .i64 0, Value.int .u32 0] : Array Value).toList 8 = some ([.agg [.lit (.int .i64 0), .lit (.int .i64 0), .lit (.int .i64 0), .lit (.int .i64 0), .nil], .lit (.int .i64 0), .lit (.int .u32 0)], [], places) :=
  ⟨[], by kernel_rfl⟩
set_option maxRecDepth 100000 in
theorem lifted (os : Os) (started : os.Started) (H : Type) (enc : TypeId × Value → H) (F : Stop.Interp) :
    ReturnsInHanded {} Tryd.checked os 10 .any ((OpenSpec.ofChange Rows.msgTurnsSpec).preRow enc Tryd.prog Tryd.f10 Rows.msgTurnsRow.domain false Rows.msgTurnsRow.laid) (((OpenSpec.ofChange Rows.msgTurnsSpec).at F).post enc Tryd.prog Tryd.f10 false true false false) := by
  obtain ⟨places, hx⟩ := reads os enc
  refine returnsInHanded_of_row (C := Tryd.checked) (s := OpenSpec.ofChange Rows.msgTurnsSpec) own started (by kernel_rfl) Tryd.func10
    (witness_row_at (enc := enc) (C := Tryd.checked) false (laidWorld os) #[.agg #[.int .i64 0, .int .i64 0, .int .i64 0, .int .i64 0, .slice none 0 0], .int .i64 0, .int .u32 0] rfl (by kernel_rfl) (by kernel_rfl) (by kernel_rfl)
      (OpenSpec.preRow_of_cond 8 hx (by kernel_rfl) (fun k hk => by cases hk) (by kernel_rfl) (laid_met os))) ?_
  intro W base args ds gs before hval hW _ _ hsz hL _ _
  exact contract H enc W base args ds gs before hval hW hL
theorem said : Rows.MsgTurnsSaid :=
  OpenClaim.holds_of_cond 10 Tryd.f10 rfl rfl rfl rfl rfl rfl rfl ⟨rfl, rfl, rfl, rfl, rfl⟩ rfl rfl rfl rfl rfl (by kernel_rfl) Tryd.func10 (by kernel_rfl)
    (of_decide_eq_true (by kernel_rfl)) (by unfold Func.isWrapper; first | (rw [if_pos (by decide +kernel)]; kernel_rfl) | (rw [if_neg (by decide +kernel)]; exact ⟨rfl, rfl⟩))
    (fun os started H enc _ F => by rw [OpenClaim.pre_eq_preRow]; exact lifted os started H enc F)
theorem plain (f : FuncId) (fn : Func) (hf : Tryd.pinned.checked.prog.funcNamed "troth/trothlaw19.MsgTurns" = some f) (hfn : Tryd.pinned.checked.prog.funcs[f]? = some fn) :
    false = Tryd.pinned.checked.prog.looks [] ∧ ∀ (j : Nat) t, fn.params[j]? = some t → Tryd.pinned.checked.prog.wantsStandIn t = false := by
  obtain rfl : f = 10 := Option.some.inj ((show Tryd.prog.funcNamed "troth/trothlaw19.MsgTurns" = some 10 by kernel_rfl).symm.trans hf) |>.symm
  obtain rfl : fn = Tryd.f10 := (Option.some.inj (Tryd.func10.symm.trans hfn)).symm
  refine ⟨by kernel_rfl, fun j t ht => ?_⟩
  rw [Tryd.params10] at ht
  have ht' : t = 60 ∨ t = 3 ∨ t = 71 := by simpa using Array.mem_of_getElem? ht
  rcases ht' with rfl | rfl | rfl
  · exact (show Tryd.prog.wantsStandIn 60 = false by kernel_rfl)
  · exact (show Tryd.prog.wantsStandIn 3 = false by kernel_rfl)
  · exact (show Tryd.prog.wantsStandIn 71 = false by kernel_rfl)
theorem card : Rows.MsgTurnsCardSaid :=
  Claim7.holds_tied_plain_at .later [] _ _ _ _ said (fun _ h => by cases h) (by kernel_rfl) (fun _ h => by cases h) msgTurns_row_tie rfl ⟨rfl, rfl⟩ (by kernel_rfl) rfl plain (by kernel_rfl)
#print axioms card
end Go.Proofs.YtlpdjpkdgagjpaaDoor.msgTurns
