/- SealOwn: whoever writes into what was handed in, or answered, changes nothing that is answered; no condition. -/
import Derived.Test.YtbghpdfhloalhaaDoorParts03
import Derived.Test.YtbghpdfhloalhaaDoorSealRefs
import Derived.Test.YtbghpdfhloalhaaDoorLift
import Derived.Test.YtbghpdfhloalhaaDoorCards
import Derived.Test.YtbghpdfhloalhaaDoorTie
import Derived.Lib.LaidTab
import Derived.Deep.RegionHeld3
namespace Go.Proofs.YtbghpdfhloalhaaDoor.sealOwn
open Go.ChangeShapes Go.WideShapes Go.ChangeAt Go.RowKit Mem Lift
set_option linter.unusedVariables false
set_option linter.unusedSimpArgs false

theorem rd_drew {T : TypeId} {w : World} {q : Nat} {r : Sl.R} {F : Nat → Prop} (h : RdT T w q r F) : RdT T w.drew q r F := h.keep (Nat.le_refl _) (fun _ _ => rfl)
theorem fr_undrew {F : Nat → Prop} {w w' : World} (h : Fr F w.drew w') : Fr F w w' := ⟨h.os, h.tape, h.output, h.size, h.block⟩
/-- bytes that may be written into -/
def Wb (w : World) (A : Option Addr) (n : Nat) : Prop := 0 < n → ∃ g, A = some ⟨g, 0, none⟩ ∧ ∀ j, j < n → (∃ x : UInt8, w.cell? ⟨g, j, none⟩ = some (u8 x)) ∧ w.frozen? ⟨g, j, none⟩ = false
theorem Wb.of_own {w : World} {base n c : Nat} {A : Option Addr} {bs : List UInt8} (h : w.ownsRow base 5 1 (.slice A n c) n (u8s bs)) : Wb w A n := by
  intro hn
  have hl := own_len h
  obtain ⟨g, cap, hv, _, _⟩ := h.form hn
  have hA : A = some ⟨g, 0, none⟩ := by injection hv
  subst hA
  refine ⟨g, rfl, fun j hj => ⟨⟨bs.getD j 0, ?_⟩, h.frozenAt j⟩⟩
  rw [h.cellAt j (by omega), u8s_getElem?, List.getD_eq_getElem?_getD, List.getElem?_eq_getElem (by omega)]
  rfl
theorem Wb.set {w : World} {g n k : Nat} (h : ∀ j, j < n → (∃ x : UInt8, w.cell? ⟨g, j, none⟩ = some (u8 x)) ∧ w.frozen? ⟨g, j, none⟩ = false) (hk : k < n) (y : UInt8) : Wb (w.setCell ⟨g, k, none⟩ (u8 y)) (some ⟨g, 0, none⟩) n := by
  intro _
  refine ⟨g, rfl, fun j hj => ?_⟩
  rw [World.frozen?_setCell]
  refine ⟨?_, (h j hj).2⟩
  by_cases e : j = k
  · subst e
    obtain ⟨x, hx⟩ := (h j hj).1
    exact ⟨y, World.cell?_setCell_same _ _ _ hx⟩
  · rw [World.cell?_setCell_other (h := by intro e2; injection e2 with e3 e4 _; exact e e4.symm)]
    exact (h j hj).1
theorem bs_fr0 {w w' : World} {A : Option Addr} {n : Nat} {bs : List UInt8} {F : Nat → Prop} (h : BS w A n bs) (hf : Fr F w w') (ho : ∀ a, 0 < n → A = some a → ¬ F a.block) : BS w' A n bs := by
  refine ⟨h.1, fun hn => ?_⟩
  obtain ⟨b, off, rfl, hb, hcell⟩ := h.2 hn
  exact ⟨b, off, rfl, by have := hf.size; omega, fun j hj => (World.cell?_of_block (hf.block b hb (ho _ hn rfl))).trans (hcell j hj)⟩
theorem try_end : Sl.try_ ⟨[], 0⟩ (Sl.endF ([] : List UInt8)) = ⟨[], 0⟩ := rfl
def Blo (A : Option Addr) (k : Nat) : Prop := ∃ a, A = some a ∧ a.block = k
theorem xor255 (x : UInt8) : bits .xor .u8 (x.toNat : Int) 255 = ((x ^^^ 255).toNat : Int) := by
  rw [show (255 : Int) = ((255 : Nat) : Int) from rfl, u8_xor_nat _ _ x.toNat_lt (by omega), UInt8.toNat_xor]
  rfl
theorem blo_own {w : World} {base n c k : Nat} {A : Option Addr} {e : TypeId} {xs : List Value} (h : w.ownsRow base e 1 (.slice A n c) n xs) (hk : Blo A k) : base ≤ k ∧ k < w.heap.size := by
  obtain ⟨a, rfl, rfl⟩ := hk
  rcases h.2 with ⟨e, _⟩ | ⟨g, cap, cur, e, hg, hb, _⟩
  · cases e
  · injection e with e1 _ _
    injection e1 with e1
    subst e1
    refine ⟨hg, ?_⟩
    rcases Nat.lt_or_ge g w.heap.size with hlt | hge
    · exact hlt
    · rw [Array.getElem?_eq_none hge] at hb; cases hb
set_option maxRecDepth 100000 in
set_option maxHeartbeats 4000000 in
theorem walk (A : Option Addr) (n c : Nat) (bs : List UInt8) (B : Option Addr) (m d : Nat) (l : List PartD) (w : World) (hA : BS w A n bs) (hn : n ≤ c) (hc : c ≤ maxLen) (hl : ST partK w B m l) (hm : m ≤ d) (hd : d ≤ maxLen) (ht : Half w) :
    Calls Tryd.prog 7 #[.slice A n c, .slice B m d] w fun e w' => e = .returned (.bool true) ∧ Below w.heap.size w w' := by
  unfold maxLen at hc hd
  have hawake : ∀ w1, Below w.heap.size w w1 → Calls Tryd.prog 11 #[] w1 fun e w' => e = .returned (.bool true) ∧ Below w.heap.size w w' := fun w1 hb =>
    (awake03_any w1 (ht.below hb)).mono (fun e w2 ⟨h1, h2⟩ => ⟨h1, below_then hb h2⟩)
  have HW := Lib.hid hawake
  clear hawake
  have hlong := long03_any B m d l w hl hm hd
  by_cases h1 : 1000 < n
  · have hg1 : decide (1000 < (n : Int)) = true := by simp; omega
    clear hA hl hlong ht
    go_enter Tryd.func7, Tryd.ntmps7
    go_wp2_with fail
    refine (HW.out w (Below.refl _ _)).mono ?_
    rintro e w1 ⟨rfl, hb1⟩
    have H1 := Lib.hid hb1
    clear hb1
    go_wp2
    go_ret
    exact ⟨rfl, H1.out⟩
  have hg1 : decide (1000 < (n : Int)) = false := by simp; omega
  cases hs : longP l
  · rw [hs] at hlong
    have hlf := longP_false hs
    have hm60 : m ≤ 60 := by rw [← hl.len]; exact hlf.1
    have hple := partsB_le l hlf.2
    have hge : decide (((partsB l).length : Int) ≥ (m : Int)) = true := by have := hl.len; simp; omega
    have hll := hl.len
    have htl : (Sl.textB bs).length ≤ 1011 := by have := Sl.textB_length bs; have := Sl.numB_length bs.length; have := hA.1; omega
    have htl1 : 1 ≤ (Sl.textB bs).length := by have := Sl.textB_length bs; have := Sl.numB_length bs.length; omega
    have HA := Lib.hid (And.intro hA (And.intro hl (And.intro ht (And.intro hs hlong))))
    have hcv : ∀ (W : World), Below w.heap.size w W → ∀ (W' : World), (∀ a : Addr, W'.cell? a = W.cell? a) → (convert 22 9 (.slice A n c)).run Tryd.prog W' = .ok (str bs) W' := fun W hb W' he => conv_bytes0 (hA.below hb) c W' he
    have HC := Lib.hid hcv
    have hb0 : Below w.heap.size w (w.alloc (.cells #[.slice none 0 0] 47)) := (Below.refl w.heap.size w).alloc (Nat.le_refl _) _
    have H0 := Lib.hid (And.intro (WrAt.new w) hb0)
    have hcv0 := hcv _ hb0 _ (fun _ => rfl)
    unfold str at hcv0
    have hnl := hA.1
    clear hA hl hs hlf ht hlong hcv hb0
    go_enter Tryd.func7, Tryd.ntmps7
    go_wp2_with fail
    refine HA.out.2.2.2.2.mono ?_
    rintro e w0 ⟨rfl, rfl⟩
    go_wp2_with fail
    refine (wtext_any w.heap.size [] _ bs _ H0.out.1 (by simp; omega)).mono ?_
    rintro e w1 ⟨rfl, F1, hw1, hf1, hF1⟩
    rw [List.nil_append] at hw1
    have hb1 : Below w.heap.size w w1 := H0.out.2.trans (hf1.below H0.out.2.size (fun i hi => by omega))
    have H1 := Lib.hid (And.intro hw1 hb1)
    clear hw1 hf1 hF1 hb1 hcv0
    go_wp2_with fail
    refine (wbytes_any w.heap.size _ F1 w1 H1.out.1 (by omega)).mono ?_
    rintro e w2 ⟨v2, rfl, ho2, hb2⟩
    obtain ⟨A2, c2, rfl⟩ := own_slice ho2
    have H2 := Lib.hid (And.intro ho2 (And.intro (H1.out.1.below hb2) (And.intro (below_then H1.out.2 hb2) (And.intro hb2.size (own_cap ho2)))))
    clear ho2 hb2
    generalize hTN : (Sl.textB bs).length = N at *
    go_wp2_with fail
    go_loopw [7] (fun i wr => ∃ k : Nat, k ≤ N ∧ i = .int .i64 k ∧ Wb wr A2 N ∧ Fr (Blo A2) w2 wr) (fun i _ => N - (intOf i).toNat)
    case atStart => exact ⟨0, by omega, rfl, Wb.of_own H2.out.1, Fr.refl _ _⟩
    case round =>
      obtain ⟨k, hk, rfl, hwb, hfr⟩ := hrel
      by_cases hlt : k < N
      · obtain ⟨g, rfl, hg⟩ := hwb (by omega)
        obtain ⟨⟨x, hx⟩, hz⟩ := hg k hlt
        have H := Lib.hid (And.intro hg hfr)
        clear hg hfr hwb
        go_wp2
        go_roundw
        case rel => exact ⟨k + 1, by omega, by go_num, by rw [xor255 x]; exact Wb.set H.out.1 hlt _, H.out.2.setCell _ _ (fun _ => ⟨_, rfl, rfl⟩)⟩
        case measure => simp [intOf]; omega
      obtain rfl : N = k := by omega
      have hb3 : Below w.heap.size w wr := H2.out.2.2.1.trans (hfr.below H2.out.2.2.1.size (fun i hi => by have := blo_own H2.out.1 hi; have := H1.out.2.size; omega))
      have hw3 : WrAt wr w.heap.size (Sl.textB bs) F1 := H2.out.2.1.fr hfr (fun i hi hb => by have := blo_own H2.out.1 hb; have := H1.out.1.bound i hi; omega)
      have H3 := Lib.hid (And.intro hw3 hb3)
      clear hwb hfr hb3 hw3
      generalize wr = w3 at *
      go_wp2_with fail
      refine (wbytes_any w.heap.size _ F1 w3 H3.out.1 (by omega)).mono ?_
      rintro e w4 ⟨v4, rfl, ho4, hb4⟩
      rw [hTN] at ho4
      obtain ⟨A4, c4, rfl⟩ := own_slice ho4
      have H4 := Lib.hid (And.intro ho4 (And.intro (below_then H3.out.2 hb4) hb4.size))
      clear ho4 hb4
      go_wp2_with fail
      refine (read_new A4 _ c4 (Sl.textB bs) w4 (BS.of_own H4.out.1) (by omega)).mono ?_
      rintro e w5 ⟨q, F, rfl, hr5, hb5, hF5⟩
      have H5 := Lib.hid (And.intro hr5 (And.intro (below_then H4.out.2.1 hb5) (And.intro hF5 (And.intro hb5.size (own_below H4.out.1 hb5)))))
      clear hr5 hb5 hF5
      go_wp2_with fail
      go_loopw [10] (fun i wr => ∃ k : Nat, k ≤ N ∧ i = .int .i64 k ∧ Wb wr A4 N ∧ Fr (Blo A4) w5 wr) (fun i _ => N - (intOf i).toNat)
      case atStart => exact ⟨0, by omega, rfl, Wb.of_own H5.out.2.2.2.2, Fr.refl _ _⟩
      case round =>
        obtain ⟨k, hk, rfl, hwb, hfr⟩ := hrel
        by_cases hlt : k < N
        · obtain ⟨g, rfl, hg⟩ := hwb (by omega)
          obtain ⟨⟨x, hx⟩, hz⟩ := hg k hlt
          have H := Lib.hid (And.intro hg hfr)
          clear hg hfr hwb
          go_wp2
          go_roundw
          case rel => exact ⟨k + 1, by omega, by go_num, by rw [xor255 x]; exact Wb.set H.out.1 hlt _, H.out.2.setCell _ _ (fun _ => ⟨_, rfl, rfl⟩)⟩
          case measure => simp [intOf]; omega
        obtain rfl : N = k := by omega
        have hb6 : Below w.heap.size w wr := H5.out.2.1.trans (hfr.below H5.out.2.1.size (fun i hi => by have := blo_own H4.out.1 hi; have := H3.out.2.size; omega))
        have hr6 : RdAt wr q ⟨Sl.textB bs, 0⟩ F := H5.out.1.fr hfr (fun i hi hb => by have := blo_own H4.out.1 hb; have := H5.out.2.2.1 i hi; omega)
        have H6 := Lib.hid (And.intro hr6 hb6)
        clear hwb hfr hb6 hr6
        generalize wr = w6 at *
        go_wp2_with fail
        refine (own03_any A n c bs w6 (HA.out.1.below H6.out.2) (by omega)).mono ?_
        rintro e w7 ⟨v7, rfl, ho7, hb7⟩
        rw [hnl] at ho7
        obtain ⟨A7, c7, rfl⟩ := own_slice ho7
        have H7 := Lib.hid (And.intro (BS.of_own ho7) (And.intro (H6.out.1.below hb7) (below_then H6.out.2 hb7)))
        clear ho7 hb7
        go_wp2_with fail
        refine (seal_any A7 n c7 bs w7 H7.out.1 (by omega) (HA.out.2.2.1.below H7.out.2.2)).mono ?_
        rw [sealE_ok (by omega)]
        rintro e w8 ⟨v8, rfl, ho8, hb8⟩
        simp only at ho8
        obtain ⟨A8, c8, rfl⟩ := own_slice ho8
        have hsb := sealB_bound bs
        have hos := Sl.open_seal bs [] (by omega)
        rw [List.append_nil] at hos
        have H8 := Lib.hid (And.intro ho8 (And.intro (H7.out.2.1.below hb8) (And.intro (below_then H7.out.2.2 hb8) (And.intro (own_cap ho8) hos))))
        clear ho8 hb8 hos
        generalize Sl.sealB bs = xs at *
        go_wp2_with fail
        have hop1 := open_any A8 _ c8 xs w8 (BS.of_own H8.out.1) (by omega) H8.out.2.2.2.1.1 H8.out.2.2.2.1.2 (HA.out.2.2.1.below H8.out.2.2.1)
        rw [H8.out.2.2.2.2] at hop1
        refine hop1.mono ?_
        clear hop1
        rintro e w9 ⟨A9, c9, rfl, hB9, hn9, hc9, hb9, hg9⟩
        simp only at hB9 hn9 hg9
        rw [hnl] at hB9 hn9 hg9 ⊢
        have hwb9 : Wb w9 A9 n := fun h0 => by
          obtain ⟨g, e, _, hz⟩ := hg9 h0
          refine ⟨g, e, fun j hj => ⟨⟨bs.getD j 0, ?_⟩, hz j hj⟩⟩
          obtain ⟨b', off', e', hc'⟩ := hB9.at_ hj
          rw [e] at e'
          injection e' with e'
          injection e' with e1 e2 _
          subst e1
          rw [← e2, Nat.zero_add] at hc'
          exact hc'
        have hblo9 : ∀ i, 0 < n → Blo A9 i → w8.heap.size ≤ i := fun i h0 hi => by
          obtain ⟨g, e, h1, _⟩ := hg9 h0
          obtain ⟨a, e', rfl⟩ := hi
          rw [e] at e'
          injection e' with e'
          subst e'
          exact h1
        have H9 := Lib.hid (And.intro hwb9 (And.intro hblo9 (And.intro (own_below H8.out.1 hb9) (And.intro (H8.out.2.1.below hb9) (And.intro (below_then H8.out.2.2.1 hb9) hb9.size)))))
        clear hB9 hb9 hg9 hwb9 hblo9
        go_wp2_with fail
        go_loopw [16] (fun i wr => ∃ k : Nat, k ≤ n ∧ i = .int .i64 k ∧ Wb wr A9 n ∧ Fr (fun j => 0 < n ∧ Blo A9 j) w9 wr) (fun i _ => n - (intOf i).toNat)
        case atStart => exact ⟨0, by omega, rfl, H9.out.1, Fr.refl _ _⟩
        case round =>
          obtain ⟨k, hk, rfl, hwb, hfr⟩ := hrel
          by_cases hlt : k < n
          · obtain ⟨g, rfl, hg⟩ := hwb (by omega)
            obtain ⟨⟨x, hx⟩, hz⟩ := hg k hlt
            have H := Lib.hid (And.intro hg hfr)
            clear hg hfr hwb
            go_wp2
            go_roundw
            case rel => exact ⟨k + 1, by omega, by go_num, by rw [xor255 x]; exact Wb.set H.out.1 hlt _, H.out.2.setCell _ _ (fun _ => ⟨by omega, _, rfl, rfl⟩)⟩
            case measure => simp [intOf]; omega
          obtain rfl : n = k := by omega
          have hs8 := H8.out.2.2.1.size
          have hb10 : Below w.heap.size w wr := H9.out.2.2.2.2.1.trans (hfr.below H9.out.2.2.2.2.1.size (fun i hi => by have := H9.out.2.1 i hi.1 hi.2; omega))
          have hr10 : RdAt wr q ⟨Sl.textB bs, 0⟩ F := H9.out.2.2.2.1.fr hfr (fun i hi hb => by have := H9.out.2.1 i hb.1 hb.2; have := H8.out.2.1.bound i hi; omega)
          have hx10 : BS wr A8 xs.length xs := bs_fr0 (BS.of_own H9.out.2.2.1) hfr (fun a _ e hb => by
            have h1 := H9.out.2.1 _ hb.1 hb.2
            have h2 := (blo_own H8.out.1 (⟨a, e, rfl⟩ : Blo A8 a.block)).2
            omega)
          have H10 := Lib.hid (And.intro hx10 (And.intro hr10 hb10))
          clear hwb hfr hb10 hr10 hx10
          generalize wr = w10 at *
          go_wp2_with fail
          have hop2 := open_any A8 _ c8 xs w10 H10.out.1 (by omega) H8.out.2.2.2.1.1 H8.out.2.2.2.1.2 (HA.out.2.2.1.below H10.out.2.2)
          rw [H8.out.2.2.2.2] at hop2
          refine hop2.mono ?_
          clear hop2
          rintro e w11 ⟨A11, c11, rfl, hB11, hn11, hc11, hb11, hg11⟩
          simp only at hB11 hn11 hg11
          rw [hnl] at hB11 hn11 hg11 ⊢
          have hA11 : ∀ a, 0 < n → A11 = some a → w10.heap.size ≤ a.block := fun a h0 e => by
            obtain ⟨g, e', h1, _⟩ := hg11 h0
            rw [e'] at e
            injection e with e
            subst e
            exact h1
          have H11 := Lib.hid (And.intro (rd_drew (H10.out.2.1.below hb11)) (And.intro hB11 (And.intro (below_then H10.out.2.2 hb11) hA11)))
          have hq10 : q < w10.heap.size := H10.out.2.1.bound q H10.out.2.1.self
          have hq0 : w.heap.size ≤ q := by have := H5.out.2.2.1 q H5.out.1.self; have := H4.out.2.1.size; omega
          clear hB11 hb11 hg11 hA11
          have htx := rtext_any q ⟨Sl.textB bs, 0⟩ F 1000 w11.drew H11.out.1 (by omega) (by simp only; omega)
          have hte := Sl.textF_text bs [] 1000 (by omega) (by omega)
          rw [List.append_nil] at hte
          simp only [hte] at htx
          have e1 : Sl.try_ ⟨Sl.textB bs, 0⟩ ((Sl.textB bs).length, 0) = ⟨[], 0⟩ := by
            unfold Sl.try_
            rw [if_neg (by simp), if_neg (by simp)]
            simp
          have e2 : Sl.out (⟨Sl.textB bs, 0⟩ : Sl.R) [] bs = bs := by unfold Sl.out; rw [if_neg (by simp)]
          rw [e1, e2] at htx
          unfold str at htx
          have HX := Lib.hid htx
          clear htx hte e1 e2
          have HS := HC.out w11 H11.out.2.2.1 w11.drew (fun _ => rfl)
          unfold str at HS
          go_wp2
          go_region_held3 (fun w' => (convert 22 9 (.slice A n c)).run Tryd.prog w' = .ok (.string ⟨bs.toArray⟩) w') ((first | exact HS | (simp only [World.cell?_drew]; assumption))) (first
            | (go_at_call 25; go_must (refine HX.out.mono ?_; rintro e w12 ⟨rfl, h1, h2⟩; have h3 := fr_undrew h2; have h4 := H11.out.2.2.1.trans (h3.below H11.out.2.2.1.size (fun i hi => by omega)); have HS := HC.out w12 h4 w12 (fun _ => rfl); unfold str at HS; have H12 := Lib.hid (And.intro h1 (And.intro h4 h3)); clear h1 h2 h3 h4))
            | (go_at_call 26; go_must (refine (rend_any q _ F w12 H12.out.1 (by simp)).mono ?_; rw [try_end]; rintro e w13 ⟨rfl, h1, h2⟩; have h4 := H12.out.2.1.trans (h2.below H12.out.2.1.size (fun i hi => by omega)); have HS := HC.out w13 h4 w13 (fun _ => rfl); unfold str at HS; have H13 := Lib.hid (And.intro h4 (H12.out.2.2.trans h2 (fun _ _ x => x))); clear h1 h2 h4))
            | (go_at_call 17; go_must (refine (same_any A11 A _ n c11 c bs bs w13 (bs_fr0 H11.out.2.1 H13.out.2 (fun a h0 e hh => by have := H11.out.2.2.2 a h0 e; omega)) (HA.out.1.below H13.out.1) (by omega) (by omega)).mono ?_; rintro e w14 ⟨rfl, hd14⟩; have h4 := below_then H13.out.1 hd14.below; have HS := HC.out w14 h4 w14 (fun _ => rfl); unfold str at HS; have H14 := Lib.hid h4; clear hd14 h4))
            | (go_at_call 21; go_must (refine (written_any B m d l w14 (HA.out.2.1.below H14.out) hm hd HA.out.2.2.2.1).mono ?_; rintro e w15 ⟨v15, rfl, ho15, hb15⟩; obtain ⟨A15, c15, rfl⟩ := own_slice ho15; have h4 := below_then H14.out hb15; have HS := HC.out w15 h4 w15 (fun _ => rfl); unfold str at HS; have H15 := Lib.hid h4; clear ho15 hb15 h4))
            | (go_at_call 11; go_must (refine (HW.out w15 H15.out).mono ?_; rintro e w16 ⟨rfl, hb16⟩; have HS := HC.out w16 hb16 w16 (fun _ => rfl); unfold str at HS; have H16 := Lib.hid hb16; clear hb16)))
          all_goals
            go_wp2
            go_ret
            exact ⟨rfl, H16.out⟩
  · rw [hs] at hlong
    have H := Lib.hid hlong
    clear hA hl hlong ht
    go_enter Tryd.func7, Tryd.ntmps7
    go_wp2_with fail
    refine H.out.mono ?_
    rintro e w0 ⟨rfl, rfl⟩
    go_wp2_with fail
    refine (HW.out w (Below.refl _ _)).mono ?_
    rintro e w1 ⟨rfl, hb1⟩
    have H1 := Lib.hid hb1
    clear hb1
    go_wp2
    go_ret
    exact ⟨rfl, H1.out⟩

theorem own : ownKnob Tryd.prog.godebug = none := by kernel_rfl
theorem laidOut : laidOutB Tryd.prog = true := by kernel_rfl
theorem params_ok : ∀ t ∈ Tryd.f7.params.toList, Tryd.prog.readableRec t = true ∧ t < Tryd.prog.types.size := by
  rw [Tryd.params7]
  intro t ht
  have ht' : t = 22 ∨ t = 39 := by
    simpa using ht
  rcases ht' with rfl | rfl
  · exact ⟨(show Tryd.prog.readableRec 22 = true by kernel_rfl), of_decide_eq_true (show decide (22 < Tryd.prog.types.size) = true by kernel_rfl)⟩
  · exact ⟨(show Tryd.prog.readableRec 39 = true by kernel_rfl), of_decide_eq_true (show decide (39 < Tryd.prog.types.size) = true by kernel_rfl)⟩
theorem gTab : Tryd.prog.globalNamed "troth/crc.half" = some 0 := by kernel_rfl
theorem gTabType : (Tryd.prog.globals[0]?).map (·.type) = some 87 := by kernel_rfl
theorem cellsTab : Tryd.prog.cellsOf 87 = 16 := by kernel_rfl
theorem cells32 : Tryd.prog.cellsOf 36 = 1 := by kernel_rfl
theorem table {W : World} (h : laidMetH Tryd.prog Rows.sealOwnRow.laid W) : Half W := by
  have h1 : Lib.TabIs Tryd.prog W "troth/crc.half" .u32 (Crc.tab.map (fun n : Nat => (n : Int))) :=
    Lib.tabIs_of_head (rest := []) gTab gTabType Tryd.underlying87 Tryd.underlying36 cells32 cellsTab h
  intro i hi
  have h2 := h1.cell gTab i (by rw [List.length_map]; exact hi)
  rw [h2]
  have hi' : i < Crc.tab.length := hi
  rw [List.getD_eq_getElem?_getD, List.getElem?_map, List.getD_eq_getElem?_getD, List.getElem?_eq_getElem hi']
  rfl

set_option maxRecDepth 100000 in
theorem contract (H : Type) (enc : TypeId × Value → H) (W : World) (base : Nat) (args : Array Value) (ds gs : List (DataW H)) (before : List MemPlace)
    (hval : ∀ (j : Nat) t v, Tryd.f7.params[j]? = some t → args[j]? = some v → Value.okWide Tryd.prog W .any base t v)
    (hW : DataW.Whole enc Tryd.prog Tryd.f7.params.toList Rows.sealOwnSpec.vars false W args.toList ds gs before) (hL : laidMetH Tryd.prog Rows.sealOwnRow.laid W) :
    Calls Tryd.prog 7 args W fun e W' => ∃ v, e = .returned v ∧ Rows.sealOwnSpec.post enc Tryd.prog Tryd.f7 false true false false W args v W' := by
  have hW' := hW
  obtain ⟨p, q, hA0, hV, rfl, hfz, hnd⟩ := hW
  have hA : DataW.TrodAll enc Tryd.prog W 0 (fun _ => true) true Tryd.f7.params.toList args.toList ds p := hA0
  rw [Tryd.params7] at hA hval
  obtain ⟨v0, vs0, d0, ds0, p0, q0, hargs, rfl, rfl, h0, r0⟩ := trodAll_cons hA
  obtain ⟨v1, vs1, d1, ds1, p1, q1, rfl, rfl, rfl, h1, r1⟩ := trodAll_cons r0
  obtain ⟨rfl, rfl, rfl⟩ := trodAll_nil r1
  obtain rfl : args = #[v0, v1] := by cases args; simp_all
  obtain ⟨rfl, rfl⟩ := trodVars_none hV
  obtain ⟨A0, n0, c0, bs0, rfl, bs0h, nc0, cm0, dd0⟩ := open_bytes Tryd.underlying22 Tryd.underlying5 (show Tryd.prog.cellsOf 5 = 1 by kernel_rfl) (hval 0 22 v0 rfl rfl) h0
  obtain ⟨A1, n1, c1, l1, rfl, lh1, nc1, cm1⟩ := open_structs (K := partK) Tryd.underlying39 (show Tryd.prog.cellsOf 42 = (partK).k by kernel_rfl) (by decide) part_cells (hval 1 39 v1 rfl rfl) h1
  refine (walk A0 n0 c0 bs0 A1 n1 c1 l1 W bs0h nc0 cm0 lh1 nc1 cm1 (table hL)).mono fun e W' ⟨he, bel⟩ => ?_
  exact ⟨_, he, post_true laidOut Tryd.underlying4 (show Tryd.f7.resultTypes = #[4] from rfl) params_ok rfl hW' rfl bel⟩

noncomputable def laidWorld (os : Os) : World :=
  { World.holding Tryd.prog os ⟨#[], #[], []⟩ with heap := (World.holding Tryd.prog os ⟨#[], #[], []⟩).heap.modify 0 fun
      | .cells _ t frozen => .cells #[.int .u32 0, .int .u32 498536548, .int .u32 997073096, .int .u32 651767980, .int .u32 1994146192, .int .u32 1802195444, .int .u32 1303535960, .int .u32 1342533948, .int .u32 3988292384, .int .u32 4027552580, .int .u32 3604390888, .int .u32 3412177804, .int .u32 2607071920, .int .u32 2262029012, .int .u32 2685067896, .int .u32 3183342108] t frozen
      | o => o }
theorem laid_met (os : Os) : laidMet Tryd.prog Rows.sealOwnRow.laid ((laidWorld os).forCall (fun _ _ => 0) ⟨#[], #[.slice none 0 0, .slice none 0 0], []⟩).memory :=
  laidMet_of_run' 8 (by kernel_rfl) (by kernel_rfl)
theorem reads (os : Os) {H : Type} (enc : TypeId × Value → H) : ∃ places, DataW.whole enc Tryd.prog ((laidWorld os).forCall (fun _ _ => 0) ⟨#[], #[.slice none 0 0, .slice none 0 0], []⟩).memory Tryd.f7.params.toList Rows.sealOwnSpec.vars false (#[Value.slice none 0 0, Value.slice none 0 0] : Array Value).toList 8 = some ([.nil, .nil], [], places) :=
  ⟨[], by kernel_rfl⟩
set_option maxRecDepth 100000 in
theorem lifted (os : Os) (started : os.Started) (H : Type) (enc : TypeId × Value → H) (F : Stop.Interp) :
    ReturnsInHanded {} Tryd.checked os 7 .any ((OpenSpec.ofChange Rows.sealOwnSpec).preRow enc Tryd.prog Tryd.f7 Rows.sealOwnRow.domain false Rows.sealOwnRow.laid) (((OpenSpec.ofChange Rows.sealOwnSpec).at F).post enc Tryd.prog Tryd.f7 false true false false) := by
  obtain ⟨places, hx⟩ := reads os enc
  refine returnsInHanded_of_row (C := Tryd.checked) (s := OpenSpec.ofChange Rows.sealOwnSpec) own started (by kernel_rfl) Tryd.func7
    (witness_row_at (enc := enc) (C := Tryd.checked) false (laidWorld os) #[.slice none 0 0, .slice none 0 0] rfl (by kernel_rfl) (by kernel_rfl) (by kernel_rfl)
      (OpenSpec.preRow_of_cond 8 hx (by kernel_rfl) (fun k hk => by cases hk) (by kernel_rfl) (laid_met os))) ?_
  intro W base args ds gs before hval hW _ _ hsz hL _ _
  exact contract H enc W base args ds gs before hval hW hL
theorem said : Rows.SealOwnSaid :=
  OpenClaim.holds_of_cond 7 Tryd.f7 rfl rfl rfl rfl rfl rfl rfl ⟨rfl, rfl, rfl, rfl, rfl⟩ rfl rfl rfl rfl rfl (by kernel_rfl) Tryd.func7 (by kernel_rfl)
    (of_decide_eq_true (by kernel_rfl)) (by unfold Func.isWrapper; first | (rw [if_pos (by decide +kernel)]; kernel_rfl) | (rw [if_neg (by decide +kernel)]; exact ⟨rfl, rfl⟩))
    (fun os started H enc _ F => by rw [OpenClaim.pre_eq_preRow]; exact lifted os started H enc F)
theorem plain (f : FuncId) (fn : Func) (hf : Tryd.pinned.checked.prog.funcNamed "troth/trothlaw03.SealOwn" = some f) (hfn : Tryd.pinned.checked.prog.funcs[f]? = some fn) :
    false = Tryd.pinned.checked.prog.looks [] ∧ ∀ (j : Nat) t, fn.params[j]? = some t → Tryd.pinned.checked.prog.wantsStandIn t = false := by
  obtain rfl : f = 7 := Option.some.inj ((show Tryd.prog.funcNamed "troth/trothlaw03.SealOwn" = some 7 by kernel_rfl).symm.trans hf) |>.symm
  obtain rfl : fn = Tryd.f7 := (Option.some.inj (Tryd.func7.symm.trans hfn)).symm
  refine ⟨by kernel_rfl, fun j t ht => ?_⟩
  rw [Tryd.params7] at ht
  have ht' : t = 22 ∨ t = 39 := by simpa using Array.mem_of_getElem? ht
  rcases ht' with rfl | rfl
  · exact (show Tryd.prog.wantsStandIn 22 = false by kernel_rfl)
  · exact (show Tryd.prog.wantsStandIn 39 = false by kernel_rfl)
theorem card : Rows.SealOwnCardSaid :=
  Claim7.holds_tied_plain_at .later [] _ _ _ _ said (fun _ h => by cases h) (by kernel_rfl) (fun _ h => by cases h) sealOwn_row_tie rfl ⟨rfl, rfl⟩ (by kernel_rfl) rfl plain (by kernel_rfl)
#print axioms card
end Go.Proofs.YtbghpdfhloalhaaDoor.sealOwn
