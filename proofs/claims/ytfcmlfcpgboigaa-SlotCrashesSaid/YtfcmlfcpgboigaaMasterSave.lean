/- What package master writes: Save. -/
import Derived.Test.YtfcmlfcpgboigaaMasterRead
namespace Go.Proofs.Ytfcmlfcpgboigaa
open Go.RowKit Mem
set_option linter.unusedVariables false
set_option linter.unusedSimpArgs false

theorem i64_and1 (n : Nat) (h : n < 9223372036854775808) : bits .and .i64 (n : Int) 1 = ((n % 2 : Nat) : Int) := by
  have h1 : (BitVec.ofInt 64 (n : Int)).toNat = n := by
    rw [BitVec.ofInt_natCast, BitVec.toNat_ofNat]; exact Nat.mod_eq_of_lt (by omega)
  show IntKind.i64.wrap ((BitVec.ofInt 64 (n : Int) &&& BitVec.ofInt 64 ((1 : Nat) : Int)).toNat : Int) = _
  have h2 : (BitVec.ofInt 64 ((1 : Nat) : Int)).toNat = 1 := rfl
  rw [BitVec.toNat_and, h1, h2, Nat.and_one_is_mod]
  exact IntWalk.i64_in _ (by omega)
theorem odd_of (g : Int) (h0 : 0 ≤ g) (h1 : g ≤ 1099511627776) : bits .and .i64 g 1 = g % 2 := by
  obtain ⟨n, rfl⟩ := Int.eq_ofNat_of_zero_le h0
  rw [i64_and1 n (by omega)]
  omega
namespace Dk
theorem write_syncs (d : D) (n : Int) (s : List UInt8) : (write d n s).2.syncs = d.syncs := by
  unfold write
  split
  · rfl
  · split
    · rfl
    · split
      · exact step_syncs d
      · exact step_syncs d
theorem put2_syncs (d : D) (n : Int) (s : List UInt8) : (put2 d n s).2.syncs = d.syncs := by
  unfold put2
  split
  · rfl
  · split
    · rfl
    · exact write_syncs _ _ _
theorem put2_okD {d : D} (h : Ok d) (n : Int) (s : List UInt8) : Ok (put2 d n s).2 := by
  unfold put2
  split
  · exact h
  · split
    · exact h
    · exact write_ok h _ _
end Dk
namespace Ms
theorem may_vals {m : M} (h : may m = true) : (∀ x ∈ m.vals, 0 ≤ x ∧ x ≤ 1099511627776) ∧ 0 < m.gen := by
  unfold may at h
  rw [Bool.and_eq_true, List.all_eq_true] at h
  refine ⟨fun x hx => ?_, by simpa using h.2⟩
  have := h.1 x hx
  unfold okB inB at this
  simpa using this
theorem may_gen {m : M} (h : may m = true) : 0 < m.gen ∧ m.gen ≤ 1099511627776 := ⟨(may_vals h).2, ((may_vals h).1 m.gen (by simp [M.vals])).2⟩
def save (d : Dk.D) (m : M) : Nat × Dk.D := if may m = false then (1, d) else if (Dk.put2 d (m.gen % 2) (body m)).1 ≠ 0 then Dk.put2 d (m.gen % 2) (body m) else Dk.sync (Dk.put2 d (m.gen % 2) (body m)).2
def bodyTo (m : M) (k : Nat) : List UInt8 := (m.vals.take k).flatMap Sl.numB
theorem bodyTo_succ (m : M) (k : Nat) (hk : k < 5) : bodyTo m (k + 1) = bodyTo m k ++ Sl.numB (m.vals.getD k 0) := by
  have hl : k < m.vals.length := hk
  unfold bodyTo
  rw [List.take_succ_eq_append_getElem hl, List.flatMap_append, List.getD_eq_getElem?_getD, List.getElem?_eq_getElem hl]
  simp
theorem bodyTo_le (m : M) (k : Nat) (hk : k ≤ 5) : (bodyTo m k).length ≤ 11 * k := by
  induction k with
  | zero => simp [bodyTo]
  | succ k ih =>
    have := ih (by omega)
    have h2 := Sl.numB_length (m.vals.getD k 0)
    rw [bodyTo_succ m k (by omega), List.length_append]
    omega
theorem bodyTo_all (m : M) : bodyTo m 5 = body m := rfl
end Ms
theorem DiskAt.below_ {w w' : World} {p : Nat} {d : Dk.D} {F : Nat → Prop} (h : DiskAt w p d F) (hb : Below w.heap.size w w') : DiskAt w' p d F := h.keep hb.size (fun k x => hb.block k (h.bound k x))
theorem writeTo_from {w w1 w' : World} {F : Nat → Prop} {p : Nat} {r : Nat × Dk.D} {e : Ending} (hb : Below w.heap.size w w1) (hF : ∀ k, F k → k < w.heap.size) (h : WriteTo w1 F p r e w') : WriteTo w F p r e w' := by
  obtain ⟨h1, F', h2, h3, h4⟩ := h
  refine ⟨h1, F', h2, (Fr.of_below hb F).trans h3 (fun _ _ x => x), fun k x => ?_⟩
  rcases h4 k x with y | y
  · exact .inl y
  · exact .inr (Nat.le_trans hb.size y)
set_option maxRecDepth 100000 in
set_option maxHeartbeats 4000000 in
theorem msave_any (p : Nat) (d : Dk.D) (F : Nat → Prop) (m : Ms.M) (w : World) (hD : DiskAt w p d F) (hok : Dk.Ok d) (hlen : d.pend.length ≤ 999999) (hsy : d.syncs ≤ 999999) :
    Calls Try.prog 32 #[.pointer (some ⟨p, 0, none⟩), mVal m] w (WriteTo w F p (Ms.save d m)) := by
  have hb0 : Below w.heap.size w (w.alloc (.cells (mCells m) 48)) := (Below.refl _ _).alloc (Nat.le_refl _) _
  have hblk : Blk (w.alloc (.cells (mCells m) 48)) w.heap.size 48 (mCells m) := Blk.new _ _ _
  have hmay := may_any m (w.alloc (.cells (mCells m) 48))
  obtain ⟨R, hR⟩ : ∃ R, Ms.save d m = R := ⟨_, rfl⟩
  rw [hR]
  have HR := Lib.hid hR
  have hidx := fun k hk x hx => idx5 w.heap.size k hk x hx
  unfold ptrs ptr at hidx
  have HI := Lib.hid hidx
  have H := Lib.hid (And.intro hb0 (And.intro hblk (And.intro hmay (And.intro hD (And.intro hok (And.intro hlen hsy))))))
  clear hb0 hblk hmay hD hok hlen hsy hR hidx
  unfold mVal mCells at *
  cases hm : Ms.may m
  · have hrr : R = (1, d) := by rw [← HR.out]; unfold Ms.save; rw [if_pos hm]
    subst hrr
    have HM := Lib.hid hm
    clear hm
    go_enter Try.func32, Try.ntmps32
    go_wp2_with fail
    refine H.out.2.2.1.mono ?_
    rw [HM.out]
    rintro e w1 ⟨rfl, hb1⟩
    have H1 := Lib.hid (H.out.1.trans (hb1.mono H.out.1.size))
    clear hb1
    go_wp2
    go_ret
    exact ⟨rfl, F, H.out.2.2.2.1.below_ H1.out, Fr.of_below H1.out F, fun k hk => .inl hk⟩
  · have hgen := Ms.may_gen hm
    have hmv := Ms.may_vals hm
    have hodd := odd_of m.gen (by omega) hgen.2
    have HM := Lib.hid (And.intro hm hmv)
    clear hm hmv
    obtain ⟨P, hP⟩ : ∃ P, Dk.put2 d (m.gen % 2) (Ms.body m) = P := ⟨_, rfl⟩
    have hPs := Dk.put2_syncs d (m.gen % 2) (Ms.body m)
    have hPo := Dk.put2_okD H.out.2.2.2.2.1 (m.gen % 2) (Ms.body m)
    rw [hP] at hPs hPo
    have HP := Lib.hid hP
    have HPO := Lib.hid (And.intro hPs hPo)
    clear hP hPs hPo
    go_enter Try.func32, Try.ntmps32
    go_wp2_with fail
    refine H.out.2.2.1.mono ?_
    rw [HM.out.1]
    rintro e w1 ⟨rfl, hb1⟩
    have hbw1 := H.out.1.trans (hb1.mono H.out.1.size)
    have hs1 : w.heap.size + 1 ≤ w1.heap.size := by have := hb1.size; simpa using this
    have H1 := Lib.hid (And.intro hbw1 (And.intro (H.out.2.1.below hb1 (by simp)) (WrAt.new w1)))
    clear hb1 hbw1
    go_wp2_with fail
    refine (fields_any w.heap.size _).mono ?_
    unfold ptrs ptr
    rintro e w3 ⟨rfl, hb3⟩
    have hbx : Below w1.heap.size w1 (w1.alloc (.cells #[.slice none 0 0] 114)) := (Below.refl _ _).alloc (Nat.le_refl _) _
    have hby : Below w1.heap.size w1 w3 := hbx.trans (hb3.mono hbx.size)
    have H3 := Lib.hid (And.intro (H1.out.1.trans (hby.mono H1.out.1.size)) (And.intro (H1.out.2.1.below hby (by omega)) (H1.out.2.2.below hb3)))
    clear hb3 hbx hby
    go_wp2_with fail
    go_loopw [7, 13] (fun _ i wr => ∃ (k : Nat) (G : Nat → Prop), k ≤ 5 ∧ i = .int .i64 k ∧ WrAt wr w1.heap.size (Ms.bodyTo m k) G ∧ (∀ j, G j → w1.heap.size ≤ j) ∧ Blk wr w.heap.size 48 (mCells m) ∧ Below w.heap.size w wr) (fun _ i _ => 5 - (intOf i).toNat)
    case atStart => exact ⟨0, _, by omega, rfl, H3.out.2.2, fun j hj => by omega, H3.out.2.1, H3.out.1⟩
    case round =>
      obtain ⟨k, G, hk, rfl, hwr, hG, hbk, hbl⟩ := hrel
      have hble := Ms.bodyTo_le m k hk
      by_cases hlt : k < 5
      · have hcell := mcell hbk hlt
        have hstep := Ms.bodyTo_succ m k hlt
        have hxb := HM.out.2.1 (m.vals.getD k 0) (by
          have hl : k < m.vals.length := hlt
          rw [List.getD_eq_getElem?_getD, List.getElem?_eq_getElem hl]; simp)
        have hidx := HI.out k hlt k rfl
        generalize m.vals.getD k 0 = x at *
        have HN := Lib.hid (And.intro hwr (And.intro hG (And.intro hbk (And.intro hbl hstep))))
        clear hwr hG hbk hbl hstep
        go_wp2_with fail
        refine (wnum_any w1.heap.size _ G x wr (by omega) HN.out.1 (by omega)).mono ?_
        rintro e w4 ⟨rfl, G4, hw4, hf4, hG4⟩
        have hb4 := HN.out.2.2.2.1.trans (hf4.below HN.out.2.2.2.1.size (fun i hi => by have := HN.out.2.1 i hi; omega))
        have H4 := Lib.hid (And.intro hw4 (And.intro hG4 (And.intro (HN.out.2.2.1.keep (hf4.block _ HN.out.2.2.1.lt (fun hh => by have := HN.out.2.1 _ hh; omega))) hb4)))
        have hs4 := HN.out.1.bound
        have hsz : w1.heap.size ≤ wr.heap.size := by have := HN.out.1.bound; obtain ⟨v, _, _, h3, _⟩ := HN.out.1; have := this _ h3; omega
        clear hw4 hf4 hG4 hb4 hs4
        go_wp2
        go_roundw
        case rel =>
          refine ⟨k + 1, G4, by omega, by go_num, ?_, fun j hj => ?_, H4.out.2.2.1, H4.out.2.2.2⟩
          · rw [HN.out.2.2.2.2]; exact H4.out.1
          · rcases H4.out.2.1 j hj with y | y
            · exact HN.out.2.1 j y
            · omega
        case measure => simp [intOf]; omega
      · obtain rfl : k = 5 := by omega
        rw [Ms.bodyTo_all] at *
        have hgc : wr.cell? ⟨w.heap.size, 0, none⟩ = some (.int .i64 m.gen) := hbk.cell 0
        have HN := Lib.hid (And.intro hwr (And.intro hbl hG))
        have hwrd : WrAt wr.drew w1.heap.size (Ms.body m) G := hwr.keep (Nat.le_refl _) (fun _ _ => rfl)
        have HB := Lib.hid (And.intro (wbytes_any w1.heap.size _ G wr.drew hwrd (by omega)) (And.intro hbl.drew hbk))
        clear hwr hbl hG hwrd hbk
        have HS := hgc
        go_wp2
        go_region_held3 (fun w' => w'.cell? ⟨w.heap.size, 0, none⟩ = some (.int .i64 m.gen)) ((first | exact HS | (simp only [World.cell?_drew]; assumption))) (first
          | (go_at_call 73; go_must (refine HB.out.1.mono ?_; rintro e w5 ⟨v5, rfl, ho5, hb5⟩; obtain ⟨B5, d5, rfl⟩ := own_slice ho5; have hbw5 := HB.out.2.1.trans (hb5.mono HB.out.2.1.size); have HS : w5.cell? ⟨w.heap.size, 0, none⟩ = some (.int .i64 m.gen) := (World.cell?_of_block (hb5.block _ HB.out.2.2.lt)).trans hgc; have hlt5 : w.heap.size < w5.heap.size := Nat.lt_of_lt_of_le HB.out.2.2.lt hb5.size; have H5 := Lib.hid (And.intro (BS.of_own ho5) hbw5); clear ho5 hb5 hbw5))
          | (go_at_call 72; go_must (refine (put_any p d F (m.gen % 2) B5 _ d5 (Ms.body m) w5 (H.out.2.2.2.1.below_ H5.out.2) H.out.2.2.2.2.1 H5.out.1 (by have := H.out.2.2.2.2.2.1; omega)).mono ?_; rw [HP.out]; rintro e w6 ⟨rfl, F6, hD6, hf6, hF6⟩; have HS : w6.cell? ⟨w.heap.size, 0, none⟩ = some (.int .i64 m.gen) := (World.cell?_of_block (hf6.block _ hlt5 (fun hh => absurd (H.out.2.2.2.1.bound _ hh) (Nat.lt_irrefl _)))).trans HS; have H6 := Lib.hid (And.intro hD6 (And.intro hf6 hF6)); clear hD6 hf6 hF6)))
        all_goals
          obtain ⟨pe, pd⟩ := P
          simp only at *
          by_cases hpe : pe = 0
          · subst hpe
            have hRR : R = Dk.sync pd := by
              rw [← HR.out]; unfold Ms.save
              rw [if_neg (by rw [HM.out.1]; simp), HP.out, if_neg (by simp)]
            subst hRR
            go_wp2_with fail
            refine (sync_any p pd F6 w6 H6.out.1 HPO.out.2 (by have := HPO.out.1; have := H.out.2.2.2.2.2.2; omega)).mono ?_
            rintro e w7 ⟨rfl, F7, hD7, hf7, hF7⟩
            have H7 := Lib.hid (And.intro hD7 (And.intro hf7 hF7))
            clear hD7 hf7 hF7
            go_wp2
            go_ret
            refine writeTo_from H5.out.2 H.out.2.2.2.1.bound ⟨rfl, F7, H7.out.1, H6.out.2.1.trans H7.out.2.1 (fun i hi hx => ?_), fun i hx => ?_⟩
            · rcases H6.out.2.2 i hx with y | y
              · exact y
              · omega
            · have hs6 := H6.out.2.1.size
              rcases H7.out.2.2 i hx with y | y
              · exact H6.out.2.2 i y
              · exact .inr (by omega)
          · have hg : ((pe : Int) != 0) = true := by rw [bne_iff_ne]; omega
            have hRR : R = (pe, pd) := by
              rw [← HR.out]; unfold Ms.save
              rw [if_neg (by rw [HM.out.1]; simp), HP.out, if_pos (by simpa using hpe)]
            subst hRR
            clear hpe
            go_wp2
            go_ret
            exact writeTo_from H5.out.2 H.out.2.2.2.1.bound ⟨rfl, F6, H6.out.1, H6.out.2.1, H6.out.2.2⟩
set_option maxRecDepth 100000 in
set_option maxHeartbeats 4000000 in
theorem msave_nil (m : Ms.M) (w : World) :
    Calls Try.prog 32 #[.pointer none, mVal m] w fun e w' => e = .returned (.int .i64 (if Ms.may m = true then 2 else 1)) ∧ Below w.heap.size w w' := by
  have hb0 : Below w.heap.size w (w.alloc (.cells (mCells m) 48)) := (Below.refl _ _).alloc (Nat.le_refl _) _
  have hblk : Blk (w.alloc (.cells (mCells m) 48)) w.heap.size 48 (mCells m) := Blk.new _ _ _
  have hmay := may_any m (w.alloc (.cells (mCells m) 48))
  have hidx := fun k hk x hx => idx5 w.heap.size k hk x hx
  unfold ptrs ptr at hidx
  have HI := Lib.hid hidx
  have H := Lib.hid (And.intro hb0 (And.intro hblk (And.intro hmay trivial)))
  clear hb0 hblk hmay hidx
  unfold mVal mCells at *
  cases hm : Ms.may m
  · have HM := Lib.hid hm
    clear hm
    rw [if_neg (by simp)]
    go_enter Try.func32, Try.ntmps32
    go_wp2_with fail
    refine H.out.2.2.1.mono ?_
    rw [HM.out]
    rintro e w1 ⟨rfl, hb1⟩
    have H1 := Lib.hid (H.out.1.trans (hb1.mono H.out.1.size))
    clear hb1
    go_wp2
    go_ret
    exact ⟨rfl, H1.out⟩
  · have hgen := Ms.may_gen hm
    have hmv := Ms.may_vals hm
    have hodd := odd_of m.gen (by omega) hgen.2
    have HM := Lib.hid (And.intro hm hmv)
    clear hm hmv
    rw [if_pos rfl]
    go_enter Try.func32, Try.ntmps32
    go_wp2_with fail
    refine H.out.2.2.1.mono ?_
    rw [HM.out.1]
    rintro e w1 ⟨rfl, hb1⟩
    have hbw1 := H.out.1.trans (hb1.mono H.out.1.size)
    have hs1 : w.heap.size + 1 ≤ w1.heap.size := by have := hb1.size; simpa using this
    have H1 := Lib.hid (And.intro hbw1 (And.intro (H.out.2.1.below hb1 (by simp)) (WrAt.new w1)))
    clear hb1 hbw1
    go_wp2_with fail
    refine (fields_any w.heap.size _).mono ?_
    unfold ptrs ptr
    rintro e w3 ⟨rfl, hb3⟩
    have hbx : Below w1.heap.size w1 (w1.alloc (.cells #[.slice none 0 0] 114)) := (Below.refl _ _).alloc (Nat.le_refl _) _
    have hby : Below w1.heap.size w1 w3 := hbx.trans (hb3.mono hbx.size)
    have H3 := Lib.hid (And.intro (H1.out.1.trans (hby.mono H1.out.1.size)) (And.intro (H1.out.2.1.below hby (by omega)) (H1.out.2.2.below hb3)))
    clear hb3 hbx hby
    go_wp2_with fail
    go_loopw [7, 13] (fun _ i wr => ∃ (k : Nat) (G : Nat → Prop), k ≤ 5 ∧ i = .int .i64 k ∧ WrAt wr w1.heap.size (Ms.bodyTo m k) G ∧ (∀ j, G j → w1.heap.size ≤ j) ∧ Blk wr w.heap.size 48 (mCells m) ∧ Below w.heap.size w wr) (fun _ i _ => 5 - (intOf i).toNat)
    case atStart => exact ⟨0, _, by omega, rfl, H3.out.2.2, fun j hj => by omega, H3.out.2.1, H3.out.1⟩
    case round =>
      obtain ⟨k, G, hk, rfl, hwr, hG, hbk, hbl⟩ := hrel
      have hble := Ms.bodyTo_le m k hk
      by_cases hlt : k < 5
      · have hcell := mcell hbk hlt
        have hstep := Ms.bodyTo_succ m k hlt
        have hxb := HM.out.2.1 (m.vals.getD k 0) (by
          have hl : k < m.vals.length := hlt
          rw [List.getD_eq_getElem?_getD, List.getElem?_eq_getElem hl]; simp)
        have hidx := HI.out k hlt k rfl
        generalize m.vals.getD k 0 = x at *
        have HN := Lib.hid (And.intro hwr (And.intro hG (And.intro hbk (And.intro hbl hstep))))
        clear hwr hG hbk hbl hstep
        go_wp2_with fail
        refine (wnum_any w1.heap.size _ G x wr (by omega) HN.out.1 (by omega)).mono ?_
        rintro e w4 ⟨rfl, G4, hw4, hf4, hG4⟩
        have hb4 := HN.out.2.2.2.1.trans (hf4.below HN.out.2.2.2.1.size (fun i hi => by have := HN.out.2.1 i hi; omega))
        have H4 := Lib.hid (And.intro hw4 (And.intro hG4 (And.intro (HN.out.2.2.1.keep (hf4.block _ HN.out.2.2.1.lt (fun hh => by have := HN.out.2.1 _ hh; omega))) hb4)))
        have hs4 := HN.out.1.bound
        have hsz : w1.heap.size ≤ wr.heap.size := by have := HN.out.1.bound; obtain ⟨v, _, _, h3, _⟩ := HN.out.1; have := this _ h3; omega
        clear hw4 hf4 hG4 hb4 hs4
        go_wp2
        go_roundw
        case rel =>
          refine ⟨k + 1, G4, by omega, by go_num, ?_, fun j hj => ?_, H4.out.2.2.1, H4.out.2.2.2⟩
          · rw [HN.out.2.2.2.2]; exact H4.out.1
          · rcases H4.out.2.1 j hj with y | y
            · exact HN.out.2.1 j y
            · omega
        case measure => simp [intOf]; omega
      · obtain rfl : k = 5 := by omega
        rw [Ms.bodyTo_all] at *
        have hgc : wr.cell? ⟨w.heap.size, 0, none⟩ = some (.int .i64 m.gen) := hbk.cell 0
        have HN := Lib.hid (And.intro hwr (And.intro hbl hG))
        have hwrd : WrAt wr.drew w1.heap.size (Ms.body m) G := hwr.keep (Nat.le_refl _) (fun _ _ => rfl)
        have HB := Lib.hid (And.intro (wbytes_any w1.heap.size _ G wr.drew hwrd (by omega)) (And.intro hbl.drew hbk))
        clear hwr hbl hG hwrd hbk
        have HS := hgc
        go_wp2
        go_region_held3 (fun w' => w'.cell? ⟨w.heap.size, 0, none⟩ = some (.int .i64 m.gen)) ((first | exact HS | (simp only [World.cell?_drew]; assumption))) (first
          | (go_at_call 73; go_must (refine HB.out.1.mono ?_; rintro e w5 ⟨v5, rfl, ho5, hb5⟩; obtain ⟨B5, d5, rfl⟩ := own_slice ho5; have hbw5 := HB.out.2.1.trans (hb5.mono HB.out.2.1.size); have HS : w5.cell? ⟨w.heap.size, 0, none⟩ = some (.int .i64 m.gen) := (World.cell?_of_block (hb5.block _ HB.out.2.2.lt)).trans hgc; have hlt5 : w.heap.size < w5.heap.size := Nat.lt_of_lt_of_le HB.out.2.2.lt hb5.size; have H5 := Lib.hid (And.intro (BS.of_own ho5) hbw5); clear ho5 hb5 hbw5))
          | (go_at_call 72; go_must (refine (put_nil (m.gen % 2) w5 B5 _ d5 (by omega)).mono ?_; rintro e w6 ⟨rfl, hb6⟩; have HS : w6.cell? ⟨w.heap.size, 0, none⟩ = some (.int .i64 m.gen) := (World.cell?_of_block (hb6.block _ hlt5)).trans HS; have H6 := Lib.hid (H5.out.2.trans (hb6.mono H5.out.2.size)); clear hb6)))
        all_goals
          go_wp2
          go_ret
          exact ⟨rfl, H6.out⟩
end Go.Proofs.Ytfcmlfcpgboigaa
