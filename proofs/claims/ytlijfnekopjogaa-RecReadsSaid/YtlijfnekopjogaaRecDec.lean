/- The record of whatever bytes, or the error: rec.Decode. -/
import Derived.Test.YtlijfnekopjogaaRecD1s
namespace Go.Proofs.Ytlijfnekopjogaa
open Go Go.RowKit Mem Rc
set_option maxRecDepth 100000
set_option linter.unusedVariables false
set_option linter.unusedSimpArgs false

/-- a record of one's own, and an error -/
def RecD (w : World) (m : M × Nat) (e : Ending) (w' : World) : Prop :=
  ∃ x : MD, e = .returned (.tuple #[mVal x, .int .i64 (m.2 : Int)]) ∧ x.m = m.1 ∧ MOk w' x ∧ MAp w.heap.size x ∧ Below w.heap.size w w'
theorem k0_m : (MD.k0 0).m = M.zero := rfl
theorem one_err (r : Sl.R) (most : Int) (h : (Cd.next r most).e ≠ 0) : Cd.one r most = 0 := by
  unfold Cd.next Sl.try_ at h
  unfold Cd.one Sl.out
  split at h
  · rename_i h1
    rw [if_pos h1]
    rfl
  · rename_i h1
    rw [if_neg h1]
    split at h
    · rename_i h2
      unfold Sl.number at h2 ⊢
      split
      · rfl
      · rename_i h3
        rw [if_neg h3] at h2
        split
        · rfl
        · rename_i h4
          rw [if_neg h4] at h2
          exact absurd h2 h3
    · exact absurd rfl h
/-- what lies ahead of the fields -/
structure DHd (w w5 : World) (gr q g5 : Nat) (F : Nat → Prop) (k : Int) (r : Sl.R) : Prop where
  hb : Below w.heap.size w w5
  hr : RdAt w5 q r F
  hF : ∀ j, F j → w.heap.size ≤ j
  hgr : Blk w5 gr 30 zCells
  hgl : w.heap.size ≤ gr
  nr : ¬ F gr
  h5 : Blk w5 g5 30 (mCells (MD.k0 k))
  g5l : w.heap.size ≤ g5
  n5 : ¬ F g5
  ne : gr ≠ g5
  hl : r.b.length ≤ 140737488351232
set_option maxHeartbeats 8000000 in
theorem rdecode_any (A : Option Addr) (n c : Nat) (bs : List UInt8) (w : World) (hbs : BS w A n bs) (hn : n ≤ 140737488351232) : Calls Try.prog 17 #[.slice A n c] w (RecD w (Rc.dec bs)) := by
  obtain ⟨W, hW⟩ : ∃ W, w.alloc (.cells #[.int .i64 0, .int .i64 0, .int .i64 0, .int .i64 0, .string ⟨#[]⟩, .bool false, .string ⟨#[]⟩, .bool false, .string ⟨#[]⟩, .int .i64 0, .slice none 0 0, .slice none 0 0, .slice none 0 0, .slice none 0 0, .slice none 0 0, .slice none 0 0] 30) = W := ⟨_, rfl⟩
  have hbW : Below w.heap.size w W := by rw [← hW]; exact (Below.refl _ _).alloc (Nat.le_refl _) _
  have hgr : Blk W w.heap.size 30 zCells := by rw [← hW]; exact Blk.new _ _ _
  have hsW : W.heap.size = w.heap.size + 1 := by rw [← hW]; simp
  have hlen : bs.length = n := hbs.1
  obtain ⟨R, hR⟩ : ∃ R, Rc.dec bs = R := ⟨_, rfl⟩
  rw [hR]
  have HR := Lib.hid hR
  clear hR
  by_cases h4 : 4096 < n
  · have hrr : R = (M.zero, 12) := by rw [← HR.out]; unfold Rc.dec; rw [if_pos (by omega)]
    have hd : decide ((4096 : Int) < (n : Int)) = true := decide_eq_true (by omega)
    subst hrr
    have H := Lib.hid (And.intro hbW hbs)
    clear hbW hbs hsW hlen h4
    go_enter Try.func17, Try.ntmps17
    go_wp2_with (refine wpList_store_rec (MD.k0 0) (by rfl) _ _ (by rfl) (by rfl) (by rfl) (by assumption) (by rfl) ?_; intro w1 hB1 hF1 hS1)
    exact bodyPost_ret (dec_results hB1 rfl rfl) rfl ⟨MD.k0 0, rfl, rfl, MOk.k0 _ _, MAp.k0 _ _, H.out.1.trans (hF1.below H.out.1.size (fun j hj => by have : j = w.heap.size := hj; omega))⟩
  · have hdec : Rc.dec bs = Rc.decR ⟨bs, 0⟩ := by unfold Rc.dec; rw [if_neg (by omega)]
    have hd : decide ((4096 : Int) < (n : Int)) = false := decide_eq_false (by omega)
    have HDec := Lib.hid (show R = if (nC.dec ⟨bs, 0⟩).2.e = 0 ∧ Rc.kindOk (nC.dec ⟨bs, 0⟩).1 = false then (M.zero, 11) else Rc.decF (nC.dec ⟨bs, 0⟩).1 (nC.dec ⟨bs, 0⟩).2 by rw [← HR.out, hdec]; rfl)
    have HN := Lib.hid (read_new A n c bs W (hbs.below hbW) hn)
    have H := Lib.hid (And.intro hbW (And.intro hgr (And.intro hsW (And.intro hlen hn))))
    clear hbW hbs hsW hlen h4 hn hgr hdec HR
    go_enter Try.func17, Try.ntmps17
    go_wp2_with fail
    refine HN.out.mono ?_
    rintro e w1 ⟨q, F, rfl, hrd, hb1, hF1⟩
    have hl0 : (⟨bs, 0⟩ : Sl.R).b.length ≤ 140737488351232 := by show bs.length ≤ _; rw [H.out.2.2.2.1]; exact H.out.2.2.2.2
    have HC := Lib.hid (show Calls Try.prog 44 #[.pointer (some ⟨q, 0, none⟩), .int .i64 1099511627776] w1 (RdTo w1 F q (.int .i64 (nC.dec ⟨bs, 0⟩).1) (nC.dec ⟨bs, 0⟩).2) from rnum_any q ⟨bs, 0⟩ F 1099511627776 w1 hrd (by decide) hl0)
    have H1 := Lib.hid (And.intro hb1 (And.intro hF1 hl0))
    clear hrd hb1 hF1 hl0
    go_wp2_with fail
    refine HC.out.mono ?_
    rintro e w2 ⟨rfl, h1, h2⟩
    obtain ⟨k, hk⟩ : ∃ k, (nC.dec ⟨bs, 0⟩).1 = k := ⟨_, rfl⟩
    obtain ⟨r1, hr1⟩ : ∃ r1, (nC.dec ⟨bs, 0⟩).2 = r1 := ⟨_, rfl⟩
    have HK := Lib.hid (And.intro hk hr1)
    rw [hr1] at h1
    simp only [hk]
    obtain ⟨G, hG⟩ : ∃ G, w2.heap.size = G := ⟨_, rfl⟩
    obtain ⟨W3, hW3⟩ : ∃ W3, w2.alloc (.cells #[.int .i64 0, .int .i64 0, .int .i64 0, .int .i64 0, .string ⟨#[]⟩, .bool false, .string ⟨#[]⟩, .bool false, .string ⟨#[]⟩, .int .i64 0, .slice none 0 0, .slice none 0 0, .slice none 0 0, .slice none 0 0, .slice none 0 0, .slice none 0 0] 30) = W3 := ⟨_, rfl⟩
    have hb3 : Below w2.heap.size w2 W3 := by rw [← hW3]; exact (Below.refl _ _).alloc (Nat.le_refl _) _
    have hB3 : Blk W3 G 30 zCells := by rw [← hW3, ← hG]; exact Blk.new _ _ _
    have hsz2 : w1.heap.size ≤ w2.heap.size := h2.size
    have hFq : F q := h1.self
    have hgr2 : Blk w2 w.heap.size 30 zCells := by
      have g1 := H.out.2.1.below H1.out.1 H.out.2.1.lt
      exact g1.keep (h2.block _ g1.lt (fun h => by have e : w.heap.size = q := h; have := H1.out.2.1 q hFq; have := H.out.2.2.1; omega))
    have hb02 : Below w.heap.size w w2 := (H.out.1.trans (H1.out.1.mono H.out.1.size)).trans (h2.below (Nat.le_trans H.out.1.size H1.out.1.size) (fun j hj => by have e : j = q := hj; have := H1.out.2.1 q hFq; have := H.out.2.2.1; omega))
    have H2 := Lib.hid (And.intro h1 (And.intro hb3 (And.intro hgr2 (And.intro hb02 (And.intro hG hr1)))))
    clear h1 h2 hb3 hgr2 hb02 hsz2 hFq hk hr1
    go_wp2_with (refine wpList_store_rec (MD.k0 k) (by rfl) _ _ (by rfl) (by rfl) (by rfl) (by assumption) (by rfl) ?_; intro w4 hB4 hF4 hS4)
    have hnG : ¬ F G := fun h => by have := H2.out.1.bound _ h; have := H2.out.2.2.2.2.1; omega
    have hdh : DHd w w4 w.heap.size q G F k r1 := by
      have g1 := H2.out.2.2.1.below H2.out.2.1 H2.out.2.2.1.lt
      have gl : w.heap.size < G := by have := H2.out.2.2.1.lt; have := H2.out.2.2.2.2.1; omega
      have hs3 : W3.heap.size = w2.heap.size + 1 := by rw [← hW3]; simp
      refine ⟨(H2.out.2.2.2.1.trans (H2.out.2.1.mono H2.out.2.2.2.1.size)).trans (hF4.below (Nat.le_trans H2.out.2.2.2.1.size H2.out.2.1.size) (fun j hj => by have e : j = G := hj; omega)), (H2.out.1.below H2.out.2.1).fr hF4 (fun j hj e => hnG (by rw [← show j = G from e]; exact hj)), fun j hj => ?_, g1.keep (hF4.block _ g1.lt (fun h => by have e : w.heap.size = G := h; omega)), Nat.le_refl _, fun h => ?_, hB4, Nat.le_of_lt gl, hnG, Nat.ne_of_lt gl, ?_⟩
      · have := H1.out.2.1 j hj; have := H.out.2.2.1; omega
      · have := H1.out.2.1 _ h; have := H.out.2.2.1; omega
      · rw [← H2.out.2.2.2.2.2]; exact Nat.le_trans (nC.le _) H1.out.2.2
    have HD := Lib.hid hdh
    clear hdh
    have HE1 := Lib.hid (rerr_any q r1 F w4 HD.out.hr)
    clear hF4 hS4 hnG hW3 hG
    go_wp2_with fail
    refine HE1.out.mono ?_
    rintro e wx ⟨rfl, hwx⟩
    obtain rfl : w4 = wx := hwx
    have ck : w4.cell? ⟨G, 0, none⟩ = some (.int .i64 k) := HD.out.h5.cell 0
    have hgr4 := HD.out.hgr
    by_cases he : r1.e = 0
    · have heb : ((r1.e : Int) == 0) = true := by rw [he]; rfl
      have HEz := Lib.hid he
      generalize ((r1.e : Nat) : Int) = ei at *
      clear he
      cases hkk : Rc.kindOk k with
      | false =>
        have HKK := Lib.hid hkk
        clear hkk
        go_wp2_with fail
        refine (rkind_any k _).mono ?_
        rw [HKK.out]
        rintro e w' ⟨rfl, hww⟩
        obtain rfl : w4 = w' := hww.symm
        go_wp2_with (refine wpList_store_rec (MD.k0 0) (by rfl) _ _ (by rfl) (by rfl) (by rfl) hgr4 (by rfl) ?_; intro w9 hB9 hF9 hS9)
        have hrr : R = (M.zero, 11) := by rw [HDec.out, if_pos ⟨by rw [HK.out.2]; exact HEz.out, by rw [HK.out.1]; exact HKK.out⟩]
        rw [hrr]
        exact bodyPost_ret (dec_results hB9 rfl rfl) rfl ⟨MD.k0 0, rfl, rfl, MOk.k0 _ _, MAp.k0 _ _, HD.out.hb.trans (hF9.below HD.out.hb.size (fun j hj => by have e : j = w.heap.size := hj; omega))⟩
      | true =>
        have HKK := Lib.hid hkk
        clear hkk
        go_wp2_with fail
        refine (rkind_any k _).mono ?_
        rw [HKK.out]
        rintro e w' ⟨rfl, hww⟩
        obtain rfl : w4 = w' := hww.symm
        have hnk : ¬ ((nC.dec ⟨bs, 0⟩).2.e = 0 ∧ Rc.kindOk (nC.dec ⟨bs, 0⟩).1 = false) := fun h => by have h2 := h.2; rw [HK.out.1, HKK.out] at h2; cases h2
        have HRR := Lib.hid (show R = Rc.decF k r1 by rw [HDec.out, if_neg hnk, HK.out.1, HK.out.2])
        have HF := Lib.hid (cr_fields_any k (.inl HKK.out) q r1 F G w4 HD.out.hr HD.out.h5 HD.out.n5 HD.out.hl)
        clear hnk
        go_wp2_with fail
        refine HF.out.mono ?_
        rintro e w6 ⟨x, rfl, hxm, h1, h2, h3, h5, h6⟩
        obtain ⟨r2, hr2⟩ : ∃ r2, ((fC k).dec r1).2 = r2 := ⟨_, rfl⟩
        obtain ⟨m2, hm2⟩ : ∃ m2, ((fC k).dec r1).1 = m2 := ⟨_, rfl⟩
        rw [hr2] at h1
        rw [hm2] at hxm
        have hlt4 : ∀ j, (j = q ∨ j = G) → j < w4.heap.size := fun j hj => by
          rcases hj with rfl | rfl
          · exact HD.out.hr.bound _ HD.out.hr.self
          · exact HD.out.h5.lt
        have hgr6 : Blk w6 w.heap.size 30 zCells := HD.out.hgr.keep (h3.block _ HD.out.hgr.lt (fun h => by
          rcases h with h | h
          · exact HD.out.nr (by rw [h]; exact HD.out.hr.self)
          · exact HD.out.ne h))
        have hb6 : Below w.heap.size w w6 := HD.out.hb.trans (h3.below HD.out.hb.size (fun j hj => by
          rcases hj with rfl | rfl
          · exact HD.out.hF _ HD.out.hr.self
          · exact HD.out.g5l))
        have hsm : SmM x.m := by rw [hxm, ← hm2]; exact smm_dec k (.inl HKK.out) r1
        have hl2 : r2.b.length ≤ 140737488351232 := by rw [← hr2]; exact Nat.le_trans ((fC k).le r1) HD.out.hl
        have HE := Lib.hid (show Calls Try.prog 47 #[.pointer (some ⟨q, 0, none⟩)] w6 (RdTo w6 F q (.int .i64 ((endE r2 : Nat) : Int)) (Sl.try_ r2 (Sl.endF r2.b))) from rend_any q r2 F w6 h1 hl2)
        have H6 := Lib.hid (And.intro hgr6 (And.intro hb6 (And.intro h2 (And.intro h5 (And.intro h6 (And.intro hsm (And.intro hxm (And.intro hr2 (And.intro hm2 (And.intro hlt4 h3.size))))))))))
        clear h1 h2 h3 h5 h6 hxm hgr6 hb6 hsm hl2 hr2 hm2 hlt4
        go_wp2_with fail
        refine HE.out.mono ?_
        rintro e w7 ⟨rfl, j1, j2⟩
        have hnq : ¬ (w.heap.size = q) := fun h => HD.out.nr (by rw [h]; exact HD.out.hr.self)
        have hnq5 : ¬ (G = q) := fun h => HD.out.n5 (by rw [h]; exact HD.out.hr.self)
        have hgr7 : Blk w7 w.heap.size 30 zCells := H6.out.1.keep (j2.block _ H6.out.1.lt hnq)
        have hx7 : Blk w7 G 30 (mCells x) := H6.out.2.2.1.keep (j2.block _ H6.out.2.2.1.lt hnq5)
        have hb7 : Below w.heap.size w w7 := H6.out.2.1.trans (j2.below H6.out.2.1.size (fun j hj => by have e : j = q := hj; rw [e]; exact HD.out.hF q HD.out.hr.self))
        have hok7 : MOk w7 x := H6.out.2.2.2.1.fr H6.out.2.2.2.2.1 j2 (fun j hj => H6.out.2.2.2.2.2.2.2.2.2.1 j (.inl hj))
        have hs7 : w4.heap.size ≤ w7.heap.size := Nat.le_trans H6.out.2.2.2.2.2.2.2.2.2.2 j2.size
        have H7 := Lib.hid (And.intro hgr7 (And.intro hx7 (And.intro hb7 (And.intro hok7 hs7))))
        clear j1 j2 hnq hnq5 hb7 hok7 hs7
        by_cases hz : endE r2 = 0
        · have hzb : (((endE r2 : Nat) : Int) != 0) = false := by rw [hz]; rfl
          have hzb2 : (((endE r2 : Nat) : Int) == 0) = true := by rw [hz]; rfl
          have HM := Lib.hid (may_any x w7 H7.out.2.2.2.1 (small_of H6.out.2.2.2.2.2.1))
          have HZ := Lib.hid hz
          generalize ((endE r2 : Nat) : Int) = ei at *
          clear hz
          go_wp2_with (refine wpList_load_rec' _ (by rfl) (by rfl) (by rfl) (by assumption) ?_)
          refine HM.out.mono ?_
          cases hmay : Rc.may x.m with
          | false =>
            rintro e w8 ⟨rfl, hb8⟩
            have hgr8 := hgr7.below hb8 hgr7.lt
            have H8 := Lib.hid (And.intro hb8 hmay)
            clear hb8 hmay hgr7 hx7
            go_wp2_with (refine wpList_store_rec (MD.k0 0) (by rfl) _ _ (by rfl) (by rfl) (by rfl) (by assumption) (by rfl) ?_; intro w9 hB9 hF9 hS9)
            have hrr : R = (M.zero, 11) := by rw [HRR.out]; unfold Rc.decF; rw [H6.out.2.2.2.2.2.2.2.1, H6.out.2.2.2.2.2.2.2.2.1, if_neg (by rw [HZ.out]; simp), ← H6.out.2.2.2.2.2.2.1, if_neg (by rw [H8.out.2]; simp)]
            rw [hrr]
            exact bodyPost_ret (dec_results hB9 rfl rfl) rfl ⟨MD.k0 0, rfl, rfl, MOk.k0 _ _, MAp.k0 _ _, (H7.out.2.2.1.trans (H8.out.1.mono H7.out.2.2.1.size)).trans (hF9.below (Nat.le_trans H7.out.2.2.1.size H8.out.1.size) (fun j hj => by have e : j = w.heap.size := hj; omega))⟩
          | true =>
            rintro e w8 ⟨rfl, hb8⟩
            have hgr8 := hgr7.below hb8 hgr7.lt
            have hx8 := hx7.below hb8 hx7.lt
            have H8 := Lib.hid (And.intro hb8 hmay)
            clear hb8 hmay hgr7 hx7
            go_wp2_with (first | (refine wpList_load_rec' _ (by rfl) (by rfl) (by rfl) hx8 ?_) | (refine wpList_store_rec x (by rfl) _ _ (by rfl) (by rfl) (by rfl) hgr8 (by rfl) ?_; intro w9 hB9 hF9 hS9))
            have hrr : R = (x.m, 0) := by rw [HRR.out]; unfold Rc.decF; rw [H6.out.2.2.2.2.2.2.2.1, H6.out.2.2.2.2.2.2.2.2.1, if_neg (by rw [HZ.out]; simp), ← H6.out.2.2.2.2.2.2.1, if_pos H8.out.2]
            rw [hrr]
            have hok8 : MOk w8 x := H7.out.2.2.2.1.below H8.out.1
            have hok9 : MOk w9 x := hok8.fr H6.out.2.2.2.2.1 hF9 (fun j hj => by have e : j = w.heap.size := hj; rw [e]; exact HD.out.hgr.lt)
            exact bodyPost_ret (dec_results hB9 rfl rfl) rfl ⟨x, rfl, rfl, hok9, H6.out.2.2.2.2.1.mono HD.out.hb.size, (H7.out.2.2.1.trans (H8.out.1.mono H7.out.2.2.1.size)).trans (hF9.below (Nat.le_trans H7.out.2.2.1.size H8.out.1.size) (fun j hj => by have e : j = w.heap.size := hj; omega))⟩
        · have hzb : (((endE r2 : Nat) : Int) != 0) = true := by rw [bne_iff_ne]; omega
          have hzb2 : (((endE r2 : Nat) : Int) == 0) = false := by rw [beq_eq_false_iff_ne]; omega
          have hrr : R = (M.zero, endE r2) := by rw [HRR.out]; unfold Rc.decF; rw [H6.out.2.2.2.2.2.2.2.1, if_pos hz]
          have HRZ := Lib.hid hrr
          clear hrr hz hx7
          go_wp2_with (refine wpList_store_rec (MD.k0 0) (by rfl) _ _ (by rfl) (by rfl) (by rfl) (by assumption) (by rfl) ?_; intro w9 hB9 hF9 hS9)
          exact bodyPost_ret (dec_results hB9 rfl rfl) rfl (by rw [HRZ.out]; exact ⟨MD.k0 0, rfl, rfl, MOk.k0 _ _, MAp.k0 _ _, H7.out.2.2.1.trans (hF9.below H7.out.2.2.1.size (fun j hj => by have e : j = w.heap.size := hj; omega))⟩)
    · have heb : ((r1.e : Int) == 0) = false := by rw [beq_eq_false_iff_ne]; omega
      have hk0 : k = 0 := by
        rw [← HK.out.1]
        have h1 := HK.out.2
        show Cd.one ⟨bs, 0⟩ 1099511627776 = 0
        have h2 : (Cd.next ⟨bs, 0⟩ 1099511627776).e ≠ 0 := by rw [show Cd.next ⟨bs, 0⟩ 1099511627776 = r1 from h1]; exact he
        exact one_err _ _ h2
      have HEz := Lib.hid (And.intro he hk0)
      generalize ((r1.e : Nat) : Int) = ei at *
      clear he hk0
      have hnk : ¬ ((nC.dec ⟨bs, 0⟩).2.e = 0 ∧ Rc.kindOk (nC.dec ⟨bs, 0⟩).1 = false) := fun h => HEz.out.1 (by rw [← HK.out.2]; exact h.1)
      have HRR := Lib.hid (show R = Rc.decF k r1 by rw [HDec.out, if_neg hnk, HK.out.1, HK.out.2])
      have HF := Lib.hid (cr_fields_any k (.inr HEz.out.2) q r1 F G w4 HD.out.hr HD.out.h5 HD.out.n5 HD.out.hl)
      clear hnk
      go_wp2_with fail
      refine HF.out.mono ?_
      rintro e w6 ⟨x, rfl, hxm, h1, h2, h3, h5, h6⟩
      obtain ⟨r2, hr2⟩ : ∃ r2, ((fC k).dec r1).2 = r2 := ⟨_, rfl⟩
      obtain ⟨m2, hm2⟩ : ∃ m2, ((fC k).dec r1).1 = m2 := ⟨_, rfl⟩
      rw [hr2] at h1
      rw [hm2] at hxm
      have hlt4 : ∀ j, (j = q ∨ j = G) → j < w4.heap.size := fun j hj => by
        rcases hj with rfl | rfl
        · exact HD.out.hr.bound _ HD.out.hr.self
        · exact HD.out.h5.lt
      have hgr6 : Blk w6 w.heap.size 30 zCells := HD.out.hgr.keep (h3.block _ HD.out.hgr.lt (fun h => by
        rcases h with h | h
        · exact HD.out.nr (by rw [h]; exact HD.out.hr.self)
        · exact HD.out.ne h))
      have hb6 : Below w.heap.size w w6 := HD.out.hb.trans (h3.below HD.out.hb.size (fun j hj => by
        rcases hj with rfl | rfl
        · exact HD.out.hF _ HD.out.hr.self
        · exact HD.out.g5l))
      have hsm : SmM x.m := by rw [hxm, ← hm2]; exact smm_dec k (.inr HEz.out.2) r1
      have hl2 : r2.b.length ≤ 140737488351232 := by rw [← hr2]; exact Nat.le_trans ((fC k).le r1) HD.out.hl
      have HE := Lib.hid (show Calls Try.prog 47 #[.pointer (some ⟨q, 0, none⟩)] w6 (RdTo w6 F q (.int .i64 ((endE r2 : Nat) : Int)) (Sl.try_ r2 (Sl.endF r2.b))) from rend_any q r2 F w6 h1 hl2)
      have H6 := Lib.hid (And.intro hgr6 (And.intro hb6 (And.intro h2 (And.intro h5 (And.intro h6 (And.intro hsm (And.intro hxm (And.intro hr2 (And.intro hm2 (And.intro hlt4 h3.size))))))))))
      clear h1 h2 h3 h5 h6 hxm hgr6 hb6 hsm hl2 hr2 hm2 hlt4
      go_wp2_with fail
      refine HE.out.mono ?_
      rintro e w7 ⟨rfl, j1, j2⟩
      have hnq : ¬ (w.heap.size = q) := fun h => HD.out.nr (by rw [h]; exact HD.out.hr.self)
      have hnq5 : ¬ (G = q) := fun h => HD.out.n5 (by rw [h]; exact HD.out.hr.self)
      have hgr7 : Blk w7 w.heap.size 30 zCells := H6.out.1.keep (j2.block _ H6.out.1.lt hnq)
      have hx7 : Blk w7 G 30 (mCells x) := H6.out.2.2.1.keep (j2.block _ H6.out.2.2.1.lt hnq5)
      have hb7 : Below w.heap.size w w7 := H6.out.2.1.trans (j2.below H6.out.2.1.size (fun j hj => by have e : j = q := hj; rw [e]; exact HD.out.hF q HD.out.hr.self))
      have hok7 : MOk w7 x := H6.out.2.2.2.1.fr H6.out.2.2.2.2.1 j2 (fun j hj => H6.out.2.2.2.2.2.2.2.2.2.1 j (.inl hj))
      have hs7 : w4.heap.size ≤ w7.heap.size := Nat.le_trans H6.out.2.2.2.2.2.2.2.2.2.2 j2.size
      have H7 := Lib.hid (And.intro hgr7 (And.intro hx7 (And.intro hb7 (And.intro hok7 hs7))))
      clear j1 j2 hnq hnq5 hb7 hok7 hs7
      by_cases hz : endE r2 = 0
      · have hzb : (((endE r2 : Nat) : Int) != 0) = false := by rw [hz]; rfl
        have hzb2 : (((endE r2 : Nat) : Int) == 0) = true := by rw [hz]; rfl
        have HM := Lib.hid (may_any x w7 H7.out.2.2.2.1 (small_of H6.out.2.2.2.2.2.1))
        have HZ := Lib.hid hz
        generalize ((endE r2 : Nat) : Int) = ei at *
        clear hz
        go_wp2_with (refine wpList_load_rec' _ (by rfl) (by rfl) (by rfl) (by assumption) ?_)
        refine HM.out.mono ?_
        cases hmay : Rc.may x.m with
        | false =>
          rintro e w8 ⟨rfl, hb8⟩
          have hgr8 := hgr7.below hb8 hgr7.lt
          have H8 := Lib.hid (And.intro hb8 hmay)
          clear hb8 hmay hgr7 hx7
          go_wp2_with (refine wpList_store_rec (MD.k0 0) (by rfl) _ _ (by rfl) (by rfl) (by rfl) (by assumption) (by rfl) ?_; intro w9 hB9 hF9 hS9)
          have hrr : R = (M.zero, 11) := by rw [HRR.out]; unfold Rc.decF; rw [H6.out.2.2.2.2.2.2.2.1, H6.out.2.2.2.2.2.2.2.2.1, if_neg (by rw [HZ.out]; simp), ← H6.out.2.2.2.2.2.2.1, if_neg (by rw [H8.out.2]; simp)]
          rw [hrr]
          exact bodyPost_ret (dec_results hB9 rfl rfl) rfl ⟨MD.k0 0, rfl, rfl, MOk.k0 _ _, MAp.k0 _ _, (H7.out.2.2.1.trans (H8.out.1.mono H7.out.2.2.1.size)).trans (hF9.below (Nat.le_trans H7.out.2.2.1.size H8.out.1.size) (fun j hj => by have e : j = w.heap.size := hj; omega))⟩
        | true =>
          rintro e w8 ⟨rfl, hb8⟩
          have hgr8 := hgr7.below hb8 hgr7.lt
          have hx8 := hx7.below hb8 hx7.lt
          have H8 := Lib.hid (And.intro hb8 hmay)
          clear hb8 hmay hgr7 hx7
          go_wp2_with (first | (refine wpList_load_rec' _ (by rfl) (by rfl) (by rfl) hx8 ?_) | (refine wpList_store_rec x (by rfl) _ _ (by rfl) (by rfl) (by rfl) hgr8 (by rfl) ?_; intro w9 hB9 hF9 hS9))
          have hrr : R = (x.m, 0) := by rw [HRR.out]; unfold Rc.decF; rw [H6.out.2.2.2.2.2.2.2.1, H6.out.2.2.2.2.2.2.2.2.1, if_neg (by rw [HZ.out]; simp), ← H6.out.2.2.2.2.2.2.1, if_pos H8.out.2]
          rw [hrr]
          have hok8 : MOk w8 x := H7.out.2.2.2.1.below H8.out.1
          have hok9 : MOk w9 x := hok8.fr H6.out.2.2.2.2.1 hF9 (fun j hj => by have e : j = w.heap.size := hj; rw [e]; exact HD.out.hgr.lt)
          exact bodyPost_ret (dec_results hB9 rfl rfl) rfl ⟨x, rfl, rfl, hok9, H6.out.2.2.2.2.1.mono HD.out.hb.size, (H7.out.2.2.1.trans (H8.out.1.mono H7.out.2.2.1.size)).trans (hF9.below (Nat.le_trans H7.out.2.2.1.size H8.out.1.size) (fun j hj => by have e : j = w.heap.size := hj; omega))⟩
      · have hzb : (((endE r2 : Nat) : Int) != 0) = true := by rw [bne_iff_ne]; omega
        have hzb2 : (((endE r2 : Nat) : Int) == 0) = false := by rw [beq_eq_false_iff_ne]; omega
        have hrr : R = (M.zero, endE r2) := by rw [HRR.out]; unfold Rc.decF; rw [H6.out.2.2.2.2.2.2.2.1, if_pos hz]
        have HRZ := Lib.hid hrr
        clear hrr hz hx7
        go_wp2_with (refine wpList_store_rec (MD.k0 0) (by rfl) _ _ (by rfl) (by rfl) (by rfl) (by assumption) (by rfl) ?_; intro w9 hB9 hF9 hS9)
        exact bodyPost_ret (dec_results hB9 rfl rfl) rfl (by rw [HRZ.out]; exact ⟨MD.k0 0, rfl, rfl, MOk.k0 _ _, MAp.k0 _ _, H7.out.2.2.1.trans (hF9.below H7.out.2.2.1.size (fun j hj => by have e : j = w.heap.size := hj; omega))⟩)
end Go.Proofs.Ytlijfnekopjogaa
