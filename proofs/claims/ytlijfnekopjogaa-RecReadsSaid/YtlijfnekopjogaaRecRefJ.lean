/- The document's record of bytes (printed by gen_renc.py). -/
import Derived.Test.YtlijfnekopjogaaRecRefI
import Derived.Test.YtlijfnekopjogaaRecMayR
import Derived.Test.YtlijfnekopjogaaRecDec
namespace Go.Proofs.Ytlijfnekopjogaa
open Go Go.RowKit Mem Rc
set_option maxRecDepth 100000
set_option linter.unusedVariables false
set_option linter.unusedSimpArgs false

theorem rf_new7 {w : World} {B : Option Addr} {n c : Nat} {s : List UInt8} (hB : BS w B n s) (hn : n ≤ c) (hc : c ≤ 9223372036854775807) :
  RfAt (w.alloc (.cells #[.slice B n c, .int .i64 0] 78)) w.heap.size ⟨s, 0⟩ (fun k => k = w.heap.size ∨ 0 < n ∧ ∃ b off, B = some ⟨b, off, none⟩ ∧ k = b ∧ b < w.heap.size) := by
 refine ⟨B, n, c, Blk.new _ _ _, hB.below ((Below.refl _ _).alloc (Nat.le_refl _) _), hn, hc, .inl rfl, fun a hp e => ?_, fun k hk => ?_⟩
 ·
  obtain ⟨b, off, hA, hlt, _⟩ := hB.2 hp
  rw [hA] at e
  injection e with e
  subst e
  exact ⟨.inr ⟨hp, b, off, hA, rfl, hlt⟩, by simp only; omega⟩
 ·
  rcases hk with rfl | ⟨_, b, off, _, rfl, h⟩
  ·
   simp
  ·
   simp; omega
theorem rdec_results {W : World} {g : Nat} {x : MD} {tmps : Array Value} {v : Value} (hb : Blk W g 30 (mCells x)) (h2 : tmps.getD 2 undef = .pointer (some ⟨g, 0, none⟩)) (h3 : tmps.getD 3 undef = v) :
  (results Try.f18 tmps).run Try.prog W = .ok (.tuple #[mVal x, v]) W := by
 have hl := rec_loadVar hb
 generalize mVal x = X at *
 simp only [Array.getD_eq_getD_getElem?] at h2 h3
 simp [results, Try.results18, h2, h3, asAddr, hl]
/-- the record under way, its reader, the result's place -/
structure DjS (w : World) (G : Nat) (F : Nat → Prop) (y : MD) (r : Sl.R) (v : World) : Prop where
 hb : Below w.heap.size w v
 res : Blk v w.heap.size 30 (mCells (MD.k0 0))
 box : Blk v G 30 (mCells y)
 rd : RfAt v (w.heap.size + 1) r F
 ok : MOk v y
 ap : MAp (G + 1) y
 foot : ∀ k, F k → k ≠ w.heap.size ∧ k ≠ G
 hG : w.heap.size + 2 ≤ G
theorem DjS.call {w v v' : World} {G : Nat} {F : Nat → Prop} {y : MD} {r r' : Sl.R} (h : DjS w G F y r v) (hr : RfAt v' (w.heap.size + 1) r' F) (hf : Fr (fun k => k = w.heap.size + 1) v v') : DjS w G F y r' v' :=
 ⟨h.hb.trans (hf.below h.hb.size (fun j hj => by have e : j = w.heap.size + 1 := hj; omega)), h.res.keep (hf.block _ h.res.lt (fun e => by have e : w.heap.size = w.heap.size + 1 := e; omega)), h.box.keep (hf.block _ h.box.lt (fun e => by have e : G = w.heap.size + 1 := e; have := h.hG; omega)), hr, h.ok.fr h.ap hf (fun k e => by have e : k = w.heap.size + 1 := e; have := h.hG; omega), h.ap, h.foot, h.hG⟩
theorem DjS.put {w v : World} {G : Nat} {F : Nat → Prop} {y y' : MD} {r : Sl.R} (h : DjS w G F y r v) (i : Nat) (val : Value) (hy : (mCells y).setIfInBounds i val = mCells y') (hok : MOk v y') (hap : MAp (G + 1) y') : DjS w G F y' r (v.setCell ⟨G, i, none⟩ val) := by
 have hf : Fr (fun j => j = G) v (v.setCell ⟨G, i, none⟩ val) := (Fr.refl (fun j => j = G) v).setCell _ _ (fun _ => rfl)
 exact ⟨h.hb.trans (hf.below h.hb.size (fun j hj => by have e : j = G := hj; have := h.hG; omega)), h.res.keep (hf.block _ h.res.lt (fun e => by have e : w.heap.size = G := e; have := h.hG; omega)), by rw [← hy]; exact h.box.put i val, h.rd.fr hf (fun k hk e => (h.foot k hk).2 e), hok.fr hap hf (fun k e => by have e : k = G := e; omega), hap, h.foot, h.hG⟩
theorem DjS.put0 {w v : World} {G : Nat} {F : Nat → Prop} {y y' : MD} {r : Sl.R} (h : DjS w G F y r v) (i : Nat) (val : Value) (hy : (mCells y).setIfInBounds i val = mCells y') (hn : { y' with kind := 0, tx := 0, prev := 0, nxt := 0, key := ⟨#[]⟩, old := V.zero, new := V.zero, coord := 0 } = MD.k0 0) : DjS w G F y' r (v.setCell ⟨G, i, none⟩ val) := by
 have g : MOk v { y' with kind := 0, tx := 0, prev := 0, nxt := 0, key := ⟨#[]⟩, old := V.zero, new := V.zero, coord := 0 } := by rw [hn]; exact MOk.k0 _ _
 have a : MAp (G + 1) { y' with kind := 0, tx := 0, prev := 0, nxt := 0, key := ⟨#[]⟩, old := V.zero, new := V.zero, coord := 0 } := by rw [hn]; exact MAp.k0 _ _
 exact h.put i val hy ⟨g.mem, g.mc, g.locks, g.lc, g.rows, g.rc, g.dirty, g.dc, g.deeds, g.ec, g.past, g.pc⟩ ⟨a.mem, a.locks, a.rows, a.dirty, a.deeds, a.past, a.row, a.deed⟩
theorem recD_err {w w6 w9 : World} {R : M × Nat} {E : Nat} (hR : R = (M.zero, E)) (hb : Below w.heap.size w w6) (hf : Fr (fun j => j = w.heap.size) w6 w9) : RecD w R (.returned (.tuple #[mVal (MD.k0 0), .int .i64 (E : Int)])) w9 := by
 rw [hR]
 exact ⟨MD.k0 0, rfl, rfl, MOk.k0 _ _, MAp.k0 _ _, hb.trans (hf.below hb.size (fun j hj => by have e : j = w.heap.size := hj; omega))⟩
theorem end_stuck {r : Sl.R} (h : r.e ≠ 0) : Rc.endE r = r.e := by unfold Rc.endE Sl.try_; rw [if_pos h]
theorem next_stuck {r : Sl.R} (h : r.e ≠ 0) (m : Int) : Cd.next r m = r := by unfold Cd.next Sl.try_; rw [if_pos h]
theorem tC_dec (r : Sl.R) : tC.dec r = (⟨(Cd.text r 32).toArray⟩, Cd.textR r 32) := rfl
set_option maxHeartbeats 32000000 in
theorem frdec_any (A : Option Addr) (n c : Nat) (bs : List UInt8) (w : World) (hbs : BS w A n bs) (hnc : n ≤ c) (hc : c ≤ 9223372036854775807) (hn : n ≤ 140737488351232) : Calls Try.prog 18 #[.slice A n c] w (RecD w (Rc.dec bs)) := by
 obtain ⟨W, hW⟩ : ∃ W, w.alloc (.cells #[.int .i64 0, .int .i64 0, .int .i64 0, .int .i64 0, .string ⟨#[]⟩, .bool false, .string ⟨#[]⟩, .bool false, .string ⟨#[]⟩, .int .i64 0, .slice none 0 0, .slice none 0 0, .slice none 0 0, .slice none 0 0, .slice none 0 0, .slice none 0 0] 30) = W := ⟨_, rfl⟩
 have hbW : Below w.heap.size w W := by rw [← hW]; exact (Below.refl _ _).alloc (Nat.le_refl _) _
 have hres : Blk W w.heap.size 30 (mCells (MD.k0 0)) := by rw [← hW]; exact Blk.new _ _ _
 have hsW : W.heap.size = w.heap.size + 1 := by rw [← hW]; simp
 obtain ⟨R, hR⟩ : ∃ R, Rc.dec bs = R := ⟨_, rfl⟩
 rw [hR]
 have HR := Lib.hid hR
 have hlen := hbs.1
 clear hR
 by_cases h4 : 4096 < n
 ·
  have hrr : R = (M.zero, 12) := by rw [← HR.out]; unfold Rc.dec; rw [if_pos (by omega)]
  have hd : decide ((4096 : Int) < (n : Int)) = true := decide_eq_true (by omega)
  have H := Lib.hid (And.intro hbW hrr)
  clear hbW hbs hsW hlen h4 hrr
  go_enter Try.func18, Try.ntmps18
  go_wp2_with (refine wpList_store_rec (MD.k0 0) (by rfl) _ _ (by rfl) (by rfl) (by rfl) hres (by rfl) ?_; intro w9 hB9 hF9 hS9)
  exact bodyPost_ret (rdec_results hB9 rfl rfl) rfl (by rw [H.out.2]; exact ⟨MD.k0 0, rfl, rfl, MOk.k0 _ _, MAp.k0 _ _, H.out.1.trans (hF9.below H.out.1.size (fun j hj => by have e : j = w.heap.size := hj; omega))⟩)
 ·
  have hd : decide ((4096 : Int) < (n : Int)) = false := decide_eq_false (by omega)
  have hdec : R = if (nC.dec ⟨bs, 0⟩).2.e = 0 ∧ Rc.kindOk (nC.dec ⟨bs, 0⟩).1 = false then (M.zero, 11) else Rc.decF (nC.dec ⟨bs, 0⟩).1 (nC.dec ⟨bs, 0⟩).2 := by rw [← HR.out]; unfold Rc.dec; rw [if_neg (by omega)]; rfl
  obtain ⟨W2, hW2⟩ : ∃ W2, W.alloc (.cells #[.slice A n c, .int .i64 0] 78) = W2 := ⟨_, rfl⟩
  have hb2 : Below W.heap.size W W2 := by rw [← hW2]; exact (Below.refl _ _).alloc (Nat.le_refl _) _
  have hrd := rf_new7 (hbs.below hbW) hnc hc
  rw [hW2, hsW] at hrd
  have hsW2 : W2.heap.size = w.heap.size + 2 := by rw [← hW2]; simp [hsW]
  obtain ⟨F, hF⟩ : ∃ F : Nat → Prop, (fun k => k = w.heap.size + 1 ∨ 0 < n ∧ ∃ b off, A = some ⟨b, off, none⟩ ∧ k = b ∧ b < w.heap.size + 1) = F := ⟨_, rfl⟩
  have hft : ∀ k, F k → k ≠ w.heap.size := by
   rw [← hF]
   intro k hk
   rcases hk with rfl | ⟨hp, b, off, hA, rfl, hlt⟩
   ·
    omega
   ·
    obtain ⟨b2, off2, hA2, hlt2, _⟩ := hbs.2 hp
    rw [hA] at hA2
    injection hA2 with hA2
    injection hA2 with e1 e2
    omega
  rw [hF] at hrd
  have hl0 : (⟨bs, 0⟩ : Sl.R).b.length ≤ 140737488351232 := by show bs.length ≤ _; omega
  have H := Lib.hid (And.intro hbW (And.intro hres (And.intro hb2 (And.intro hrd (And.intro hft (And.intro hdec (And.intro hl0 (And.intro hsW hsW2))))))))
  clear hbW hres hb2 hrd hft hdec hl0 hbs hlen h4 hF hnc hc hn HR hsW2
  go_enter Try.func18, Try.ntmps18
  go_wp2_with fail
  refine (fr_num (w.heap.size + 1) ⟨bs, 0⟩ F 1099511627776 W2 H.out.2.2.2.1 (by omega) H.out.2.2.2.2.2.2.1).mono ?_
  rintro e x0 ⟨rfl, h, hf⟩
  obtain ⟨kk, hkk⟩ : ∃ k, Cd.one ⟨bs, 0⟩ 1099511627776 = k := ⟨_, rfl⟩
  obtain ⟨R0, hR0⟩ : ∃ r, Cd.next ⟨bs, 0⟩ 1099511627776 = r := ⟨_, rfl⟩
  rw [hkk]
  rw [hR0] at h
  have HK := Lib.hid (And.intro hkk hR0)
  have HRR := Lib.hid (show R = if R0.e = 0 ∧ Rc.kindOk kk = false then (M.zero, 11) else Rc.decF kk R0 by rw [H.out.2.2.2.2.2.1, nC_dec, hkk, hR0])
  have HL0 := Lib.hid (show R0.b.length ≤ 140737488351232 by rw [← hR0]; exact Nat.le_trans (Cd.try_le _ _) H.out.2.2.2.2.2.2.1)
  obtain ⟨x1, hx1⟩ : ∃ u, x0.alloc (.cells #[.int .i64 0, .int .i64 0, .int .i64 0, .int .i64 0, .string ⟨#[]⟩, .bool false, .string ⟨#[]⟩, .bool false, .string ⟨#[]⟩, .int .i64 0, .slice none 0 0, .slice none 0 0, .slice none 0 0, .slice none 0 0, .slice none 0 0, .slice none 0 0] 30) = u := ⟨_, rfl⟩
  obtain ⟨G, hG⟩ : ∃ G, x0.heap.size = G := ⟨_, rfl⟩
  have hb1 : Below x0.heap.size x0 x1 := by rw [← hx1]; exact (Below.refl _ _).alloc (Nat.le_refl _) _
  have hB1 : Blk x1 G 30 (mCells (MD.k0 0)) := by rw [← hx1, ← hG]; exact Blk.new _ _ _
  have hGs : w.heap.size + 2 ≤ G := by rw [← hG, ← H.out.2.2.2.2.2.2.2.2]; exact hf.size
  have hbx0 : Below w.heap.size w x0 := (H.out.1.trans (H.out.2.2.1.mono H.out.1.size)).trans (hf.below (by have := H.out.2.2.2.2.2.2.2.2; omega) (fun j hj => by have e : j = w.heap.size + 1 := hj; omega))
  have hrs0 : Blk x0 w.heap.size 30 (mCells (MD.k0 0)) := (H.out.2.1.below H.out.2.2.1 H.out.2.1.lt).keep (hf.block _ (H.out.2.1.below H.out.2.2.1 H.out.2.1.lt).lt (fun e => by have e : w.heap.size = w.heap.size + 1 := e; omega))
  have hFG : ∀ k, F k → k ≠ w.heap.size ∧ k ≠ G := fun k hk => ⟨H.out.2.2.2.2.1 k hk, by have := H.out.2.2.2.1.bound k hk; have := H.out.2.2.2.2.2.2.2.2; omega⟩
  have HX := Lib.hid (And.intro h (And.intro hb1 (And.intro hGs (And.intro hbx0 (And.intro hrs0 (And.intro hFG hG))))))
  clear h hf hb1 hkk hR0 hGs hbx0 hrs0 hFG
  go_upto_region 5 with (refine wpList_store_rec (MD.k0 kk) (by rfl) _ _ (by rfl) (by rfl) (by rfl) hB1 (by rfl) ?_; intro w0 hB0 hF0 hS0)
  have H0 := Lib.hid (show DjS w G F (MD.k0 kk) R0 w0 from by
   have g1 := HX.out.2.2.2.2.1.below HX.out.2.1 HX.out.2.2.2.2.1.lt
   exact ⟨(HX.out.2.2.2.1.trans (HX.out.2.1.mono HX.out.2.2.2.1.size)).trans (hF0.below (Nat.le_trans HX.out.2.2.2.1.size HX.out.2.1.size) (fun j hj => by have e : j = G := hj; have := HX.out.2.2.1; omega)), g1.keep (hF0.block _ g1.lt (fun e => by have e : w.heap.size = G := e; have := HX.out.2.2.1; omega)), hB0, (HX.out.1.below HX.out.2.1).fr hF0 (fun j hj e => (HX.out.2.2.2.2.2.1 j hj).2 e), MOk.k0 _ _, MAp.k0 _ _, HX.out.2.2.2.2.2.1, HX.out.2.2.1⟩)
  have ce : w0.cell? ⟨w.heap.size + 1, 1, none⟩ = some (.int .i64 (R0.e : Int)) := by obtain ⟨_, _, _, hq, _⟩ := H0.out.rd; exact hq.cell 1
  have c0 : w0.cell? ⟨G, 0, none⟩ = some (.int .i64 kk) := H0.out.box.cell 0
  have hres := H0.out.res
  clear hB0 hF0 hS0 hx1 hB1 HX hG hW hW2
  by_cases he : R0.e = 0
  ·
   have heb : ((R0.e : Int) == 0) = true := by rw [he]; rfl
   have HE0 := Lib.hid he
   generalize ((R0.e : Nat) : Int) = ei at *
   clear he
   cases hko : Rc.kindOk kk with
   | false =>
    have hrr : R = (M.zero, 11) := by rw [HRR.out, if_pos ⟨HE0.out, hko⟩]
    have hways : decide (kk < 1) = true ∨ (decide (kk < 1) = false ∧ decide (10 < kk) = true) := by
     unfold Rc.kindOk at hko
     simp only [Bool.and_eq_false_iff, decide_eq_false_iff_not, decide_eq_true_eq] at hko ⊢
     omega
    have HT := Lib.hid hrr
    clear hrr hko
    rcases hways with k1 | ⟨k1, k2⟩
    all_goals
     go_wp2_with (refine wpList_store_rec (MD.k0 0) (by rfl) _ _ (by rfl) (by rfl) (by rfl) hres (by rfl) ?_; intro w9 hB9 hF9 hS9)
     exact bodyPost_ret (rdec_results hB9 rfl rfl) rfl (by rw [HT.out]; exact ⟨MD.k0 0, rfl, rfl, MOk.k0 _ _, MAp.k0 _ _, H0.out.hb.trans (hF9.below H0.out.hb.size (fun j hj => by have e : j = w.heap.size := hj; omega))⟩)
   | true =>
    have HRK := Lib.hid (show R = Rc.decF kk R0 by rw [HRR.out, if_neg (fun h => by rw [hko] at h; cases h.2)])
    clear hres
    by_cases h456 : kk = 4 ∨ kk = 5 ∨ kk = 6
    ·
     have hfc : fC kk = endC kk := by rcases h456 with rfl | rfl | rfl <;> rfl
     have k1 : decide (kk < 1) = false := decide_eq_false (by omega)
     have k2 : decide (10 < kk) = false := decide_eq_false (by omega)
     have b8 : (kk == 8) = false := by rw [beq_eq_false_iff_ne]; omega
     have b7 : (kk != 7) = true := by rw [bne_iff_ne]; omega
     have l6 : decide (kk ≤ 6) = true := decide_eq_true (by omega)
     have b2 : (kk == 2) = false := by rw [beq_eq_false_iff_ne]; omega
     have b1 : (kk == 1) = false := by rw [beq_eq_false_iff_ne]; omega
     have b3 : (kk == 3) = false := by rw [beq_eq_false_iff_ne]; omega
     have b9 : (kk == 9) = false := by rw [beq_eq_false_iff_ne]; omega
     have HKO := Lib.hid (And.intro hko hfc)
     clear hko h456 hfc
     go_wp2_with fail
     refine (fr_num (w.heap.size + 1) R0 F 1099511627776 w0 H0.out.rd (by omega) HL0.out).mono ?_
     rintro e x0 ⟨rfl, h, hf⟩
     obtain ⟨v0, hv0⟩ : ∃ v, (nC.dec R0).1 = v := ⟨_, rfl⟩
     obtain ⟨R1, hr0⟩ : ∃ v, (nC.dec R0).2 = v := ⟨_, rfl⟩
     have D0 := Lib.hid (show nC.dec R0 = (v0, R1) from Prod.ext hv0 hr0)
     have HL1 := Lib.hid (show R1.b.length ≤ 140737488351232 from by rw [← hr0]; exact Nat.le_trans (nC.le R0) HL0.out)
     have hv0' : Cd.one R0 1099511627776 = v0 := hv0
     have hr0' : Cd.next R0 1099511627776 = R1 := hr0
     rw [hv0']
     rw [hr0'] at h
     clear hv0' hr0'
     have S0 := Lib.hid (H0.out.call h hf)
     have u1 : x0.cell? ⟨G, 1, none⟩ = some (.int .i64 0) := S0.out.box.cell 1
     have z1 := S0.out.box.free 1
     obtain ⟨w1, hw⟩ : ∃ u, x0.setCell ⟨G, 1, none⟩ (.int .i64 v0) = u := ⟨_, rfl⟩
     have H1 := Lib.hid (show DjS w G F ({ MD.k0 kk with tx := v0 } : MD) R1 w1 by rw [← hw]; exact S0.out.put0 1 _ rfl rfl)
     have c0 : w1.cell? ⟨G, 0, none⟩ = some (.int .i64 kk) := H1.out.box.cell 0
     clear hv0 hr0 h hf
     go_wp2_with fail
     clear u1 z1 hw
     refine (fr_num (w.heap.size + 1) R1 F 1099511627776 w1 H1.out.rd (by omega) HL1.out).mono ?_
     rintro e x1 ⟨rfl, h, hf⟩
     obtain ⟨v1, hv1⟩ : ∃ v, (nC.dec R1).1 = v := ⟨_, rfl⟩
     obtain ⟨R2, hr1⟩ : ∃ v, (nC.dec R1).2 = v := ⟨_, rfl⟩
     have D1 := Lib.hid (show nC.dec R1 = (v1, R2) from Prod.ext hv1 hr1)
     have HL2 := Lib.hid (show R2.b.length ≤ 140737488351232 from by rw [← hr1]; exact Nat.le_trans (nC.le R1) HL1.out)
     have hv1' : Cd.one R1 1099511627776 = v1 := hv1
     have hr1' : Cd.next R1 1099511627776 = R2 := hr1
     rw [hv1']
     rw [hr1'] at h
     clear hv1' hr1'
     have S1 := Lib.hid (H1.out.call h hf)
     have u1 : x1.cell? ⟨G, 2, none⟩ = some (.int .i64 0) := S1.out.box.cell 2
     have z1 := S1.out.box.free 2
     obtain ⟨w2, hw⟩ : ∃ u, x1.setCell ⟨G, 2, none⟩ (.int .i64 v1) = u := ⟨_, rfl⟩
     have H2 := Lib.hid (show DjS w G F ({ MD.k0 kk with tx := v0, prev := v1 } : MD) R2 w2 by rw [← hw]; exact S1.out.put0 2 _ rfl rfl)
     have c0 : w2.cell? ⟨G, 0, none⟩ = some (.int .i64 kk) := H2.out.box.cell 0
     clear hv1 hr1 h hf
     go_wp2_with fail
     clear u1 z1 hw
     obtain ⟨yy, hyy⟩ : ∃ y, ({ MD.k0 kk with tx := v0, prev := v1 } : MD) = y := ⟨_, rfl⟩
     have HY := Lib.hid (show DjS w G F yy R2 w2 by rw [← hyy]; exact H2.out)
     have hdk : (fC kk).dec R0 = (yy.m, R2) := by rw [← hyy]; exact (by rw [HKO.out.2]; unfold endC; rw [as_dec]; simp only [pair_dec, D0.out, D1.out]; rfl)
     have hq0 : R = (if Rc.endE R2 ≠ 0 then (M.zero, Rc.endE R2) else if Rc.may yy.m then (yy.m, 0) else (M.zero, 11)) := by rw [HRK.out]; unfold Rc.decF; rw [hdk]
     have hsm : Small yy := small_of (by have g := smm_dec kk (.inl HKO.out.1) R0; rw [hdk] at g; exact g)
     have HQ := Lib.hid (And.intro hq0 hsm)
     clear hdk
     clear hyy hsm hq0
     refine (refREnd_any (w.heap.size + 1) R2 F w2 HY.out.rd HL2.out).mono ?_
     rintro e xe ⟨rfl, h, hf⟩
     have HS := Lib.hid (HY.out.call h hf)
     obtain ⟨E, hE⟩ : ∃ E, Rc.endE R2 = E := ⟨_, rfl⟩
     rw [show (Sl.try_ R2 (Sl.endF R2.b)).e = E from hE]
     have HEE := Lib.hid hE
     have hres := HS.out.res
     have hbox := HS.out.box
     clear h hf hE
     rcases Nat.eq_zero_or_pos E with rfl | hpos
     ·
      go_wp2_with (refine wpList_load_rec' _ (by rfl) (by rfl) (by rfl) hbox ?_)
      refine (fmay_any yy xe HS.out.ok HQ.out.2).mono ?_
      cases hm : Rc.may yy.m with
      | false =>
       rintro e w6 ⟨rfl, hb6⟩
       have hq : R = (M.zero, 11) := by rw [HQ.out.1, HEE.out, if_neg (by decide), hm, if_neg (by decide)]
       have HT := Lib.hid (And.intro hq (HS.out.hb.trans (hb6.mono HS.out.hb.size)))
       have hres := hres.below hb6 hres.lt
       clear hq hb6 hbox
       go_wp2_with (refine wpList_store_rec (MD.k0 0) (by rfl) _ _ (by rfl) (by rfl) (by rfl) hres (by rfl) ?_; intro w9 hB9 hF9 hS9)
       exact bodyPost_ret (rdec_results hB9 rfl rfl) rfl (recD_err HT.out.1 HT.out.2 hF9)
      | true =>
       rintro e w6 ⟨rfl, hb6⟩
       have hq : R = (yy.m, 0) := by rw [HQ.out.1, HEE.out, if_neg (by decide), hm, if_pos rfl]
       have HT := Lib.hid (And.intro hq (And.intro (HS.out.hb.trans (hb6.mono HS.out.hb.size)) (HS.out.ok.below hb6)))
       have hres := hres.below hb6 hres.lt
       have hbox := hbox.below hb6 hbox.lt
       clear hq hb6
       go_wp2_with (first | (refine wpList_load_rec' _ (by rfl) (by rfl) (by rfl) hbox ?_) | (refine wpList_store_rec yy (by rfl) _ _ (by rfl) (by rfl) (by rfl) hres (by rfl) ?_; intro w9 hB9 hF9 hS9))
       exact bodyPost_ret (rdec_results hB9 rfl rfl) rfl (by rw [HT.out.1]; exact ⟨yy, rfl, rfl, HT.out.2.2.fr HS.out.ap hF9 (fun j e => by have e : j = w.heap.size := e; have := HS.out.hG; omega), HS.out.ap.mono (by have := HS.out.hG; omega), HT.out.2.1.trans (hF9.below HT.out.2.1.size (fun j hj => by have e : j = w.heap.size := hj; omega))⟩)
     ·
      have hd : ((E : Int) != 0) = true := by rw [bne_iff_ne]; omega
      have hq : R = (M.zero, E) := by rw [HQ.out.1, HEE.out, if_pos (by omega)]
      have HT := Lib.hid hq
      clear hq hbox
      go_wp2_with (refine wpList_store_rec (MD.k0 0) (by rfl) _ _ (by rfl) (by rfl) (by rfl) hres (by rfl) ?_; intro w9 hB9 hF9 hS9)
      exact bodyPost_ret (rdec_results hB9 rfl rfl) rfl (recD_err HT.out HS.out.hb hF9)
    rcases kind_cases hko with rfl | rfl | rfl | rfl | rfl | rfl | rfl | rfl | rfl | rfl
    ·
     clear hko h456
     go_wp2_with fail
     refine (fr_num (w.heap.size + 1) R0 F 1099511627776 w0 H0.out.rd (by omega) HL0.out).mono ?_
     rintro e x0 ⟨rfl, h, hf⟩
     obtain ⟨v0, hv0⟩ : ∃ v, (nC.dec R0).1 = v := ⟨_, rfl⟩
     obtain ⟨R1, hr0⟩ : ∃ v, (nC.dec R0).2 = v := ⟨_, rfl⟩
     have D0 := Lib.hid (show nC.dec R0 = (v0, R1) from Prod.ext hv0 hr0)
     have HL1 := Lib.hid (show R1.b.length ≤ 140737488351232 from by rw [← hr0]; exact Nat.le_trans (nC.le R0) HL0.out)
     have hv0' : Cd.one R0 1099511627776 = v0 := hv0
     have hr0' : Cd.next R0 1099511627776 = R1 := hr0
     rw [hv0']
     rw [hr0'] at h
     clear hv0' hr0'
     have S0 := Lib.hid (H0.out.call h hf)
     have u1 : x0.cell? ⟨G, 1, none⟩ = some (.int .i64 0) := S0.out.box.cell 1
     have z1 := S0.out.box.free 1
     obtain ⟨w1, hw⟩ : ∃ u, x0.setCell ⟨G, 1, none⟩ (.int .i64 v0) = u := ⟨_, rfl⟩
     have H1 := Lib.hid (show DjS w G F ({ MD.k0 1 with tx := v0 } : MD) R1 w1 by rw [← hw]; exact S0.out.put0 1 _ rfl rfl)
     have c0 : w1.cell? ⟨G, 0, none⟩ = some (.int .i64 1) := H1.out.box.cell 0
     clear hv0 hr0 h hf
     go_wp2_with fail
     clear u1 z1 hw
     refine (fr_num (w.heap.size + 1) R1 F 1099511627776 w1 H1.out.rd (by omega) HL1.out).mono ?_
     rintro e x1 ⟨rfl, h, hf⟩
     obtain ⟨v1, hv1⟩ : ∃ v, (nC.dec R1).1 = v := ⟨_, rfl⟩
     obtain ⟨R2, hr1⟩ : ∃ v, (nC.dec R1).2 = v := ⟨_, rfl⟩
     have D1 := Lib.hid (show nC.dec R1 = (v1, R2) from Prod.ext hv1 hr1)
     have HL2 := Lib.hid (show R2.b.length ≤ 140737488351232 from by rw [← hr1]; exact Nat.le_trans (nC.le R1) HL1.out)
     have hv1' : Cd.one R1 1099511627776 = v1 := hv1
     have hr1' : Cd.next R1 1099511627776 = R2 := hr1
     rw [hv1']
     rw [hr1'] at h
     clear hv1' hr1'
     have S1 := Lib.hid (H1.out.call h hf)
     have u1 : x1.cell? ⟨G, 2, none⟩ = some (.int .i64 0) := S1.out.box.cell 2
     have z1 := S1.out.box.free 2
     obtain ⟨w2, hw⟩ : ∃ u, x1.setCell ⟨G, 2, none⟩ (.int .i64 v1) = u := ⟨_, rfl⟩
     have H2 := Lib.hid (show DjS w G F ({ MD.k0 1 with tx := v0, prev := v1 } : MD) R2 w2 by rw [← hw]; exact S1.out.put0 2 _ rfl rfl)
     have c0 : w2.cell? ⟨G, 0, none⟩ = some (.int .i64 1) := H2.out.box.cell 0
     clear hv1 hr1 h hf
     go_wp2_with fail
     clear u1 z1 hw
     refine (fr_text (w.heap.size + 1) R2 F w2 H2.out.rd HL2.out).mono ?_
     rintro e x2 ⟨rfl, h, hf⟩
     obtain ⟨v2, hv2⟩ : ∃ v, (tC.dec R2).1 = v := ⟨_, rfl⟩
     obtain ⟨R3, hr2⟩ : ∃ v, (tC.dec R2).2 = v := ⟨_, rfl⟩
     have D2 := Lib.hid (show tC.dec R2 = (v2, R3) from Prod.ext hv2 hr2)
     have HL3 := Lib.hid (show R3.b.length ≤ 140737488351232 from by rw [← hr2]; exact Nat.le_trans (tC.le R2) HL2.out)
     have hv2' : (⟨(Cd.text R2 32).toArray⟩ : ByteArray) = v2 := hv2
     have hr2' : Cd.textR R2 32 = R3 := hr2
     rw [hv2']
     rw [hr2'] at h
     clear hv2' hr2'
     have S2 := Lib.hid (H2.out.call h hf)
     have u1 : x2.cell? ⟨G, 4, none⟩ = some (.string ⟨#[]⟩) := S2.out.box.cell 4
     have z1 := S2.out.box.free 4
     obtain ⟨w3, hw⟩ : ∃ u, x2.setCell ⟨G, 4, none⟩ (.string v2) = u := ⟨_, rfl⟩
     have H3 := Lib.hid (show DjS w G F ({ MD.k0 1 with tx := v0, prev := v1, key := v2 } : MD) R3 w3 by rw [← hw]; exact S2.out.put0 4 _ rfl rfl)
     have c0 : w3.cell? ⟨G, 0, none⟩ = some (.int .i64 1) := H3.out.box.cell 0
     clear hv2 hr2 h hf
     go_wp2_with fail
     clear u1 z1 hw
     refine (frval_any (w.heap.size + 1) R3 F w3 H3.out.rd HL3.out).mono ?_
     rintro e x3 ⟨rfl, h, hf⟩
     obtain ⟨v3, hv3⟩ : ∃ v, (vC.dec R3).1 = v := ⟨_, rfl⟩
     obtain ⟨R4, hr3⟩ : ∃ v, (vC.dec R3).2 = v := ⟨_, rfl⟩
     have D3 := Lib.hid (show vC.dec R3 = (v3, R4) from Prod.ext hv3 hr3)
     have HL4 := Lib.hid (show R4.b.length ≤ 140737488351232 from by rw [← hr3]; exact Nat.le_trans (vC.le R3) HL3.out)
     rw [hv3]
     rw [hr3] at h
     have S3 := Lib.hid (H3.out.call h hf)
     have u1 : x3.cell? ⟨G, 5, none⟩ = some (.bool false) := S3.out.box.cell 5
     have u2 : x3.cell? ⟨G, 6, none⟩ = some (.string ⟨#[]⟩) := S3.out.box.cell 6
     have z1 := S3.out.box.free 5
     have z2 := S3.out.box.free 6
     obtain ⟨xa, hxa⟩ : ∃ u, x3.setCell ⟨G, 5, none⟩ (.bool v3.has) = u := ⟨_, rfl⟩
     have T3 := Lib.hid (show DjS w G F ({ MD.k0 1 with tx := v0, prev := v1, key := v2, old := ⟨v3.has, ⟨#[]⟩⟩ } : MD) R4 xa by rw [← hxa]; exact S3.out.put0 5 _ rfl rfl)
     have u3 : xa.cell? ⟨G, 6, none⟩ = some (.string ⟨#[]⟩) := T3.out.box.cell 6
     have z3 := T3.out.box.free 6
     obtain ⟨w4, hw⟩ : ∃ u, xa.setCell ⟨G, 6, none⟩ (.string v3.data) = u := ⟨_, rfl⟩
     have H4 := Lib.hid (show DjS w G F ({ MD.k0 1 with tx := v0, prev := v1, key := v2, old := v3 } : MD) R4 w4 by rw [← hw]; exact T3.out.put0 6 _ rfl rfl)
     have c0 : w4.cell? ⟨G, 0, none⟩ = some (.int .i64 1) := H4.out.box.cell 0
     clear hv3 hr3 h hf
     go_wp2_with fail
     clear u1 u2 u3 z1 z2 z3 hxa hw
     refine (frval_any (w.heap.size + 1) R4 F w4 H4.out.rd HL4.out).mono ?_
     rintro e x4 ⟨rfl, h, hf⟩
     obtain ⟨v4, hv4⟩ : ∃ v, (vC.dec R4).1 = v := ⟨_, rfl⟩
     obtain ⟨R5, hr4⟩ : ∃ v, (vC.dec R4).2 = v := ⟨_, rfl⟩
     have D4 := Lib.hid (show vC.dec R4 = (v4, R5) from Prod.ext hv4 hr4)
     have HL5 := Lib.hid (show R5.b.length ≤ 140737488351232 from by rw [← hr4]; exact Nat.le_trans (vC.le R4) HL4.out)
     rw [hv4]
     rw [hr4] at h
     have S4 := Lib.hid (H4.out.call h hf)
     have u1 : x4.cell? ⟨G, 7, none⟩ = some (.bool false) := S4.out.box.cell 7
     have u2 : x4.cell? ⟨G, 8, none⟩ = some (.string ⟨#[]⟩) := S4.out.box.cell 8
     have z1 := S4.out.box.free 7
     have z2 := S4.out.box.free 8
     obtain ⟨xa, hxa⟩ : ∃ u, x4.setCell ⟨G, 7, none⟩ (.bool v4.has) = u := ⟨_, rfl⟩
     have T4 := Lib.hid (show DjS w G F ({ MD.k0 1 with tx := v0, prev := v1, key := v2, old := v3, new := ⟨v4.has, ⟨#[]⟩⟩ } : MD) R5 xa by rw [← hxa]; exact S4.out.put0 7 _ rfl rfl)
     have u3 : xa.cell? ⟨G, 8, none⟩ = some (.string ⟨#[]⟩) := T4.out.box.cell 8
     have z3 := T4.out.box.free 8
     obtain ⟨w5, hw⟩ : ∃ u, xa.setCell ⟨G, 8, none⟩ (.string v4.data) = u := ⟨_, rfl⟩
     have H5 := Lib.hid (show DjS w G F ({ MD.k0 1 with tx := v0, prev := v1, key := v2, old := v3, new := v4 } : MD) R5 w5 by rw [← hw]; exact T4.out.put0 8 _ rfl rfl)
     have c0 : w5.cell? ⟨G, 0, none⟩ = some (.int .i64 1) := H5.out.box.cell 0
     clear hv4 hr4 h hf
     go_wp2_with fail
     clear u1 u2 u3 z1 z2 z3 hxa hw
     obtain ⟨yy, hyy⟩ : ∃ y, ({ MD.k0 1 with tx := v0, prev := v1, key := v2, old := v3, new := v4 } : MD) = y := ⟨_, rfl⟩
     have HY := Lib.hid (show DjS w G F yy R5 w5 by rw [← hyy]; exact H5.out)
     have hdk : (fC 1).dec R0 = (yy.m, R5) := by rw [← hyy]; exact (by show updC.dec R0 = _; unfold updC; rw [as_dec]; simp only [pair_dec, D0.out, D1.out, D2.out, D3.out, D4.out]; rfl)
     have hq0 : R = (if Rc.endE R5 ≠ 0 then (M.zero, Rc.endE R5) else if Rc.may yy.m then (yy.m, 0) else (M.zero, 11)) := by rw [HRK.out]; unfold Rc.decF; rw [hdk]
     have hsm : Small yy := small_of (by have g := smm_dec 1 (.inl rfl) R0; rw [hdk] at g; exact g)
     have HQ := Lib.hid (And.intro hq0 hsm)
     clear hdk
     clear hyy hsm hq0
     refine (refREnd_any (w.heap.size + 1) R5 F w5 HY.out.rd HL5.out).mono ?_
     rintro e xe ⟨rfl, h, hf⟩
     have HS := Lib.hid (HY.out.call h hf)
     obtain ⟨E, hE⟩ : ∃ E, Rc.endE R5 = E := ⟨_, rfl⟩
     rw [show (Sl.try_ R5 (Sl.endF R5.b)).e = E from hE]
     have HEE := Lib.hid hE
     have hres := HS.out.res
     have hbox := HS.out.box
     clear h hf hE
     rcases Nat.eq_zero_or_pos E with rfl | hpos
     ·
      go_wp2_with (refine wpList_load_rec' _ (by rfl) (by rfl) (by rfl) hbox ?_)
      refine (fmay_any yy xe HS.out.ok HQ.out.2).mono ?_
      cases hm : Rc.may yy.m with
      | false =>
       rintro e w6 ⟨rfl, hb6⟩
       have hq : R = (M.zero, 11) := by rw [HQ.out.1, HEE.out, if_neg (by decide), hm, if_neg (by decide)]
       have HT := Lib.hid (And.intro hq (HS.out.hb.trans (hb6.mono HS.out.hb.size)))
       have hres := hres.below hb6 hres.lt
       clear hq hb6 hbox
       go_wp2_with (refine wpList_store_rec (MD.k0 0) (by rfl) _ _ (by rfl) (by rfl) (by rfl) hres (by rfl) ?_; intro w9 hB9 hF9 hS9)
       exact bodyPost_ret (rdec_results hB9 rfl rfl) rfl (recD_err HT.out.1 HT.out.2 hF9)
      | true =>
       rintro e w6 ⟨rfl, hb6⟩
       have hq : R = (yy.m, 0) := by rw [HQ.out.1, HEE.out, if_neg (by decide), hm, if_pos rfl]
       have HT := Lib.hid (And.intro hq (And.intro (HS.out.hb.trans (hb6.mono HS.out.hb.size)) (HS.out.ok.below hb6)))
       have hres := hres.below hb6 hres.lt
       have hbox := hbox.below hb6 hbox.lt
       clear hq hb6
       go_wp2_with (first | (refine wpList_load_rec' _ (by rfl) (by rfl) (by rfl) hbox ?_) | (refine wpList_store_rec yy (by rfl) _ _ (by rfl) (by rfl) (by rfl) hres (by rfl) ?_; intro w9 hB9 hF9 hS9))
       exact bodyPost_ret (rdec_results hB9 rfl rfl) rfl (by rw [HT.out.1]; exact ⟨yy, rfl, rfl, HT.out.2.2.fr HS.out.ap hF9 (fun j e => by have e : j = w.heap.size := e; have := HS.out.hG; omega), HS.out.ap.mono (by have := HS.out.hG; omega), HT.out.2.1.trans (hF9.below HT.out.2.1.size (fun j hj => by have e : j = w.heap.size := hj; omega))⟩)
     ·
      have hd : ((E : Int) != 0) = true := by rw [bne_iff_ne]; omega
      have hq : R = (M.zero, E) := by rw [HQ.out.1, HEE.out, if_pos (by omega)]
      have HT := Lib.hid hq
      clear hq hbox
      go_wp2_with (refine wpList_store_rec (MD.k0 0) (by rfl) _ _ (by rfl) (by rfl) (by rfl) hres (by rfl) ?_; intro w9 hB9 hF9 hS9)
      exact bodyPost_ret (rdec_results hB9 rfl rfl) rfl (recD_err HT.out HS.out.hb hF9)
    ·
     clear hko h456
     go_wp2_with fail
     refine (fr_num (w.heap.size + 1) R0 F 1099511627776 w0 H0.out.rd (by omega) HL0.out).mono ?_
     rintro e x0 ⟨rfl, h, hf⟩
     obtain ⟨v0, hv0⟩ : ∃ v, (nC.dec R0).1 = v := ⟨_, rfl⟩
     obtain ⟨R1, hr0⟩ : ∃ v, (nC.dec R0).2 = v := ⟨_, rfl⟩
     have D0 := Lib.hid (show nC.dec R0 = (v0, R1) from Prod.ext hv0 hr0)
     have HL1 := Lib.hid (show R1.b.length ≤ 140737488351232 from by rw [← hr0]; exact Nat.le_trans (nC.le R0) HL0.out)
     have hv0' : Cd.one R0 1099511627776 = v0 := hv0
     have hr0' : Cd.next R0 1099511627776 = R1 := hr0
     rw [hv0']
     rw [hr0'] at h
     clear hv0' hr0'
     have S0 := Lib.hid (H0.out.call h hf)
     have u1 : x0.cell? ⟨G, 1, none⟩ = some (.int .i64 0) := S0.out.box.cell 1
     have z1 := S0.out.box.free 1
     obtain ⟨w1, hw⟩ : ∃ u, x0.setCell ⟨G, 1, none⟩ (.int .i64 v0) = u := ⟨_, rfl⟩
     have H1 := Lib.hid (show DjS w G F ({ MD.k0 2 with tx := v0 } : MD) R1 w1 by rw [← hw]; exact S0.out.put0 1 _ rfl rfl)
     have c0 : w1.cell? ⟨G, 0, none⟩ = some (.int .i64 2) := H1.out.box.cell 0
     clear hv0 hr0 h hf
     go_wp2_with fail
     clear u1 z1 hw
     refine (fr_num (w.heap.size + 1) R1 F 1099511627776 w1 H1.out.rd (by omega) HL1.out).mono ?_
     rintro e x1 ⟨rfl, h, hf⟩
     obtain ⟨v1, hv1⟩ : ∃ v, (nC.dec R1).1 = v := ⟨_, rfl⟩
     obtain ⟨R2, hr1⟩ : ∃ v, (nC.dec R1).2 = v := ⟨_, rfl⟩
     have D1 := Lib.hid (show nC.dec R1 = (v1, R2) from Prod.ext hv1 hr1)
     have HL2 := Lib.hid (show R2.b.length ≤ 140737488351232 from by rw [← hr1]; exact Nat.le_trans (nC.le R1) HL1.out)
     have hv1' : Cd.one R1 1099511627776 = v1 := hv1
     have hr1' : Cd.next R1 1099511627776 = R2 := hr1
     rw [hv1']
     rw [hr1'] at h
     clear hv1' hr1'
     have S1 := Lib.hid (H1.out.call h hf)
     have u1 : x1.cell? ⟨G, 2, none⟩ = some (.int .i64 0) := S1.out.box.cell 2
     have z1 := S1.out.box.free 2
     obtain ⟨w2, hw⟩ : ∃ u, x1.setCell ⟨G, 2, none⟩ (.int .i64 v1) = u := ⟨_, rfl⟩
     have H2 := Lib.hid (show DjS w G F ({ MD.k0 2 with tx := v0, prev := v1 } : MD) R2 w2 by rw [← hw]; exact S1.out.put0 2 _ rfl rfl)
     have c0 : w2.cell? ⟨G, 0, none⟩ = some (.int .i64 2) := H2.out.box.cell 0
     clear hv1 hr1 h hf
     go_wp2_with fail
     clear u1 z1 hw
     refine (fr_num (w.heap.size + 1) R2 F 1099511627776 w2 H2.out.rd (by omega) HL2.out).mono ?_
     rintro e x2 ⟨rfl, h, hf⟩
     obtain ⟨v2, hv2⟩ : ∃ v, (nC.dec R2).1 = v := ⟨_, rfl⟩
     obtain ⟨R3, hr2⟩ : ∃ v, (nC.dec R2).2 = v := ⟨_, rfl⟩
     have D2 := Lib.hid (show nC.dec R2 = (v2, R3) from Prod.ext hv2 hr2)
     have HL3 := Lib.hid (show R3.b.length ≤ 140737488351232 from by rw [← hr2]; exact Nat.le_trans (nC.le R2) HL2.out)
     have hv2' : Cd.one R2 1099511627776 = v2 := hv2
     have hr2' : Cd.next R2 1099511627776 = R3 := hr2
     rw [hv2']
     rw [hr2'] at h
     clear hv2' hr2'
     have S2 := Lib.hid (H2.out.call h hf)
     have u1 : x2.cell? ⟨G, 3, none⟩ = some (.int .i64 0) := S2.out.box.cell 3
     have z1 := S2.out.box.free 3
     obtain ⟨w3, hw⟩ : ∃ u, x2.setCell ⟨G, 3, none⟩ (.int .i64 v2) = u := ⟨_, rfl⟩
     have H3 := Lib.hid (show DjS w G F ({ MD.k0 2 with tx := v0, prev := v1, nxt := v2 } : MD) R3 w3 by rw [← hw]; exact S2.out.put0 3 _ rfl rfl)
     have c0 : w3.cell? ⟨G, 0, none⟩ = some (.int .i64 2) := H3.out.box.cell 0
     clear hv2 hr2 h hf
     go_wp2_with fail
     clear u1 z1 hw
     refine (fr_text (w.heap.size + 1) R3 F w3 H3.out.rd HL3.out).mono ?_
     rintro e x3 ⟨rfl, h, hf⟩
     obtain ⟨v3, hv3⟩ : ∃ v, (tC.dec R3).1 = v := ⟨_, rfl⟩
     obtain ⟨R4, hr3⟩ : ∃ v, (tC.dec R3).2 = v := ⟨_, rfl⟩
     have D3 := Lib.hid (show tC.dec R3 = (v3, R4) from Prod.ext hv3 hr3)
     have HL4 := Lib.hid (show R4.b.length ≤ 140737488351232 from by rw [← hr3]; exact Nat.le_trans (tC.le R3) HL3.out)
     have hv3' : (⟨(Cd.text R3 32).toArray⟩ : ByteArray) = v3 := hv3
     have hr3' : Cd.textR R3 32 = R4 := hr3
     rw [hv3']
     rw [hr3'] at h
     clear hv3' hr3'
     have S3 := Lib.hid (H3.out.call h hf)
     have u1 : x3.cell? ⟨G, 4, none⟩ = some (.string ⟨#[]⟩) := S3.out.box.cell 4
     have z1 := S3.out.box.free 4
     obtain ⟨w4, hw⟩ : ∃ u, x3.setCell ⟨G, 4, none⟩ (.string v3) = u := ⟨_, rfl⟩
     have H4 := Lib.hid (show DjS w G F ({ MD.k0 2 with tx := v0, prev := v1, nxt := v2, key := v3 } : MD) R4 w4 by rw [← hw]; exact S3.out.put0 4 _ rfl rfl)
     have c0 : w4.cell? ⟨G, 0, none⟩ = some (.int .i64 2) := H4.out.box.cell 0
     clear hv3 hr3 h hf
     go_wp2_with fail
     clear u1 z1 hw
     refine (frval_any (w.heap.size + 1) R4 F w4 H4.out.rd HL4.out).mono ?_
     rintro e x4 ⟨rfl, h, hf⟩
     obtain ⟨v4, hv4⟩ : ∃ v, (vC.dec R4).1 = v := ⟨_, rfl⟩
     obtain ⟨R5, hr4⟩ : ∃ v, (vC.dec R4).2 = v := ⟨_, rfl⟩
     have D4 := Lib.hid (show vC.dec R4 = (v4, R5) from Prod.ext hv4 hr4)
     have HL5 := Lib.hid (show R5.b.length ≤ 140737488351232 from by rw [← hr4]; exact Nat.le_trans (vC.le R4) HL4.out)
     rw [hv4]
     rw [hr4] at h
     have S4 := Lib.hid (H4.out.call h hf)
     have u1 : x4.cell? ⟨G, 7, none⟩ = some (.bool false) := S4.out.box.cell 7
     have u2 : x4.cell? ⟨G, 8, none⟩ = some (.string ⟨#[]⟩) := S4.out.box.cell 8
     have z1 := S4.out.box.free 7
     have z2 := S4.out.box.free 8
     obtain ⟨xa, hxa⟩ : ∃ u, x4.setCell ⟨G, 7, none⟩ (.bool v4.has) = u := ⟨_, rfl⟩
     have T4 := Lib.hid (show DjS w G F ({ MD.k0 2 with tx := v0, prev := v1, nxt := v2, key := v3, new := ⟨v4.has, ⟨#[]⟩⟩ } : MD) R5 xa by rw [← hxa]; exact S4.out.put0 7 _ rfl rfl)
     have u3 : xa.cell? ⟨G, 8, none⟩ = some (.string ⟨#[]⟩) := T4.out.box.cell 8
     have z3 := T4.out.box.free 8
     obtain ⟨w5, hw⟩ : ∃ u, xa.setCell ⟨G, 8, none⟩ (.string v4.data) = u := ⟨_, rfl⟩
     have H5 := Lib.hid (show DjS w G F ({ MD.k0 2 with tx := v0, prev := v1, nxt := v2, key := v3, new := v4 } : MD) R5 w5 by rw [← hw]; exact T4.out.put0 8 _ rfl rfl)
     have c0 : w5.cell? ⟨G, 0, none⟩ = some (.int .i64 2) := H5.out.box.cell 0
     clear hv4 hr4 h hf
     go_wp2_with fail
     clear u1 u2 u3 z1 z2 z3 hxa hw
     obtain ⟨yy, hyy⟩ : ∃ y, ({ MD.k0 2 with tx := v0, prev := v1, nxt := v2, key := v3, new := v4 } : MD) = y := ⟨_, rfl⟩
     have HY := Lib.hid (show DjS w G F yy R5 w5 by rw [← hyy]; exact H5.out)
     have hdk : (fC 2).dec R0 = (yy.m, R5) := by rw [← hyy]; exact (by show clrC.dec R0 = _; unfold clrC; rw [as_dec]; simp only [pair_dec, D0.out, D1.out, D2.out, D3.out, D4.out]; rfl)
     have hq0 : R = (if Rc.endE R5 ≠ 0 then (M.zero, Rc.endE R5) else if Rc.may yy.m then (yy.m, 0) else (M.zero, 11)) := by rw [HRK.out]; unfold Rc.decF; rw [hdk]
     have hsm : Small yy := small_of (by have g := smm_dec 2 (.inl rfl) R0; rw [hdk] at g; exact g)
     have HQ := Lib.hid (And.intro hq0 hsm)
     clear hdk
     clear hyy hsm hq0
     refine (refREnd_any (w.heap.size + 1) R5 F w5 HY.out.rd HL5.out).mono ?_
     rintro e xe ⟨rfl, h, hf⟩
     have HS := Lib.hid (HY.out.call h hf)
     obtain ⟨E, hE⟩ : ∃ E, Rc.endE R5 = E := ⟨_, rfl⟩
     rw [show (Sl.try_ R5 (Sl.endF R5.b)).e = E from hE]
     have HEE := Lib.hid hE
     have hres := HS.out.res
     have hbox := HS.out.box
     clear h hf hE
     rcases Nat.eq_zero_or_pos E with rfl | hpos
     ·
      go_wp2_with (refine wpList_load_rec' _ (by rfl) (by rfl) (by rfl) hbox ?_)
      refine (fmay_any yy xe HS.out.ok HQ.out.2).mono ?_
      cases hm : Rc.may yy.m with
      | false =>
       rintro e w6 ⟨rfl, hb6⟩
       have hq : R = (M.zero, 11) := by rw [HQ.out.1, HEE.out, if_neg (by decide), hm, if_neg (by decide)]
       have HT := Lib.hid (And.intro hq (HS.out.hb.trans (hb6.mono HS.out.hb.size)))
       have hres := hres.below hb6 hres.lt
       clear hq hb6 hbox
       go_wp2_with (refine wpList_store_rec (MD.k0 0) (by rfl) _ _ (by rfl) (by rfl) (by rfl) hres (by rfl) ?_; intro w9 hB9 hF9 hS9)
       exact bodyPost_ret (rdec_results hB9 rfl rfl) rfl (recD_err HT.out.1 HT.out.2 hF9)
      | true =>
       rintro e w6 ⟨rfl, hb6⟩
       have hq : R = (yy.m, 0) := by rw [HQ.out.1, HEE.out, if_neg (by decide), hm, if_pos rfl]
       have HT := Lib.hid (And.intro hq (And.intro (HS.out.hb.trans (hb6.mono HS.out.hb.size)) (HS.out.ok.below hb6)))
       have hres := hres.below hb6 hres.lt
       have hbox := hbox.below hb6 hbox.lt
       clear hq hb6
       go_wp2_with (first | (refine wpList_load_rec' _ (by rfl) (by rfl) (by rfl) hbox ?_) | (refine wpList_store_rec yy (by rfl) _ _ (by rfl) (by rfl) (by rfl) hres (by rfl) ?_; intro w9 hB9 hF9 hS9))
       exact bodyPost_ret (rdec_results hB9 rfl rfl) rfl (by rw [HT.out.1]; exact ⟨yy, rfl, rfl, HT.out.2.2.fr HS.out.ap hF9 (fun j e => by have e : j = w.heap.size := e; have := HS.out.hG; omega), HS.out.ap.mono (by have := HS.out.hG; omega), HT.out.2.1.trans (hF9.below HT.out.2.1.size (fun j hj => by have e : j = w.heap.size := hj; omega))⟩)
     ·
      have hd : ((E : Int) != 0) = true := by rw [bne_iff_ne]; omega
      have hq : R = (M.zero, E) := by rw [HQ.out.1, HEE.out, if_pos (by omega)]
      have HT := Lib.hid hq
      clear hq hbox
      go_wp2_with (refine wpList_store_rec (MD.k0 0) (by rfl) _ _ (by rfl) (by rfl) (by rfl) hres (by rfl) ?_; intro w9 hB9 hF9 hS9)
      exact bodyPost_ret (rdec_results hB9 rfl rfl) rfl (recD_err HT.out HS.out.hb hF9)
    ·
     clear hko h456
     go_wp2_with fail
     refine (fr_num (w.heap.size + 1) R0 F 1099511627776 w0 H0.out.rd (by omega) HL0.out).mono ?_
     rintro e x0 ⟨rfl, h, hf⟩
     obtain ⟨v0, hv0⟩ : ∃ v, (nC.dec R0).1 = v := ⟨_, rfl⟩
     obtain ⟨R1, hr0⟩ : ∃ v, (nC.dec R0).2 = v := ⟨_, rfl⟩
     have D0 := Lib.hid (show nC.dec R0 = (v0, R1) from Prod.ext hv0 hr0)
     have HL1 := Lib.hid (show R1.b.length ≤ 140737488351232 from by rw [← hr0]; exact Nat.le_trans (nC.le R0) HL0.out)
     have hv0' : Cd.one R0 1099511627776 = v0 := hv0
     have hr0' : Cd.next R0 1099511627776 = R1 := hr0
     rw [hv0']
     rw [hr0'] at h
     clear hv0' hr0'
     have S0 := Lib.hid (H0.out.call h hf)
     have u1 : x0.cell? ⟨G, 1, none⟩ = some (.int .i64 0) := S0.out.box.cell 1
     have z1 := S0.out.box.free 1
     obtain ⟨w1, hw⟩ : ∃ u, x0.setCell ⟨G, 1, none⟩ (.int .i64 v0) = u := ⟨_, rfl⟩
     have H1 := Lib.hid (show DjS w G F ({ MD.k0 3 with tx := v0 } : MD) R1 w1 by rw [← hw]; exact S0.out.put0 1 _ rfl rfl)
     have c0 : w1.cell? ⟨G, 0, none⟩ = some (.int .i64 3) := H1.out.box.cell 0
     clear hv0 hr0 h hf
     go_wp2_with fail
     clear u1 z1 hw
     refine (fr_num (w.heap.size + 1) R1 F 1099511627776 w1 H1.out.rd (by omega) HL1.out).mono ?_
     rintro e x1 ⟨rfl, h, hf⟩
     obtain ⟨v1, hv1⟩ : ∃ v, (nC.dec R1).1 = v := ⟨_, rfl⟩
     obtain ⟨R2, hr1⟩ : ∃ v, (nC.dec R1).2 = v := ⟨_, rfl⟩
     have D1 := Lib.hid (show nC.dec R1 = (v1, R2) from Prod.ext hv1 hr1)
     have HL2 := Lib.hid (show R2.b.length ≤ 140737488351232 from by rw [← hr1]; exact Nat.le_trans (nC.le R1) HL1.out)
     have hv1' : Cd.one R1 1099511627776 = v1 := hv1
     have hr1' : Cd.next R1 1099511627776 = R2 := hr1
     rw [hv1']
     rw [hr1'] at h
     clear hv1' hr1'
     have S1 := Lib.hid (H1.out.call h hf)
     have u1 : x1.cell? ⟨G, 2, none⟩ = some (.int .i64 0) := S1.out.box.cell 2
     have z1 := S1.out.box.free 2
     obtain ⟨w2, hw⟩ : ∃ u, x1.setCell ⟨G, 2, none⟩ (.int .i64 v1) = u := ⟨_, rfl⟩
     have H2 := Lib.hid (show DjS w G F ({ MD.k0 3 with tx := v0, prev := v1 } : MD) R2 w2 by rw [← hw]; exact S1.out.put0 2 _ rfl rfl)
     have c0 : w2.cell? ⟨G, 0, none⟩ = some (.int .i64 3) := H2.out.box.cell 0
     clear hv1 hr1 h hf
     go_wp2_with fail
     clear u1 z1 hw
     refine (fr_num (w.heap.size + 1) R2 F 1099511627776 w2 H2.out.rd (by omega) HL2.out).mono ?_
     rintro e x2 ⟨rfl, h, hf⟩
     obtain ⟨v2, hv2⟩ : ∃ v, (nC.dec R2).1 = v := ⟨_, rfl⟩
     obtain ⟨R3, hr2⟩ : ∃ v, (nC.dec R2).2 = v := ⟨_, rfl⟩
     have D2 := Lib.hid (show nC.dec R2 = (v2, R3) from Prod.ext hv2 hr2)
     have HL3 := Lib.hid (show R3.b.length ≤ 140737488351232 from by rw [← hr2]; exact Nat.le_trans (nC.le R2) HL2.out)
     have hv2' : Cd.one R2 1099511627776 = v2 := hv2
     have hr2' : Cd.next R2 1099511627776 = R3 := hr2
     rw [hv2']
     rw [hr2'] at h
     clear hv2' hr2'
     have S2 := Lib.hid (H2.out.call h hf)
     have u1 : x2.cell? ⟨G, 9, none⟩ = some (.int .i64 0) := S2.out.box.cell 9
     have z1 := S2.out.box.free 9
     obtain ⟨w3, hw⟩ : ∃ u, x2.setCell ⟨G, 9, none⟩ (.int .i64 v2) = u := ⟨_, rfl⟩
     have H3 := Lib.hid (show DjS w G F ({ MD.k0 3 with tx := v0, prev := v1, coord := v2 } : MD) R3 w3 by rw [← hw]; exact S2.out.put0 9 _ rfl rfl)
     have c0 : w3.cell? ⟨G, 0, none⟩ = some (.int .i64 3) := H3.out.box.cell 0
     clear hv2 hr2 h hf
     go_wp2_with fail
     clear u1 z1 hw
     refine (frints_any (w.heap.size + 1) R3 F w3 H3.out.rd HL3.out).mono ?_
     intro e x3 hh
     obtain ⟨Am, cm, he, h, hf, his, hcap, hnew⟩ := rl_ints hh
     subst he
     obtain ⟨v3, hv3⟩ : ∃ v, (iC.dec R3).1 = v := ⟨_, rfl⟩
     obtain ⟨R4, hr3⟩ : ∃ v, (iC.dec R3).2 = v := ⟨_, rfl⟩
     have D3 := Lib.hid (show iC.dec R3 = (v3, R4) from Prod.ext hv3 hr3)
     have HL4 := Lib.hid (show R4.b.length ≤ 140737488351232 from by rw [← hr3]; exact Nat.le_trans (iC.le R3) HL3.out)
     rw [hv3] at his hcap ⊢
     rw [hr3] at h
     obtain ⟨nm, hnm⟩ : ∃ n, v3.length = n := ⟨_, rfl⟩
     rw [hnm]
     have S3 := Lib.hid (H3.out.call h hf)
     have u1 : x3.cell? ⟨G, 10, none⟩ = some (.slice none 0 0) := S3.out.box.cell 10
     have z1 := S3.out.box.free 10
     obtain ⟨w4, hw⟩ : ∃ u, x3.setCell ⟨G, 10, none⟩ (.slice Am nm cm) = u := ⟨_, rfl⟩
     have H4 := Lib.hid (show DjS w G F ({ MD.k0 3 with tx := v0, prev := v1, coord := v2, mem := v3, mA := Am, mc := cm } : MD) R4 w4 by rw [← hw]; exact S3.out.put 10 _ (by rw [← hnm]; rfl) ⟨his, hcap, S3.out.ok.locks, S3.out.ok.lc, S3.out.ok.rows, S3.out.ok.rc, S3.out.ok.dirty, S3.out.ok.dc, S3.out.ok.deeds, S3.out.ok.ec, S3.out.ok.past, S3.out.ok.pc⟩ ⟨fun a e => by have := hnew a e; have := H3.out.box.lt; omega, S3.out.ap.locks, S3.out.ap.rows, S3.out.ap.dirty, S3.out.ap.deeds, S3.out.ap.past, S3.out.ap.row, S3.out.ap.deed⟩)
     have c0 : w4.cell? ⟨G, 0, none⟩ = some (.int .i64 3) := H4.out.box.cell 0
     clear hv3 hr3 h hf his hcap hnew hnm hh
     go_wp2_with fail
     clear u1 z1 hw
     refine (frlocks_any (w.heap.size + 1) R4 F w4 H4.out.rd HL4.out).mono ?_
     intro e x4 hh
     obtain ⟨Al, cl, he, h, hf, hls, hcapl, hnewl⟩ := rl_locks hh
     subst he
     obtain ⟨v4, hv4⟩ : ∃ v, (lsC.dec R4).1 = v := ⟨_, rfl⟩
     obtain ⟨R5, hr4⟩ : ∃ v, (lsC.dec R4).2 = v := ⟨_, rfl⟩
     have D4 := Lib.hid (show lsC.dec R4 = (v4, R5) from Prod.ext hv4 hr4)
     have HL5 := Lib.hid (show R5.b.length ≤ 140737488351232 from by rw [← hr4]; exact Nat.le_trans (lsC.le R4) HL4.out)
     rw [hv4] at hls hcapl ⊢
     rw [hr4] at h
     obtain ⟨nl, hnl⟩ : ∃ n, v4.length = n := ⟨_, rfl⟩
     rw [hnl]
     have S4 := Lib.hid (H4.out.call h hf)
     have u1 : x4.cell? ⟨G, 11, none⟩ = some (.slice none 0 0) := S4.out.box.cell 11
     have z1 := S4.out.box.free 11
     obtain ⟨w5, hw⟩ : ∃ u, x4.setCell ⟨G, 11, none⟩ (.slice Al nl cl) = u := ⟨_, rfl⟩
     have H5 := Lib.hid (show DjS w G F ({ MD.k0 3 with tx := v0, prev := v1, coord := v2, mem := v3, mA := Am, mc := cm, locks := v4, lA := Al, lc := cl } : MD) R5 w5 by rw [← hw]; exact S4.out.put 11 _ (by rw [← hnl]; rfl) ⟨S4.out.ok.mem, S4.out.ok.mc, hls, hcapl, S4.out.ok.rows, S4.out.ok.rc, S4.out.ok.dirty, S4.out.ok.dc, S4.out.ok.deeds, S4.out.ok.ec, S4.out.ok.past, S4.out.ok.pc⟩ ⟨S4.out.ap.mem, fun a e => by have := hnewl a e; have := H4.out.box.lt; omega, S4.out.ap.rows, S4.out.ap.dirty, S4.out.ap.deeds, S4.out.ap.past, S4.out.ap.row, S4.out.ap.deed⟩)
     have c0 : w5.cell? ⟨G, 0, none⟩ = some (.int .i64 3) := H5.out.box.cell 0
     clear hv4 hr4 h hf hls hcapl hnewl hnl hh
     go_wp2_with fail
     clear u1 z1 hw
     obtain ⟨yy, hyy⟩ : ∃ y, ({ MD.k0 3 with tx := v0, prev := v1, coord := v2, mem := v3, mA := Am, mc := cm, locks := v4, lA := Al, lc := cl } : MD) = y := ⟨_, rfl⟩
     have HY := Lib.hid (show DjS w G F yy R5 w5 by rw [← hyy]; exact H5.out)
     have hdk : (fC 3).dec R0 = (yy.m, R5) := by rw [← hyy]; exact (by show prepC.dec R0 = _; unfold prepC; rw [as_dec]; simp only [pair_dec, D0.out, D1.out, D2.out, D3.out, D4.out]; rfl)
     have hq0 : R = (if Rc.endE R5 ≠ 0 then (M.zero, Rc.endE R5) else if Rc.may yy.m then (yy.m, 0) else (M.zero, 11)) := by rw [HRK.out]; unfold Rc.decF; rw [hdk]
     have hsm : Small yy := small_of (by have g := smm_dec 3 (.inl rfl) R0; rw [hdk] at g; exact g)
     have HQ := Lib.hid (And.intro hq0 hsm)
     clear hdk
     clear hyy hsm hq0
     refine (refREnd_any (w.heap.size + 1) R5 F w5 HY.out.rd HL5.out).mono ?_
     rintro e xe ⟨rfl, h, hf⟩
     have HS := Lib.hid (HY.out.call h hf)
     obtain ⟨E, hE⟩ : ∃ E, Rc.endE R5 = E := ⟨_, rfl⟩
     rw [show (Sl.try_ R5 (Sl.endF R5.b)).e = E from hE]
     have HEE := Lib.hid hE
     have hres := HS.out.res
     have hbox := HS.out.box
     clear h hf hE
     rcases Nat.eq_zero_or_pos E with rfl | hpos
     ·
      go_wp2_with (refine wpList_load_rec' _ (by rfl) (by rfl) (by rfl) hbox ?_)
      refine (fmay_any yy xe HS.out.ok HQ.out.2).mono ?_
      cases hm : Rc.may yy.m with
      | false =>
       rintro e w6 ⟨rfl, hb6⟩
       have hq : R = (M.zero, 11) := by rw [HQ.out.1, HEE.out, if_neg (by decide), hm, if_neg (by decide)]
       have HT := Lib.hid (And.intro hq (HS.out.hb.trans (hb6.mono HS.out.hb.size)))
       have hres := hres.below hb6 hres.lt
       clear hq hb6 hbox
       go_wp2_with (refine wpList_store_rec (MD.k0 0) (by rfl) _ _ (by rfl) (by rfl) (by rfl) hres (by rfl) ?_; intro w9 hB9 hF9 hS9)
       exact bodyPost_ret (rdec_results hB9 rfl rfl) rfl (recD_err HT.out.1 HT.out.2 hF9)
      | true =>
       rintro e w6 ⟨rfl, hb6⟩
       have hq : R = (yy.m, 0) := by rw [HQ.out.1, HEE.out, if_neg (by decide), hm, if_pos rfl]
       have HT := Lib.hid (And.intro hq (And.intro (HS.out.hb.trans (hb6.mono HS.out.hb.size)) (HS.out.ok.below hb6)))
       have hres := hres.below hb6 hres.lt
       have hbox := hbox.below hb6 hbox.lt
       clear hq hb6
       go_wp2_with (first | (refine wpList_load_rec' _ (by rfl) (by rfl) (by rfl) hbox ?_) | (refine wpList_store_rec yy (by rfl) _ _ (by rfl) (by rfl) (by rfl) hres (by rfl) ?_; intro w9 hB9 hF9 hS9))
       exact bodyPost_ret (rdec_results hB9 rfl rfl) rfl (by rw [HT.out.1]; exact ⟨yy, rfl, rfl, HT.out.2.2.fr HS.out.ap hF9 (fun j e => by have e : j = w.heap.size := e; have := HS.out.hG; omega), HS.out.ap.mono (by have := HS.out.hG; omega), HT.out.2.1.trans (hF9.below HT.out.2.1.size (fun j hj => by have e : j = w.heap.size := hj; omega))⟩)
     ·
      have hd : ((E : Int) != 0) = true := by rw [bne_iff_ne]; omega
      have hq : R = (M.zero, E) := by rw [HQ.out.1, HEE.out, if_pos (by omega)]
      have HT := Lib.hid hq
      clear hq hbox
      go_wp2_with (refine wpList_store_rec (MD.k0 0) (by rfl) _ _ (by rfl) (by rfl) (by rfl) hres (by rfl) ?_; intro w9 hB9 hF9 hS9)
      exact bodyPost_ret (rdec_results hB9 rfl rfl) rfl (recD_err HT.out HS.out.hb hF9)
    ·
     exact absurd (by omega) h456
    ·
     exact absurd (by omega) h456
    ·
     exact absurd (by omega) h456
    ·
     clear hko h456
     go_wp2_with fail
     obtain ⟨yy, hyy⟩ : ∃ y, MD.k0 7 = y := ⟨_, rfl⟩
     have HY := Lib.hid (show DjS w G F yy R0 w0 by rw [← hyy]; exact H0.out)
     have hdk : (fC 7).dec R0 = (yy.m, R0) := by rw [← hyy]; exact (rfl)
     have hq0 : R = (if Rc.endE R0 ≠ 0 then (M.zero, Rc.endE R0) else if Rc.may yy.m then (yy.m, 0) else (M.zero, 11)) := by rw [HRK.out]; unfold Rc.decF; rw [hdk]
     have hsm : Small yy := small_of (by have g := smm_dec 7 (.inl rfl) R0; rw [hdk] at g; exact g)
     have HQ := Lib.hid (And.intro hq0 hsm)
     clear hdk
     clear hyy hsm hq0
     refine (refREnd_any (w.heap.size + 1) R0 F w0 HY.out.rd HL0.out).mono ?_
     rintro e xe ⟨rfl, h, hf⟩
     have HS := Lib.hid (HY.out.call h hf)
     obtain ⟨E, hE⟩ : ∃ E, Rc.endE R0 = E := ⟨_, rfl⟩
     rw [show (Sl.try_ R0 (Sl.endF R0.b)).e = E from hE]
     have HEE := Lib.hid hE
     have hres := HS.out.res
     have hbox := HS.out.box
     clear h hf hE
     rcases Nat.eq_zero_or_pos E with rfl | hpos
     ·
      go_wp2_with (refine wpList_load_rec' _ (by rfl) (by rfl) (by rfl) hbox ?_)
      refine (fmay_any yy xe HS.out.ok HQ.out.2).mono ?_
      cases hm : Rc.may yy.m with
      | false =>
       rintro e w6 ⟨rfl, hb6⟩
       have hq : R = (M.zero, 11) := by rw [HQ.out.1, HEE.out, if_neg (by decide), hm, if_neg (by decide)]
       have HT := Lib.hid (And.intro hq (HS.out.hb.trans (hb6.mono HS.out.hb.size)))
       have hres := hres.below hb6 hres.lt
       clear hq hb6 hbox
       go_wp2_with (refine wpList_store_rec (MD.k0 0) (by rfl) _ _ (by rfl) (by rfl) (by rfl) hres (by rfl) ?_; intro w9 hB9 hF9 hS9)
       exact bodyPost_ret (rdec_results hB9 rfl rfl) rfl (recD_err HT.out.1 HT.out.2 hF9)
      | true =>
       rintro e w6 ⟨rfl, hb6⟩
       have hq : R = (yy.m, 0) := by rw [HQ.out.1, HEE.out, if_neg (by decide), hm, if_pos rfl]
       have HT := Lib.hid (And.intro hq (And.intro (HS.out.hb.trans (hb6.mono HS.out.hb.size)) (HS.out.ok.below hb6)))
       have hres := hres.below hb6 hres.lt
       have hbox := hbox.below hb6 hbox.lt
       clear hq hb6
       go_wp2_with (first | (refine wpList_load_rec' _ (by rfl) (by rfl) (by rfl) hbox ?_) | (refine wpList_store_rec yy (by rfl) _ _ (by rfl) (by rfl) (by rfl) hres (by rfl) ?_; intro w9 hB9 hF9 hS9))
       exact bodyPost_ret (rdec_results hB9 rfl rfl) rfl (by rw [HT.out.1]; exact ⟨yy, rfl, rfl, HT.out.2.2.fr HS.out.ap hF9 (fun j e => by have e : j = w.heap.size := e; have := HS.out.hG; omega), HS.out.ap.mono (by have := HS.out.hG; omega), HT.out.2.1.trans (hF9.below HT.out.2.1.size (fun j hj => by have e : j = w.heap.size := hj; omega))⟩)
     ·
      have hd : ((E : Int) != 0) = true := by rw [bne_iff_ne]; omega
      have hq : R = (M.zero, E) := by rw [HQ.out.1, HEE.out, if_pos (by omega)]
      have HT := Lib.hid hq
      clear hq hbox
      go_wp2_with (refine wpList_store_rec (MD.k0 0) (by rfl) _ _ (by rfl) (by rfl) (by rfl) hres (by rfl) ?_; intro w9 hB9 hF9 hS9)
      exact bodyPost_ret (rdec_results hB9 rfl rfl) rfl (recD_err HT.out HS.out.hb hF9)
    ·
     clear hko h456
     have hbx0 := H0.out.box
     go_wp2_with (refine wpList_load_rec' _ (by rfl) (by rfl) (by rfl) hbx0 ?_)
     refine (frlists_any (w.heap.size + 1) R0 F w0 H0.out.rd HL0.out).mono ?_
     rintro e x0 ⟨yl, rfl, hym, h, hf, hyo, hya⟩
     obtain ⟨R1, hr0⟩ : ∃ v, (chkC.dec R0).2 = v := ⟨_, rfl⟩
     have D0 := Lib.hid (show chkC.dec R0 = (yl.m, R1) from Prod.ext hym.symm hr0)
     have HL1 := Lib.hid (show R1.b.length ≤ 140737488351232 from by rw [← hr0]; exact Nat.le_trans (chkC.le R0) HL0.out)
     rw [hr0] at h
     have S0 := Lib.hid (H0.out.call h hf)
     have hbx := S0.out.box
     go_upto_region 11 with (refine wpList_store_rec yl (by rfl) _ _ (by rfl) (by rfl) (by rfl) hbx (by rfl) ?_; intro w1 hB hF hS)
     have hya3 : MAp (G + 1) yl := hya.mono (by have := H0.out.box.lt; omega)
     have hyk : yl.kind = 8 := by have g := congrArg M.kind hym; rw [chk_dec] at g; exact g
     have H1 := Lib.hid (show DjS w G F yl R1 w1 from ⟨S0.out.hb.trans (hF.below S0.out.hb.size (fun i hi => by have e : i = G := hi; have := S0.out.hG; omega)), S0.out.res.keep (hF.block _ S0.out.res.lt (fun e => by have e : w.heap.size = G := e; have := S0.out.hG; omega)), hB, S0.out.rd.fr hF (fun i hi e => (S0.out.foot i hi).2 e), hyo.fr hya3 hF (fun i e => by have e : i = G := e; omega), hya3, S0.out.foot, S0.out.hG⟩)
     have c0 : w1.cell? ⟨G, 0, none⟩ = some (.int .i64 8) := (H1.out.box.cell 0).trans (by show some (Value.int .i64 yl.kind) = _; rw [hyk])
     clear hr0 h hf hym hyo hya hya3 hyk hbx hB hF hS
     go_wp2_with fail
     obtain ⟨yy, hyy⟩ : ∃ y, yl = y := ⟨_, rfl⟩
     have HY := Lib.hid (show DjS w G F yy R1 w1 by rw [← hyy]; exact H1.out)
     have hdk : (fC 8).dec R0 = (yy.m, R1) := by rw [← hyy]; exact (D0.out)
     have hq0 : R = (if Rc.endE R1 ≠ 0 then (M.zero, Rc.endE R1) else if Rc.may yy.m then (yy.m, 0) else (M.zero, 11)) := by rw [HRK.out]; unfold Rc.decF; rw [hdk]
     have hsm : Small yy := small_of (by have g := smm_dec 8 (.inl rfl) R0; rw [hdk] at g; exact g)
     have HQ := Lib.hid (And.intro hq0 hsm)
     clear hdk
     clear hyy hsm hq0
     refine (refREnd_any (w.heap.size + 1) R1 F w1 HY.out.rd HL1.out).mono ?_
     rintro e xe ⟨rfl, h, hf⟩
     have HS := Lib.hid (HY.out.call h hf)
     obtain ⟨E, hE⟩ : ∃ E, Rc.endE R1 = E := ⟨_, rfl⟩
     rw [show (Sl.try_ R1 (Sl.endF R1.b)).e = E from hE]
     have HEE := Lib.hid hE
     have hres := HS.out.res
     have hbox := HS.out.box
     clear h hf hE
     rcases Nat.eq_zero_or_pos E with rfl | hpos
     ·
      go_wp2_with (refine wpList_load_rec' _ (by rfl) (by rfl) (by rfl) hbox ?_)
      refine (fmay_any yy xe HS.out.ok HQ.out.2).mono ?_
      cases hm : Rc.may yy.m with
      | false =>
       rintro e w6 ⟨rfl, hb6⟩
       have hq : R = (M.zero, 11) := by rw [HQ.out.1, HEE.out, if_neg (by decide), hm, if_neg (by decide)]
       have HT := Lib.hid (And.intro hq (HS.out.hb.trans (hb6.mono HS.out.hb.size)))
       have hres := hres.below hb6 hres.lt
       clear hq hb6 hbox
       go_wp2_with (refine wpList_store_rec (MD.k0 0) (by rfl) _ _ (by rfl) (by rfl) (by rfl) hres (by rfl) ?_; intro w9 hB9 hF9 hS9)
       exact bodyPost_ret (rdec_results hB9 rfl rfl) rfl (recD_err HT.out.1 HT.out.2 hF9)
      | true =>
       rintro e w6 ⟨rfl, hb6⟩
       have hq : R = (yy.m, 0) := by rw [HQ.out.1, HEE.out, if_neg (by decide), hm, if_pos rfl]
       have HT := Lib.hid (And.intro hq (And.intro (HS.out.hb.trans (hb6.mono HS.out.hb.size)) (HS.out.ok.below hb6)))
       have hres := hres.below hb6 hres.lt
       have hbox := hbox.below hb6 hbox.lt
       clear hq hb6
       go_wp2_with (first | (refine wpList_load_rec' _ (by rfl) (by rfl) (by rfl) hbox ?_) | (refine wpList_store_rec yy (by rfl) _ _ (by rfl) (by rfl) (by rfl) hres (by rfl) ?_; intro w9 hB9 hF9 hS9))
       exact bodyPost_ret (rdec_results hB9 rfl rfl) rfl (by rw [HT.out.1]; exact ⟨yy, rfl, rfl, HT.out.2.2.fr HS.out.ap hF9 (fun j e => by have e : j = w.heap.size := e; have := HS.out.hG; omega), HS.out.ap.mono (by have := HS.out.hG; omega), HT.out.2.1.trans (hF9.below HT.out.2.1.size (fun j hj => by have e : j = w.heap.size := hj; omega))⟩)
     ·
      have hd : ((E : Int) != 0) = true := by rw [bne_iff_ne]; omega
      have hq : R = (M.zero, E) := by rw [HQ.out.1, HEE.out, if_pos (by omega)]
      have HT := Lib.hid hq
      clear hq hbox
      go_wp2_with (refine wpList_store_rec (MD.k0 0) (by rfl) _ _ (by rfl) (by rfl) (by rfl) hres (by rfl) ?_; intro w9 hB9 hF9 hS9)
      exact bodyPost_ret (rdec_results hB9 rfl rfl) rfl (recD_err HT.out HS.out.hb hF9)
    ·
     clear hko h456
     go_wp2_with fail
     refine (fr_num (w.heap.size + 1) R0 F 1099511627776 w0 H0.out.rd (by omega) HL0.out).mono ?_
     rintro e x0 ⟨rfl, h, hf⟩
     obtain ⟨v0, hv0⟩ : ∃ v, (nC.dec R0).1 = v := ⟨_, rfl⟩
     obtain ⟨R1, hr0⟩ : ∃ v, (nC.dec R0).2 = v := ⟨_, rfl⟩
     have D0 := Lib.hid (show nC.dec R0 = (v0, R1) from Prod.ext hv0 hr0)
     have HL1 := Lib.hid (show R1.b.length ≤ 140737488351232 from by rw [← hr0]; exact Nat.le_trans (nC.le R0) HL0.out)
     have hv0' : Cd.one R0 1099511627776 = v0 := hv0
     have hr0' : Cd.next R0 1099511627776 = R1 := hr0
     rw [hv0']
     rw [hr0'] at h
     clear hv0' hr0'
     have S0 := Lib.hid (H0.out.call h hf)
     have u1 : x0.cell? ⟨G, 1, none⟩ = some (.int .i64 0) := S0.out.box.cell 1
     have z1 := S0.out.box.free 1
     obtain ⟨w1, hw⟩ : ∃ u, x0.setCell ⟨G, 1, none⟩ (.int .i64 v0) = u := ⟨_, rfl⟩
     have H1 := Lib.hid (show DjS w G F ({ MD.k0 9 with tx := v0 } : MD) R1 w1 by rw [← hw]; exact S0.out.put0 1 _ rfl rfl)
     have c0 : w1.cell? ⟨G, 0, none⟩ = some (.int .i64 9) := H1.out.box.cell 0
     clear hv0 hr0 h hf
     go_wp2_with fail
     clear u1 z1 hw
     refine (frints_any (w.heap.size + 1) R1 F w1 H1.out.rd HL1.out).mono ?_
     intro e x1 hh
     obtain ⟨Am, cm, he, h, hf, his, hcap, hnew⟩ := rl_ints hh
     subst he
     obtain ⟨v1, hv1⟩ : ∃ v, (iC.dec R1).1 = v := ⟨_, rfl⟩
     obtain ⟨R2, hr1⟩ : ∃ v, (iC.dec R1).2 = v := ⟨_, rfl⟩
     have D1 := Lib.hid (show iC.dec R1 = (v1, R2) from Prod.ext hv1 hr1)
     have HL2 := Lib.hid (show R2.b.length ≤ 140737488351232 from by rw [← hr1]; exact Nat.le_trans (iC.le R1) HL1.out)
     rw [hv1] at his hcap ⊢
     rw [hr1] at h
     obtain ⟨nm, hnm⟩ : ∃ n, v1.length = n := ⟨_, rfl⟩
     rw [hnm]
     have S1 := Lib.hid (H1.out.call h hf)
     have u1 : x1.cell? ⟨G, 10, none⟩ = some (.slice none 0 0) := S1.out.box.cell 10
     have z1 := S1.out.box.free 10
     obtain ⟨w2, hw⟩ : ∃ u, x1.setCell ⟨G, 10, none⟩ (.slice Am nm cm) = u := ⟨_, rfl⟩
     have H2 := Lib.hid (show DjS w G F ({ MD.k0 9 with tx := v0, mem := v1, mA := Am, mc := cm } : MD) R2 w2 by rw [← hw]; exact S1.out.put 10 _ (by rw [← hnm]; rfl) ⟨his, hcap, S1.out.ok.locks, S1.out.ok.lc, S1.out.ok.rows, S1.out.ok.rc, S1.out.ok.dirty, S1.out.ok.dc, S1.out.ok.deeds, S1.out.ok.ec, S1.out.ok.past, S1.out.ok.pc⟩ ⟨fun a e => by have := hnew a e; have := H1.out.box.lt; omega, S1.out.ap.locks, S1.out.ap.rows, S1.out.ap.dirty, S1.out.ap.deeds, S1.out.ap.past, S1.out.ap.row, S1.out.ap.deed⟩)
     have c0 : w2.cell? ⟨G, 0, none⟩ = some (.int .i64 9) := H2.out.box.cell 0
     clear hv1 hr1 h hf his hcap hnew hnm hh
     go_wp2_with fail
     clear u1 z1 hw
     obtain ⟨yy, hyy⟩ : ∃ y, ({ MD.k0 9 with tx := v0, mem := v1, mA := Am, mc := cm } : MD) = y := ⟨_, rfl⟩
     have HY := Lib.hid (show DjS w G F yy R2 w2 by rw [← hyy]; exact H2.out)
     have hdk : (fC 9).dec R0 = (yy.m, R2) := by rw [← hyy]; exact (by show decC.dec R0 = _; unfold decC; rw [as_dec]; simp only [pair_dec, D0.out, D1.out]; rfl)
     have hq0 : R = (if Rc.endE R2 ≠ 0 then (M.zero, Rc.endE R2) else if Rc.may yy.m then (yy.m, 0) else (M.zero, 11)) := by rw [HRK.out]; unfold Rc.decF; rw [hdk]
     have hsm : Small yy := small_of (by have g := smm_dec 9 (.inl rfl) R0; rw [hdk] at g; exact g)
     have HQ := Lib.hid (And.intro hq0 hsm)
     clear hdk
     clear hyy hsm hq0
     refine (refREnd_any (w.heap.size + 1) R2 F w2 HY.out.rd HL2.out).mono ?_
     rintro e xe ⟨rfl, h, hf⟩
     have HS := Lib.hid (HY.out.call h hf)
     obtain ⟨E, hE⟩ : ∃ E, Rc.endE R2 = E := ⟨_, rfl⟩
     rw [show (Sl.try_ R2 (Sl.endF R2.b)).e = E from hE]
     have HEE := Lib.hid hE
     have hres := HS.out.res
     have hbox := HS.out.box
     clear h hf hE
     rcases Nat.eq_zero_or_pos E with rfl | hpos
     ·
      go_wp2_with (refine wpList_load_rec' _ (by rfl) (by rfl) (by rfl) hbox ?_)
      refine (fmay_any yy xe HS.out.ok HQ.out.2).mono ?_
      cases hm : Rc.may yy.m with
      | false =>
       rintro e w6 ⟨rfl, hb6⟩
       have hq : R = (M.zero, 11) := by rw [HQ.out.1, HEE.out, if_neg (by decide), hm, if_neg (by decide)]
       have HT := Lib.hid (And.intro hq (HS.out.hb.trans (hb6.mono HS.out.hb.size)))
       have hres := hres.below hb6 hres.lt
       clear hq hb6 hbox
       go_wp2_with (refine wpList_store_rec (MD.k0 0) (by rfl) _ _ (by rfl) (by rfl) (by rfl) hres (by rfl) ?_; intro w9 hB9 hF9 hS9)
       exact bodyPost_ret (rdec_results hB9 rfl rfl) rfl (recD_err HT.out.1 HT.out.2 hF9)
      | true =>
       rintro e w6 ⟨rfl, hb6⟩
       have hq : R = (yy.m, 0) := by rw [HQ.out.1, HEE.out, if_neg (by decide), hm, if_pos rfl]
       have HT := Lib.hid (And.intro hq (And.intro (HS.out.hb.trans (hb6.mono HS.out.hb.size)) (HS.out.ok.below hb6)))
       have hres := hres.below hb6 hres.lt
       have hbox := hbox.below hb6 hbox.lt
       clear hq hb6
       go_wp2_with (first | (refine wpList_load_rec' _ (by rfl) (by rfl) (by rfl) hbox ?_) | (refine wpList_store_rec yy (by rfl) _ _ (by rfl) (by rfl) (by rfl) hres (by rfl) ?_; intro w9 hB9 hF9 hS9))
       exact bodyPost_ret (rdec_results hB9 rfl rfl) rfl (by rw [HT.out.1]; exact ⟨yy, rfl, rfl, HT.out.2.2.fr HS.out.ap hF9 (fun j e => by have e : j = w.heap.size := e; have := HS.out.hG; omega), HS.out.ap.mono (by have := HS.out.hG; omega), HT.out.2.1.trans (hF9.below HT.out.2.1.size (fun j hj => by have e : j = w.heap.size := hj; omega))⟩)
     ·
      have hd : ((E : Int) != 0) = true := by rw [bne_iff_ne]; omega
      have hq : R = (M.zero, E) := by rw [HQ.out.1, HEE.out, if_pos (by omega)]
      have HT := Lib.hid hq
      clear hq hbox
      go_wp2_with (refine wpList_store_rec (MD.k0 0) (by rfl) _ _ (by rfl) (by rfl) (by rfl) hres (by rfl) ?_; intro w9 hB9 hF9 hS9)
      exact bodyPost_ret (rdec_results hB9 rfl rfl) rfl (recD_err HT.out HS.out.hb hF9)
    ·
     clear hko h456
     go_wp2_with fail
     refine (fr_num (w.heap.size + 1) R0 F 1099511627776 w0 H0.out.rd (by omega) HL0.out).mono ?_
     rintro e x0 ⟨rfl, h, hf⟩
     obtain ⟨v0, hv0⟩ : ∃ v, (nC.dec R0).1 = v := ⟨_, rfl⟩
     obtain ⟨R1, hr0⟩ : ∃ v, (nC.dec R0).2 = v := ⟨_, rfl⟩
     have D0 := Lib.hid (show nC.dec R0 = (v0, R1) from Prod.ext hv0 hr0)
     have HL1 := Lib.hid (show R1.b.length ≤ 140737488351232 from by rw [← hr0]; exact Nat.le_trans (nC.le R0) HL0.out)
     have hv0' : Cd.one R0 1099511627776 = v0 := hv0
     have hr0' : Cd.next R0 1099511627776 = R1 := hr0
     rw [hv0']
     rw [hr0'] at h
     clear hv0' hr0'
     have S0 := Lib.hid (H0.out.call h hf)
     have u1 : x0.cell? ⟨G, 1, none⟩ = some (.int .i64 0) := S0.out.box.cell 1
     have z1 := S0.out.box.free 1
     obtain ⟨w1, hw⟩ : ∃ u, x0.setCell ⟨G, 1, none⟩ (.int .i64 v0) = u := ⟨_, rfl⟩
     have H1 := Lib.hid (show DjS w G F ({ MD.k0 10 with tx := v0 } : MD) R1 w1 by rw [← hw]; exact S0.out.put0 1 _ rfl rfl)
     have c0 : w1.cell? ⟨G, 0, none⟩ = some (.int .i64 10) := H1.out.box.cell 0
     clear hv0 hr0 h hf
     go_wp2_with fail
     clear u1 z1 hw
     obtain ⟨yy, hyy⟩ : ∃ y, ({ MD.k0 10 with tx := v0 } : MD) = y := ⟨_, rfl⟩
     have HY := Lib.hid (show DjS w G F yy R1 w1 by rw [← hyy]; exact H1.out)
     have hdk : (fC 10).dec R0 = (yy.m, R1) := by rw [← hyy]; exact (by show forC.dec R0 = _; unfold forC; rw [as_dec]; simp only [pair_dec, D0.out]; rfl)
     have hq0 : R = (if Rc.endE R1 ≠ 0 then (M.zero, Rc.endE R1) else if Rc.may yy.m then (yy.m, 0) else (M.zero, 11)) := by rw [HRK.out]; unfold Rc.decF; rw [hdk]
     have hsm : Small yy := small_of (by have g := smm_dec 10 (.inl rfl) R0; rw [hdk] at g; exact g)
     have HQ := Lib.hid (And.intro hq0 hsm)
     clear hdk
     clear hyy hsm hq0
     refine (refREnd_any (w.heap.size + 1) R1 F w1 HY.out.rd HL1.out).mono ?_
     rintro e xe ⟨rfl, h, hf⟩
     have HS := Lib.hid (HY.out.call h hf)
     obtain ⟨E, hE⟩ : ∃ E, Rc.endE R1 = E := ⟨_, rfl⟩
     rw [show (Sl.try_ R1 (Sl.endF R1.b)).e = E from hE]
     have HEE := Lib.hid hE
     have hres := HS.out.res
     have hbox := HS.out.box
     clear h hf hE
     rcases Nat.eq_zero_or_pos E with rfl | hpos
     ·
      go_wp2_with (refine wpList_load_rec' _ (by rfl) (by rfl) (by rfl) hbox ?_)
      refine (fmay_any yy xe HS.out.ok HQ.out.2).mono ?_
      cases hm : Rc.may yy.m with
      | false =>
       rintro e w6 ⟨rfl, hb6⟩
       have hq : R = (M.zero, 11) := by rw [HQ.out.1, HEE.out, if_neg (by decide), hm, if_neg (by decide)]
       have HT := Lib.hid (And.intro hq (HS.out.hb.trans (hb6.mono HS.out.hb.size)))
       have hres := hres.below hb6 hres.lt
       clear hq hb6 hbox
       go_wp2_with (refine wpList_store_rec (MD.k0 0) (by rfl) _ _ (by rfl) (by rfl) (by rfl) hres (by rfl) ?_; intro w9 hB9 hF9 hS9)
       exact bodyPost_ret (rdec_results hB9 rfl rfl) rfl (recD_err HT.out.1 HT.out.2 hF9)
      | true =>
       rintro e w6 ⟨rfl, hb6⟩
       have hq : R = (yy.m, 0) := by rw [HQ.out.1, HEE.out, if_neg (by decide), hm, if_pos rfl]
       have HT := Lib.hid (And.intro hq (And.intro (HS.out.hb.trans (hb6.mono HS.out.hb.size)) (HS.out.ok.below hb6)))
       have hres := hres.below hb6 hres.lt
       have hbox := hbox.below hb6 hbox.lt
       clear hq hb6
       go_wp2_with (first | (refine wpList_load_rec' _ (by rfl) (by rfl) (by rfl) hbox ?_) | (refine wpList_store_rec yy (by rfl) _ _ (by rfl) (by rfl) (by rfl) hres (by rfl) ?_; intro w9 hB9 hF9 hS9))
       exact bodyPost_ret (rdec_results hB9 rfl rfl) rfl (by rw [HT.out.1]; exact ⟨yy, rfl, rfl, HT.out.2.2.fr HS.out.ap hF9 (fun j e => by have e : j = w.heap.size := e; have := HS.out.hG; omega), HS.out.ap.mono (by have := HS.out.hG; omega), HT.out.2.1.trans (hF9.below HT.out.2.1.size (fun j hj => by have e : j = w.heap.size := hj; omega))⟩)
     ·
      have hd : ((E : Int) != 0) = true := by rw [bne_iff_ne]; omega
      have hq : R = (M.zero, E) := by rw [HQ.out.1, HEE.out, if_pos (by omega)]
      have HT := Lib.hid hq
      clear hq hbox
      go_wp2_with (refine wpList_store_rec (MD.k0 0) (by rfl) _ _ (by rfl) (by rfl) (by rfl) hres (by rfl) ?_; intro w9 hB9 hF9 hS9)
      exact bodyPost_ret (rdec_results hB9 rfl rfl) rfl (recD_err HT.out HS.out.hb hF9)
  ·
   have heb : ((R0.e : Int) == 0) = false := by rw [beq_eq_false_iff_ne]; omega
   have HE0 := Lib.hid he
   generalize ((R0.e : Nat) : Int) = ei at *
   clear he hres
   have hk0 : kk = 0 := by rw [← HK.out.1]; exact one_err _ _ (by rw [HK.out.2]; exact HE0.out)
   subst hk0
   have HRK := Lib.hid (show R = Rc.decF 0 R0 by rw [HRR.out, if_neg (fun h => HE0.out h.1)])
   go_wp2_with fail
   refine (fr_num (w.heap.size + 1) R0 F 1099511627776 w0 H0.out.rd (by omega) HL0.out).mono ?_
   rintro e x0 ⟨rfl, h, hf⟩
   obtain ⟨v0, hv0⟩ : ∃ v, (nC.dec R0).1 = v := ⟨_, rfl⟩
   obtain ⟨R1, hr0⟩ : ∃ v, (nC.dec R0).2 = v := ⟨_, rfl⟩
   have D0 := Lib.hid (show nC.dec R0 = (v0, R1) from Prod.ext hv0 hr0)
   have HL1 := Lib.hid (show R1.b.length ≤ 140737488351232 from by rw [← hr0]; exact Nat.le_trans (nC.le R0) HL0.out)
   have hv0' : Cd.one R0 1099511627776 = v0 := hv0
   have hr0' : Cd.next R0 1099511627776 = R1 := hr0
   rw [hv0']
   rw [hr0'] at h
   clear hv0' hr0'
   have S0 := Lib.hid (H0.out.call h hf)
   have u1 : x0.cell? ⟨G, 1, none⟩ = some (.int .i64 0) := S0.out.box.cell 1
   have z1 := S0.out.box.free 1
   obtain ⟨w1, hw⟩ : ∃ u, x0.setCell ⟨G, 1, none⟩ (.int .i64 v0) = u := ⟨_, rfl⟩
   have H1 := Lib.hid (show DjS w G F ({ MD.k0 0 with tx := v0 } : MD) R1 w1 by rw [← hw]; exact S0.out.put0 1 _ rfl rfl)
   have c0 : w1.cell? ⟨G, 0, none⟩ = some (.int .i64 0) := H1.out.box.cell 0
   clear hv0 hr0 h hf
   go_wp2_with fail
   clear u1 z1 hw
   refine (fr_num (w.heap.size + 1) R1 F 1099511627776 w1 H1.out.rd (by omega) HL1.out).mono ?_
   rintro e x1 ⟨rfl, h, hf⟩
   obtain ⟨v1, hv1⟩ : ∃ v, (nC.dec R1).1 = v := ⟨_, rfl⟩
   obtain ⟨R2, hr1⟩ : ∃ v, (nC.dec R1).2 = v := ⟨_, rfl⟩
   have D1 := Lib.hid (show nC.dec R1 = (v1, R2) from Prod.ext hv1 hr1)
   have HL2 := Lib.hid (show R2.b.length ≤ 140737488351232 from by rw [← hr1]; exact Nat.le_trans (nC.le R1) HL1.out)
   have hv1' : Cd.one R1 1099511627776 = v1 := hv1
   have hr1' : Cd.next R1 1099511627776 = R2 := hr1
   rw [hv1']
   rw [hr1'] at h
   clear hv1' hr1'
   have S1 := Lib.hid (H1.out.call h hf)
   have u1 : x1.cell? ⟨G, 2, none⟩ = some (.int .i64 0) := S1.out.box.cell 2
   have z1 := S1.out.box.free 2
   obtain ⟨w2, hw⟩ : ∃ u, x1.setCell ⟨G, 2, none⟩ (.int .i64 v1) = u := ⟨_, rfl⟩
   have H2 := Lib.hid (show DjS w G F ({ MD.k0 0 with tx := v0, prev := v1 } : MD) R2 w2 by rw [← hw]; exact S1.out.put0 2 _ rfl rfl)
   have c0 : w2.cell? ⟨G, 0, none⟩ = some (.int .i64 0) := H2.out.box.cell 0
   clear hv1 hr1 h hf
   go_wp2_with fail
   clear u1 z1 hw
   obtain ⟨yy, hyy⟩ : ∃ y, ({ MD.k0 0 with tx := v0, prev := v1 } : MD) = y := ⟨_, rfl⟩
   have HY := Lib.hid (show DjS w G F yy R2 w2 by rw [← hyy]; exact H2.out)
   have hq0 : R = (if Rc.endE R2 ≠ 0 then (M.zero, Rc.endE R2) else if Rc.may yy.m then (yy.m, 0) else (M.zero, 11)) := by
    have a1 := D0.out
    have a2 := D1.out
    rw [nC_dec] at a1 a2
    have b1 := (Prod.ext_iff.1 a1).2
    have b2 := (Prod.ext_iff.1 a2).2
    dsimp only at b1 b2
    rw [next_stuck HE0.out] at b1
    subst b1
    rw [next_stuck HE0.out] at b2
    subst b2
    rw [if_pos (by rw [end_stuck HE0.out]; exact HE0.out), HRK.out]
    unfold Rc.decF
    rw [if_pos (by show Rc.endE R0 ≠ 0; rw [end_stuck HE0.out]; exact HE0.out)]
    rfl
   have hsm : Small yy := by rw [← hyy]; exact small_of (have s := smm0 0; ⟨s.mem, s.locks, s.rows, s.dirty, s.deeds, s.past, s.row, s.deed⟩)
   have HQ := Lib.hid (And.intro hq0 hsm)
   clear hyy hsm hq0
   refine (refREnd_any (w.heap.size + 1) R2 F w2 HY.out.rd HL2.out).mono ?_
   rintro e xe ⟨rfl, h, hf⟩
   have HS := Lib.hid (HY.out.call h hf)
   obtain ⟨E, hE⟩ : ∃ E, Rc.endE R2 = E := ⟨_, rfl⟩
   rw [show (Sl.try_ R2 (Sl.endF R2.b)).e = E from hE]
   have HEE := Lib.hid hE
   have hres := HS.out.res
   have hbox := HS.out.box
   clear h hf hE
   rcases Nat.eq_zero_or_pos E with rfl | hpos
   ·
    go_wp2_with (refine wpList_load_rec' _ (by rfl) (by rfl) (by rfl) hbox ?_)
    refine (fmay_any yy xe HS.out.ok HQ.out.2).mono ?_
    cases hm : Rc.may yy.m with
    | false =>
     rintro e w6 ⟨rfl, hb6⟩
     have hq : R = (M.zero, 11) := by rw [HQ.out.1, HEE.out, if_neg (by decide), hm, if_neg (by decide)]
     have HT := Lib.hid (And.intro hq (HS.out.hb.trans (hb6.mono HS.out.hb.size)))
     have hres := hres.below hb6 hres.lt
     clear hq hb6 hbox
     go_wp2_with (refine wpList_store_rec (MD.k0 0) (by rfl) _ _ (by rfl) (by rfl) (by rfl) hres (by rfl) ?_; intro w9 hB9 hF9 hS9)
     exact bodyPost_ret (rdec_results hB9 rfl rfl) rfl (recD_err HT.out.1 HT.out.2 hF9)
    | true =>
     rintro e w6 ⟨rfl, hb6⟩
     have hq : R = (yy.m, 0) := by rw [HQ.out.1, HEE.out, if_neg (by decide), hm, if_pos rfl]
     have HT := Lib.hid (And.intro hq (And.intro (HS.out.hb.trans (hb6.mono HS.out.hb.size)) (HS.out.ok.below hb6)))
     have hres := hres.below hb6 hres.lt
     have hbox := hbox.below hb6 hbox.lt
     clear hq hb6
     go_wp2_with (first | (refine wpList_load_rec' _ (by rfl) (by rfl) (by rfl) hbox ?_) | (refine wpList_store_rec yy (by rfl) _ _ (by rfl) (by rfl) (by rfl) hres (by rfl) ?_; intro w9 hB9 hF9 hS9))
     exact bodyPost_ret (rdec_results hB9 rfl rfl) rfl (by rw [HT.out.1]; exact ⟨yy, rfl, rfl, HT.out.2.2.fr HS.out.ap hF9 (fun j e => by have e : j = w.heap.size := e; have := HS.out.hG; omega), HS.out.ap.mono (by have := HS.out.hG; omega), HT.out.2.1.trans (hF9.below HT.out.2.1.size (fun j hj => by have e : j = w.heap.size := hj; omega))⟩)
   ·
    have hd : ((E : Int) != 0) = true := by rw [bne_iff_ne]; omega
    have hq : R = (M.zero, E) := by rw [HQ.out.1, HEE.out, if_pos (by omega)]
    have HT := Lib.hid hq
    clear hq hbox
    go_wp2_with (refine wpList_store_rec (MD.k0 0) (by rfl) _ _ (by rfl) (by rfl) (by rfl) hres (by rfl) ?_; intro w9 hB9 hF9 hS9)
    exact bodyPost_ret (rdec_results hB9 rfl rfl) rfl (recD_err HT.out HS.out.hb hF9)
end Go.Proofs.Ytlijfnekopjogaa
