/- The document's message of bytes. -/
import Derived.Test.YtlpdjpkdgagjpaaDoorMsgDec
namespace Go.Proofs.YtlpdjpkdgagjpaaDoor
open Go.RowKit Mem
set_option maxRecDepth 100000
set_option linter.unusedVariables false
set_option linter.unusedSimpArgs false
attribute [local go_sem ↓] Go.wp_at_zero Go.wp_at_succ

/-- a reader of the document's over bytes -/
theorem rf_new {w : World} {B : Option Addr} {n c : Nat} {s : List UInt8} (hB : BS w B n s) (hn : n ≤ c) (hc : c ≤ 9223372036854775807) :
    RfAt (w.alloc (.cells #[.slice B n c, .int .i64 0] 121)) w.heap.size ⟨s, 0⟩ (fun k => k = w.heap.size ∨ 0 < n ∧ ∃ b off, B = some ⟨b, off, none⟩ ∧ k = b ∧ b < w.heap.size) := by
  refine ⟨B, n, c, Blk.new _ _ _, hB.below ((Below.refl _ _).alloc (Nat.le_refl _) _), hn, hc, .inl rfl, fun a hp e => ?_, fun k hk => ?_⟩
  · obtain ⟨b, off, hA, hlt, _⟩ := hB.2 hp
    rw [hA] at e
    injection e with e
    subst e
    exact ⟨.inr ⟨hp, b, off, hA, rfl, hlt⟩, by simp only; omega⟩
  · rcases hk with rfl | ⟨_, b, off, _, rfl, h⟩
    · simp
    · simp; omega
/-- the document's reader and the message under way -/
structure RDecSt (w0 : World) (rb mb q : Nat) (F : Nat → Prop) (hi : Nat) (r : Sl.R) (m : Mg.M) (A : Option Addr) (c : Nat) (w : World) : Prop where
  rd : RfAt w q r F
  res : Blk w rb 60 zCells
  msg : Blk w mb 60 (mgCells m A m.mem.length c)
  row : w.ownsRow hi 3 1 (.slice A m.mem.length c) m.mem.length (i64s m.mem)
  foot : ∀ k, F k → k ≠ rb ∧ k ≠ mb ∧ k < hi
  below : Below w0.heap.size w0 w
  ord : w0.heap.size ≤ rb ∧ w0.heap.size ≤ mb ∧ w0.heap.size ≤ q ∧ rb ≠ mb ∧ rb < hi ∧ mb < hi ∧ hi ≤ w.heap.size
section
variable {w0 w w' : World} {rb mb q : Nat} {F : Nat → Prop} {hi : Nat} {r r' : Sl.R} {m : Mg.M} {A : Option Addr} {c : Nat}
theorem RDecSt.fr (h : RDecSt w0 rb mb q F hi r m A c w) (hr : RfAt w' q r' F) (hf : Fr (fun k => k = q) w w') : RDecSt w0 rb mb q F hi r' m A c w' := by
  have hq := h.foot q h.rd.self
  have ho := h.ord
  have hs := hf.size
  exact ⟨hr, h.res.keep (hf.block _ h.res.lt (by omega)), h.msg.keep (hf.block _ h.msg.lt (by omega)), own_keep h.row (fun k e => hf.block k (own_lt h.row e) (fun e2 => by have := own_ge h.row e; omega)), h.foot, h.below.trans (hf.below h.below.size (fun i hi => by omega)), by omega⟩
theorem RDecSt.grow (h : RDecSt w0 rb mb q F hi r m A c w) (hb : Below w.heap.size w w') : RDecSt w0 rb mb q F hi r m A c w' := by
  have ho := h.ord
  have hs := hb.size
  exact ⟨h.rd.below hb, h.res.below hb h.res.lt, h.msg.below hb h.msg.lt, own_below h.row hb, h.foot, h.below.trans (hb.mono h.below.size), by omega⟩
theorem RDecSt.num (h : RDecSt w0 rb mb q F hi r m A c w) (most : Int) (hm : 0 ≤ most ∧ most ≤ 1099511627776) (hl : r.b.length ≤ 100000000) :
    Calls Tryd.prog 61 #[.pointer (some ⟨q, 0, none⟩), .int .i64 most] w fun e w' => e = .returned (.int .i64 (Mg.one r most)) ∧ RDecSt w0 rb mb q F hi (Mg.next r most) m A c w' := by
  refine (refRNum_any q r F most w h.rd (by omega) (by omega)).mono ?_
  rintro e w' ⟨rfl, hr, hf⟩
  exact ⟨rfl, h.fr hr hf⟩
theorem RDecSt.end_ (h : RDecSt w0 rb mb q F hi r m A c w) (hl : r.b.length ≤ 100000000) :
    Calls Tryd.prog 62 #[.pointer (some ⟨q, 0, none⟩)] w fun e w' => e = .returned (.int .i64 (Mg.fin r : Nat)) ∧ ∃ r', RDecSt w0 rb mb q F hi r' m A c w' := by
  refine (refREnd_any q r F w h.rd (by omega)).mono ?_
  rintro e w' ⟨rfl, hr, hf⟩
  exact ⟨rfl, _, h.fr hr hf⟩
/-- a number of the message is set -/
theorem RDecSt.put (h : RDecSt w0 rb mb q F hi r m A c w) (k : Nat) (x : Int) (m' : Mg.M) (hmem : m'.mem = m.mem) (hc : (mgCells m A m.mem.length c).setIfInBounds k (.int .i64 x) = mgCells m' A m.mem.length c) : RDecSt w0 rb mb q F hi r m' A c (w.setCell ⟨mb, k, none⟩ (.int .i64 x)) := by
  have ho := h.ord
  have hput := h.msg.put k (.int .i64 x)
  have hsc : (w.setCell ⟨mb, k, none⟩ (.int .i64 x)).heap.size = w.heap.size := by simp [World.setCell]
  have hoth : ∀ j, j ≠ mb → (w.setCell ⟨mb, k, none⟩ (.int .i64 x)).heap[j]? = w.heap[j]? := fun j hj => Below.heap_setCell w _ _ j (by simpa using hj)
  rw [hc] at hput
  refine ⟨h.rd.keep (by omega) (fun j hj => hoth j (h.foot j hj).2.1), h.res.keep (hoth _ ho.2.2.2.1), by rw [hmem]; exact hput, by rw [hmem]; exact own_keep h.row (fun j e => hoth j (by have := own_ge h.row e; omega)), h.foot, ?_, by omega⟩
  exact h.below.trans ((Fr.setCell (F := fun i => w0.heap.size ≤ i) (Fr.refl _ _) ⟨mb, k, none⟩ (.int .i64 x) (fun _ => by simp only; omega)).below h.below.size (fun i hi => hi))
/-- a member more -/
theorem RDecSt.push {w6 w7 : World} (h : RDecSt w0 rb mb q F hi r m A c w6) (x : Int) {g cap : Nat}
    (hown : w7.ownsRow hi 3 1 (.slice (some ⟨g, 0, none⟩) (m.mem.length + 1) cap) (m.mem.length + 1) (i64s m.mem ++ [.int .i64 x])) (hg : (w6.alloc (.cells #[.int .i64 x] 3)).grownBy w7 (Value.slice A m.mem.length c).ownBlock) :
    RDecSt w0 rb mb q F hi r { m with mem := m.mem ++ [x] } (some ⟨g, 0, none⟩) cap (w7.setCell ⟨mb, 4, none⟩ (.slice (some ⟨g, 0, none⟩) (m.mem.length + 1) cap)) := by
  have ho := h.ord
  have hb1 : Below w6.heap.size w6 (w6.alloc (.cells #[.int .i64 x] 3)) := (Below.refl _ _).alloc (Nat.le_refl _) _
  have hs7 : w6.heap.size + 1 ≤ w7.heap.size := by have := hg.size; simpa using this
  have hrow : ∀ k, k < hi → k < w6.heap.size → w7.heap[k]? = w6.heap[k]? := fun k hk hk2 =>
    (hg.block k (by simp; omega) (fun e => by have := own_ge h.row e.symm; omega)).trans (hb1.block k hk2)
  have hbel : Below hi w6 w7 := ⟨hg.os, hg.tape, hg.output, by omega, fun k hk => hrow k hk (by omega)⟩
  have hgge : hi ≤ g := own_ge hown rfl
  have hsc : (w7.setCell ⟨mb, 4, none⟩ (.slice (some ⟨g, 0, none⟩) (m.mem.length + 1) cap)).heap.size = w7.heap.size := by simp [World.setCell]
  have hoth : ∀ k, k ≠ mb → (w7.setCell ⟨mb, 4, none⟩ (.slice (some ⟨g, 0, none⟩) (m.mem.length + 1) cap)).heap[k]? = w7.heap[k]? := fun k hk => Below.heap_setCell w7 _ _ k (by simpa using hk)
  have hlen : (m.mem ++ [x]).length = m.mem.length + 1 := by simp
  refine ⟨h.rd.keep (by omega) (fun j hj => ?_), ?_, ?_, ?_, h.foot, ?_, by omega⟩
  · have := h.foot j hj
    rw [hoth j (by omega), hrow j (by omega) (h.rd.bound j hj)]
  · exact h.res.keep (by rw [hoth rb (by omega), hrow rb (by omega) h.res.lt])
  · have hm7 : Blk w7 mb 60 (mgCells m A m.mem.length c) := h.msg.keep (hrow mb (by omega) h.msg.lt)
    have := hm7.put 4 (.slice (some ⟨g, 0, none⟩) (m.mem.length + 1) cap)
    simp only
    rw [hlen]
    exact this
  · simp only
    rw [hlen]
    have e : i64s (m.mem ++ [x]) = i64s m.mem ++ [.int .i64 x] := by simp [i64s]
    rw [e]
    exact own_keep hown (fun k e => hoth k (by have := own_ge hown e; omega))
  · have h1 : Below w0.heap.size w0 w7 := h.below.trans (hbel.mono (by omega))
    exact h1.trans ((Fr.setCell (F := fun i => w0.heap.size ≤ i) (Fr.refl _ _) ⟨mb, 4, none⟩ (.slice (some ⟨g, 0, none⟩) (m.mem.length + 1) cap) (fun _ => by simp only; omega)).below h1.size (fun i hi => hi))
end
set_option maxHeartbeats 16000000 in
theorem rdec19_any (A : Option Addr) (n cap : Nat) (bs : List UInt8) (w : World) (hbs : BS w A n bs) (hn : n ≤ 100000) (hnc : n ≤ cap) (hcm : cap ≤ 9223372036854775807) :
    Calls Tryd.prog 36 #[.slice A n cap] w (DecP w (Mg.dec bs)) := by
  have hb0 : Below w.heap.size w (w.alloc (.cells zCells 60)) := (Below.refl _ _).alloc (Nat.le_refl _) _
  have hk0 := Blk.new w 60 zCells
  have hop := refOpen_any A n cap bs _ (hbs.below hb0) (by omega) hnc hcm
  have hs0 : (w.alloc (.cells zCells 60)).heap.size = w.heap.size + 1 := by simp
  obtain ⟨R, hR⟩ : ∃ R, Mg.dec bs = R := ⟨_, rfl⟩
  have hRd := hR
  unfold Mg.dec at hRd
  have hob := fun s k => Sl.seal_of_open bs s k
  generalize Sl.openB bs = o at *
  obtain ⟨s, k, e⟩ := o
  simp only at hop hRd
  rw [hR]
  have H := Lib.hid (And.intro hb0 (And.intro hk0 (And.intro hop (And.intro hRd (And.intro hbs.1 (And.intro hob hs0))))))
  clear hb0 hk0 hop hRd hR hbs hob hs0
  by_cases he : e ≠ 0
  · have hr : R = (Mg.zero, e) := by rw [← H.out.2.2.2.1, if_pos he]
    have e1 : ((e : Int) != 0) = true := by rw [bne_iff_ne]; omega
    have HR := Lib.hid hr
    clear he hr
    go_enter Tryd.func36, Tryd.ntmps36
    go_wp2_with fail
    generalize w.alloc (.cells zCells 60) = W0 at *
    refine H.out.2.2.1.mono ?_
    rintro e2 w2 ⟨B, bc, rfl, hB, hb3, hb4, hb2, hBg⟩
    simp only
    have hk2 := H.out.2.1.below hb2 (by have := H.out.2.2.2.2.2.2; omega)
    obtain ⟨⟨c0, c1, c2, c3, c4⟩, f0, f1, f2, f3, f4⟩ := z_cells hk2
    have H2 := Lib.hid (And.intro hk2 (H.out.1.trans (hb2.mono H.out.1.size)))
    clear hB hb2 hk2 hBg
    go_wp2_with fail
    obtain ⟨b5, f5⟩ := mg_put5 H2.out.1 rfl Mg.zero none 0 0
    dsimp only [Mg.zero, mgCells] at b5 f5
    have hbel := H2.out.2
    have hfb := hbel.trans (f5.below hbel.size (fun i hi => by omega))
    generalize ((((w2.setCell ⟨w.heap.size, 0, none⟩ (.int .i64 0)).setCell ⟨w.heap.size, 1, none⟩ (.int .i64 0)).setCell ⟨w.heap.size, 2, none⟩ (.int .i64 0)).setCell ⟨w.heap.size, 3, none⟩ (.int .i64 0)).setCell ⟨w.heap.size, 4, none⟩ (.slice none 0 0) = w9 at *
    have z0 : w9.cell? ⟨w.heap.size, 0, none⟩ = some (.int .i64 0) := b5.cell 0
    have z1 : w9.cell? ⟨w.heap.size, 1, none⟩ = some (.int .i64 0) := b5.cell 1
    have z2 : w9.cell? ⟨w.heap.size, 2, none⟩ = some (.int .i64 0) := b5.cell 2
    have z3 : w9.cell? ⟨w.heap.size, 3, none⟩ = some (.int .i64 0) := b5.cell 3
    have z4 : w9.cell? ⟨w.heap.size, 4, none⟩ = some (.slice none 0 0) := b5.cell 4
    exact bodyPost_ret (v := .tuple #[mgVal Mg.zero none 0 0, .int .i64 e]) (by simp [results, Tryd.results36, go_sem, z0, z1, z2, z3, z4, Mg.zero]) rfl (by rw [HR.out]; exact ⟨none, 0, rfl, IS.empty _ _, Nat.le_refl _, by simp [Mg.zero], hfb⟩)
  · obtain rfl : e = 0 := by omega
    by_cases hk : k ≠ bs.length
    · have hr : R = (Mg.zero, 13) := by rw [← H.out.2.2.2.1, if_neg (by simp), if_pos hk]
      have k1 : ((k : Int) != (n : Int)) = true := by rw [bne_iff_ne]; have := H.out.2.2.2.2.1; omega
      have k2 : ¬ k = n := by have := H.out.2.2.2.2.1; omega
      have HR := Lib.hid hr
      clear hk hr he
      go_enter Tryd.func36, Tryd.ntmps36
      go_wp2_with fail
      generalize w.alloc (.cells zCells 60) = W0 at *
      refine H.out.2.2.1.mono ?_
      rintro e2 w2 ⟨B, bc, rfl, hB, hb3, hb4, hb2, hBg⟩
      simp only
      have hk2 := H.out.2.1.below hb2 (by have := H.out.2.2.2.2.2.2; omega)
      obtain ⟨⟨c0, c1, c2, c3, c4⟩, f0, f1, f2, f3, f4⟩ := z_cells hk2
      have H2 := Lib.hid (And.intro hk2 (H.out.1.trans (hb2.mono H.out.1.size)))
      clear hB hb2 hk2 hBg
      go_wp2_with fail
      obtain ⟨b5, f5⟩ := mg_put5 H2.out.1 rfl Mg.zero none 0 0
      dsimp only [Mg.zero, mgCells] at b5 f5
      have hbel := H2.out.2
      have hfb := hbel.trans (f5.below hbel.size (fun i hi => by omega))
      generalize ((((w2.setCell ⟨w.heap.size, 0, none⟩ (.int .i64 0)).setCell ⟨w.heap.size, 1, none⟩ (.int .i64 0)).setCell ⟨w.heap.size, 2, none⟩ (.int .i64 0)).setCell ⟨w.heap.size, 3, none⟩ (.int .i64 0)).setCell ⟨w.heap.size, 4, none⟩ (.slice none 0 0) = w9 at *
      have z0 : w9.cell? ⟨w.heap.size, 0, none⟩ = some (.int .i64 0) := b5.cell 0
      have z1 : w9.cell? ⟨w.heap.size, 1, none⟩ = some (.int .i64 0) := b5.cell 1
      have z2 : w9.cell? ⟨w.heap.size, 2, none⟩ = some (.int .i64 0) := b5.cell 2
      have z3 : w9.cell? ⟨w.heap.size, 3, none⟩ = some (.int .i64 0) := b5.cell 3
      have z4 : w9.cell? ⟨w.heap.size, 4, none⟩ = some (.slice none 0 0) := b5.cell 4
      exact bodyPost_ret (v := .tuple #[mgVal Mg.zero none 0 0, .int .i64 13]) (by simp [results, Tryd.results36, go_sem, z0, z1, z2, z3, z4, Mg.zero]) rfl (by rw [HR.out]; exact ⟨none, 0, rfl, IS.empty _ _, Nat.le_refl _, by simp [Mg.zero], hfb⟩)
    · have hr : R = Mg.decS s := by rw [← H.out.2.2.2.1, if_neg (by simp), if_neg hk]
      have hkn : k = n := by have := H.out.2.2.2.2.1; omega
      obtain ⟨hs4, _, _⟩ := H.out.2.2.2.2.2.1 s k rfl
      subst hkn
      have HR := Lib.hid hr
      clear hk hr he
      go_enter Tryd.func36, Tryd.ntmps36
      go_wp2_with fail
      generalize w.alloc (.cells zCells 60) = W0 at *
      refine H.out.2.2.1.mono ?_
      rintro e2 w2 ⟨B, bc, rfl, hB, hb3, hb4, hb2, hBg⟩
      simp only
      have hk2 := H.out.2.1.below hb2 (by have := H.out.2.2.2.2.2.2; omega)
      have hbz : Below w2.heap.size w2 ((w2.alloc (.cells #[.slice B s.length bc, .int .i64 0] 121)).alloc (.cells zCells 60)) := ((Below.refl _ _).alloc (Nat.le_refl _) _).alloc (by simp) _
      have hst : RDecSt w w.heap.size (w2.heap.size + 1) w2.heap.size (fun k => k = w2.heap.size ∨ 0 < s.length ∧ ∃ b off, B = some ⟨b, off, none⟩ ∧ k = b ∧ b < w2.heap.size) (w2.heap.size + 2) ⟨s, 0⟩ Mg.zero none 0 ((w2.alloc (.cells #[.slice B s.length bc, .int .i64 0] 121)).alloc (.cells zCells 60)) := by
        have hlt := hk2.lt
        have hsw := H.out.2.2.2.2.2.2
        have hw2 := hb2.size
        have hmb := Blk.new (w2.alloc (.cells #[.slice B s.length bc, .int .i64 0] 121)) 60 zCells
        simp only [World.size_alloc] at hmb
        refine ⟨(rf_new hB hb3 hb4).below ((Below.refl _ _).alloc (Nat.le_refl _) _), hk2.below hbz hlt, hmb, ⟨rfl, .inl ⟨rfl, rfl⟩⟩, fun j hj => ?_, H.out.1.trans ((hb2.trans (hbz.mono hb2.size)).mono H.out.1.size), by simp; omega⟩
        rcases hj with rfl | ⟨hp, b, off, hA, rfl, hbl⟩
        · omega
        · obtain ⟨g, hg, hg2, _⟩ := hBg hp
          rw [hg] at hA
          injection hA with hA
          injection hA with hA _ _
          omega
      have H2 := Lib.hid hst
      clear hB hb2 hk2 hbz hst hBg
      go_wp2_with fail
      generalize (w2.alloc (.cells #[.slice B s.length bc, .int .i64 0] 121)).alloc (.cells zCells 60) = w3 at *
      generalize (fun k => k = w2.heap.size ∨ 0 < s.length ∧ ∃ b off, B = some ⟨b, off, none⟩ ∧ k = b ∧ b < w2.heap.size) = F at *
      generalize w2.heap.size + 2 = hi at *
      generalize w2.heap.size + 1 = mb at *
      generalize w2.heap.size = q at *
      have hl0 : s.length ≤ 4096 := hs4
      have hread : Mg.reads ⟨s, 0⟩ 4 = ([Mg.one ⟨s, 0⟩ 1099511627776, Mg.one (Mg.next ⟨s, 0⟩ 1099511627776) 1099511627776, Mg.one (Mg.next (Mg.next ⟨s, 0⟩ 1099511627776) 1099511627776) 1099511627776, Mg.one (Mg.next (Mg.next (Mg.next ⟨s, 0⟩ 1099511627776) 1099511627776) 1099511627776) 1099511627776], Mg.next (Mg.next (Mg.next (Mg.next ⟨s, 0⟩ 1099511627776) 1099511627776) 1099511627776) 1099511627776) := rfl
      obtain ⟨r0, hr0⟩ : ∃ r : Sl.R, ⟨s, 0⟩ = r := ⟨_, rfl⟩
      have hlr0 : r0.b.length ≤ 4096 := by rw [← hr0]; exact hs4
      have hdecS : Mg.decS s = if Mg.fin (Mg.tailOf (Mg.reads ⟨s, 0⟩ 4)).2 ≠ 0 then (Mg.zero, Mg.fin (Mg.tailOf (Mg.reads ⟨s, 0⟩ 4)).2) else if Mg.may (Mg.mOf (Mg.reads ⟨s, 0⟩ 4).1 (Mg.tailOf (Mg.reads ⟨s, 0⟩ 4)).1) = true then (Mg.mOf (Mg.reads ⟨s, 0⟩ 4).1 (Mg.tailOf (Mg.reads ⟨s, 0⟩ 4)).1, 0) else (Mg.zero, 11) := rfl
      rw [hread] at hdecS
      rw [hr0] at hdecS
      have H2 := Lib.hid (show RDecSt w w.heap.size mb q F hi r0 Mg.zero none 0 w3 from by rw [← hr0]; exact H2.out)
      clear hread hr0
      have hl1 := Mg.next_le r0 1099511627776
      have hn0 := fun W (h : RDecSt w w.heap.size mb q F hi r0 Mg.zero none 0 W) => h.num 1099511627776 (by omega) (by omega)
      generalize Mg.one r0 1099511627776 = x0 at *
      generalize Mg.next r0 1099511627776 = r1 at *
      have hl2 := Mg.next_le r1 1099511627776
      have hn1 := fun W (h : RDecSt w w.heap.size mb q F hi r1 ⟨x0, 0, 0, 0, []⟩ none 0 W) => h.num 1099511627776 (by omega) (by omega)
      generalize Mg.one r1 1099511627776 = x1 at *
      generalize Mg.next r1 1099511627776 = r2 at *
      have hl3 := Mg.next_le r2 1099511627776
      have hn2 := fun W (h : RDecSt w w.heap.size mb q F hi r2 ⟨x0, x1, 0, 0, []⟩ none 0 W) => h.num 1099511627776 (by omega) (by omega)
      generalize Mg.one r2 1099511627776 = x2 at *
      generalize Mg.next r2 1099511627776 = r3 at *
      have hl4 := Mg.next_le r3 1099511627776
      have hn3 := fun W (h : RDecSt w w.heap.size mb q F hi r3 ⟨x0, x1, x2, 0, []⟩ none 0 W) => h.num 1099511627776 (by omega) (by omega)
      generalize Mg.one r3 1099511627776 = x3 at *
      generalize Mg.next r3 1099511627776 = r at *
      have hle : r.b.length ≤ 4096 := by omega
      have hdec : Mg.decS s = if Mg.fin (Mg.tailOf ([x0, x1, x2, x3], r)).2 ≠ 0 then (Mg.zero, Mg.fin (Mg.tailOf ([x0, x1, x2, x3], r)).2) else if Mg.may ⟨x0, x1, x2, x3, (Mg.tailOf ([x0, x1, x2, x3], r)).1⟩ = true then (⟨x0, x1, x2, x3, (Mg.tailOf ([x0, x1, x2, x3], r)).1⟩, 0) else (Mg.zero, 11) := hdecS
      have HN := Lib.hid (And.intro hdec (And.intro hn0 (And.intro hn1 (And.intro hn2 hn3))))
      clear hdecS hdec hn0 hn1 hn2 hn3 hl1 hl2 hl3 hl4 hlr0
      refine (HN.out.2.1 w3 H2.out).mono ?_
      rintro e4 w4 ⟨rfl, hst4⟩
      obtain ⟨m0, m1, m2, m3, m4⟩ := mg_cells hst4.msg
      have f0 := hst4.msg.free 0
      have H4 := Lib.hid (hst4.put 0 x0 ⟨x0, 0, 0, 0, []⟩ rfl rfl)
      clear hst4
      go_wp2_with fail
      refine (HN.out.2.2.1 _ H4.out).mono ?_
      clear m0 m1 m2 m3 m4 f0
      rintro e5 w5 ⟨rfl, hst5⟩
      obtain ⟨m0, m1, m2, m3, m4⟩ := mg_cells hst5.msg
      have f1 := hst5.msg.free 1
      have H5 := Lib.hid (hst5.put 1 x1 ⟨x0, x1, 0, 0, []⟩ rfl rfl)
      clear hst5
      go_wp2_with fail
      refine (HN.out.2.2.2.1 _ H5.out).mono ?_
      clear m0 m1 m2 m3 m4 f1
      rintro e6 w6 ⟨rfl, hst6⟩
      obtain ⟨m0, m1, m2, m3, m4⟩ := mg_cells hst6.msg
      have f2 := hst6.msg.free 2
      have H6 := Lib.hid (hst6.put 2 x2 ⟨x0, x1, x2, 0, []⟩ rfl rfl)
      clear hst6
      go_wp2_with fail
      refine (HN.out.2.2.2.2 _ H6.out).mono ?_
      clear m0 m1 m2 m3 m4 f2
      rintro e7 w7 ⟨rfl, hst7⟩
      obtain ⟨m0, m1, m2, m3, m4⟩ := mg_cells hst7.msg
      have f3 := hst7.msg.free 3
      have H7 := Lib.hid (hst7.put 3 x3 ⟨x0, x1, x2, x3, []⟩ rfl rfl)
      clear hst7
      by_cases hk1 : x0 = 1
      · have a1 : (x0 == 1) = true := by simpa using hk1
        have ht : Mg.tailOf ([x0, x1, x2, x3], r) = Mg.reads (Mg.next r 8) (Mg.one r 8).toNat := by unfold Mg.tailOf; exact if_pos hk1
        have hob := Mg.one_bound r 8 (by omega) (by omega)
        have hnle := Mg.next_le r 8
        obtain ⟨K, hK⟩ := Int.eq_ofNat_of_zero_le hob.1
        rw [hK, Int.toNat_natCast] at ht
        have hK8 : K ≤ 8 := by omega
        have hnum8 := H7.out.num 8 (by omega) (by omega)
        rw [hK] at hnum8
        have HTL := Lib.hid (And.intro ht hnum8)
        clear ht hk1 hob hK hnum8
        generalize Mg.next r 8 = q1 at *
        obtain ⟨i0, hi0, hz0, hz1, hz2⟩ := info_parts oinfoI
        have HII := Lib.hid (And.intro hi0 (And.intro hz0 (And.intro hz1 hz2)))
        clear hi0 hz0 hz1 hz2
        go_wp2_with fail
        refine HTL.out.2.mono ?_
        clear m0 m1 m2 m3 m4 f3
        rintro e8 w8 ⟨rfl, hst8⟩
        have H8 := Lib.hid hst8
        clear hst8
        go_wp2_with fail
        go_loopw [10] (fun i wr => ∃ (k2 : Nat) (A2 : Option Addr) (c2 : Nat), k2 ≤ K ∧ i = .int .i64 k2 ∧ RDecSt w w.heap.size mb q F hi (Mg.reads q1 k2).2 ⟨x0, x1, x2, x3, (Mg.reads q1 k2).1⟩ A2 c2 wr) (fun i _ => K - (intOf i).toNat)
        case atStart => exact ⟨0, none, 0, by omega, rfl, H8.out⟩
        case round =>
          obtain ⟨k2, A2, c2, hk2, rfl, hst⟩ := hrel
          clear H8
          have hle2 := Mg.reads_le q1 k2
          have hlk2 := Mg.reads_length q1 k2
          by_cases hlt2 : k2 < K
          · have hstep : Mg.reads q1 (k2 + 1) = ((Mg.reads q1 k2).1 ++ [Mg.one (Mg.reads q1 k2).2 1099511627776], Mg.next (Mg.reads q1 k2).2 1099511627776) := rfl
            generalize Mg.reads q1 k2 = t2 at *
            obtain ⟨mem, q2⟩ := t2
            simp only at hst hle2 hlk2 hstep
            have hml : mem.length ≤ 8 := by omega
            have hkK : (k2 : Int) < (K : Int) := by omega
            have d4 : wr.cell? ⟨mb, 4, none⟩ = some (.slice A2 mem.length c2) := (mg_cells hst.msg).2.2.2.2
            have f4 := hst.msg.free 4
            have hnum := (hst.grow (w' := wr.drew) ⟨rfl, rfl, rfl, Nat.le_refl _, fun _ _ => rfl⟩).num 1099511627776 (by omega) (by omega)
            have HX := Lib.hid (And.intro hst (And.intro hstep (And.intro hnum hlk2)))
            have hst0 := hst
            clear hst hstep hnum hlk2
            go_upto_region 17 with fail
            have hqlt := hst0.rd.bound q hst0.rd.self
            clear hst0
            go_region_law (first
              | (refine step_call (by rfl) 61 #[.tmp 54, .const (.int .i64 1099511627776)] #[119, 3] (by rfl) #[.pointer (some ⟨q, 0, none⟩), .int .i64 1099511627776] (by simp [Act.eval, Act.put]) (enters Tryd.func61 (by kernel_rfl) rfl) (HX.out.2.2.1.mono ?_)
                 rintro e6 w6 ⟨rfl, hst6⟩
                 refine ⟨_, rfl, ?_⟩
                 have d46 : w6.cell? ⟨mb, 4, none⟩ = some (.slice A2 mem.length c2) := (mg_cells hst6.msg).2.2.2.2
                 have d46a := (held_alloc (.cells #[.int .i64 (Mg.one q2 1099511627776)] 3) ⟨d46, hst6.msg.free 4⟩).1
                 have H6 := Lib.hid hst6
                 clear hst6)
              | (refine step_app_one (by rfl) (.tmp 53) (.tmp 56) 58 (by rfl) hi 3 i0 (.int .i64 0) 1 8 Tryd.underlying58 HII.out.1 HII.out.2.1 HII.out.2.2.1 HII.out.2.2.2 rfl (by omega) (.slice A2 mem.length c2) mem.length (i64s mem) (by simp [Act.eval, Act.put]) (H6.out.row.alloc _) w6.heap.size [.int .i64 (Mg.one q2 1099511627776)] (by simp [Act.eval, Act.put]) rfl (heap_alloc_new w6 _) (one1 _) (by omega) (by omega) (by have := H6.out.ord; simp; omega) ?_
                 intro g7 cap7 w7 hown7 hg7 hat7
                 have HS7 := held_keep (hg7.block mb (by have := H6.out.msg.lt; simp; omega) (fun e => by have := own_ge H6.out.row e.symm; have := H6.out.ord; omega)) (held_alloc (.cells #[.int .i64 (Mg.one q2 1099511627776)] 3) ⟨d46, H6.out.msg.free 4⟩)
                 have d47 := HS7.1
                 have f47 := HS7.2
                 have H9 := Lib.hid (And.intro hown7 (And.intro hg7 hat7))
                 clear hown7 hg7 hat7 HS7))
            all_goals
              go_wp2
              go_roundw
              case rel => exact ⟨k2 + 1, some ⟨g7, 0, none⟩, cap7, by omega, by go_num, by rw [HX.out.2.1]; exact H6.out.push (Mg.one q2 1099511627776) H9.out.1 H9.out.2.1⟩
              case measure => simp [intOf]; omega
          · obtain rfl : k2 = K := by omega
            generalize Mg.reads q1 k2 = t2 at *
            obtain ⟨mem, q2⟩ := t2
            simp only at hst hle2 hlk2
            have hml : mem.length ≤ 8 := by omega
            have HS := Lib.hid hst
            obtain ⟨m0, m1, m2, m3, m4⟩ := mg_cells hst.msg
            clear hst hlk2
            have hfr : Mg.decS s = if Mg.fin q2 ≠ 0 then (Mg.zero, Mg.fin q2) else if Mg.may ⟨x0, x1, x2, x3, mem⟩ = true then (⟨x0, x1, x2, x3, mem⟩, 0) else (Mg.zero, 11) := by rw [HN.out.1, HTL.out.1]
            have HFR := Lib.hid hfr
            clear hfr
            go_wp2_with fail
            refine (HS.out.end_ (by omega)).mono ?_
            rintro e7 w7 ⟨rfl, r7, hst7⟩
            have hrs := z_cells hst7.res
            have hms := mg_cells hst7.msg
            obtain ⟨⟨z0, z1, z2, z3, z4⟩, g0, g1, g2, g3, g4⟩ := hrs
            obtain ⟨m0, m1, m2, m3, m4⟩ := hms
            have hwb := hst7.ord
            have hlt7 := hst7.res.lt
            by_cases hf : Mg.fin q2 = 0
            · rw [hf]
              have hmy := refMay19_any ⟨x0, x1, x2, x3, mem⟩ A2 mem.length c2 w7 (IS.of_own hst7.row) (by first | omega | simp) (own_capI hst7.row).2
              have HY := Lib.hid (And.intro hst7 (And.intro hmy hf))
              clear hst7 hmy hf
              go_wp2_with fail
              refine HY.out.2.1.mono ?_
              cases hm : Mg.may ⟨x0, x1, x2, x3, mem⟩ with
              | false =>
                rintro e8 w8 ⟨rfl, hb8⟩
                have hr : R = (Mg.zero, 11) := by rw [HR.out, HFR.out, if_neg (by rw [HY.out.2.2]; simp), hm, if_neg (by simp)]
                have hst8 := HY.out.1.grow hb8
                have hrs := z_cells hst8.res
                obtain ⟨⟨z0, z1, z2, z3, z4⟩, g0, g1, g2, g3, g4⟩ := hrs
                have HZ := Lib.hid (And.intro hr hst8)
                clear hr hst8 hb8 hm
                go_wp2_with fail
                obtain ⟨b5, f5⟩ := mg_put5 HZ.out.2.res rfl Mg.zero none 0 0
                dsimp only [Mg.zero, mgCells] at b5 f5
                have hbel := HZ.out.2.below
                have hfb := hbel.trans (f5.below hbel.size (fun i hi => by omega))
                generalize ((((w8.setCell ⟨w.heap.size, 0, none⟩ (.int .i64 0)).setCell ⟨w.heap.size, 1, none⟩ (.int .i64 0)).setCell ⟨w.heap.size, 2, none⟩ (.int .i64 0)).setCell ⟨w.heap.size, 3, none⟩ (.int .i64 0)).setCell ⟨w.heap.size, 4, none⟩ (.slice none 0 0) = w9 at *
                have y0 : w9.cell? ⟨w.heap.size, 0, none⟩ = some (.int .i64 0) := b5.cell 0
                have y1 : w9.cell? ⟨w.heap.size, 1, none⟩ = some (.int .i64 0) := b5.cell 1
                have y2 : w9.cell? ⟨w.heap.size, 2, none⟩ = some (.int .i64 0) := b5.cell 2
                have y3 : w9.cell? ⟨w.heap.size, 3, none⟩ = some (.int .i64 0) := b5.cell 3
                have y4 : w9.cell? ⟨w.heap.size, 4, none⟩ = some (.slice none 0 0) := b5.cell 4
                exact bodyPost_ret (v := .tuple #[mgVal Mg.zero none 0 0, .int .i64 11]) (by simp [results, Tryd.results36, go_sem, y0, y1, y2, y3, y4, Mg.zero]) rfl (by rw [HZ.out.1]; exact ⟨none, 0, rfl, IS.empty _ _, Nat.le_refl _, by simp [Mg.zero], hfb⟩)
              | true =>
                rintro e8 w8 ⟨rfl, hb8⟩
                have hr : R = (⟨x0, x1, x2, x3, mem⟩, 0) := by rw [HR.out, HFR.out, if_neg (by rw [HY.out.2.2]; simp), hm, if_pos rfl]
                have hst8 := HY.out.1.grow hb8
                have hrs := z_cells hst8.res
                obtain ⟨⟨z0, z1, z2, z3, z4⟩, g0, g1, g2, g3, g4⟩ := hrs
                have hms := mg_cells hst8.msg
                obtain ⟨m0, m1, m2, m3, m4⟩ := hms
                have HZ := Lib.hid (And.intro hr hst8)
                clear hr hst8 hb8 hm
                go_wp2_with fail
                obtain ⟨b5, f5⟩ := mg_put5 HZ.out.2.res rfl ⟨x0, x1, x2, x3, mem⟩ A2 mem.length c2
                have hbel := HZ.out.2.below
                have hfb := hbel.trans (f5.below hbel.size (fun i hi => by omega))
                have hrow := HZ.out.2.row
                have hcap := own_capI hrow
                have hor := HZ.out.2.ord
                have hrow9 := own_keep hrow (fun k e => f5.block k (own_lt hrow e) (fun e2 => by have := own_ge hrow e; omega))
                simp only at b5 f5 hfb hrow9 hcap
                generalize ((((w8.setCell ⟨w.heap.size, 0, none⟩ (.int .i64 x0)).setCell ⟨w.heap.size, 1, none⟩ (.int .i64 x1)).setCell ⟨w.heap.size, 2, none⟩ (.int .i64 x2)).setCell ⟨w.heap.size, 3, none⟩ (.int .i64 x3)).setCell ⟨w.heap.size, 4, none⟩ (.slice A2 mem.length c2) = w9 at *
                have y0 := b5.cell 0
                have y1 := b5.cell 1
                have y2 := b5.cell 2
                have y3 := b5.cell 3
                have y4 := b5.cell 4
                simp only [mgCells, List.getElem?_toArray, List.getElem?_cons_zero, List.getElem?_cons_succ] at y0 y1 y2 y3 y4
                exact bodyPost_ret (v := .tuple #[mgVal ⟨x0, x1, x2, x3, mem⟩ A2 mem.length c2, .int .i64 0]) (by simp [results, Tryd.results36, go_sem, y0, y1, y2, y3, y4]) rfl (by rw [HZ.out.1]; exact ⟨_, _, rfl, IS.of_own hrow9, hcap.1, hcap.2, hfb⟩)
            · have hf1 : ((Mg.fin q2 : Int) != 0) = true := by rw [bne_iff_ne]; omega
              have hr : R = (Mg.zero, Mg.fin q2) := by rw [HR.out, HFR.out, if_pos hf]
              have HZ := Lib.hid (And.intro hr hst7)
              clear hr hst7 hf
              go_wp2_with fail
              obtain ⟨b5, f5⟩ := mg_put5 HZ.out.2.res rfl Mg.zero none 0 0
              dsimp only [Mg.zero, mgCells] at b5 f5
              have hbel := HZ.out.2.below
              have hfb := hbel.trans (f5.below hbel.size (fun i hi => by omega))
              generalize ((((w7.setCell ⟨w.heap.size, 0, none⟩ (.int .i64 0)).setCell ⟨w.heap.size, 1, none⟩ (.int .i64 0)).setCell ⟨w.heap.size, 2, none⟩ (.int .i64 0)).setCell ⟨w.heap.size, 3, none⟩ (.int .i64 0)).setCell ⟨w.heap.size, 4, none⟩ (.slice none 0 0) = w9 at *
              have y0 : w9.cell? ⟨w.heap.size, 0, none⟩ = some (.int .i64 0) := b5.cell 0
              have y1 : w9.cell? ⟨w.heap.size, 1, none⟩ = some (.int .i64 0) := b5.cell 1
              have y2 : w9.cell? ⟨w.heap.size, 2, none⟩ = some (.int .i64 0) := b5.cell 2
              have y3 : w9.cell? ⟨w.heap.size, 3, none⟩ = some (.int .i64 0) := b5.cell 3
              have y4 : w9.cell? ⟨w.heap.size, 4, none⟩ = some (.slice none 0 0) := b5.cell 4
              exact bodyPost_ret (v := .tuple #[mgVal Mg.zero none 0 0, .int .i64 (Mg.fin q2)]) (by simp [results, Tryd.results36, go_sem, y0, y1, y2, y3, y4, Mg.zero]) rfl (by rw [HZ.out.1]; exact ⟨none, 0, rfl, IS.empty _ _, Nat.le_refl _, by simp [Mg.zero], hfb⟩)
      · have a1 : (x0 == 1) = false := by simpa using hk1
        have ht : Mg.tailOf ([x0, x1, x2, x3], r) = ([], r) := by unfold Mg.tailOf; exact if_neg hk1
        have HTL := Lib.hid ht
        have HS := Lib.hid H7.out
        clear ht hk1
        have hfr : Mg.decS s = if Mg.fin r ≠ 0 then (Mg.zero, Mg.fin r) else if Mg.may ⟨x0, x1, x2, x3, []⟩ = true then (⟨x0, x1, x2, x3, []⟩, 0) else (Mg.zero, 11) := by rw [HN.out.1, HTL.out]
        have HFR := Lib.hid hfr
        clear hfr
        go_wp2_with fail
        refine (HS.out.end_ (by omega)).mono ?_
        rintro e7 w7 ⟨rfl, r7, hst7⟩
        have hrs := z_cells hst7.res
        have hms := mg_cells hst7.msg
        obtain ⟨⟨z0, z1, z2, z3, z4⟩, g0, g1, g2, g3, g4⟩ := hrs
        obtain ⟨m0, m1, m2, m3, m4⟩ := hms
        have hwb := hst7.ord
        have hlt7 := hst7.res.lt
        by_cases hf : Mg.fin r = 0
        · rw [hf]
          have hmy := refMay19_any ⟨x0, x1, x2, x3, []⟩ none ([] : List Int).length 0 w7 (IS.of_own hst7.row) (by first | omega | simp) (own_capI hst7.row).2
          have HY := Lib.hid (And.intro hst7 (And.intro hmy hf))
          clear hst7 hmy hf
          go_wp2_with fail
          refine HY.out.2.1.mono ?_
          cases hm : Mg.may ⟨x0, x1, x2, x3, []⟩ with
          | false =>
            rintro e8 w8 ⟨rfl, hb8⟩
            have hr : R = (Mg.zero, 11) := by rw [HR.out, HFR.out, if_neg (by rw [HY.out.2.2]; simp), hm, if_neg (by simp)]
            have hst8 := HY.out.1.grow hb8
            have hrs := z_cells hst8.res
            obtain ⟨⟨z0, z1, z2, z3, z4⟩, g0, g1, g2, g3, g4⟩ := hrs
            have HZ := Lib.hid (And.intro hr hst8)
            clear hr hst8 hb8 hm
            go_wp2_with fail
            obtain ⟨b5, f5⟩ := mg_put5 HZ.out.2.res rfl Mg.zero none 0 0
            dsimp only [Mg.zero, mgCells] at b5 f5
            have hbel := HZ.out.2.below
            have hfb := hbel.trans (f5.below hbel.size (fun i hi => by omega))
            generalize ((((w8.setCell ⟨w.heap.size, 0, none⟩ (.int .i64 0)).setCell ⟨w.heap.size, 1, none⟩ (.int .i64 0)).setCell ⟨w.heap.size, 2, none⟩ (.int .i64 0)).setCell ⟨w.heap.size, 3, none⟩ (.int .i64 0)).setCell ⟨w.heap.size, 4, none⟩ (.slice none 0 0) = w9 at *
            have y0 : w9.cell? ⟨w.heap.size, 0, none⟩ = some (.int .i64 0) := b5.cell 0
            have y1 : w9.cell? ⟨w.heap.size, 1, none⟩ = some (.int .i64 0) := b5.cell 1
            have y2 : w9.cell? ⟨w.heap.size, 2, none⟩ = some (.int .i64 0) := b5.cell 2
            have y3 : w9.cell? ⟨w.heap.size, 3, none⟩ = some (.int .i64 0) := b5.cell 3
            have y4 : w9.cell? ⟨w.heap.size, 4, none⟩ = some (.slice none 0 0) := b5.cell 4
            exact bodyPost_ret (v := .tuple #[mgVal Mg.zero none 0 0, .int .i64 11]) (by simp [results, Tryd.results36, go_sem, y0, y1, y2, y3, y4, Mg.zero]) rfl (by rw [HZ.out.1]; exact ⟨none, 0, rfl, IS.empty _ _, Nat.le_refl _, by simp [Mg.zero], hfb⟩)
          | true =>
            rintro e8 w8 ⟨rfl, hb8⟩
            have hr : R = (⟨x0, x1, x2, x3, []⟩, 0) := by rw [HR.out, HFR.out, if_neg (by rw [HY.out.2.2]; simp), hm, if_pos rfl]
            have hst8 := HY.out.1.grow hb8
            have hrs := z_cells hst8.res
            obtain ⟨⟨z0, z1, z2, z3, z4⟩, g0, g1, g2, g3, g4⟩ := hrs
            have hms := mg_cells hst8.msg
            obtain ⟨m0, m1, m2, m3, m4⟩ := hms
            have HZ := Lib.hid (And.intro hr hst8)
            clear hr hst8 hb8 hm
            go_wp2_with fail
            obtain ⟨b5, f5⟩ := mg_put5 HZ.out.2.res rfl ⟨x0, x1, x2, x3, []⟩ none ([] : List Int).length 0
            have hbel := HZ.out.2.below
            have hfb := hbel.trans (f5.below hbel.size (fun i hi => by omega))
            have hrow := HZ.out.2.row
            have hcap := own_capI hrow
            have hor := HZ.out.2.ord
            have hrow9 := own_keep hrow (fun k e => f5.block k (own_lt hrow e) (fun e2 => by have := own_ge hrow e; omega))
            simp only at b5 f5 hfb hrow9 hcap
            generalize ((((w8.setCell ⟨w.heap.size, 0, none⟩ (.int .i64 x0)).setCell ⟨w.heap.size, 1, none⟩ (.int .i64 x1)).setCell ⟨w.heap.size, 2, none⟩ (.int .i64 x2)).setCell ⟨w.heap.size, 3, none⟩ (.int .i64 x3)).setCell ⟨w.heap.size, 4, none⟩ (.slice none ([] : List Int).length 0) = w9 at *
            have y0 := b5.cell 0
            have y1 := b5.cell 1
            have y2 := b5.cell 2
            have y3 := b5.cell 3
            have y4 := b5.cell 4
            simp only [mgCells, List.getElem?_toArray, List.getElem?_cons_zero, List.getElem?_cons_succ] at y0 y1 y2 y3 y4
            exact bodyPost_ret (v := .tuple #[mgVal ⟨x0, x1, x2, x3, []⟩ none ([] : List Int).length 0, .int .i64 0]) (by simp [results, Tryd.results36, go_sem, y0, y1, y2, y3, y4]) rfl (by rw [HZ.out.1]; exact ⟨_, _, rfl, IS.of_own hrow9, hcap.1, hcap.2, hfb⟩)
        · have hf1 : ((Mg.fin r : Int) != 0) = true := by rw [bne_iff_ne]; omega
          have hr : R = (Mg.zero, Mg.fin r) := by rw [HR.out, HFR.out, if_pos hf]
          have HZ := Lib.hid (And.intro hr hst7)
          clear hr hst7 hf
          go_wp2_with fail
          obtain ⟨b5, f5⟩ := mg_put5 HZ.out.2.res rfl Mg.zero none 0 0
          dsimp only [Mg.zero, mgCells] at b5 f5
          have hbel := HZ.out.2.below
          have hfb := hbel.trans (f5.below hbel.size (fun i hi => by omega))
          generalize ((((w7.setCell ⟨w.heap.size, 0, none⟩ (.int .i64 0)).setCell ⟨w.heap.size, 1, none⟩ (.int .i64 0)).setCell ⟨w.heap.size, 2, none⟩ (.int .i64 0)).setCell ⟨w.heap.size, 3, none⟩ (.int .i64 0)).setCell ⟨w.heap.size, 4, none⟩ (.slice none 0 0) = w9 at *
          have y0 : w9.cell? ⟨w.heap.size, 0, none⟩ = some (.int .i64 0) := b5.cell 0
          have y1 : w9.cell? ⟨w.heap.size, 1, none⟩ = some (.int .i64 0) := b5.cell 1
          have y2 : w9.cell? ⟨w.heap.size, 2, none⟩ = some (.int .i64 0) := b5.cell 2
          have y3 : w9.cell? ⟨w.heap.size, 3, none⟩ = some (.int .i64 0) := b5.cell 3
          have y4 : w9.cell? ⟨w.heap.size, 4, none⟩ = some (.slice none 0 0) := b5.cell 4
          exact bodyPost_ret (v := .tuple #[mgVal Mg.zero none 0 0, .int .i64 (Mg.fin r)]) (by simp [results, Tryd.results36, go_sem, y0, y1, y2, y3, y4, Mg.zero]) rfl (by rw [HZ.out.1]; exact ⟨none, 0, rfl, IS.empty _ _, Nat.le_refl _, by simp [Mg.zero], hfb⟩)
end Go.Proofs.YtlpdjpkdgagjpaaDoor
