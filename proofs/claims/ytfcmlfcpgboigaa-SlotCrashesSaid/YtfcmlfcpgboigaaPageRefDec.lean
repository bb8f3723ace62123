/- The page of a payload, as the document says. -/
import Derived.Test.YtfcmlfcpgboigaaPageRefEnc
import Derived.Test.YtfcmlfcpgboigaaPageDec
namespace Go.Proofs.Ytfcmlfcpgboigaa
open Go.RowKit Mem
set_option maxRecDepth 100000
set_option linter.unusedVariables false
set_option linter.unusedSimpArgs false

/-- a reader of the document's over bytes -/
theorem rf_new {w : World} {B : Option Addr} {n c : Nat} {s : List UInt8} (hB : BS w B n s) (hn : n ≤ c) (hc : c ≤ 9223372036854775807) :
    RfAt (w.alloc (.cells #[.slice B n c, .int .i64 0] 137)) w.heap.size ⟨s, 0⟩ (fun k => k = w.heap.size ∨ 0 < n ∧ ∃ b off, B = some ⟨b, off, none⟩ ∧ k = b ∧ b < w.heap.size) := by
  refine ⟨B, n, c, Blk.new _ _ _, hB.below ((Below.refl _ _).alloc (Nat.le_refl _) _), hn, hc, .inl rfl, fun a hp e => ?_, fun k hk => ?_⟩
  · obtain ⟨b, off, hA, hlt, _⟩ := hB.2 hp
    rw [hA] at e
    injection e with e
    subst e
    exact ⟨.inr ⟨hp, b, off, hA, rfl, hlt⟩, by simp only; omega⟩
  · rcases hk with rfl | ⟨_, b, off, _, rfl, h⟩
    · simp
    · simp; omega
/-- the reader and the page under way -/
structure PDecR (w0 : World) (rb pb q : Nat) (F : Nat → Prop) (hb : Nat) (r : Sl.R) (lsn : Int) (l : List Pg.C) (A : Option Addr) (c : Nat) (w : World) : Prop where
  rd : RfAt w q r F
  res : Blk w rb 24 #[.int .i64 0, .slice none 0 0]
  pag : Blk w pb 24 #[.int .i64 lsn, .slice A l.length c]
  row : w.ownsRow hb 40 3 (.slice A l.length c) l.length (rowOf cellK l)
  foot : ∀ k, F k → k ≠ rb ∧ k ≠ pb ∧ k < hb
  below : Below w0.heap.size w0 w
  ord : w0.heap.size ≤ rb ∧ w0.heap.size ≤ pb ∧ w0.heap.size ≤ q ∧ rb ≠ pb ∧ rb < hb ∧ pb < hb ∧ hb ≤ w.heap.size
section
variable {w0 w w' : World} {rb pb q : Nat} {F : Nat → Prop} {hb : Nat} {r r' : Sl.R} {lsn : Int} {l : List Pg.C} {A : Option Addr} {c : Nat}
theorem PDecR.fr (h : PDecR w0 rb pb q F hb r lsn l A c w) (hr : RfAt w' q r' F) (hf : Fr (fun k => k = q) w w') : PDecR w0 rb pb q F hb r' lsn l A c w' := by
  have hq := h.foot q h.rd.self
  have ho := h.ord
  have hs := hf.size
  exact ⟨hr, h.res.keep (hf.block _ h.res.lt (by omega)), h.pag.keep (hf.block _ h.pag.lt (by omega)), own_keep h.row (fun k e => hf.block k (own_lt h.row e) (fun e2 => by have := own_ge h.row e; omega)), h.foot, h.below.trans (hf.below h.below.size (fun i hi => by omega)), by omega⟩
theorem PDecR.grow (h : PDecR w0 rb pb q F hb r lsn l A c w) (hbw : Below w.heap.size w w') : PDecR w0 rb pb q F hb r lsn l A c w' := by
  have ho := h.ord
  have hs := hbw.size
  exact ⟨h.rd.below hbw, h.res.below hbw h.res.lt, h.pag.below hbw h.pag.lt, own_below h.row hbw, h.foot, h.below.trans (hbw.mono h.below.size), by omega⟩
/-- a cell of a variable that lies behind all -/
theorem PDecR.set (h : PDecR w0 rb pb q F hb r lsn l A c w) {cb i : Nat} (u : Value) (h1 : hb ≤ cb) (h2 : (Value.slice A l.length c).ownBlock ≠ some cb) : PDecR w0 rb pb q F hb r lsn l A c (w.setCell ⟨cb, i, none⟩ u) := by
  have ho := h.ord
  have hoth : ∀ k, k ≠ cb → (w.setCell ⟨cb, i, none⟩ u).heap[k]? = w.heap[k]? := fun k hk => Below.heap_setCell w _ _ k (by simpa using hk)
  have hsc : (w.setCell ⟨cb, i, none⟩ u).heap.size = w.heap.size := by simp [World.setCell]
  exact ⟨h.rd.keep (by omega) (fun k hk => hoth k (by have := h.foot k hk; omega)), h.res.keep (hoth rb (by omega)), h.pag.keep (hoth pb (by omega)), own_keep h.row (fun k e => hoth k (fun e2 => h2 (by rw [e, e2]))), h.foot,
    h.below.trans ((Fr.setCell (F := fun i => w0.heap.size ≤ i) (Fr.refl _ _) ⟨cb, i, none⟩ u (fun _ => by simp only; omega)).below h.below.size (fun i hi => hi)), by omega⟩
theorem PDecR.num (h : PDecR w0 rb pb q F hb r lsn l A c w) (most : Int) (hm : 0 ≤ most ∧ most ≤ 1099511627776) (hl : r.b.length ≤ 100000000) :
    Calls Try.prog 88 #[.pointer (some ⟨q, 0, none⟩), .int .i64 most] w fun e w' => e = .returned (.int .i64 (Rm.one r most)) ∧ PDecR w0 rb pb q F hb (Rm.next r most) lsn l A c w' ∧ Fr (fun k => k = q) w w' := by
  refine (refRNum_any q r F most w h.rd (by omega) (by omega)).mono ?_
  rintro e w' ⟨rfl, hr, hf⟩
  exact ⟨rfl, h.fr hr hf, hf⟩
theorem PDecR.text (h : PDecR w0 rb pb q F hb r lsn l A c w) (most : Int) (hm : 0 ≤ most ∧ most ≤ 1099511627776) (hl : r.b.length ≤ 100000000) :
    Calls Try.prog 89 #[.pointer (some ⟨q, 0, none⟩), .int .i64 most] w fun e w' => e = .returned (.string ⟨(Rm.text r most).toArray⟩) ∧ PDecR w0 rb pb q F hb (Rm.textR r most) lsn l A c w' ∧ Fr (fun k => k = q) w w' := by
  refine (refRText_any q r F most w h.rd (by omega) (by omega)).mono ?_
  rintro e w' ⟨rfl, hr, hf⟩
  exact ⟨rfl, h.fr hr hf, hf⟩
theorem PDecR.flag (h : PDecR w0 rb pb q F hb r lsn l A c w) (hl : r.b.length ≤ 100000000) :
    Calls Try.prog 90 #[.pointer (some ⟨q, 0, none⟩)] w fun e w' => e = .returned (.bool (Rm.flag r)) ∧ PDecR w0 rb pb q F hb (Rm.flagR r) lsn l A c w' ∧ Fr (fun k => k = q) w w' := by
  refine (refRFlag_any q r F w h.rd (by omega)).mono ?_
  rintro e w' ⟨rfl, hr, hf⟩
  exact ⟨rfl, h.fr hr hf, hf⟩
theorem PDecR.push {w6 w7 : World} (h : PDecR w0 rb pb q F hb r lsn l A c w6) (x : Pg.C) {g cap : Nat}
    (hown : w7.ownsRow hb 40 3 (.slice (some ⟨g, 0, none⟩) (l.length + 1) cap) (l.length + 1) (rowOf cellK l ++ rowOf cellK [x])) (hg : (w6.alloc (.cells (cCells x) 40)).grownBy w7 (Value.slice A l.length c).ownBlock) :
    PDecR w0 rb pb q F hb r lsn (l ++ [x]) (some ⟨g, 0, none⟩) cap (w7.setCell ⟨pb, 1, none⟩ (.slice (some ⟨g, 0, none⟩) (l.length + 1) cap)) := by
  have ho := h.ord
  have hb1 : Below w6.heap.size w6 (w6.alloc (.cells (cCells x) 40)) := (Below.refl _ _).alloc (Nat.le_refl _) _
  have hs7 : w6.heap.size + 1 ≤ w7.heap.size := by have := hg.size; simpa using this
  have hrow : ∀ k, k < hb → k < w6.heap.size → w7.heap[k]? = w6.heap[k]? := fun k hk hk2 =>
    (hg.block k (by simp; omega) (fun e => by have := own_ge h.row e.symm; omega)).trans (hb1.block k hk2)
  have hbel : Below hb w6 w7 := ⟨hg.os, hg.tape, hg.output, by omega, fun k hk => hrow k hk (by omega)⟩
  have hgge : hb ≤ g := own_ge hown rfl
  have hsc : (w7.setCell ⟨pb, 1, none⟩ (.slice (some ⟨g, 0, none⟩) (l.length + 1) cap)).heap.size = w7.heap.size := by simp [World.setCell]
  have hoth : ∀ k, k ≠ pb → (w7.setCell ⟨pb, 1, none⟩ (.slice (some ⟨g, 0, none⟩) (l.length + 1) cap)).heap[k]? = w7.heap[k]? := fun k hk => Below.heap_setCell w7 _ _ k (by simpa using hk)
  have hlen : (l ++ [x]).length = l.length + 1 := by simp
  refine ⟨h.rd.keep (by omega) (fun j hj => ?_), ?_, ?_, ?_, h.foot, ?_, by omega⟩
  · have := h.foot j hj
    rw [hoth j (by omega), hrow j (by omega) (h.rd.bound j hj)]
  · exact h.res.keep (by rw [hoth rb (by omega), hrow rb (by omega) h.res.lt])
  · have hm7 : Blk w7 pb 24 #[.int .i64 lsn, .slice A l.length c] := h.pag.keep (hrow pb (by omega) h.pag.lt)
    have := hm7.put 1 (.slice (some ⟨g, 0, none⟩) (l.length + 1) cap)
    rw [hlen]
    exact this
  · rw [hlen, rowOf_append]
    exact own_keep hown (fun k e => hoth k (by have := own_ge hown e; omega))
  · have h1 : Below w0.heap.size w0 w7 := h.below.trans (hbel.mono (by omega))
    exact h1.trans ((Fr.setCell (F := fun i => w0.heap.size ≤ i) (Fr.refl _ _) ⟨pb, 1, none⟩ (.slice (some ⟨g, 0, none⟩) (l.length + 1) cap) (fun _ => by simp only; omega)).below h1.size (fun i hi => hi))
end
theorem PDecR.page_kept {w0 w : World} {rb pb q : Nat} {F : Nat → Prop} {hb : Nat} {r : Sl.R} {lsn : Int} {l : List Pg.C} {A : Option Addr} {c : Nat} (h : PDecR w0 rb pb q F hb r lsn l A c w) (o : Obj) : ∀ w9, (w.alloc o).grownBy w9 (Value.slice A l.length c).ownBlock → Blk w9 pb 24 #[.int .i64 lsn, .slice A l.length c] := fun w9 hg =>
  (h.pag.alloc o).keep (hg.block pb (by have := h.pag.lt; simp; omega) (fun e => by have := own_ge h.row e.symm; have := h.ord; omega))
theorem PDecR.ready {w0 w : World} {rb pb q : Nat} {F : Nat → Prop} {hb : Nat} {r : Sl.R} {lsn : Int} {l : List Pg.C} {A : Option Addr} {c : Nat} (h : PDecR w0 rb pb q F hb r lsn l A c w) (x : Pg.C) (hx : x.key.size ≤ 9223372036854775807 ∧ x.data.size ≤ 9223372036854775807) :
    (w.alloc (.cells (cCells x) 40)).ownsRow hb 40 3 (.slice A l.length c) l.length (rowOf cellK l) ∧ ST cellK (w.alloc (.cells (cCells x) 40)) (some ⟨w.heap.size, 0, none⟩) 1 [x] ∧ hb ≤ (w.alloc (.cells (cCells x) 40)).heap.size ∧
      ∀ w9, (w.alloc (.cells (cCells x) 40)).grownBy w9 (Value.slice A l.length c).ownBlock → Blk w9 pb 24 #[.int .i64 lsn, .slice A l.length c] :=
  ⟨(h.grow ((Below.refl _ _).alloc (Nat.le_refl _) _)).row, st_made w x hx, by have := h.ord; simp; omega, h.page_kept _⟩
/-- the answer's variable, filled -/
theorem PDecR.fin {w0 w : World} {rb pb q : Nat} {F : Nat → Prop} {hb : Nat} {r : Sl.R} {lsn : Int} {l : List Pg.C} {A : Option Addr} {c : Nat} (h : PDecR w0 rb pb q F hb r lsn l A c w) (x : Int) (v : Value) :
    ((w.setCell ⟨rb, 0, none⟩ (.int .i64 x)).setCell ⟨rb, 1, none⟩ v).cell? ⟨rb, 0, none⟩ = some (.int .i64 x) ∧ ((w.setCell ⟨rb, 0, none⟩ (.int .i64 x)).setCell ⟨rb, 1, none⟩ v).cell? ⟨rb, 1, none⟩ = some v ∧
      Below w0.heap.size w0 ((w.setCell ⟨rb, 0, none⟩ (.int .i64 x)).setCell ⟨rb, 1, none⟩ v) ∧ ((w.setCell ⟨rb, 0, none⟩ (.int .i64 x)).setCell ⟨rb, 1, none⟩ v).ownsRow w0.heap.size 40 3 (.slice A l.length c) l.length (rowOf cellK l) := by
  have ho := h.ord
  have hz := (h.res.put 0 (.int .i64 x)).put 1 v
  have hfr : Fr (fun k => k = rb) w ((w.setCell ⟨rb, 0, none⟩ (.int .i64 x)).setCell ⟨rb, 1, none⟩ v) := ((Fr.refl (fun k => k = rb) w).setCell ⟨rb, 0, none⟩ _ (fun _ => rfl)).setCell ⟨rb, 1, none⟩ _ (fun _ => rfl)
  exact ⟨hz.cell 0, hz.cell 1, h.below.trans (hfr.below h.below.size (fun i hi => by omega)), own_base (own_keep h.row (fun k e => hfr.block k (own_lt h.row e) (fun e2 => by have := own_ge h.row e; omega))) (by omega)⟩
set_option maxHeartbeats 16000000 in
theorem pdec10_any (A : Option Addr) (n cap : Nat) (bs : List UInt8) (w : World) (hbs : BS w A n bs) (hn : n ≤ 100000) (hnc : n ≤ cap) (hcm : cap ≤ 9223372036854775807) :
    Calls Try.prog 46 #[.slice A n cap] w (PagP w (Pg.dec bs)) := by
  obtain ⟨D, hD⟩ : ∃ D, Pg.dec bs = D := ⟨_, rfl⟩
  rw [hD]
  have HD := Lib.hid hD
  clear hD
  have hb0 : Below w.heap.size w (w.alloc (.cells #[.int .i64 0, .slice none 0 0] 24)) := (Below.refl _ _).alloc (Nat.le_refl _) _
  have hk0 := Blk.new w 24 #[.int .i64 0, .slice none 0 0]
  have hs0 : (w.alloc (.cells #[.int .i64 0, .slice none 0 0] 24)).heap.size = w.heap.size + 1 := by simp
  have hrf := rf_new (hbs.below hb0) hnc hcm
  rw [hs0] at hrf
  have hb1 : Below w.heap.size w ((w.alloc (.cells #[.int .i64 0, .slice none 0 0] 24)).alloc (.cells #[.slice A n cap, .int .i64 0] 137)) := hb0.alloc hb0.size _
  have hs1 : ((w.alloc (.cells #[.int .i64 0, .slice none 0 0] 24)).alloc (.cells #[.slice A n cap, .int .i64 0] 137)).heap.size = w.heap.size + 2 := by simp
  have hlt : ∀ b off, 0 < n → A = some ⟨b, off, none⟩ → b < w.heap.size := fun b off h e => by
    obtain ⟨b', off', e', h', _⟩ := hbs.2 h
    rw [e] at e'
    injection e' with e'
    injection e' with e1 _
    omega
  have hnum := refRNum_any (w.heap.size + 1) ⟨bs, 0⟩ _ 1099511627776 _ hrf (by omega) (by have := hbs.1; simp only; omega)
  have H := Lib.hid (And.intro hb1 (And.intro (hk0.alloc (.cells #[.slice A n cap, .int .i64 0] 137)) (And.intro hnum (And.intro hbs.1 (And.intro hs1 (And.intro hlt hrf))))))
  clear hb0 hk0 hbs hs0 hrf hb1 hs1 hlt hnum
  go_enter Try.func46, Try.ntmps46
  go_wp2_with fail
  refine H.out.2.2.1.mono ?_
  rintro e w3 ⟨rfl, hr3, hf3⟩
  have hx0 : ((Sl.out (⟨bs, 0⟩ : Sl.R) 0 (Sl.number bs 1099511627776).1 : Nat) : Int) = Rm.one ⟨bs, 0⟩ 1099511627776 := rfl
  have hr0 : Sl.try_ (⟨bs, 0⟩ : Sl.R) (Sl.number bs 1099511627776).2 = Rm.next ⟨bs, 0⟩ 1099511627776 := rfl
  simp only [hx0, hr0] at hr3 ⊢
  have hst : PDecR w w.heap.size w3.heap.size (w.heap.size + 1) (fun k => k = w.heap.size + 1 ∨ 0 < n ∧ ∃ b off, A = some ⟨b, off, none⟩ ∧ k = b ∧ b < w.heap.size + 1) (w3.heap.size + 1) (Rm.next ⟨bs, 0⟩ 1099511627776) (Rm.one ⟨bs, 0⟩ 1099511627776) [] none 0 (w3.alloc (.cells #[.int .i64 (Rm.one ⟨bs, 0⟩ 1099511627776), .slice none 0 0] 24)) := by
    have h13 := hf3.size
    have hz := H.out.2.2.2.2.1
    have hbz : Below w3.heap.size w3 (w3.alloc (.cells #[.int .i64 (Rm.one ⟨bs, 0⟩ 1099511627776), .slice none 0 0] 24)) := (Below.refl _ _).alloc (Nat.le_refl _) _
    have hw3 : Below w.heap.size w w3 := H.out.1.trans (hf3.below H.out.1.size (fun i hi => by omega))
    have hk3 := H.out.2.1.keep (hf3.block _ H.out.2.1.lt (by omega))
    refine ⟨hr3.below hbz, hk3.below hbz hk3.lt, Blk.new _ _ _, ⟨rfl, .inl ⟨rfl, rfl⟩⟩, fun k hk => ?_, hw3.trans (hbz.mono hw3.size), ?_⟩
    · rcases hk with rfl | ⟨h0, b, off, e, rfl, _⟩
      · omega
      · have := H.out.2.2.2.2.2.1 _ _ h0 e
        omega
    · simp only [World.size_alloc]
      omega
  have hRd : Pg.dec bs = Pg.decR ⟨bs, 0⟩ := rfl
  have hle0 : (Rm.next (⟨bs, 0⟩ : Sl.R) 1099511627776).b.length ≤ n := by rw [← H.out.2.2.2.1]; exact Rm.try_le' _ _
  have hob := Rm.one_bound (Rm.next ⟨bs, 0⟩ 1099511627776) 4 (by omega) (by omega)
  have hle1 : (Rm.next (Rm.next (⟨bs, 0⟩ : Sl.R) 1099511627776) 4).b.length ≤ n := Nat.le_trans (Rm.try_le' _ _) hle0
  have hns : Pg.numsR ⟨bs, 0⟩ = Pg.cellsR (Rm.next (Rm.next (⟨bs, 0⟩ : Sl.R) 1099511627776) 4) (Rm.one (Rm.next (⟨bs, 0⟩ : Sl.R) 1099511627776) 4).toNat := rfl
  unfold Pg.decR at hRd
  have hob2 := Rm.one_bound (⟨bs, 0⟩ : Sl.R) 1099511627776 (by omega) (by omega)
  obtain ⟨K, hK⟩ := Int.eq_ofNat_of_zero_le hob.1
  rw [hK, Int.toNat_natCast] at hns
  have hnum := hst.num 4 (by omega) (by omega)
  rw [hK] at hnum
  have hK4 : K ≤ 4 := by omega
  generalize Rm.next (Rm.next (⟨bs, 0⟩ : Sl.R) 1099511627776) 4 = r2 at *
  generalize Rm.one (⟨bs, 0⟩ : Sl.R) 1099511627776 = lsn at *
  generalize Pg.numsR ⟨bs, 0⟩ = NR at *
  rw [HD.out] at hRd
  have HN := Lib.hid (And.intro hnum (And.intro hRd hns))
  clear hst hr3 hf3 hx0 hr0 hnum hRd hns HD hob hK
  go_wp2_with fail
  refine HN.out.1.mono ?_
  rintro e w4 ⟨rfl, hst, _⟩
  have H4 := Lib.hid hst
  clear hst
  generalize w3.heap.size = pb at *
  obtain ⟨i0, hi0, hz0, hz1, hz2⟩ := info_parts infoC
  have HII := Lib.hid (And.intro hi0 (And.intro hz0 (And.intro hz1 hz2)))
  clear hi0 hz0 hz1 hz2
  go_wp2_with fail
  go_loopw [7, 8] (fun i _ wr => ∃ (k : Nat) (A2 : Option Addr) (c2 : Nat), k ≤ K ∧ i = .int .i64 k ∧ PDecR w w.heap.size pb (w.heap.size + 1) (fun k => k = w.heap.size + 1 ∨ 0 < n ∧ ∃ b off, A = some ⟨b, off, none⟩ ∧ k = b ∧ b < w.heap.size + 1) (pb + 1) (Pg.cellsR r2 k).2 lsn (Pg.cellsR r2 k).1 A2 c2 wr) (fun i _ _ => K - (intOf i).toNat)
  case atStart => exact ⟨0, none, 0, by omega, rfl, H4.out⟩
  case round =>
    obtain ⟨k, A2, c2, hk, rfl, hst⟩ := hrel
    clear H4
    have hle := Pg.cellsR_le r2 k
    have hlen := Pg.cellsR_length r2 k
    by_cases hlt : k < K
    · have hstep : Pg.cellsR r2 (k + 1) = ((Pg.cellsR r2 k).1 ++ [(Pg.cellR (Pg.cellsR r2 k).2).1], (Pg.cellR (Pg.cellsR r2 k).2).2) := rfl
      generalize Pg.cellsR r2 k = t at *
      obtain ⟨l, r⟩ := t
      simp only at hst hle hlen hstep
      have hkK : (k : Int) < (K : Int) := by omega
      have htx := hst.text 16 (by omega) (by omega)
      have hle2 : (Rm.textR r 16).b.length ≤ n := Nat.le_trans (Rm.try_le' _ _) (by omega)
      have hle3 : (Rm.flagR (Rm.textR r 16)).b.length ≤ n := Nat.le_trans (Rm.try_le' _ _) hle2
      have hcr : Pg.cellR r = if Rm.flag (Rm.textR r 16) then (⟨⟨(Rm.text r 16).toArray⟩, true, ⟨(Rm.text (Rm.flagR (Rm.textR r 16)) 32).toArray⟩⟩, Rm.textR (Rm.flagR (Rm.textR r 16)) 32) else (⟨⟨(Rm.text r 16).toArray⟩, false, ⟨#[]⟩⟩, Rm.flagR (Rm.textR r 16)) := rfl
      have hks : (⟨(Rm.text r 16).toArray⟩ : ByteArray).size ≤ 9223372036854775807 := by
        have := Rm.text_le r 16
        rw [ba_size]
        omega
      have hkey : (Rm.text r 16).length ≤ n := by have := Rm.text_le r 16; omega
      generalize Rm.text r 16 = key at *
      generalize Rm.textR r 16 = r3 at *
      have HX := Lib.hid (And.intro htx (And.intro hstep (And.intro hcr (And.intro hlen hks))))
      clear hks hst htx hstep hcr hlen
      go_wp2_with fail
      refine HX.out.1.mono ?_
      rintro e w5 ⟨rfl, hst, _⟩
      have hl4 : l.length < 4 := by have := HX.out.2.2.2.1; omega
      have hg := hst.grow (w' := w5.alloc (.cells #[.string ⟨key.toArray⟩, .bool false, .string ⟨#[]⟩] 40)) ((Below.refl _ _).alloc (Nat.le_refl _) _)
      have hcb := Blk.new w5 40 #[.string ⟨key.toArray⟩, .bool false, .string ⟨#[]⟩]
      have hfg := hg.flag (by omega)
      have hnb : (Value.slice A2 l.length c2).ownBlock ≠ some w5.heap.size := fun e => by have := own_lt hst.row e; omega
      have hcq : w5.heap.size ≠ w.heap.size + 1 := fun e => by have := hst.rd.bound _ hst.rd.self; omega
      have hhb : pb + 1 ≤ w5.heap.size := hst.ord.2.2.2.2.2.2
      have H5 := Lib.hid (And.intro hfg (And.intro hcb (And.intro hnb (And.intro hcq hhb))))
      clear hst hg hcb hfg hnb hcq hhb
      go_wp2_with fail
      refine H5.out.1.mono ?_
      rintro e w6 ⟨rfl, hst6, hf6⟩
      have hcb6 := H5.out.2.1.keep (hf6.block _ (by simp) H5.out.2.2.2.1)
      cases hfl : Rm.flag r3 with
      | false =>
        have hx : Pg.cellR r = (⟨⟨key.toArray⟩, false, ⟨#[]⟩⟩, Rm.flagR r3) := by rw [HX.out.2.2.1, hfl]; rfl
        have d0 : w6.cell? ⟨w5.heap.size, 0, none⟩ = some (.string ⟨key.toArray⟩) := hcb6.cell 0
        have d1 : w6.cell? ⟨w5.heap.size, 1, none⟩ = some (.bool false) := hcb6.cell 1
        have d2 : w6.cell? ⟨w5.heap.size, 2, none⟩ = some (.string ⟨#[]⟩) := hcb6.cell 2
        have p1 : w6.cell? ⟨pb, 1, none⟩ = some (.slice A2 l.length c2) := hst6.pag.cell 1
        have H8 := Lib.hid (And.intro hst6 (hst6.ready ⟨⟨key.toArray⟩, false, ⟨#[]⟩⟩ ⟨HX.out.2.2.2.2, Nat.zero_le _⟩))
        have HZ := Lib.hid (And.intro hx hfl)
        clear hst6 hf6 hcb6 hx
        go_wp2_with (at_builtin; refine wpList_append_st _ cellK_len (by decide) cellK_one rfl (.tmp 32) (.tmp 34) 22 rfl (pb + 1) 40 i0 _ 40 Try.underlying22 HII.out.1 HII.out.2.1 HII.out.2.2.1 HII.out.2.2.2 rfl (by omega) (.slice A2 l.length c2) l.length (rowOf cellK l) rfl (H8.out.2.1) (some ⟨w6.heap.size, 0, none⟩) 1 1 [⟨⟨key.toArray⟩, false, ⟨#[]⟩⟩] rfl H8.out.2.2.1 (by omega) H8.out.2.2.2.1 ?_; intro A9 c9 w9 hown9 hg9 hat9; have hp9 := H8.out.2.2.2.2 w9 hg9; have p9 := hp9.cell 1; have f9 := hp9.free 1; have H9 := Lib.hid (And.intro hown9 hg9); clear hown9 hg9 hat9 hp9)
        go_wp2_with fail
        refine ⟨⟨k + 1, A9, c9, by omega, by go_num, ?_⟩, by simp [intOf]; omega⟩
        obtain ⟨g, cap, hv, _, _⟩ := H9.out.1.form (by omega)
        injection hv with hv1 _ hv2
        subst hv1
        rw [HX.out.2.1, HZ.out.1]
        exact H8.out.1.push _ H9.out.1 H9.out.2
      | true =>
        have hx : Pg.cellR r = (⟨⟨key.toArray⟩, true, ⟨(Rm.text (Rm.flagR r3) 32).toArray⟩⟩, Rm.textR (Rm.flagR r3) 32) := by rw [HX.out.2.2.1, hfl]; rfl
        have htx := hst6.text 32 (by omega) (by omega)
        have hds : (⟨(Rm.text (Rm.flagR r3) 32).toArray⟩ : ByteArray).size ≤ 9223372036854775807 := by
          have := Rm.text_le (Rm.flagR r3) 32
          rw [ba_size]
          omega
        generalize Rm.text (Rm.flagR r3) 32 = data at *
        have H6 := Lib.hid (And.intro htx (And.intro hcb6 hds))
        have HZ := Lib.hid (And.intro hx hfl)
        clear hst6 hf6 hcb6 hx htx hds
        go_wp2_with fail
        refine H6.out.1.mono ?_
        rintro e w8 ⟨rfl, hst8, hf8⟩
        have hcb8 := H6.out.2.1.keep (hf8.block _ H6.out.2.1.lt H5.out.2.2.2.1)
        have f81 := hcb8.free 1
        have f82 := hcb8.free 2
        have c81 : w8.cell? ⟨w5.heap.size, 1, none⟩ = some (.bool false) := hcb8.cell 1
        have c82 : w8.cell? ⟨w5.heap.size, 2, none⟩ = some (.string ⟨#[]⟩) := hcb8.cell 2
        have hcb9 := (hcb8.put 1 (.bool true)).put 2 (.string ⟨data.toArray⟩)
        have d0 : ((w8.setCell ⟨w5.heap.size, 1, none⟩ (.bool true)).setCell ⟨w5.heap.size, 2, none⟩ (.string ⟨data.toArray⟩)).cell? ⟨w5.heap.size, 0, none⟩ = some (.string ⟨key.toArray⟩) := hcb9.cell 0
        have d1 : ((w8.setCell ⟨w5.heap.size, 1, none⟩ (.bool true)).setCell ⟨w5.heap.size, 2, none⟩ (.string ⟨data.toArray⟩)).cell? ⟨w5.heap.size, 1, none⟩ = some (.bool true) := hcb9.cell 1
        have d2 : ((w8.setCell ⟨w5.heap.size, 1, none⟩ (.bool true)).setCell ⟨w5.heap.size, 2, none⟩ (.string ⟨data.toArray⟩)).cell? ⟨w5.heap.size, 2, none⟩ = some (.string ⟨data.toArray⟩) := hcb9.cell 2
        have hst9 := (hst8.set (i := 1) (.bool true) H5.out.2.2.2.2 H5.out.2.2.1).set (i := 2) (.string ⟨data.toArray⟩) H5.out.2.2.2.2 H5.out.2.2.1
        have p1 : ((w8.setCell ⟨w5.heap.size, 1, none⟩ (.bool true)).setCell ⟨w5.heap.size, 2, none⟩ (.string ⟨data.toArray⟩)).cell? ⟨pb, 1, none⟩ = some (.slice A2 l.length c2) := hst9.pag.cell 1
        have hrdy := hst9.ready ⟨⟨key.toArray⟩, true, ⟨data.toArray⟩⟩ ⟨HX.out.2.2.2.2, H6.out.2.2⟩
        rw [setCell_size', setCell_size'] at hrdy
        have H8 := Lib.hid (And.intro hst9 hrdy)
        clear hst8 hf8 hcb8 hcb9 hst9 hrdy
        go_wp2_with (at_builtin; refine wpList_append_st _ cellK_len (by decide) cellK_one rfl (.tmp 32) (.tmp 34) 22 rfl (pb + 1) 40 i0 _ 40 Try.underlying22 HII.out.1 HII.out.2.1 HII.out.2.2.1 HII.out.2.2.2 rfl (by omega) (.slice A2 l.length c2) l.length (rowOf cellK l) rfl (H8.out.2.1) (some ⟨w8.heap.size, 0, none⟩) 1 1 [⟨⟨key.toArray⟩, true, ⟨data.toArray⟩⟩] rfl H8.out.2.2.1 (by omega) H8.out.2.2.2.1 ?_; intro A9 c9 w9 hown9 hg9 hat9; have hp9 := H8.out.2.2.2.2 w9 hg9; have p9 := hp9.cell 1; have f9 := hp9.free 1; have H9 := Lib.hid (And.intro hown9 hg9); clear hown9 hg9 hat9 hp9)
        go_wp2_with fail
        refine ⟨⟨k + 1, A9, c9, by omega, by go_num, ?_⟩, by simp [intOf]; omega⟩
        obtain ⟨g, cap, hv, _, _⟩ := H9.out.1.form (by omega)
        injection hv with hv1 _ hv2
        subst hv1
        rw [HX.out.2.1, HZ.out.1]
        exact H8.out.1.push _ H9.out.1 H9.out.2
    · obtain rfl : k = K := by omega
      have hRD := HN.out.2.1
      rw [HN.out.2.2] at hRD
      clear HN
      have hsm := Pg.cellsR_small r2 k
      generalize Pg.cellsR r2 k = t at *
      obtain ⟨l, r⟩ := t
      simp only at hst hle hlen hRD hsm
      have q1 : wr.cell? ⟨w.heap.size + 1, 1, none⟩ = some (.int .i64 r.e) := by obtain ⟨_, _, _, h1, _⟩ := hst.rd; exact h1.cell 1
      have p0 : wr.cell? ⟨pb, 0, none⟩ = some (.int .i64 lsn) := hst.pag.cell 0
      have p1 : wr.cell? ⟨pb, 1, none⟩ = some (.slice A2 l.length c2) := hst.pag.cell 1
      have r0 : wr.cell? ⟨w.heap.size, 0, none⟩ = some (.int .i64 0) := hst.res.cell 0
      have r1 : wr.cell? ⟨w.heap.size, 1, none⟩ = some (.slice none 0 0) := hst.res.cell 1
      have g0 := hst.res.free 0
      have g1 := hst.res.free 1
      have H6 := Lib.hid (And.intro hst (And.intro (hst.grow (w' := wr.drew) ⟨rfl, rfl, rfl, Nat.le_refl _, fun _ _ => rfl⟩) hRD))
      by_cases he : r.e ≠ 0
      · have e1 : ((r.e : Int) != 0) = true := by rw [bne_iff_ne]; omega
        have hD : D = (0, [], r.e) := by rw [H6.out.2.2, if_pos he]
        have HE := Lib.hid hD
        clear hst hRD he hD hsm hlen hle
        generalize r.e = ec at *
        go_wp2_with fail
        go_region
        all_goals
          go_wp2_with fail
          obtain ⟨z0, z1, hbl, _⟩ := H6.out.1.fin 0 (.slice none 0 0)
          have hbel := below_drN hbl 1
          exact bodyPost_ret (v := .tuple #[pVal 0 none 0 0, .int .i64 ec]) (by simp [results, Try.results46, go_sem, z0, z1]) rfl (by rw [HE.out]; exact ⟨none, 0, rfl, own_nilK _, hbel⟩)
      · have e1 : ((r.e : Int) != 0) = false := by simp at he; simp [he]
        have hok : ST cellK wr A2 l.length l := ST.of_own cellK_len (by decide) hst.row (fun x hx => ⟨Nat.le_trans (hsm x hx).1 (by omega), Nat.le_trans (hsm x hx).2 (by omega)⟩)
        have hmay := refMay10_any lsn A2 l.length c2 l wr hok (by omega)
        rw [if_neg he] at hRD
        have HM := Lib.hid (And.intro hmay hRD)
        clear hst hRD he hok hmay hsm hlen hle
        generalize r.e = ec at *
        cases hm : Pg.may lsn l with
        | false =>
          have hD : D = (0, [], 11) := by rw [HM.out.2, hm]; rfl
          have HE := Lib.hid hD
          have hmay := HM.out.1
          rw [hm] at hmay
          have HC := Lib.hid hmay
          clear hm hD hmay
          go_wp2_with fail
          refine HC.out.mono ?_
          rintro e w6 ⟨rfl, hb6⟩
          have hst6 := H6.out.1.grow hb6
          have r0 : w6.cell? ⟨w.heap.size, 0, none⟩ = some (.int .i64 0) := hst6.res.cell 0
          have r1 : w6.cell? ⟨w.heap.size, 1, none⟩ = some (.slice none 0 0) := hst6.res.cell 1
          have g0 := hst6.res.free 0
          have g1 := hst6.res.free 1
          have H7 := Lib.hid hst6
          clear hst6 hb6
          go_wp2_with fail
          obtain ⟨z0, z1, hbel, _⟩ := H7.out.fin 0 (.slice none 0 0)
          exact bodyPost_ret (v := .tuple #[pVal 0 none 0 0, .int .i64 11]) (by simp [results, Try.results46, go_sem, z0, z1]) rfl (by rw [HE.out]; exact ⟨none, 0, rfl, own_nilK _, hbel⟩)
        | true =>
          have hD : D = (lsn, l, 0) := by rw [HM.out.2, hm]; rfl
          have HE := Lib.hid hD
          have hmay := HM.out.1
          rw [hm] at hmay
          have HC := Lib.hid hmay
          clear hm hD hmay
          go_wp2_with fail
          refine HC.out.mono ?_
          rintro e w6 ⟨rfl, hb6⟩
          have hst6 := H6.out.1.grow hb6
          have r0 : w6.cell? ⟨w.heap.size, 0, none⟩ = some (.int .i64 0) := hst6.res.cell 0
          have r1 : w6.cell? ⟨w.heap.size, 1, none⟩ = some (.slice none 0 0) := hst6.res.cell 1
          have p0 : w6.cell? ⟨pb, 0, none⟩ = some (.int .i64 lsn) := hst6.pag.cell 0
          have p1 : w6.cell? ⟨pb, 1, none⟩ = some (.slice A2 l.length c2) := hst6.pag.cell 1
          have g0 := hst6.res.free 0
          have g1 := hst6.res.free 1
          have H7 := Lib.hid hst6
          clear hst6 hb6
          go_wp2_with fail
          obtain ⟨z0, z1, hbel, hrow⟩ := H7.out.fin lsn (.slice A2 l.length c2)
          exact bodyPost_ret (v := .tuple #[pVal lsn A2 l.length c2, .int .i64 0]) (by simp [results, Try.results46, go_sem, z0, z1]) rfl (by rw [HE.out]; exact ⟨A2, c2, rfl, hrow, hbel⟩)
end Go.Proofs.Ytfcmlfcpgboigaa
