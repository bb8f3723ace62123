/- A record of one's own: the document's Copy (printed by gen_copy2.py). -/
import Derived.Test.YtlijfnekopjogaaRecOpen
import Derived.Test.YtlijfnekopjogaaRecGreat
import Derived.Test.YtlijfnekopjogaaRecCopyA
namespace Go.Proofs.Ytlijfnekopjogaa
open Go Go.RowKit Mem Rc
set_option maxRecDepth 100000
set_option linter.unusedVariables false
set_option linter.unusedSimpArgs false

structure CpS (w wj : World) (y : MD) : Prop where
  hb : Below w.heap.size w wj
  br : Blk wj w.heap.size 30 (mCells y)
  bg : Blk wj (w.heap.size + 1) 30 zCells
theorem cpH (w : World) (x : MD) : ∃ w1, (w.alloc (.cells (mCells x) 30)).alloc (.cells #[.int .i64 0, .int .i64 0, .int .i64 0, .int .i64 0, .string ⟨#[]⟩, .bool false, .string ⟨#[]⟩, .bool false, .string ⟨#[]⟩, .int .i64 0, .slice none 0 0, .slice none 0 0, .slice none 0 0, .slice none 0 0, .slice none 0 0, .slice none 0 0] 30) = w1 ∧ CpS w w1 x := by
  refine ⟨_, rfl, ((Below.refl _ _).alloc (Nat.le_refl _) _).alloc (by simp) _, (Blk.new _ _ _).alloc _, ?_⟩
  have := Blk.new (w.alloc (.cells (mCells x) 30)) 30 zCells
  rwa [show (w.alloc (.cells (mCells x) 30)).heap.size = w.heap.size + 1 by simp] at this
/-- a list that is copied -/
structure Cp1 {α : Type} (K : Kind_ α) (w wj : World) (A : Option Addr) (m c : Nat) (l : List α) : Prop where
  st : ST K wj A m l
  cap : m ≤ c ∧ c ≤ 9223372036854775807
  new : ∀ a, A = some a → w.heap.size + 2 ≤ a.block
theorem Cp1.fr {α : Type} {K : Kind_ α} {w wj wk : World} {A : Option Addr} {m c : Nat} {l : List α} (h : Cp1 K w wj A m c l) (hf : Fr (fun k => k = w.heap.size) wj wk) (hok : ∀ x ∈ l, K.ok wk x) : Cp1 K w wk A m c l :=
  ⟨h.st.fr hf (fun a e g => by have h1 := h.new a e; have h2 : a.block = w.heap.size := g; omega) hok, h.cap, h.new⟩
theorem Cp1.fr2 {α : Type} {K : Kind_ α} {w wj wk : World} {A : Option Addr} {m c : Nat} {l : List α} (h : Cp1 K w wj A m c l) (hf : Fr (fun k => k < w.heap.size + 2) wj wk) (hok : ∀ x ∈ l, K.ok wk x) : Cp1 K w wk A m c l :=
  ⟨h.st.fr hf (fun a e g => by have h1 := h.new a e; have h2 : a.block < w.heap.size + 2 := g; omega) hok, h.cap, h.new⟩
/-- what Copy leaves -/
def CpTo (w : World) (x : MD) (e : Ending) (w' : World) : Prop := ∃ y : MD, e = .returned (mVal y) ∧ y.m = x.m ∧ MOk w' y ∧ MAp w.heap.size y ∧ Below w.heap.size w w'
theorem copy_results {W : World} {g : Nat} {x : MD} {tmps : Array Value} (hb : Blk W g 30 (mCells x)) (h2 : tmps.getD 2 undef = .pointer (some ⟨g, 0, none⟩)) :
    (results Try.f11 tmps).run Try.prog W = .ok (mVal x) W := by
  have hl := rec_loadVar hb
  generalize mVal x = X at *
  simp only [Array.getD_eq_getD_getElem?] at h2
  simp [results, Try.results11, h2, asAddr, hl]
theorem CpS.next {α : Type} {K : Kind_ α} {w vj u : World} {y y' : MD} {A : Option Addr} {m c ci : Nat} {l : List α} {val : Value} (S : CpS w vj y) (hc : Cpd K vj u A m c l) (hy : (mCells y).setIfInBounds ci val = mCells y') (hok : ∀ W, ∀ x ∈ l, K.ok W x) :
    CpS w (u.setCell ⟨w.heap.size, ci, none⟩ val) y' ∧ Fr (fun k => k = w.heap.size) vj (u.setCell ⟨w.heap.size, ci, none⟩ val) ∧ Cp1 K w (u.setCell ⟨w.heap.size, ci, none⟩ val) A m c l := by
  have hf : Fr (fun k => k = w.heap.size) vj (u.setCell ⟨w.heap.size, ci, none⟩ val) := (Fr.of_below hc.below _).setCell _ _ (fun _ => rfl)
  have hlt := S.bg.lt
  refine ⟨⟨S.hb.trans (hf.below S.hb.size (fun j hj => by have e : j = w.heap.size := hj; omega)), ?_, S.bg.keep (hf.block _ S.bg.lt (fun h => by have e : w.heap.size + 1 = w.heap.size := h; omega))⟩, hf, ?_⟩
  · rw [← hy]
    exact (S.br.below hc.below S.br.lt).put ci val
  · have hn : ∀ a, A = some a → w.heap.size + 2 ≤ a.block := fun a e => by have := hc.new a e; omega
    exact (Cp1.mk hc.st hc.cap hn).fr ((Fr.refl _ u).setCell _ _ (fun _ => rfl)) (hok _)
set_option maxHeartbeats 8000000 in
theorem copy07_any (x : MD) (w : World) (hok : MOk w x) (hs : NotGreat x) : Calls Try.prog 11 #[mVal x] w (CpTo w x) := by
  obtain ⟨v0, hv0, h0⟩ := cpH w x
  obtain ⟨nm, hnm⟩ : ∃ nm, x.mem.length = nm := ⟨_, rfl⟩
  obtain ⟨nl, hnl⟩ : ∃ nl, x.locks.length = nl := ⟨_, rfl⟩
  obtain ⟨nd, hnd⟩ : ∃ nd, x.dirty.length = nd := ⟨_, rfl⟩
  obtain ⟨np, hnp⟩ : ∃ np, x.past.length = np := ⟨_, rfl⟩
  have HO := Lib.hid hok
  have HL := Lib.hid hs
  obtain ⟨i_int, hi0, hz0, hz1, hz2⟩ := info_parts einfo_int
  have HIint := Lib.hid (And.intro hi0 (And.intro hz0 (And.intro hz1 hz2)))
  clear hi0 hz0 hz1 hz2
  obtain ⟨i_lock, hi0, hz0, hz1, hz2⟩ := info_parts einfo_lock
  have HIlock := Lib.hid (And.intro hi0 (And.intro hz0 (And.intro hz1 hz2)))
  clear hi0 hz0 hz1 hz2
  obtain ⟨i_dirty, hi0, hz0, hz1, hz2⟩ := info_parts einfo_dirty
  have HIdirty := Lib.hid (And.intro hi0 (And.intro hz0 (And.intro hz1 hz2)))
  clear hi0 hz0 hz1 hz2
  have HN := Lib.hid (And.intro hnm (And.intro hnl (And.intro hnd hnp)))
  obtain ⟨y0, hy0⟩ : ∃ y0, x = y0 := ⟨_, rfl⟩
  have HY0 := Lib.hid hy0.symm
  have HS0 := Lib.hid (show CpS w v0 y0 by rw [← hy0]; exact h0)
  clear h0 hok hs hnm hnl hnd hnp hy0
  go_enter Try.func11, Try.ntmps11
  have e0 : v0.cell? ⟨w.heap.size, 10, none⟩ = some (.slice x.mA nm x.mc) := (HS0.out.br.cell 10).trans (by rw [HY0.out]; rw [← HN.out.1]; rfl)
  have e0' : (v0.alloc (.cells #[] 3)).cell? ⟨w.heap.size, 10, none⟩ = some (.slice x.mA nm x.mc) := cell_alloc_some' _ e0
  have hst0 : ST intK v0 x.mA nm x.mem := by have g := (st_of_is (HO.out.below HS0.out.hb).mem); rw [HN.out.1] at g; exact g
  have HT0 := Lib.hid hst0
  clear hst0
  go_upto_region 2 with (at_builtin; refine wpList_append_st _ intK_len (by decide) intK_one rfl (.tmp 8) (.tmp 10) 24 rfl v0.heap.size 3 i_int _ 8 Try.underlying24 HIint.out.1 HIint.out.2.1 HIint.out.2.2.1 HIint.out.2.2.2 rfl (by omega) (.slice (some ⟨v0.heap.size, 0, none⟩) 0 0) 0 [] rfl (own_emptyK (heap_alloc_new v0 _)) x.mA nm x.mc x.mem rfl (HT0.out.below ((Below.refl _ v0).alloc (Nat.le_refl _) (.cells #[] 3))) (by have := HL.out.mem; have := HN.out.1; omega) (by simp) ?_; intro A1 c1 u1 hown hg hat; have hcp : Cpd intK v0 u1 A1 nm c1 x.mem := (by first | exact cpd_of' intK_len (by decide) HT0.out hown hg | exact cpd_of intK_len (by decide) HT0.out hown hg); have hB := HS0.out.br.below hcp.below HS0.out.br.lt; have d0 : u1.cell? ⟨w.heap.size, 10, none⟩ = some (.slice x.mA nm x.mc) := (hB.cell 10).trans (by rw [HY0.out]; rw [← HN.out.1]; rfl); have f0 := hB.free 10; obtain ⟨v1, hv1⟩ : ∃ v1, u1.setCell ⟨w.heap.size, 10, none⟩ (.slice A1 nm c1) = v1 := ⟨_, rfl⟩; have HC1 := Lib.hid hcp; clear hcp hB hown hg hat)
  obtain ⟨y1, hy1⟩ : ∃ y1, ({ y0 with mA := A1, mc := c1 } : MD) = y1 := ⟨_, rfl⟩
  have HY1 := Lib.hid hy1.symm
  have HP1 := Lib.hid (show CpS w v1 y1 ∧ Fr (fun k => k = w.heap.size) v0 v1 ∧ Cp1 intK w v1 A1 nm c1 x.mem by rw [← hv1]; exact HS0.out.next HC1.out (by rw [← hy1]; rw [HY0.out]; rw [← HN.out.1]; rfl) (fun _ _ _ => trivial))
  have HS1 := Lib.hid HP1.out.1
  clear hy1 hv1 d0 f0 e0 e0'
  have e1 : v1.cell? ⟨w.heap.size, 11, none⟩ = some (.slice x.lA nl x.lc) := (HS1.out.br.cell 11).trans (by rw [HY1.out]; rw [HY0.out]; rw [← HN.out.2.1]; rfl)
  have e1' : (v1.alloc (.cells #[] 50)).cell? ⟨w.heap.size, 11, none⟩ = some (.slice x.lA nl x.lc) := cell_alloc_some' _ e1
  have hst1 : ST lockK v1 x.lA nl x.locks := by have g := (HO.out.below HS1.out.hb).locks; rw [HN.out.2.1] at g; exact g
  have HT1 := Lib.hid hst1
  clear hst1
  go_upto_region 3 with (at_builtin; refine wpList_append_st _ lockK_len (by decide) lockK_one rfl (.tmp 13) (.tmp 15) 25 rfl v1.heap.size 50 i_lock _ 24 Try.underlying25 HIlock.out.1 HIlock.out.2.1 HIlock.out.2.2.1 HIlock.out.2.2.2 rfl (by omega) (.slice (some ⟨v1.heap.size, 0, none⟩) 0 0) 0 [] rfl (own_emptyK (heap_alloc_new v1 _)) x.lA nl x.lc x.locks rfl (HT1.out.below ((Below.refl _ v1).alloc (Nat.le_refl _) (.cells #[] 50))) (by have := HL.out.locks; have := HN.out.2.1; omega) (by simp) ?_; intro A2 c2 u2 hown hg hat; have hcp : Cpd lockK v1 u2 A2 nl c2 x.locks := (by first | exact cpd_of' lockK_len (by decide) HT1.out hown hg | exact cpd_of lockK_len (by decide) HT1.out hown hg); have hB := HS1.out.br.below hcp.below HS1.out.br.lt; have d1 : u2.cell? ⟨w.heap.size, 11, none⟩ = some (.slice x.lA nl x.lc) := (hB.cell 11).trans (by rw [HY1.out]; rw [HY0.out]; rw [← HN.out.2.1]; rfl); have f1 := hB.free 11; obtain ⟨v2, hv2⟩ : ∃ v2, u2.setCell ⟨w.heap.size, 11, none⟩ (.slice A2 nl c2) = v2 := ⟨_, rfl⟩; have HC2 := Lib.hid hcp; clear hcp hB hown hg hat)
  obtain ⟨y2, hy2⟩ : ∃ y2, ({ y1 with lA := A2, lc := c2 } : MD) = y2 := ⟨_, rfl⟩
  have HY2 := Lib.hid hy2.symm
  have HP2 := Lib.hid (show CpS w v2 y2 ∧ Fr (fun k => k = w.heap.size) v1 v2 ∧ Cp1 lockK w v2 A2 nl c2 x.locks by rw [← hv2]; exact HS1.out.next HC2.out (by rw [← hy2]; rw [HY1.out]; rw [HY0.out]; rw [← HN.out.2.1]; rfl) (fun _ z hz => HC2.out.st.ok z hz))
  have HS2 := Lib.hid HP2.out.1
  clear hy2 hv2 d1 f1 e1 e1'
  have e2 : v2.cell? ⟨w.heap.size, 13, none⟩ = some (.slice x.dA nd x.dc) := (HS2.out.br.cell 13).trans (by rw [HY2.out]; rw [HY1.out]; rw [HY0.out]; rw [← HN.out.2.2.1]; rfl)
  have e2' : (v2.alloc (.cells #[] 92)).cell? ⟨w.heap.size, 13, none⟩ = some (.slice x.dA nd x.dc) := cell_alloc_some' _ e2
  have hst2 : ST dirtyK v2 x.dA nd x.dirty := by have g := (HO.out.below HS2.out.hb).dirty; rw [HN.out.2.2.1] at g; exact g
  have HT2 := Lib.hid hst2
  clear hst2
  go_upto_region 4 with (at_builtin; refine wpList_append_st _ dirtyK_len (by decide) dirtyK_one rfl (.tmp 18) (.tmp 20) 27 rfl v2.heap.size 92 i_dirty _ 16 Try.underlying27 HIdirty.out.1 HIdirty.out.2.1 HIdirty.out.2.2.1 HIdirty.out.2.2.2 rfl (by omega) (.slice (some ⟨v2.heap.size, 0, none⟩) 0 0) 0 [] rfl (own_emptyK (heap_alloc_new v2 _)) x.dA nd x.dc x.dirty rfl (HT2.out.below ((Below.refl _ v2).alloc (Nat.le_refl _) (.cells #[] 92))) (by have := HL.out.dirty; have := HN.out.2.2.1; omega) (by simp) ?_; intro A3 c3 u3 hown hg hat; have hcp : Cpd dirtyK v2 u3 A3 nd c3 x.dirty := (by first | exact cpd_of' dirtyK_len (by decide) HT2.out hown hg | exact cpd_of dirtyK_len (by decide) HT2.out hown hg); have hB := HS2.out.br.below hcp.below HS2.out.br.lt; have d2 : u3.cell? ⟨w.heap.size, 13, none⟩ = some (.slice x.dA nd x.dc) := (hB.cell 13).trans (by rw [HY2.out]; rw [HY1.out]; rw [HY0.out]; rw [← HN.out.2.2.1]; rfl); have f2 := hB.free 13; obtain ⟨v3, hv3⟩ : ∃ v3, u3.setCell ⟨w.heap.size, 13, none⟩ (.slice A3 nd c3) = v3 := ⟨_, rfl⟩; have HC3 := Lib.hid hcp; clear hcp hB hown hg hat)
  obtain ⟨y3, hy3⟩ : ∃ y3, ({ y2 with dA := A3, dc := c3 } : MD) = y3 := ⟨_, rfl⟩
  have HY3 := Lib.hid hy3.symm
  have HP3 := Lib.hid (show CpS w v3 y3 ∧ Fr (fun k => k = w.heap.size) v2 v3 ∧ Cp1 dirtyK w v3 A3 nd c3 x.dirty by rw [← hv3]; exact HS2.out.next HC3.out (by rw [← hy3]; rw [HY2.out]; rw [HY1.out]; rw [HY0.out]; rw [← HN.out.2.2.1]; rfl) (fun _ z hz => HC3.out.st.ok z hz))
  have HS3 := Lib.hid HP3.out.1
  clear hy3 hv3 d2 f2 e2 e2'
  have e3 : v3.cell? ⟨w.heap.size, 15, none⟩ = some (.slice x.pA np x.pc) := (HS3.out.br.cell 15).trans (by rw [HY3.out]; rw [HY2.out]; rw [HY1.out]; rw [HY0.out]; rw [← HN.out.2.2.2]; rfl)
  have e3' : (v3.alloc (.cells #[] 3)).cell? ⟨w.heap.size, 15, none⟩ = some (.slice x.pA np x.pc) := cell_alloc_some' _ e3
  have hst3 : ST intK v3 x.pA np x.past := by have g := (st_of_is (HO.out.below HS3.out.hb).past); rw [HN.out.2.2.2] at g; exact g
  have HT3 := Lib.hid hst3
  clear hst3
  go_upto_region 5 with (at_builtin; refine wpList_append_st _ intK_len (by decide) intK_one rfl (.tmp 23) (.tmp 25) 24 rfl v3.heap.size 3 i_int _ 8 Try.underlying24 HIint.out.1 HIint.out.2.1 HIint.out.2.2.1 HIint.out.2.2.2 rfl (by omega) (.slice (some ⟨v3.heap.size, 0, none⟩) 0 0) 0 [] rfl (own_emptyK (heap_alloc_new v3 _)) x.pA np x.pc x.past rfl (HT3.out.below ((Below.refl _ v3).alloc (Nat.le_refl _) (.cells #[] 3))) (by have := HL.out.past; have := HN.out.2.2.2; omega) (by simp) ?_; intro A4 c4 u4 hown hg hat; have hcp : Cpd intK v3 u4 A4 np c4 x.past := (by first | exact cpd_of' intK_len (by decide) HT3.out hown hg | exact cpd_of intK_len (by decide) HT3.out hown hg); have hB := HS3.out.br.below hcp.below HS3.out.br.lt; have d3 : u4.cell? ⟨w.heap.size, 15, none⟩ = some (.slice x.pA np x.pc) := (hB.cell 15).trans (by rw [HY3.out]; rw [HY2.out]; rw [HY1.out]; rw [HY0.out]; rw [← HN.out.2.2.2]; rfl); have f3 := hB.free 15; obtain ⟨v4, hv4⟩ : ∃ v4, u4.setCell ⟨w.heap.size, 15, none⟩ (.slice A4 np c4) = v4 := ⟨_, rfl⟩; have HC4 := Lib.hid hcp; clear hcp hB hown hg hat)
  obtain ⟨y4, hy4⟩ : ∃ y4, ({ y3 with pA := A4, pc := c4 } : MD) = y4 := ⟨_, rfl⟩
  have HY4 := Lib.hid hy4.symm
  have HP4 := Lib.hid (show CpS w v4 y4 ∧ Fr (fun k => k = w.heap.size) v3 v4 ∧ Cp1 intK w v4 A4 np c4 x.past by rw [← hv4]; exact HS3.out.next HC4.out (by rw [← hy4]; rw [HY3.out]; rw [HY2.out]; rw [HY1.out]; rw [HY0.out]; rw [← HN.out.2.2.2]; rfl) (fun _ _ _ => trivial))
  have HS4 := Lib.hid HP4.out.1
  clear hy4 hv4 d3 f3 e3 e3'
  obtain ⟨i_row, hi0, hz0, hz1, hz2⟩ := info_parts einfo_row
  have HIrow := Lib.hid (And.intro hi0 (And.intro hz0 (And.intro hz1 hz2)))
  clear hi0 hz0 hz1 hz2
  obtain ⟨nr, hnr⟩ : ∃ nr, x.rows.length = nr := ⟨_, rfl⟩
  have HNr := Lib.hid hnr
  have r0 : v4.cell? ⟨w.heap.size, 12, none⟩ = some (.slice x.rA nr x.rc) := (HS4.out.br.cell 12).trans (by rw [HY4.out]; rw [HY3.out]; rw [HY2.out]; rw [HY1.out]; rw [HY0.out]; rw [← hnr]; rfl)
  clear hnr
  go_wp2_with fail
  go_loopg [3, 4, 5] nr (fun gk s3 s4 s5 wr => ∃ (k : Nat) (lk : List RwD) (A : Option Addr) (c : Nat), k ≤ nr ∧ gk = nr - k ∧ s3 = .slice A k c ∧ s4 = .int .i64 k ∧ lk.length = k ∧ (∀ j, j < k → (lk.getD j RwD.zero).r = (x.rows.getD j RwD.zero).r) ∧ (∀ z ∈ lk, RowOk wr z ∧ RwD.ap (w.heap.size + 2) z ∧ (∀ a, z.mA = some a ∨ z.lA = some a → a.block < wr.heap.size ∧ (Value.slice A k c).ownBlock ≠ some a.block)) ∧ Below v4.heap.size v4 wr ∧ wr.ownsRow v4.heap.size 52 8 (.slice A k c) k (rowOf rowK lk))
  case atStart => exact ⟨0, [], none, 0, by omega, by omega, rfl, rfl, rfl, fun j hj => absurd hj (by omega), fun z hz => absurd hz (by simp), Below.refl _ _, own_nilK _⟩
  case round =>
    obtain ⟨k, lk, A, c, hk, rfl, rfl, rfl, hlk, hrs, hoks, hfr, hown⟩ := hrel
    have hbw : Below w.heap.size w wr := HS4.out.hb.trans (hfr.mono HS4.out.hb.size)
    have rr : wr.cell? ⟨w.heap.size, 12, none⟩ = some (.slice x.rA nr x.rc) := cell_below hfr r0
    by_cases hlt : k < nr
    · obtain ⟨b, off, hA, hbl, a0, a1, a2, a3, a4, a5, a6, a7, aok⟩ := row_at (HO.out.below hbw).rows (by rw [HNr.out]; exact hlt)
      have hki : (k : Int) < (nr : Int) := by omega
      rw [hA] at rr
      obtain ⟨xr, hxr⟩ : ∃ xr, x.rows.getD k RwD.zero = xr := ⟨_, rfl⟩
      rw [hxr] at a0 a1 a2 a3 a4 a5 a6 a7 aok
      have hB0 : Blk (wr.alloc (.cells #[.int .i64 0, .int .i64 0, .int .i64 0, .int .i64 0, .int .i64 0, .int .i64 0, .slice none 0 0, .slice none 0 0] 52)) wr.heap.size 52 #[.int .i64 0, .int .i64 0, .int .i64 0, .int .i64 0, .int .i64 0, .int .i64 0, .slice none 0 0, .slice none 0 0] := Blk.new _ _ _
      have HR := Lib.hid (And.intro hlk (And.intro hrs (And.intro hoks (And.intro hfr (And.intro hown (And.intro hbw (And.intro aok hxr)))))))
      clear hlk hrs hoks hfr hown hbw aok hA hxr
      go_upto_region 10 with (refine wpList_store_row xr (by rfl) _ _ (by rfl) (by rfl) (by rfl) hB0 (by rfl) ?_; intro w5 hB5 hF5 hS5)
      have hb5 : Below wr.heap.size wr w5 := ((Below.refl _ wr).alloc (Nat.le_refl _) _).trans (hF5.below (by simp) (fun j hj => by have e : j = wr.heap.size := hj; omega))
      obtain ⟨G, hG⟩ : ∃ G, wr.heap.size = G := ⟨_, rfl⟩
      rw [hG] at hB5
      obtain ⟨nmm, hnmm⟩ : ∃ nmm, xr.r.mem.length = nmm := ⟨_, rfl⟩
      obtain ⟨nll, hnll⟩ : ∃ nll, xr.r.locks.length = nll := ⟨_, rfl⟩
      have hsz := HL.out.row k (by rw [HNr.out]; exact hlt)
      rw [HR.out.2.2.2.2.2.2.2] at hsz
      have HM := Lib.hid (And.intro hnmm (And.intro hnll hsz))
      have e5 : w5.cell? ⟨G, 6, none⟩ = some (.slice xr.mA nmm xr.mc) := (hB5.cell 6).trans (by rw [← hnmm]; rfl)
      have e5' : (w5.alloc (.cells #[] 3)).cell? ⟨G, 6, none⟩ = some (.slice xr.mA nmm xr.mc) := cell_alloc_some' _ e5
      have hT5 : ST intK w5 xr.mA nmm xr.r.mem := by have g := st_of_is (HR.out.2.2.2.2.2.2.1.mem.below hb5); rw [hnmm] at g; exact g
      have HT5 := Lib.hid hT5
      have HB5 := Lib.hid (And.intro hB5 (And.intro hb5 hG))
      clear hT5 hB5 hb5 hF5 hS5 hnmm hnll hsz hB0 a0 a1 a2 a3 a4 a5 a6 a7 hbl
      go_upto_region 11 with (at_builtin; refine wpList_append_st _ intK_len (by decide) intK_one rfl (.tmp 40) (.tmp 42) 24 rfl w5.heap.size 3 i_int _ 8 Try.underlying24 HIint.out.1 HIint.out.2.1 HIint.out.2.2.1 HIint.out.2.2.2 rfl (by omega) (.slice (some ⟨w5.heap.size, 0, none⟩) 0 0) 0 [] rfl (own_emptyK (heap_alloc_new w5 _)) xr.mA nmm xr.mc xr.r.mem rfl (HT5.out.below ((Below.refl _ w5).alloc (Nat.le_refl _) (.cells #[] 3))) (by have := HM.out.2.2.1; have := HM.out.1; omega) (by simp) ?_; intro B1 d1 u6 hown hg hat; have hcp : Cpd intK w5 u6 B1 nmm d1 xr.r.mem := (by first | exact cpd_of' intK_len (by decide) HT5.out hown hg | exact cpd_of intK_len (by decide) HT5.out hown hg); have hB := HB5.out.1.below hcp.below HB5.out.1.lt; have dd : u6.cell? ⟨G, 6, none⟩ = some (.slice xr.mA nmm xr.mc) := (hB.cell 6).trans (by rw [← HM.out.1]; rfl); have ff := hB.free 6; obtain ⟨w6, hw6⟩ : ∃ w6, u6.setCell ⟨G, 6, none⟩ (.slice B1 nmm d1) = w6 := ⟨_, rfl⟩; have HC6 := Lib.hid hcp; clear hcp hB hown hg hat)
      have hf6 : Fr (fun j => j = G) u6 w6 := by rw [← hw6]; exact (Fr.refl _ _).setCell _ _ (fun _ => rfl)
      have hG5 : G < w5.heap.size := HB5.out.1.lt
      have hGw : wr.heap.size ≤ G := Nat.le_of_eq HB5.out.2.2
      have hm6 : ST intK w6 B1 nmm xr.r.mem := HC6.out.st.fr hf6 (fun a e g => by have h1 := HC6.out.new a e; have h2 : a.block = G := g; omega) (fun _ _ => trivial)
      have hb6 : Below wr.heap.size wr w6 := (HB5.out.2.1.trans (HC6.out.below.mono HB5.out.2.1.size)).trans (hf6.below (Nat.le_trans HB5.out.2.1.size HC6.out.below.size) (fun j hj => by have e : j = G := hj; omega))
      have hB6 : Blk w6 G 52 (rwCells { xr with mA := B1, mc := d1 }) := by
        have g := (HB5.out.1.below HC6.out.below HB5.out.1.lt).put 6 (.slice B1 nmm d1)
        rw [hw6] at g
        rw [show (rwCells xr).setIfInBounds 6 (.slice B1 nmm d1) = rwCells { xr with mA := B1, mc := d1 } by rw [← HM.out.1]; rfl] at g
        exact g
      have e6 : w6.cell? ⟨G, 7, none⟩ = some (.slice xr.lA nll xr.lc) := (hB6.cell 7).trans (by rw [← HM.out.2.1]; rfl)
      have e6' : (w6.alloc (.cells #[] 50)).cell? ⟨G, 7, none⟩ = some (.slice xr.lA nll xr.lc) := cell_alloc_some' _ e6
      have HT6 := Lib.hid (show ST lockK w6 xr.lA nll xr.r.locks by have g := HR.out.2.2.2.2.2.2.1.locks.below hb6; rw [HM.out.2.1] at g; exact g)
      have HZ6 := Lib.hid (show w6.heap.size = u6.heap.size by rw [← hw6, setCell_size'])
      have HB6 := Lib.hid (And.intro hB6 (And.intro hb6 (And.intro hm6 (And.intro hG5 hGw))))
      clear hf6 hG5 hGw hm6 hb6 hB6 hw6 dd ff e5 e5'
      go_upto_region 12 with (at_builtin; refine wpList_append_st _ lockK_len (by decide) lockK_one rfl (.tmp 45) (.tmp 47) 25 rfl w6.heap.size 50 i_lock _ 24 Try.underlying25 HIlock.out.1 HIlock.out.2.1 HIlock.out.2.2.1 HIlock.out.2.2.2 rfl (by omega) (.slice (some ⟨w6.heap.size, 0, none⟩) 0 0) 0 [] rfl (own_emptyK (heap_alloc_new w6 _)) xr.lA nll xr.lc xr.r.locks rfl (HT6.out.below ((Below.refl _ w6).alloc (Nat.le_refl _) (.cells #[] 50))) (by have := HM.out.2.2.2; have := HM.out.2.1; omega) (by simp) ?_; intro C1 d2 u7 hown hg hat; have hcp : Cpd lockK w6 u7 C1 nll d2 xr.r.locks := (by first | exact cpd_of' lockK_len (by decide) HT6.out hown hg | exact cpd_of lockK_len (by decide) HT6.out hown hg); have hB := HB6.out.1.below hcp.below HB6.out.1.lt; have dd : u7.cell? ⟨G, 7, none⟩ = some (.slice xr.lA nll xr.lc) := (hB.cell 7).trans (by rw [← HM.out.2.1]; rfl); have ff := hB.free 7; obtain ⟨w7, hw7⟩ : ∃ w7, u7.setCell ⟨G, 7, none⟩ (.slice C1 nll d2) = w7 := ⟨_, rfl⟩; have HC7 := Lib.hid hcp; clear hcp hB hown hg hat)
      have hf7 : Fr (fun j => j = G) u7 w7 := by rw [← hw7]; exact (Fr.refl _ _).setCell _ _ (fun _ => rfl)
      have hG6 : G < w6.heap.size := HB6.out.1.lt
      have hl7 : ST lockK w7 C1 nll xr.r.locks := HC7.out.st.fr hf7 (fun a e g => by have h1 := HC7.out.new a e; have h2 : a.block = G := g; omega) HC7.out.st.ok
      have hm7 : ST intK w7 B1 nmm xr.r.mem := (HB6.out.2.2.1.below HC7.out.below).fr hf7 (fun a e g => by have h1 := HC6.out.new a e; have h2 : a.block = G := g; have h3 := HB6.out.2.2.2.1; omega) (fun _ _ => trivial)
      have hb7 : Below wr.heap.size wr w7 := (HB6.out.2.1.trans (HC7.out.below.mono HB6.out.2.1.size)).trans (hf7.below (Nat.le_trans HB6.out.2.1.size HC7.out.below.size) (fun j hj => by have e : j = G := hj; have := HB6.out.2.2.2.2; omega))
      obtain ⟨xr2, hxr2⟩ : ∃ xr2, ({ xr with mA := B1, mc := d1, lA := C1, lc := d2 } : RwD) = xr2 := ⟨_, rfl⟩
      have hB7 : Blk w7 G 52 (rwCells xr2) := by
        have g := (HB6.out.1.below HC7.out.below HB6.out.1.lt).put 7 (.slice C1 nll d2)
        rw [hw7] at g
        rw [show (rwCells { xr with mA := B1, mc := d1 }).setIfInBounds 7 (.slice C1 nll d2) = rwCells xr2 by rw [← HM.out.2.1, ← hxr2]; rfl] at g
        exact g
      have hok7 : RowOk w7 xr2 := by
        rw [← hxr2]
        exact ⟨by have g := is_of_st hm7; rw [← HM.out.1] at g; exact g, by have g := hl7; rw [← HM.out.2.1] at g; exact g, by have g := HC6.out.cap; rw [← HM.out.1] at g; exact g, by have g := HC7.out.cap; rw [← HM.out.2.1] at g; exact g⟩
      have hap7 : RwD.ap (w.heap.size + 2) xr2 := by
        rw [← hxr2]
        have h5 := HB5.out.2.1.size
        have hw2 := HS4.out.bg.lt
        have hw4 := HR.out.2.2.2.1.size
        exact ⟨fun a e => by have := HC6.out.new a e; omega, fun a e => by have := HC7.out.new a e; have := HB6.out.2.1.size; omega⟩
      have HZ7 := Lib.hid (show w7.heap.size = u7.heap.size by rw [← hw7, setCell_size'])
      have HX := Lib.hid (And.intro hok7 (And.intro hap7 (And.intro hb7 (And.intro hB7 hxr2))))
      clear hf7 hG6 hl7 hm7 hb7 hok7 hap7 hw7 dd ff e6 e6' hxr2
      have HOW := Lib.hid (own_keep HR.out.2.2.2.2.1 (fun j e => HX.out.2.2.1.block j (own_lt HR.out.2.2.2.2.1 e)))
      have hkb := HL.out.rows
      have hkb2 := HNr.out
      have hsz7 : v4.heap.size ≤ w7.heap.size := Nat.le_trans HR.out.2.2.2.1.size HX.out.2.2.1.size
      go_wp2_with (first | (refine wpList_load_row' _ (by rfl) (by rfl) (by rfl) hB7 ?_) | (at_builtin; refine wpList_append_st _ rowK_len (by decide) rowK_one rfl (.tmp 50) (.tmp 52) 26 rfl v4.heap.size 52 i_row _ 96 Try.underlying26 HIrow.out.1 HIrow.out.2.1 HIrow.out.2.2.1 HIrow.out.2.2.2 rfl (by omega) (.slice A k c) k (rowOf rowK lk) rfl (own_below HOW.out ((Below.refl _ w7).alloc (Nat.le_refl _) _)) (some ⟨w7.heap.size, 0, none⟩) 1 1 [xr2] rfl (row_one (Blk.new w7 52 (rwCells xr2)) (rowK.keep HX.out.1 ((Below.refl _ w7).alloc (Nat.le_refl _) _))) (by omega) (by rw [World.size_alloc]; omega) ?_; intro A9 c9 w9 hown9 hg9 hat9; have HA9 := Lib.hid (And.intro hown9 (And.intro hg9 hat9)); clear hown9 hg9 hat9))
      have hlt7 : ∀ a, xr2.mA = some a ∨ xr2.lA = some a → wr.heap.size ≤ a.block ∧ a.block < w7.heap.size := by
        have s5 := HB5.out.2.1.size
        have s6 := HZ6.out
        have s7 := HZ7.out
        have s8 := HC7.out.below.size
        have s9 := HC6.out.below.size
        rw [← HX.out.2.2.2.2]
        intro a ha
        rcases ha with ha | ha
        · have t1 := HC6.out.new a ha; have t2 := HC6.out.lt a ha; omega
        · have t1 := HC7.out.new a ha; have t2 := HC7.out.lt a ha; omega
      go_roundg (nr - (k + 1))
      case rel =>
        obtain ⟨hown9, hg9, hat9⟩ := HA9.out
        have hf9 : Fr (fun j => (Value.slice A k c).ownBlock = some j) w7 w9 := ((Fr.refl _ w7).alloc _).grown hg9 (fun j e _ => e)
        have hgl : ∀ j, (Value.slice A k c).ownBlock = some j → v4.heap.size ≤ j ∧ j < wr.heap.size := fun j e => ⟨own_geC HR.out.2.2.2.2.1 e, own_lt HR.out.2.2.2.2.1 e⟩
        have hs97 := hf9.size
        have hs7r := HX.out.2.2.1.size
        refine ⟨k + 1, lk ++ [xr2], A9, c9, by omega, by omega, rfl, congrArg (Value.int .i64) (by first | omega | (unfold wrap64; omega)), by rw [List.length_append, HR.out.1]; rfl, fun j hj => ?_, fun z hz => ?_, ?_, ?_⟩
        · by_cases hjk : j < k
          · rw [getD_left _ _ _ (by rw [HR.out.1]; exact hjk)]
            exact HR.out.2.1 j hjk
          · obtain rfl : j = k := by omega
            have hgl2 := getD_last lk xr2 RwD.zero
            rw [HR.out.1] at hgl2
            rw [HR.out.2.2.2.2.2.2.2, hgl2]
            show xr2.r = xr.r
            rw [← HX.out.2.2.2.2]
        · rcases List.mem_append.1 hz with hz | hz
          · have g := HR.out.2.2.1 z hz
            refine ⟨rowOk_fr (rowK.keep g.1 HX.out.2.2.1) hf9 (fun a ha e => (g.2.2 a ha).2 e), g.2.1, fun a ha => ⟨by have := (g.2.2 a ha).1; omega, fun e => ?_⟩⟩
            rcases hat9 with h9 | h9
            · exact (g.2.2 a ha).2 (h9.symm.trans e)
            · have h10 := h9.symm.trans e
              injection h10 with h10
              have := (g.2.2 a ha).1
              rw [World.size_alloc] at h10
              omega
          · rw [List.mem_singleton] at hz
            subst hz
            refine ⟨rowOk_fr HX.out.1 hf9 (fun a ha e => by have := hgl _ e; have := hlt7 a ha; omega), HX.out.2.1, fun a ha => ⟨by have := hlt7 a ha; omega, fun e => ?_⟩⟩
            have hl7 := hlt7 a ha
            rcases hat9 with h9 | h9
            · have := hgl _ (h9.symm.trans e)
              omega
            · have h10 := h9.symm.trans e
              injection h10 with h10
              rw [World.size_alloc] at h10
              omega
        · exact (HR.out.2.2.2.1.trans (HX.out.2.2.1.mono HR.out.2.2.2.1.size)).trans (hf9.below hsz7 (fun j e => (hgl j e).1))
        · rw [rowOf_append]
          exact hown9
      case measure => omega
    · obtain rfl : k = nr := by omega
      have hBr : Blk wr w.heap.size 30 (mCells y4) := HS4.out.br.below hfr HS4.out.br.lt
      have hfz := hBr.free 12
      obtain ⟨v5, hv5⟩ : ∃ v5, wr.setCell ⟨w.heap.size, 12, none⟩ (.slice A k c) = v5 := ⟨_, rfl⟩
      obtain ⟨y5, hy5⟩ : ∃ y5, ({ y4 with rows := lk, rA := A, rc := c } : MD) = y5 := ⟨_, rfl⟩
      have hf5 : Fr (fun j => j = w.heap.size) wr v5 := by rw [← hv5]; exact (Fr.refl _ _).setCell _ _ (fun _ => rfl)
      have hS5 : CpS w v5 y5 := by
        refine ⟨hbw.trans (hf5.below hbw.size (fun j hj => by have e : j = w.heap.size := hj; omega)), ?_, (HS4.out.bg.below hfr HS4.out.bg.lt).keep (hf5.block _ (HS4.out.bg.below hfr HS4.out.bg.lt).lt (fun h => by have e : w.heap.size + 1 = w.heap.size := h; omega))⟩
        rw [← hv5, ← hy5]
        have g := hBr.put 12 (.slice A k c)
        rw [show (mCells y4).setIfInBounds 12 (.slice A k c) = mCells { y4 with rows := lk, rA := A, rc := c } by rw [← hlk]; rfl] at g
        exact g
      have hown5 : v5.ownsRow v4.heap.size 52 8 (.slice A k c) k (rowOf rowK lk) := own_keep hown (fun j e => hf5.block j (own_lt hown e) (fun h => by have h1 := own_geC hown e; have h2 : j = w.heap.size := h; have := HS4.out.br.lt; omega))
      have hok5 : ∀ z ∈ lk, RowOk v5 z ∧ RwD.ap (w.heap.size + 2) z := fun z hz => by
        have g := hoks z hz
        refine ⟨rowOk_fr g.1 hf5 (fun a ha e => ?_), g.2.1⟩
        have h2 : a.block = w.heap.size := e
        have g1 := g.2.1.1 a
        have g2 := g.2.1.2 a
        rcases ha with ha | ha
        · have := g1 ha; omega
        · have := g2 ha; omega
      have hst5 : ST rowK v5 A k lk := ST.of_own rowK_len (by decide) hown5 (fun z hz => (hok5 z hz).1)
      have hcap5 := own_capI hown5
      have hnew5 : ∀ a, A = some a → w.heap.size + 2 ≤ a.block := fun a e => by have h1 := own_geC hown5 (k := a.block) (by rw [e]; rfl); have := HS4.out.bg.lt; omega
      have hq5 : (∀ z ∈ y5.rows, RowOk v5 z ∧ RwD.ap (w.heap.size + 2) z) ∧ ST rowK v5 y5.rA y5.rows.length y5.rows ∧ (y5.rows.length ≤ y5.rc ∧ y5.rc ≤ 9223372036854775807) ∧ (∀ a, y5.rA = some a → w.heap.size + 2 ≤ a.block) ∧ y5.rows.map RwD.r = x.rows.map RwD.r := by
        rw [← hy5]
        refine ⟨hok5, by show ST rowK v5 A lk.length lk; rw [hlk]; exact hst5, by show lk.length ≤ c ∧ _; rw [hlk]; exact hcap5, hnew5, ?_⟩
        exact map_of_getD RwD.r RwD.zero lk x.rows (by rw [hlk, HNr.out]) (fun j hj => hrs j (by have := HNr.out; omega))
      have hz5 : y5.kind = y4.kind ∧ y5.tx = y4.tx ∧ y5.prev = y4.prev ∧ y5.nxt = y4.nxt ∧ y5.key = y4.key ∧ y5.old = y4.old ∧ y5.new = y4.new ∧ y5.coord = y4.coord ∧ (y5.mem = y4.mem ∧ y5.mA = y4.mA ∧ y5.mc = y4.mc) ∧ (y5.locks = y4.locks ∧ y5.lA = y4.lA ∧ y5.lc = y4.lc) ∧ (y5.dirty = y4.dirty ∧ y5.dA = y4.dA ∧ y5.dc = y4.dc) ∧ (y5.past = y4.past ∧ y5.pA = y4.pA ∧ y5.pc = y4.pc) := by
        rw [← hy5]
        exact ⟨rfl, rfl, rfl, rfl, rfl, rfl, rfl, rfl, ⟨rfl, rfl, rfl⟩, ⟨rfl, rfl, rfl⟩, ⟨rfl, rfl, rfl⟩, ⟨rfl, rfl, rfl⟩⟩
      have HQ5 := Lib.hid (And.intro hq5 hz5)
      clear hq5 hz5
      have H5 := Lib.hid (And.intro hS5 (And.intro hok5 (And.intro hst5 (And.intro hcap5 (And.intro hnew5 (And.intro hlk (And.intro hrs (And.intro hf5 (And.intro hfr hy5)))))))))
      clear hBr hf5 hS5 hown5 hok5 hst5 hcap5 hnew5 hlk hrs hoks hfr hown hbw hy5
      go_upto_region 16 with fail
      obtain ⟨ne, hne⟩ : ∃ ne, x.deeds.length = ne := ⟨_, rfl⟩
      have HNe := Lib.hid hne
      have q0 : v5.cell? ⟨w.heap.size, 14, none⟩ = some (.slice x.eA ne x.ec) := (H5.out.1.br.cell 14).trans (by rw [← H5.out.2.2.2.2.2.2.2.2.2, HY4.out, HY3.out, HY2.out, HY1.out, HY0.out, ← hne]; rfl)
      obtain ⟨i_deed, hi0, hz0, hz1, hz2⟩ := info_parts einfo_deed
      have HIdeed := Lib.hid (And.intro hi0 (And.intro hz0 (And.intro hz1 hz2)))
      clear hi0 hz0 hz1 hz2 hne
      go_loopg [6, 7] ne (fun gk s6 s7 wr => ∃ (k : Nat) (lk : List DeD) (A : Option Addr) (c : Nat), k ≤ ne ∧ gk = ne - k ∧ s6 = .slice A k c ∧ s7 = .int .i64 k ∧ lk.length = k ∧ (∀ j, j < k → (lk.getD j DeD.zero).d = (x.deeds.getD j DeD.zero).d) ∧ (∀ z ∈ lk, DeedOk wr z ∧ DeD.ap (w.heap.size + 2) z ∧ (∀ a, z.mA = some a → a.block < wr.heap.size ∧ (Value.slice A k c).ownBlock ≠ some a.block)) ∧ Below v5.heap.size v5 wr ∧ wr.ownsRow v5.heap.size 54 2 (.slice A k c) k (rowOf deedK lk))
      case atStart => exact ⟨0, [], none, 0, by omega, by omega, rfl, rfl, rfl, fun j hj => absurd hj (by omega), fun z hz => absurd hz (by simp), Below.refl _ _, own_nilK _⟩
      case round =>
        obtain ⟨k, lk, A, c, hk, rfl, rfl, rfl, hlk, hrs, hoks, hfr, hown⟩ := hrel
        have hbw : Below w.heap.size w wr := H5.out.1.hb.trans (hfr.mono H5.out.1.hb.size)
        have rr : wr.cell? ⟨w.heap.size, 14, none⟩ = some (.slice x.eA ne x.ec) := cell_below hfr q0
        by_cases hlt : k < ne
        · obtain ⟨b, off, hA, hbl, a0', a1', aok'⟩ := deed_at HO.out.deeds (by rw [HNe.out]; exact hlt)
          have a0 := cell_below hbw a0'
          have a1 := cell_below hbw a1'
          have aok := deedK.keep aok' hbw
          clear a0' a1' aok'
          have hki : (k : Int) < (ne : Int) := by omega
          rw [hA] at rr
          obtain ⟨xd, hxd⟩ : ∃ xd, x.deeds.getD k DeD.zero = xd := ⟨_, rfl⟩
          rw [hxd] at a0 a1 aok
          obtain ⟨nmm, hnmm⟩ : ∃ nmm, xd.d.mem.length = nmm := ⟨_, rfl⟩
          rw [hnmm] at a1
          have hsz := HL.out.deed k (by rw [HNe.out]; exact hlt)
          rw [hxd, hnmm] at hsz
          have HT := Lib.hid (show ST intK wr.drew xd.mA nmm xd.d.mem from (by have g := st_of_is aok.mem; rw [hnmm] at g; exact g.below (Below.refl _ _).drew))
          have HR := Lib.hid (And.intro hlk (And.intro hrs (And.intro hoks (And.intro hfr (And.intro hown (And.intro hbw (And.intro aok (And.intro hxd (And.intro hnmm (And.intro hsz hbl))))))))))
          have hk80 : k ≤ 100 := by have := HL.out.deeds; have := HNe.out; omega
          clear hlk hrs hoks hfr hown hbw aok hA hxd hnmm hsz hbl
          go_wp2_with fail
          refine wp_region_held_drew (S := (fun W => W.cell? ⟨w.heap.size, 14, none⟩ = some (.slice (some ⟨b, off, none⟩) ne x.ec) ∧ W.cell? ⟨b, off + k * 2, none⟩ = some (.int .i64 xd.d.tx) ∧ W.cell? ⟨b, off + k * 2 + 1, none⟩ = some (.slice xd.mA nmm xd.mc))) (by kernel_rfl) ⟨rr, a0, a1⟩ (fun hHeld => ?_)
          refine tk 0 63 (h := ?_)
          refine tk 1 64 (h := ?_)
          refine tk 2 65 (h := ?_)
          refine tk 3 66 (h := ?_)
          refine tk 4 67 (h := ?_)
          refine tk 5 68 (h := ?_)
          refine tk 6 69 (h := ?_)
          refine tk 8 71 (h := ?_)
          refine tk 9 72 (h := ?_)
          refine tk 10 73 (h := ?_)
          refine tk 11 74 (h := ?_)
          refine tk 12 75 (h := ?_)
          refine tk 13 76 (h := ?_)
          refine wpAnyH_ready (rs := [7]) (by kernel_rfl) (by simp) ?_
          refine AllReadyH.cons rfl (fun K hK => ?_) AllReadyH.nil
          go_simp
          refine hK.out _ _ ⟨cell_alloc_some' _ (show wr.drew.cell? _ = _ from rr), cell_alloc_some' _ (show wr.drew.cell? _ = _ from a0), cell_alloc_some' _ (show wr.drew.cell? _ = _ from a1)⟩ (fun hHeld => ?_)
          clear hK K
          try simp only [Act.put, List.setIfInBounds_toArray, List.set_cons_zero, List.set_cons_succ]
          refine wpAnyH_ready (rs := [14]) (by kernel_rfl) (by simp) ?_
          refine AllReadyH.cons rfl (fun K hK => ?_) AllReadyH.nil
          refine step_append_st _ intK_len (by decide) intK_one rfl (.tmp 70) (.tmp 76) 24 rfl wr.drew.heap.size 3 i_int _ 8 Try.underlying24 HIint.out.1 HIint.out.2.1 HIint.out.2.2.1 HIint.out.2.2.2 rfl (by omega) (.slice (some ⟨wr.drew.heap.size, 0, none⟩) 0 0) 0 [] rfl (own_emptyK (heap_alloc_new wr.drew _)) xd.mA nmm xd.mc xd.d.mem rfl (HT.out.below ((Below.refl _ wr.drew).alloc (Nat.le_refl _) (.cells #[] 3))) (by have := HR.out.2.2.2.2.2.2.2.2.2.1; omega) (by simp) ?_
          intro B1 d1 u1 hown1 hg1 hat1
          have hcp : Cpd intK wr.drew u1 B1 nmm d1 xd.d.mem := (by first | exact cpd_of' intK_len (by decide) HT.out hown1 hg1 | exact cpd_of intK_len (by decide) HT.out hown1 hg1)
          have HC := Lib.hid hcp
          clear hown1 hg1 hat1 hcp
          refine hK.out _ _ ⟨cell_below HC.out.below (show wr.drew.cell? _ = _ from rr), cell_below HC.out.below (show wr.drew.cell? _ = _ from a0), cell_below HC.out.below (show wr.drew.cell? _ = _ from a1)⟩ (fun hHeld => ?_)
          clear hK K
          try simp only [Act.put, List.setIfInBounds_toArray, List.set_cons_zero, List.set_cons_succ]
          refine tk 15 78 (h := ?_)
          refine wpAnyH_ready (rs := [16]) (by kernel_rfl) (by simp) ?_
          refine AllReadyH.cons rfl (fun K hK => ?_) AllReadyH.nil
          go_simp
          refine hK.out _ _ ⟨cell_alloc_some' _ (cell_below HC.out.below (show wr.drew.cell? _ = _ from rr)), cell_alloc_some' _ (cell_below HC.out.below (show wr.drew.cell? _ = _ from a0)), cell_alloc_some' _ (cell_below HC.out.below (show wr.drew.cell? _ = _ from a1))⟩ (fun hHeld => ?_)
          clear hK K
          try simp only [Act.put, List.setIfInBounds_toArray, List.set_cons_zero, List.set_cons_succ]
          obtain ⟨xd2, hxd2⟩ : ∃ xd2, ({ xd with mA := B1, mc := d1 } : DeD) = xd2 := ⟨_, rfl⟩
          have hB2 : Blk (u1.alloc (.cells #[.int .i64 xd.d.tx, .slice B1 nmm d1] 54)) u1.heap.size 54 (deCells xd2) := by
            rw [← hxd2]
            have g := Blk.new u1 54 (deCells { xd with mA := B1, mc := d1 })
            rw [show deCells { xd with mA := B1, mc := d1 } = #[.int .i64 xd.d.tx, .slice B1 nmm d1] by rw [← HR.out.2.2.2.2.2.2.2.2.1]] at g ⊢
            exact g
          have hok2 : DeedOk u1 xd2 := by
            rw [← hxd2]
            exact ⟨by have g := is_of_st HC.out.st; rw [← HR.out.2.2.2.2.2.2.2.2.1] at g; exact g, by have g := HC.out.cap; rw [← HR.out.2.2.2.2.2.2.2.2.1] at g; exact g⟩
          have HX := Lib.hid (And.intro hxd2 hok2)
          have HST2 := Lib.hid (deed_one hB2 (deedK.keep hok2 ((Below.refl _ u1).alloc (Nat.le_refl _) _)))
          have HOW := Lib.hid (own_below (own_keep HR.out.2.2.2.2.1 (fun j e => HC.out.below.block j (own_lt HR.out.2.2.2.2.1 e))) ((Below.refl _ u1).alloc (Nat.le_refl _) (.cells #[.int .i64 xd.d.tx, .slice B1 nmm d1] 54)))
          have hszb : v5.heap.size ≤ u1.heap.size := Nat.le_trans HR.out.2.2.2.1.size HC.out.below.size
          have q9 := HC.out.below
          clear hxd2 hok2 hB2
          refine wpAnyH_ready (rs := [17]) (by kernel_rfl) (by simp) ?_
          refine AllReadyH.cons rfl (fun K hK => ?_) AllReadyH.nil
          refine step_append_st _ deedK_len (by decide) deedK_one rfl (.tmp 63) (.tmp 79) 28 rfl v5.heap.size 54 i_deed _ 32 Try.underlying28 HIdeed.out.1 HIdeed.out.2.1 HIdeed.out.2.2.1 HIdeed.out.2.2.2 rfl (by omega) (.slice A k c) k (rowOf deedK lk) rfl HOW.out (some ⟨u1.heap.size, 0, none⟩) 1 1 [xd2] rfl HST2.out (by omega) (by rw [World.size_alloc]; omega) ?_
          intro A9 c9 w9 hown9 hg9 hat9
          have HA9 := Lib.hid (And.intro hown9 (And.intro hg9 hat9))
          have hf9 : Fr (fun j => (Value.slice A k c).ownBlock = some j) u1 w9 := ((Fr.refl _ u1).alloc _).grown hg9 (fun j e _ => e)
          have hgl : ∀ j, j < v5.heap.size → ¬ ((Value.slice A k c).ownBlock = some j) := fun j hj e => by have := own_geC HR.out.2.2.2.2.1 e; omega
          have t0 : w9.cell? ⟨w.heap.size, 14, none⟩ = some (.slice (some ⟨b, off, none⟩) ne x.ec) := hf9.cell (hgl _ (H5.out.1.br.lt)) (cell_below HC.out.below (show wr.drew.cell? _ = _ from rr))
          have hbv : b < v5.heap.size := by have := HR.out.2.2.2.2.2.2.2.2.2.2; have := H5.out.1.br.lt; omega
          have t1 : w9.cell? ⟨b, off + k * 2, none⟩ = some (.int .i64 xd.d.tx) := hf9.cell (hgl _ hbv) (cell_below HC.out.below (show wr.drew.cell? _ = _ from a0))
          have t2 : w9.cell? ⟨b, off + k * 2 + 1, none⟩ = some (.slice xd.mA nmm xd.mc) := hf9.cell (hgl _ hbv) (cell_below HC.out.below (show wr.drew.cell? _ = _ from a1))
          clear hown9 hg9 hat9 q9 hszb hf9 hgl
          refine hK.out _ _ ⟨t0, t1, t2⟩ (fun hHeld => ?_)
          clear hK K
          try simp only [Act.put, List.setIfInBounds_toArray, List.set_cons_zero, List.set_cons_succ]
          refine wpAnyH_ready (rs := [18]) (by kernel_rfl) (by simp) ?_
          refine AllReadyH.cons rfl (fun K hK => ?_) AllReadyH.nil
          go_simp
          refine hK.out _ _ ⟨t0, t1, t2⟩ (fun hHeld => ?_)
          clear hK K
          try simp only [Act.put, List.setIfInBounds_toArray, List.set_cons_zero, List.set_cons_succ]
          refine wpAnyH_done (by kernel_rfl) ?_ _
          go_wp2
          go_roundg (ne - (k + 1))
          case rel =>
            obtain ⟨hown9, hg9, hat9⟩ := HA9.out
            have hd1 : Below wr.heap.size wr u1 := ((Below.refl _ wr).drew).trans (HC.out.below.mono (Nat.le_refl _))
            have hf9 : Fr (fun j => (Value.slice A k c).ownBlock = some j) u1 w9 := ((Fr.refl _ u1).alloc _).grown hg9 (fun j e _ => e)
            have hgl : ∀ j, (Value.slice A k c).ownBlock = some j → v5.heap.size ≤ j ∧ j < wr.heap.size := fun j e => ⟨own_geC HR.out.2.2.2.2.1 e, own_lt HR.out.2.2.2.2.1 e⟩
            have hs97 := hf9.size
            have hs7r := hd1.size
            have hs5r := HR.out.2.2.2.1.size
            have hw5 := H5.out.1.bg.lt
            have hnw : ∀ a, xd2.mA = some a → wr.heap.size ≤ a.block ∧ a.block < u1.heap.size := by
              rw [← HX.out.1]
              exact fun a e => ⟨HC.out.new a e, HC.out.lt a e⟩
            refine ⟨k + 1, lk ++ [xd2], A9, c9, by omega, by omega, rfl, congrArg (Value.int .i64) (by first | omega | (unfold wrap64; omega)), by rw [List.length_append, HR.out.1]; rfl, fun j hj => ?_, fun z hz => ?_, ?_, ?_⟩
            · by_cases hjk : j < k
              · rw [getD_left _ _ _ (by rw [HR.out.1]; exact hjk)]
                exact HR.out.2.1 j hjk
              · obtain rfl : j = k := by omega
                have hgl2 := getD_last lk xd2 DeD.zero
                rw [HR.out.1] at hgl2
                rw [HR.out.2.2.2.2.2.2.2.1, hgl2]
                show xd2.d = xd.d
                rw [← HX.out.1]
            · rcases List.mem_append.1 hz with hz | hz
              · have g := HR.out.2.2.1 z hz
                refine ⟨deedOk_fr (deedK.keep g.1 hd1) hf9 (fun a ha e => (g.2.2 a ha).2 e), g.2.1, fun a ha => ⟨by have := (g.2.2 a ha).1; omega, fun e => ?_⟩⟩
                rcases hat9 with h9 | h9
                · exact (g.2.2 a ha).2 (h9.symm.trans e)
                · have h10 := h9.symm.trans e
                  injection h10 with h10
                  have := (g.2.2 a ha).1
                  rw [World.size_alloc] at h10
                  omega
              · rw [List.mem_singleton] at hz
                subst hz
                refine ⟨deedOk_fr HX.out.2 hf9 (fun a ha e => by have := hgl _ e; have := hnw a ha; omega), fun a ha => by have := hnw a ha; omega, fun a ha => ⟨by have := hnw a ha; omega, fun e => ?_⟩⟩
                have hl7 := hnw a ha
                rcases hat9 with h9 | h9
                · have := hgl _ (h9.symm.trans e)
                  omega
                · have h10 := h9.symm.trans e
                  injection h10 with h10
                  rw [World.size_alloc] at h10
                  omega
            · exact (HR.out.2.2.2.1.trans (hd1.mono hs5r)).trans (hf9.below (Nat.le_trans hs5r hs7r) (fun j e => (hgl j e).1))
            · rw [rowOf_append]
              exact hown9
          case measure => omega
        · obtain rfl : k = ne := by omega
          have hBr : Blk wr w.heap.size 30 (mCells y5) := H5.out.1.br.below hfr H5.out.1.br.lt
          have hfz2 := hBr.free 14
          obtain ⟨v6, hv6⟩ : ∃ v6, wr.setCell ⟨w.heap.size, 14, none⟩ (.slice A k c) = v6 := ⟨_, rfl⟩
          obtain ⟨y6, hy6⟩ : ∃ y6, ({ y5 with deeds := lk, eA := A, ec := c } : MD) = y6 := ⟨_, rfl⟩
          have hf6 : Fr (fun j => j = w.heap.size) wr v6 := by rw [← hv6]; exact (Fr.refl _ _).setCell _ _ (fun _ => rfl)
          have hS6 : CpS w v6 y6 := by
            refine ⟨hbw.trans (hf6.below hbw.size (fun j hj => by have e : j = w.heap.size := hj; omega)), ?_, (H5.out.1.bg.below hfr H5.out.1.bg.lt).keep (hf6.block _ (H5.out.1.bg.below hfr H5.out.1.bg.lt).lt (fun h => by have e : w.heap.size + 1 = w.heap.size := h; omega))⟩
            rw [← hv6, ← hy6]
            have g := hBr.put 14 (.slice A k c)
            rw [show (mCells y5).setIfInBounds 14 (.slice A k c) = mCells { y5 with deeds := lk, eA := A, ec := c } by rw [← hlk]; rfl] at g
            exact g
          have hown6 : v6.ownsRow v5.heap.size 54 2 (.slice A k c) k (rowOf deedK lk) := own_keep hown (fun j e => hf6.block j (own_lt hown e) (fun h => by have h1 := own_geC hown e; have h2 : j = w.heap.size := h; have := H5.out.1.br.lt; omega))
          have hok6 : ∀ z ∈ lk, DeedOk v6 z ∧ DeD.ap (w.heap.size + 2) z := fun z hz => by
            have g := hoks z hz
            exact ⟨deedOk_fr g.1 hf6 (fun a ha e => by have h2 : a.block = w.heap.size := e; have g1 := g.2.1 a ha; omega), g.2.1⟩
          have hst6 : ST deedK v6 A k lk := ST.of_own deedK_len (by decide) hown6 (fun z hz => (hok6 z hz).1)
          have hcap6 := own_capI hown6
          have hnew6 : ∀ a, A = some a → w.heap.size + 2 ≤ a.block := fun a e => by have h1 := own_geC hown6 (k := a.block) (by rw [e]; rfl); have := H5.out.1.bg.lt; omega
          have HB6 := Lib.hid hS6.br
          have hB6 := hS6.br
          have hG6 := hS6.bg
          have hW6 := hS6.hb
          have H6 := Lib.hid (And.intro hok6 (And.intro hst6 (And.intro hcap6 (And.intro hnew6 (And.intro hlk (And.intro hrs (And.intro hf6 (And.intro hfr (And.intro hy6 hW6)))))))))
          clear hBr hf6 hS6 hown6 hok6 hst6 hcap6 hnew6 hlk hrs hoks hfr hown hbw hy6 hW6
          go_wp2_with (first | (refine wpList_load_rec' _ (by rfl) (by rfl) (by rfl) hB6 ?_) | (refine wpList_store_rec y6 (by rfl) _ _ (by rfl) (by rfl) (by rfl) hG6 (by rfl) ?_; intro v7 hB7 hF7 hS7; have H7 := Lib.hid (And.intro hB7 (And.intro hF7 hS7)); clear hB7 hF7 hS7))
          refine bodyPost_ret (copy_results H7.out.1 rfl) rfl ⟨y6, rfl, ?_⟩
          obtain ⟨hq, z1, z2, z3, z4, z5, z6, z7, z8, ⟨m1, m2, m3⟩, ⟨l1, l2, l3⟩, ⟨d1, d2, d3⟩, ⟨p1, p2, p3⟩⟩ := HQ5.out
          obtain ⟨hrok, hrst, hrcap, hrnew, hrm⟩ := hq
          obtain ⟨hok6, hst6, hcap6, hnew6, hlk, hrs, hf6, hfr6, hy6, hW6⟩ := H6.out
          have hf5 := H5.out.2.2.2.2.2.2.2.1
          have hfr5 := H5.out.2.2.2.2.2.2.2.2.1
          have g67 : Fr (fun k => k < w.heap.size + 2) v6 v7 := fr_e H7.out.2.1 (by omega)
          have g57 : Fr (fun k => k < w.heap.size + 2) v5 v7 := fr_t (fr_t (fr_b hfr6) (fr_e hf6 (by omega))) g67
          have g47 : Fr (fun k => k < w.heap.size + 2) v4 v7 := fr_t (fr_t (fr_b hfr5) (fr_e hf5 (by omega))) g57
          have g37 : Fr (fun k => k < w.heap.size + 2) v3 v7 := fr_t (fr_e HP4.out.2.1 (by omega)) g47
          have g27 : Fr (fun k => k < w.heap.size + 2) v2 v7 := fr_t (fr_e HP3.out.2.1 (by omega)) g37
          have g17 : Fr (fun k => k < w.heap.size + 2) v1 v7 := fr_t (fr_e HP2.out.2.1 (by omega)) g27
          have k1 := HP1.out.2.2.fr2 g17 (fun _ _ => trivial)
          have k2 := HP2.out.2.2.fr2 g27 (fun z hz => HP2.out.2.2.st.ok z hz)
          have k3 := HP3.out.2.2.fr2 g37 (fun z hz => HP3.out.2.2.st.ok z hz)
          have k4 := HP4.out.2.2.fr2 g47 (fun _ _ => trivial)
          have e4 := HY4.out
          have e3 := HY3.out
          have e2 := HY2.out
          have e1 := HY1.out
          have e0 := HY0.out
          have hrst7 : ST rowK v7 y5.rA y5.rows.length y5.rows := hrst.fr g57 (fun a e g => by have h1 := hrnew a e; have h2 : a.block < w.heap.size + 2 := g; omega) (fun z hz => rowOk_fr (hrok z hz).1 g57 (fun a ha g => by
            have h2 : a.block < w.heap.size + 2 := g
            rcases ha with ha | ha
            · have := (hrok z hz).2.1 a ha; omega
            · have := (hrok z hz).2.2 a ha; omega))
          have hdst7 : ST deedK v7 A k lk := hst6.fr g67 (fun a e g => by have h1 := hnew6 a e; have h2 : a.block < w.heap.size + 2 := g; omega) (fun z hz => deedOk_fr (hok6 z hz).1 g67 (fun a ha g => by have h2 : a.block < w.heap.size + 2 := g; have := (hok6 z hz).2 a ha; omega))
          have hdm : lk.map DeD.d = x.deeds.map DeD.d := map_of_getD DeD.d DeD.zero lk x.deeds (by rw [hlk, HNe.out]) (fun j hj => hrs j (by have := HNe.out; omega))
          obtain ⟨n1, n2, n3, n4⟩ := HN.out
          subst hy6
          refine ⟨?_, ?_, ?_, ?_⟩
          · show (⟨y5.kind, y5.tx, y5.prev, y5.nxt, y5.key, y5.old, y5.new, y5.coord, y5.mem, y5.locks, y5.rows.map RwD.r, y5.dirty, lk.map DeD.d, y5.past⟩ : M) = _
            rw [z1, z2, z3, z4, z5, z6, z7, z8, m1, l1, d1, p1, hrm, hdm, e4, e3, e2, e1, e0]
            rfl
          · refine ⟨?_, ?_, ?_, ?_, hrst7, hrcap, ?_, ?_, ?_, ?_, ?_, ?_⟩
            · show IS v7 y5.mA y5.mem.length y5.mem
              rw [m1, m2, e4, e3, e2, e1, e0]
              have g := is_of_st k1.st
              rw [← n1] at g
              exact g
            · show y5.mem.length ≤ y5.mc ∧ _
              rw [m1, m3, e4, e3, e2, e1, e0]
              have g := k1.cap
              rw [← n1] at g
              exact g
            · show ST lockK v7 y5.lA y5.locks.length y5.locks
              rw [l1, l2, e4, e3, e2, e1, e0]
              have g := k2.st
              rw [← n2] at g
              exact g
            · show y5.locks.length ≤ y5.lc ∧ _
              rw [l1, l3, e4, e3, e2, e1, e0]
              have g := k2.cap
              rw [← n2] at g
              exact g
            · show ST dirtyK v7 y5.dA y5.dirty.length y5.dirty
              rw [d1, d2, e4, e3, e2, e1, e0]
              have g := k3.st
              rw [← n3] at g
              exact g
            · show y5.dirty.length ≤ y5.dc ∧ _
              rw [d1, d3, e4, e3, e2, e1, e0]
              have g := k3.cap
              rw [← n3] at g
              exact g
            · show ST deedK v7 A lk.length lk
              rw [hlk]
              exact hdst7
            · show lk.length ≤ c ∧ _
              rw [hlk]
              exact hcap6
            · show IS v7 y5.pA y5.past.length y5.past
              rw [p1, p2, e4, e3, e2, e1, e0]
              have g := is_of_st k4.st
              rw [← n4] at g
              exact g
            · show y5.past.length ≤ y5.pc ∧ _
              rw [p1, p3, e4, e3, e2, e1, e0]
              have g := k4.cap
              rw [← n4] at g
              exact g
          · refine ⟨?_, ?_, ?_, ?_, ?_, ?_, ?_, ?_⟩
            · show ∀ a, y5.mA = some a → _
              rw [m2, e4, e3, e2, e1]
              exact fun a e => by have := k1.new a e; omega
            · show ∀ a, y5.lA = some a → _
              rw [l2, e4, e3, e2]
              exact fun a e => by have := k2.new a e; omega
            · exact fun a e => by have := hrnew a e; omega
            · show ∀ a, y5.dA = some a → _
              rw [d2, e4, e3]
              exact fun a e => by have := k3.new a e; omega
            · exact fun a e => by have := hnew6 a e; omega
            · show ∀ a, y5.pA = some a → _
              rw [p2, e4]
              exact fun a e => by have := k4.new a e; omega
            · exact fun z hz => ⟨fun a e => by have := (hrok z hz).2.1 a e; omega, fun a e => by have := (hrok z hz).2.2 a e; omega⟩
            · exact fun z hz a e => by have := (hok6 z hz).2 a e; omega
          · exact hW6.trans (H7.out.2.1.below hW6.size (fun j hj => by have e : j = w.heap.size + 1 := hj; omega))
end Go.Proofs.Ytlijfnekopjogaa
