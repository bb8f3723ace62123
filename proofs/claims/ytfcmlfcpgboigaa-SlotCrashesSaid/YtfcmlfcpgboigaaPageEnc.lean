/- A page's payload. -/
import Derived.Test.YtfcmlfcpgboigaaPage
import Derived.Test.YtfcmlfcpgboigaaSealWrite
import Derived.Test.YtfcmlfcpgboigaaSealRefR
namespace Go.Proofs.Ytfcmlfcpgboigaa
open Go.RowKit Mem
set_option maxRecDepth 100000
set_option linter.unusedVariables false
set_option linter.unusedSimpArgs false

/-- bytes of the call's own, and an error -/
def PayP (w : World) (r : List UInt8 × Nat) (e : Ending) (w' : World) : Prop :=
  ∃ v, e = .returned (.tuple #[v, .int .i64 r.2]) ∧ w'.ownsRow w.heap.size 5 1 v r.1.length (u8s r.1) ∧ Below w.heap.size w w'
namespace Pg
def cellB (c : C) : List UInt8 := Sl.textB c.key.data.toList ++ [if c.has then 1 else 0] ++ (if c.has then Sl.textB c.data.data.toList else [])
def body (lsn : Int) (l : List C) : List UInt8 := Sl.numB lsn ++ Sl.numB (l.length : Int) ++ l.flatMap cellB
def enc (lsn : Int) (l : List C) : List UInt8 × Nat := if may lsn l then (body lsn l, 0) else ([], 1)
theorem cellB_not {c : C} (h : c.has = false) : cellB c = Sl.textB c.key.data.toList ++ [0] := by unfold cellB; rw [h]; simp
theorem cellB_has {c : C} (h : c.has = true) : cellB c = Sl.textB c.key.data.toList ++ [1] ++ Sl.textB c.data.data.toList := by unfold cellB; rw [h]; simp
theorem rise_fits : ∀ (l : List C) (s : ByteArray), rise s l = true → ∀ c ∈ l, fits c = true
  | [], _, _, c, hc => by cases hc
  | x :: l, s, h, c, hc => by
    unfold rise at h
    simp only [Bool.and_eq_true] at h
    rcases List.mem_cons.1 hc with rfl | hc
    · exact h.1.1
    · exact rise_fits l x.key h.2 c hc
theorem fits_sizes {c : C} (h : fits c = true) : c.key.size ≤ 16 ∧ c.data.size ≤ 32 := by
  unfold fits keyOk valOk at h
  simp only [Bool.and_eq_true, decide_eq_true_eq] at h
  exact ⟨h.1.2, h.2.1⟩
theorem may_parts {lsn : Int} {l : List C} (h : may lsn l = true) : rise ⟨#[]⟩ l = true ∧ 0 ≤ lsn ∧ lsn ≤ 1099511627776 ∧ l.length ≤ 4 := by
  unfold may at h
  simp only [Bool.and_eq_true, decide_eq_true_eq] at h
  exact ⟨h.1.1.1, h.1.1.2, h.1.2, h.2⟩
theorem text_le (s : ByteArray) : (Sl.textB s.data.toList).length ≤ 11 + s.size := by
  have h1 := numB_le (s.data.toList.length : Int)
  rw [Sl.textB, List.length_append]
  have h2 : s.data.toList.length = s.size := Array.length_toList
  omega
theorem cellB_le {c : C} (h : fits c = true) : (cellB c).length ≤ 71 := by
  have h1 := fits_sizes h
  have h2 := text_le c.key
  have h3 := text_le c.data
  unfold cellB
  split <;> simp only [List.length_append, List.length_cons, List.length_nil] <;> omega
theorem flat_le : ∀ l : List C, (∀ c ∈ l, fits c = true) → (l.flatMap cellB).length ≤ 71 * l.length
  | [], _ => by simp
  | x :: l, h => by
    have h1 := cellB_le (h x (by simp))
    have h2 := flat_le l (fun c hc => h c (List.mem_cons_of_mem _ hc))
    rw [List.flatMap_cons, List.length_append, List.length_cons]
    omega
theorem take_succ_flat (l : List C) (k : Nat) (h : k < l.length) : (l.take (k + 1)).flatMap cellB = (l.take k).flatMap cellB ++ cellB (l.getD k C.zero) := by
  rw [List.take_succ_eq_append_getElem h, List.flatMap_append, List.getD_eq_getElem?_getD, List.getElem?_eq_getElem h]
  simp
theorem str_data (s : ByteArray) : str s.data.toList = .string s := by cases s; simp [str]
end Pg
/-- the writer, the page beside it -/
def PEnc (w0 : World) (pb q : Nat) (ps : Array Value) (bs : List UInt8) (w : World) : Prop :=
  ∃ G, WrAt w q bs G ∧ (∀ j, G j → q ≤ j) ∧ Blk w pb 24 ps ∧ Below w0.heap.size w0 w ∧ pb < q ∧ w0.heap.size ≤ q
/-- and a cell -/
def PEncC (w0 : World) (pb q : Nat) (ps : Array Value) (cb : Nat) (cs : Array Value) (bs : List UInt8) (w : World) : Prop :=
  ∃ G, WrAt w q bs G ∧ (∀ j, G j → q ≤ j ∧ j ≠ cb) ∧ Blk w pb 24 ps ∧ Blk w cb 40 cs ∧ Below w0.heap.size w0 w ∧ pb < q ∧ w0.heap.size ≤ q
theorem wr_lt {w : World} {q : Nat} {bs : List UInt8} {G : Nat → Prop} (h : WrAt w q bs G) : q < w.heap.size := by
  obtain ⟨v, a, b, y, d, e⟩ := h
  exact e q y
theorem PEnc.cell {w0 w : World} {pb q : Nat} {ps cs : Array Value} {bs : List UInt8} (h : PEnc w0 pb q ps bs w) : PEncC w0 pb q ps w.heap.size cs bs (w.alloc (.cells cs 40)) := by
  obtain ⟨G, h1, h2, h3, h4, h5, h6⟩ := h
  have hb : Below w.heap.size w (w.alloc (.cells cs 40)) := (Below.refl _ _).alloc (Nat.le_refl _) _
  exact ⟨G, h1.below hb, fun j hj => ⟨h2 j hj, fun e => by have := h1.bound j hj; omega⟩, h3.below hb h3.lt, Blk.new _ _ _, h4.trans (hb.mono h4.size), h5, h6⟩
theorem PEncC.page {w0 w : World} {pb q cb : Nat} {ps cs : Array Value} {bs : List UInt8} (h : PEncC w0 pb q ps cb cs bs w) : PEnc w0 pb q ps bs w := by
  obtain ⟨G, h1, h2, h3, h4, h5, h6, h7⟩ := h
  exact ⟨G, h1, fun j hj => (h2 j hj).1, h3, h5, h6, h7⟩
theorem PEncC.step {w0 w w' : World} {pb q cb : Nat} {ps cs : Array Value} {bs bs' : List UInt8} {e : Ending} (h : PEncC w0 pb q ps cb cs bs w) {G : Nat → Prop} (h1 : WrAt w q bs G) (h2 : ∀ j, G j → q ≤ j ∧ j ≠ cb) (ht : WrTo w G q bs' e w') :
    e = .returned (.tuple #[]) ∧ PEncC w0 pb q ps cb cs bs' w' := by
  obtain ⟨_, _, _, h3, h4, h5, h6, h7⟩ := h
  obtain ⟨rfl, G', g1, g2, g3⟩ := ht
  have hq := wr_lt h1
  refine ⟨rfl, G', g1, fun j hj => ?_, h3.keep (g2.block _ h3.lt (fun hh => by have := (h2 _ hh).1; omega)), h4.keep (g2.block _ h4.lt (fun hh => (h2 _ hh).2 rfl)), h5.trans (g2.below h5.size (fun i hi => by have := (h2 i hi).1; omega)), h6, h7⟩
  rcases g3 j hj with y | y
  · exact h2 j y
  · exact ⟨by omega, fun e => by have := h4.lt; omega⟩
theorem penc_num {w0 w : World} {pb q : Nat} {ps : Array Value} {bs : List UInt8} (h : PEnc w0 pb q ps bs w) (x : Int) (hx : -9223372036854775808 ≤ x ∧ x ≤ 9223372036854775807) (hl : bs.length ≤ 100000000) :
    Calls Try.prog 71 #[.pointer (some ⟨q, 0, none⟩), .int .i64 x] w fun e w' => e = .returned (.tuple #[]) ∧ PEnc w0 pb q ps (bs ++ Sl.numB x) w' := by
  obtain ⟨G, h1, h2, h3, h4, h5, h6⟩ := h
  refine (wnum_any q bs G x w hx h1 (by omega)).mono ?_
  rintro e w' ⟨rfl, G', g1, g2, g3⟩
  have hq := wr_lt h1
  refine ⟨rfl, G', g1, fun j hj => ?_, h3.keep (g2.block _ h3.lt (fun hh => by have := h2 _ hh; omega)), h4.trans (g2.below h4.size (fun i hi => by have := h2 i hi; omega)), h5, h6⟩
  rcases g3 j hj with y | y
  · exact h2 j y
  · omega
theorem penc_text {w0 w : World} {pb q cb : Nat} {ps cs : Array Value} {bs : List UInt8} (h : PEncC w0 pb q ps cb cs bs w) (s : ByteArray) (hl : bs.length + s.size ≤ 100000000) :
    Calls Try.prog 80 #[.pointer (some ⟨q, 0, none⟩), .string s] w fun e w' => e = .returned (.tuple #[]) ∧ PEncC w0 pb q ps cb cs (bs ++ Sl.textB s.data.toList) w' := by
  obtain ⟨G, h1, h2, hr⟩ := h
  rw [← Pg.str_data s]
  have h2' : s.data.toList.length = s.size := Array.length_toList
  exact (wtext_any q bs G s.data.toList w h1 (by omega)).mono fun e w' ht => PEncC.step ⟨G, h1, h2, hr⟩ h1 h2 ht
theorem penc_flag {w0 w : World} {pb q cb : Nat} {ps cs : Array Value} {bs : List UInt8} (h : PEncC w0 pb q ps cb cs bs w) (x : Bool) (hl : bs.length ≤ 100000000) :
    Calls Try.prog 81 #[.pointer (some ⟨q, 0, none⟩), .bool x] w fun e w' => e = .returned (.tuple #[]) ∧ PEncC w0 pb q ps cb cs (bs ++ [if x then 1 else 0]) w' := by
  obtain ⟨G, h1, h2, hr⟩ := h
  exact (wflag_any q bs G x w h1 (by omega)).mono fun e w' ht => PEncC.step ⟨G, h1, h2, hr⟩ h1 h2 ht
set_option maxHeartbeats 8000000 in
theorem penc_any (lsn : Int) (A : Option Addr) (n c : Nat) (l : List Pg.C) (w : World) (hl : ST cellK w A n l) (hn : n ≤ 1000000) (hlsn : -9223372036854775808 ≤ lsn ∧ lsn ≤ 9223372036854775807) :
    Calls Try.prog 43 #[pVal lsn A n c] w (PayP w (Pg.enc lsn l)) := by
  have hb0 : Below w.heap.size w (w.alloc (.cells #[.int .i64 lsn, .slice A n c] 24)) := (Below.refl _ _).alloc (Nat.le_refl _) _
  have hk0 := Blk.new w 24 #[.int .i64 lsn, .slice A n c]
  have hmay := pmay_any lsn A n c l (w.alloc (.cells #[.int .i64 lsn, .slice A n c] 24)) (hl.below hb0) hn
  have H := Lib.hid (And.intro hb0 (And.intro hk0 (And.intro hmay (And.intro hl hl.len))))
  clear hb0 hk0 hmay hl
  cases hm : Pg.may lsn l with
  | false =>
    have hrr : Pg.enc lsn l = ([], 1) := by unfold Pg.enc; rw [hm, if_neg (by simp)]
    rw [hrr]
    have HM := Lib.hid hm
    clear hm hrr
    go_enter Try.func43, Try.ntmps43
    go_wp2_with fail
    refine H.out.2.2.1.mono ?_
    rw [HM.out]
    rintro e w1 ⟨rfl, hb1⟩
    have H1 := Lib.hid (H.out.1.trans (hb1.mono H.out.1.size))
    clear hb1
    go_wp2_with fail
    go_ret2
    exact ⟨_, rfl, ⟨rfl, .inl ⟨rfl, rfl⟩⟩, H1.out⟩
  | true =>
    have hrr : Pg.enc lsn l = (Pg.body lsn l, 0) := by unfold Pg.enc; rw [if_pos hm]
    rw [hrr]
    obtain ⟨hm1, _, _, hm4⟩ := Pg.may_parts hm
    have hfit := Pg.rise_fits l _ hm1
    have hbd : Pg.body lsn l = Sl.numB lsn ++ Sl.numB (n : Int) ++ (l.take n).flatMap Pg.cellB := by unfold Pg.body; rw [← H.out.2.2.2.2, List.take_of_length_le (Nat.le_refl _)]
    have hnl := numB_le lsn
    have hnn := numB_le (n : Int)
    have hn4 : n ≤ 4 := by rw [← H.out.2.2.2.2]; exact hm4
    have HM := Lib.hid (And.intro hm (And.intro hfit (And.intro hbd (And.intro hnl hnn))))
    clear hm hrr hm1 hm4 hfit hbd hnl hnn
    go_enter Try.func43, Try.ntmps43
    go_wp2_with fail
    refine H.out.2.2.1.mono ?_
    rw [HM.out.1]
    rintro e w1 ⟨rfl, hb1⟩
    have hst : PEnc w w.heap.size w1.heap.size #[.int .i64 lsn, .slice A n c] [] (w1.alloc (.cells #[.slice none 0 0] 114)) := by
      have hbw := H.out.1.trans (hb1.mono H.out.1.size)
      have hs1 : w.heap.size + 1 ≤ w1.heap.size := by have := hb1.size; simpa using this
      exact ⟨_, WrAt.new w1, fun j hj => by omega, (H.out.2.1.below hb1 (by simp)).alloc _, hbw.alloc hbw.size _, by omega, hbw.size⟩
    have c0 : (w1.alloc (.cells #[.slice none 0 0] 114)).cell? ⟨w.heap.size, 0, none⟩ = some (.int .i64 lsn) := by obtain ⟨_, _, _, h3, _⟩ := hst; exact h3.cell 0
    have H1 := Lib.hid hst
    clear hb1 hst
    go_wp2_with fail
    generalize w1.alloc (.cells #[.slice none 0 0] 114) = w2 at *
    generalize w1.heap.size = q at *
    refine (penc_num H1.out lsn hlsn (by simp)).mono ?_
    rintro e w3 ⟨rfl, hst⟩
    have c1 : w3.cell? ⟨w.heap.size, 1, none⟩ = some (.slice A n c) := by obtain ⟨_, _, _, h3, _⟩ := hst; exact h3.cell 1
    have H3 := Lib.hid hst
    clear hst c0
    go_wp2_with fail
    refine (penc_num H3.out (n : Int) (by omega) (by have := HM.out.2.2.2.1; rw [List.nil_append]; omega)).mono ?_
    rintro e w4 ⟨rfl, hst⟩
    have c1 : w4.cell? ⟨w.heap.size, 1, none⟩ = some (.slice A n c) := by obtain ⟨_, _, _, h3, _⟩ := hst; exact h3.cell 1
    have H4 := Lib.hid (show PEnc w w.heap.size q #[.int .i64 lsn, .slice A n c] (Sl.numB lsn ++ Sl.numB (n : Int) ++ (l.take 0).flatMap Pg.cellB) w4 by simpa using hst)
    clear hst
    go_wp2_with fail
    go_loopw [6, 20] (fun _ i wr => ∃ (k : Nat), k ≤ n ∧ i = .int .i64 k ∧ PEnc w w.heap.size q #[.int .i64 lsn, .slice A n c] (Sl.numB lsn ++ Sl.numB (n : Int) ++ (l.take k).flatMap Pg.cellB) wr) (fun _ i _ => n - (intOf i).toNat)
    case atStart => exact ⟨0, by omega, rfl, H4.out⟩
    case round =>
      obtain ⟨k, hk, rfl, hst⟩ := hrel
      clear H4
      have hlen : (Sl.numB lsn ++ Sl.numB (n : Int) ++ (l.take k).flatMap Pg.cellB).length ≤ 11 + 11 + 71 * 4 := by
        have h1 := HM.out.2.2.2.1
        have h2 := HM.out.2.2.2.2
        have h3 := Pg.flat_le (l.take k) (fun x hx => HM.out.2.1 x (List.mem_of_mem_take hx))
        have h4 : (l.take k).length ≤ 4 := by rw [List.length_take, H.out.2.2.2.2]; omega
        simp only [List.length_append]
        omega
      by_cases hlt : k < n
      · have hlb : Below w.heap.size w wr := by obtain ⟨G, _, _, _, h4, _⟩ := hst; exact h4
        obtain ⟨b, off, rfl, hbs, c0, c1, c2⟩ := cell_at (H.out.2.2.2.1.below hlb) hlt
        have hmem : l.getD k Pg.C.zero ∈ l := by
          rw [List.getD_eq_getElem?_getD, List.getElem?_eq_getElem (show k < l.length by rw [H.out.2.2.2.2]; exact hlt)]
          simp
        have hfx := HM.out.2.1 _ hmem
        have hstep := Pg.take_succ_flat l k (by rw [H.out.2.2.2.2]; exact hlt)
        generalize l.getD k Pg.C.zero = x at *
        have hkn : (k : Int) < (n : Int) := by omega
        have hsz := Pg.fits_sizes hfx
        have hx1 := Pg.text_le x.key
        have HN := Lib.hid (And.intro hstep (And.intro hlen (And.intro hsz hx1)))
        have HC := Lib.hid (hst.cell (cs := cCells x))
        clear hst hstep hlen hlb hmem hfx hsz hx1
        go_wp2_with fail
        refine (penc_text HC.out x.key (by have := HN.out; omega)).mono ?_
        rintro e w5 ⟨rfl, hst⟩
        have x0 : w5.cell? ⟨wr.heap.size, 1, none⟩ = some (.bool x.has) := by obtain ⟨_, _, _, _, h3, _⟩ := hst; exact h3.cell 1
        have H5 := Lib.hid hst
        clear hst c0 c1 c2
        go_wp2_with fail
        refine (penc_flag H5.out x.has (by have := HN.out; simp only [List.length_append] at this ⊢; omega)).mono ?_
        rintro e w6 ⟨rfl, hst⟩
        have x0 : w6.cell? ⟨wr.heap.size, 1, none⟩ = some (.bool x.has) := by obtain ⟨_, _, _, _, h3, _⟩ := hst; exact h3.cell 1
        have x1 : w6.cell? ⟨wr.heap.size, 2, none⟩ = some (.string x.data) := by obtain ⟨_, _, _, _, h3, _⟩ := hst; exact h3.cell 2
        have H6 := Lib.hid hst
        clear hst
        cases hx : x.has with
        | false =>
          have HX := Lib.hid hx
          rw [hx] at x0
          clear hx
          go_wp2_with fail
          go_roundw
          case rel =>
            refine ⟨k + 1, by omega, by go_num, ?_⟩
            have := H6.out.page
            rw [HN.out.1, ← List.append_assoc]
            rw [Pg.cellB_not HX.out]
            rw [HX.out] at this
            simpa using this
          case measure => simp [intOf]; omega
        | true =>
          have HX := Lib.hid hx
          rw [hx] at x0
          clear hx
          go_wp2_with fail
          refine (penc_text H6.out x.data (by have := HN.out; simp only [List.length_append, List.length_cons, List.length_nil] at this ⊢; omega)).mono ?_
          rintro e w7 ⟨rfl, hst⟩
          have H7 := Lib.hid hst
          clear hst
          go_wp2_with fail
          go_roundw
          case rel =>
            refine ⟨k + 1, by omega, by go_num, ?_⟩
            have := H7.out.page
            rw [HN.out.1, ← List.append_assoc]
            rw [Pg.cellB_has HX.out]
            rw [HX.out] at this
            simpa using this
          case measure => simp [intOf]; omega
      · obtain rfl : k = n := by omega
        have HN := Lib.hid (And.intro hst hlen)
        clear hst hlen
        go_wp2_with fail
        obtain ⟨G, h1, h2, h3, h4, h5, h6⟩ := HN.out.1
        refine (wbytes_any q _ G wr h1 (by have := HN.out.2; omega)).mono ?_
        rintro e w5 ⟨v, rfl, ho, hb5⟩
        rw [← HM.out.2.2.1] at ho
        have H5 := Lib.hid (And.intro (own_base ho h4.size) (h4.trans (hb5.mono h4.size)))
        clear ho hb5
        go_wp2_with fail
        go_ret2
        exact ⟨_, rfl, H5.out.1, H5.out.2⟩
end Go.Proofs.Ytfcmlfcpgboigaa
