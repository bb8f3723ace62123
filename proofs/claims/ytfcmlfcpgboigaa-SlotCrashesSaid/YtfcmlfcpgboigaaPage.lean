/- A page's cells in memory; which pages may be. -/
import Derived.Test.YtfcmlfcpgboigaaMem
import Derived.Test.YtfcmlfcpgboigaaRowsOf
import Derived.Test.YtfcmlfcpgboigaaConv
import Derived.Deep.LoopGhost
namespace Go.Proofs.Ytfcmlfcpgboigaa
open Go.RowKit Mem
set_option linter.unusedVariables false
set_option linter.unusedSimpArgs false

/-! the plain part -/
namespace Pg
structure C where
  key : ByteArray
  has : Bool
  data : ByteArray
def C.zero : C := ⟨⟨#[]⟩, false, ⟨#[]⟩⟩
def keyOk (k : ByteArray) : Bool := !k.toList.isEmpty && decide (k.size ≤ 16)
def valOk (has : Bool) (data : ByteArray) : Bool := decide (data.size ≤ 32) && (has || data.toList.isEmpty)
def fits (c : C) : Bool := keyOk c.key && valOk c.has c.data
def leq (a b : ByteArray) : Bool := Op.bytesLess a.toList b.toList || a.toList == b.toList
def rise : ByteArray → List C → Bool
  | _, [] => true
  | s, c :: l => fits c && !(leq c.key s) && rise c.key l
def may (lsn : Int) (l : List C) : Bool := rise ⟨#[]⟩ l && decide (0 ≤ lsn) && decide (lsn ≤ 1099511627776) && decide (l.length ≤ 4)
theorem drop_cons (l : List C) (k : Nat) (h : k < l.length) : l.drop k = l.getD k C.zero :: l.drop (k + 1) := by
  rw [List.drop_eq_getElem_cons h, List.getD_eq_getElem?_getD, List.getElem?_eq_getElem h]
  rfl
end Pg
abbrev vVal (has : Bool) (data : ByteArray) : Value := .agg #[.bool has, .string data]
abbrev cVal (c : Pg.C) : Value := .agg #[.string c.key, .bool c.has, .string c.data]
abbrev cCells (c : Pg.C) : Array Value := #[.string c.key, .bool c.has, .string c.data]
abbrev pVal (lsn : Int) (A : Option Addr) (n c : Nat) : Value := .agg #[.int .i64 lsn, .slice A n c]
def cellK : Kind_ Pg.C where
  zero := Pg.C.zero
  k := 3
  cells := fun c => [.string c.key, .bool c.has, .string c.data]
  ok := fun _ c => c.key.size ≤ 9223372036854775807 ∧ c.data.size ≤ 9223372036854775807
  keep := fun h _ => h
theorem cell_at {w : World} {A : Option Addr} {n : Nat} {l : List Pg.C} (h : ST cellK w A n l) {i : Nat} (hi : i < n) :
    ∃ b off, A = some ⟨b, off, none⟩ ∧ b < w.heap.size ∧ w.cell? ⟨b, off + i * 3, none⟩ = some (.string (l.getD i Pg.C.zero).key) ∧ w.cell? ⟨b, off + i * 3 + 1, none⟩ = some (.bool (l.getD i Pg.C.zero).has) ∧ w.cell? ⟨b, off + i * 3 + 2, none⟩ = some (.string (l.getD i Pg.C.zero).data) := by
  obtain ⟨b, off, rfl, hb, hc, _⟩ := h.at_ hi
  exact ⟨b, off, rfl, hb, hc 0 (by show 0 < 3; omega), hc 1 (by show 1 < 3; omega), hc 2 (by show 2 < 3; omega)⟩
theorem fits_any (c : Pg.C) (w : World) : Calls Try.prog 54 #[.string c.key, vVal c.has c.data] w fun e w' => e = .returned (.bool (Pg.fits c)) ∧ Below w.heap.size w w' := by
  obtain ⟨key, has, data⟩ := c
  unfold Pg.fits Pg.keyOk Pg.valOk
  simp only
  have HB := Lib.hid (show Below w.heap.size w (w.alloc (.cells #[.bool has, .string data] 26)) from (Below.refl _ _).alloc (Nat.le_refl _) _)
  by_cases h0 : key.toList = []
  · have h0' : (!key.toList.isEmpty) = false := by rw [h0]; rfl
    rw [h0']
    simp only [Bool.false_and]
    go_enter Try.func54, Try.ntmps54
    go_wp2
    go_ret
    exact ⟨rfl, HB.out⟩
  · have h0' : (!key.toList.isEmpty) = true := by cases h : key.toList with | nil => exact absurd h h0 | cons a b => rfl
    by_cases h1 : key.size ≤ 16
    · have d1 : decide ((key.size : Int) ≤ 16) = true := by simp; omega
      by_cases h2 : data.size ≤ 32
      · have d2 : decide ((data.size : Int) ≤ 32) = true := by simp; omega
        cases has with
        | true =>
          simp only [h0', h1, h2, decide_true, Bool.true_and, Bool.true_or]
          have H := Lib.hid h0'
          clear h1 h2 h0'
          go_enter Try.func54, Try.ntmps54
          go_wp2
          go_ret
          refine ⟨?_, HB.out⟩
          show Ending.returned (.bool _) = .returned (.bool _)
          first | rfl | rw [H.out]
        | false =>
          simp only [h0', h1, h2, decide_true, Bool.true_and, Bool.false_or]
          have H := Lib.hid h0'
          clear h1 h2 h0'
          go_enter Try.func54, Try.ntmps54
          go_wp2
          go_ret
          refine ⟨?_, HB.out⟩
          show Ending.returned (.bool _) = .returned (.bool _)
          first | rfl | rw [H.out, Bool.true_and]
      · have d2 : decide ((data.size : Int) ≤ 32) = false := by simp; omega
        simp only [h2, decide_false, Bool.false_and, Bool.and_false]
        clear h1 h2 h0'
        go_enter Try.func54, Try.ntmps54
        go_wp2
        go_ret
        exact ⟨rfl, HB.out⟩
    · have d1 : decide ((key.size : Int) ≤ 16) = false := by simp; omega
      simp only [h1, decide_false, Bool.false_and, Bool.and_false]
      clear h1 h0'
      go_enter Try.func54, Try.ntmps54
      go_wp2
      go_ret
      exact ⟨rfl, HB.out⟩
set_option maxHeartbeats 2000000 in
theorem pmay_any (lsn : Int) (A : Option Addr) (n c : Nat) (l : List Pg.C) (w : World) (hl : ST cellK w A n l) (hn : n ≤ 1000000) :
    Calls Try.prog 53 #[pVal lsn A n c] w fun e w' => e = .returned (.bool (Pg.may lsn l)) ∧ Below w.heap.size w w' := by
  have hb0 : Below w.heap.size w (w.alloc (.cells #[.int .i64 lsn, .slice A n c] 24)) := (Below.refl _ _).alloc (Nat.le_refl _) _
  have hk0 : Blk (w.alloc (.cells #[.int .i64 lsn, .slice A n c] 24)) w.heap.size 24 #[.int .i64 lsn, .slice A n c] := Blk.new _ _ _
  have H := Lib.hid (And.intro hb0 (And.intro hk0 (And.intro hl hl.len)))
  clear hb0 hk0 hl
  go_enter Try.func53, Try.ntmps53
  go_wp2
  generalize w.alloc (.cells #[.int .i64 lsn, .slice A n c] 24) = w1 at *
  go_loopg [3, 9] n (fun gk s3 s9 wr => ∃ (k : Nat) (s : ByteArray), k ≤ n ∧ gk = n - k ∧ s9 = .int .i64 k ∧ s3 = .string s ∧ Pg.rise ⟨#[]⟩ l = Pg.rise s (l.drop k) ∧ Below w.heap.size w wr ∧ Blk wr w.heap.size 24 #[.int .i64 lsn, .slice A n c])
  case atStart => exact ⟨0, ⟨#[]⟩, by omega, by omega, rfl, rfl, rfl, H.out.1, H.out.2.1⟩
  case round =>
    obtain ⟨k, s, hk, rfl, rfl, rfl, hr, hb, hbk⟩ := hrel
    by_cases hlt : k < n
    · obtain ⟨b, off, rfl, hbs, c0, c1, c2⟩ := cell_at (H.out.2.2.1.below hb) hlt
      have hd := Pg.drop_cons l k (by rw [H.out.2.2.2]; exact hlt)
      rw [hd] at hr
      generalize l.getD k Pg.C.zero = x at *
      have hmi : Pg.may lsn l = (Pg.rise s (x :: l.drop (k + 1)) && decide (0 ≤ lsn) && decide (lsn ≤ 1099511627776) && decide (l.length ≤ 4)) := by unfold Pg.may; rw [hr]
      have hbx : Below wr.heap.size wr (wr.alloc (.cells (cCells x) 40)) := (Below.refl _ _).alloc (Nat.le_refl _) _
      have HX := Lib.hid (And.intro hr (And.intro hmi (And.intro (hb.trans (hbx.mono hb.size)) (And.intro (hbk.below hbx hbk.lt) hbk.lt))))
      have hkn : (k : Int) < (n : Int) := by omega
      clear hr hd hmi hb hbk hbx
      go_wp2_with fail
      refine (fits_any x _).mono ?_
      rintro e w2 ⟨rfl, hb2⟩
      have hxk : Blk w2 wr.heap.size 40 (cCells x) := (Blk.new wr _ _).below hb2 (by simp)
      have x0 : w2.cell? ⟨wr.heap.size, 0, none⟩ = some (.string x.key) := hxk.cell 0
      have H2 := Lib.hid (And.intro (HX.out.2.2.1.trans (hb2.mono HX.out.2.2.1.size)) (HX.out.2.2.2.1.below hb2 (by have := HX.out.2.2.2.2; simp; omega)))
      clear hb2 hxk c0 c1 c2
      cases hf : Pg.fits x with
      | false =>
        go_wp2_with fail
        go_ret
        exact ⟨by rw [HX.out.2.1]; unfold Pg.rise; rw [hf]; rfl, H2.out.1⟩
      | true =>
        cases hlq : Pg.leq x.key s with
        | true =>
          have hways : Op.bytesLess x.key.toList s.toList = true ∨ Op.bytesLess x.key.toList s.toList = false ∧ (x.key.toList == s.toList) = true := by
            have h := hlq
            unfold Pg.leq at h
            cases h1 : Op.bytesLess x.key.toList s.toList with
            | true => exact .inl rfl
            | false => rw [h1, Bool.false_or] at h; exact .inr ⟨rfl, h⟩
          have HQ := Lib.hid (And.intro hf hlq)
          clear hf hlq
          rcases hways with a | ⟨a1, a2⟩
          all_goals
            go_wp2_with fail
            go_ret
            exact ⟨by rw [HX.out.2.1]; unfold Pg.rise; rw [HQ.out.1, HQ.out.2]; rfl, H2.out.1⟩
        | false =>
          have hways : Op.bytesLess x.key.toList s.toList = false ∧ (x.key.toList == s.toList) = false := by
            have h := hlq
            unfold Pg.leq at h
            exact Bool.or_eq_false_iff.1 h
          have HQ := Lib.hid (And.intro hf hlq)
          clear hf hlq
          obtain ⟨a1, a2⟩ := hways
          go_wp2_with fail
          go_roundg (n - (k + 1))
          case measure => omega
          case rel =>
            refine ⟨k + 1, x.key, by omega, rfl, by go_num, rfl, ?_, H2.out.1, H2.out.2⟩
            rw [HX.out.1]
            conv => lhs; unfold Pg.rise
            rw [HQ.out.1, HQ.out.2]
            rfl
    · obtain rfl : k = n := by omega
      have hmi : Pg.may lsn l = (decide (0 ≤ lsn) && decide (lsn ≤ 1099511627776) && decide (k ≤ 4)) := by
        unfold Pg.may
        rw [hr, List.drop_of_length_le (by rw [H.out.2.2.2]; exact Nat.le_refl _), H.out.2.2.2]
        rfl
      have p0 : wr.cell? ⟨w.heap.size, 0, none⟩ = some (.int .i64 lsn) := hbk.cell 0
      have p1 : wr.cell? ⟨w.heap.size, 1, none⟩ = some (.slice A k c) := hbk.cell 1
      have HX := Lib.hid (And.intro hb hmi)
      clear hr hmi hb hbk
      by_cases g1 : 0 ≤ lsn
      · have d1 : decide (0 ≤ lsn) = true := by simpa using g1
        by_cases g2 : lsn ≤ 1099511627776
        · have d2 : decide (lsn ≤ 1099511627776) = true := by simpa using g2
          have HD := Lib.hid (And.intro d1 (And.intro d2 (show decide ((k : Int) ≤ 4) = decide (k ≤ 4) from decide_eq_decide.2 (by omega))))
          go_wp2_with fail
          go_ret
          refine ⟨?_, HX.out.1⟩
          show Ending.returned (.bool (decide ((k : Int) ≤ 4))) = _
          rw [HX.out.2, HD.out.1, HD.out.2.1, HD.out.2.2]
          rfl
        · have d2 : decide (lsn ≤ 1099511627776) = false := by simpa using g2
          have HD := Lib.hid (And.intro d1 d2)
          go_wp2_with fail
          go_ret
          exact ⟨by rw [HX.out.2, HD.out.1, HD.out.2]; rfl, HX.out.1⟩
      · have d1 : decide (0 ≤ lsn) = false := by simpa using g1
        have HD := Lib.hid d1
        go_wp2_with fail
        go_ret
        exact ⟨by rw [HX.out.2, HD.out]; rfl, HX.out.1⟩
/-- a closure over a key, asked of a cell -/
theorem getcl_any (c : Pg.C) (kb : Nat) (key : ByteArray) (w : World) (hk : w.cell? ⟨kb, 0, none⟩ = some (.string key)) : Calls Try.prog 59 #[cVal c, .pointer (some ⟨kb, 0, none⟩)] w fun e w' => e = .returned (.bool (c.key.toList == key.toList)) ∧ Below w.heap.size w w' := by
  have hk2 : ∀ o, (w.alloc o).cell? ⟨kb, 0, none⟩ = some (.string key) := fun o => (World.cell?_of_block (Below.heap_alloc w o kb (World.block_lt_of_cell? w _ hk))).trans hk
  have k1 := hk2 (.cells (cCells c) 40)
  clear hk2
  go_enter Try.func59, Try.ntmps59
  go_wp2
  go_ret
  exact ⟨rfl, (Below.refl _ _).alloc (Nat.le_refl _) _⟩
theorem roomcl_any (c : Pg.C) (kb : Nat) (key : ByteArray) (w : World) (hk : w.cell? ⟨kb, 0, none⟩ = some (.string key)) : Calls Try.prog 61 #[cVal c, .pointer (some ⟨kb, 0, none⟩)] w fun e w' => e = .returned (.bool (c.key.toList == key.toList)) ∧ Below w.heap.size w w' := by
  have hk2 : ∀ o, (w.alloc o).cell? ⟨kb, 0, none⟩ = some (.string key) := fun o => (World.cell?_of_block (Below.heap_alloc w o kb (World.block_lt_of_cell? w _ hk))).trans hk
  have k1 := hk2 (.cells (cCells c) 40)
  clear hk2
  go_enter Try.func61, Try.ntmps61
  go_wp2
  go_ret
  exact ⟨rfl, (Below.refl _ _).alloc (Nat.le_refl _) _⟩
namespace Pg
/-- where the first cell of a key lies; how many there are: it has none -/
def idx (l : List C) (key : ByteArray) : Nat := l.findIdx (fun c => c.key.toList == key.toList)
def idxI (l : List C) (key : ByteArray) : Int := if idx l key < l.length then (idx l key : Int) else -1
/-- none of the first k has the key -/
theorem idx_found (l : List C) (key : ByteArray) (k : Nat) (hk : k < l.length) (hn : ∀ j, j < k → ((l.getD j C.zero).key.toList == key.toList) = false) (hy : ((l.getD k C.zero).key.toList == key.toList) = true) : idxI l key = (k : Int) := by
  have hi : idx l key = k := by
    unfold idx
    rw [List.findIdx_eq hk]
    refine ⟨by simpa [List.getD_eq_getElem?_getD, List.getElem?_eq_getElem hk] using hy, fun j hj => ?_⟩
    have := hn j hj
    simpa [List.getD_eq_getElem?_getD, List.getElem?_eq_getElem (show j < l.length by omega)] using this
  unfold idxI
  rw [hi, if_pos hk]
theorem idx_none (l : List C) (key : ByteArray) (hn : ∀ j, j < l.length → ((l.getD j C.zero).key.toList == key.toList) = false) : idxI l key = -1 := by
  have hi : idx l key = l.length := by
    unfold idx
    rw [List.findIdx_eq_length]
    intro c hc
    obtain ⟨j, hj, rfl⟩ := List.getElem_of_mem hc
    have := hn j hj
    rw [List.getD_eq_getElem?_getD, List.getElem?_eq_getElem hj] at this
    exact this
  unfold idxI
  rw [hi, if_neg (Nat.lt_irrefl _)]
end Pg
theorem pg_enters {g : Nat} {fn : Func} (hf : Try.prog.funcs[g]? = some fn) (hn : (fn.name == "runtime.NumGoroutine") = false) (hb : fn.body.isNone = false) (a : Array Value) (w : World) : (callFunc g a).run Try.prog w = .ok (.enter g a) w := by
  have hn' : ¬ fn.name = "runtime.NumGoroutine" := by simpa using hn
  have hb' : ¬ fn.body = none := by intro e; rw [e] at hb; cases hb
  simp [callFunc, hf, hn', hb']
theorem pg_enter_get (a : Array Value) (w : World) : (callFunc 59 a).run Try.prog w = .ok (.enter 59 a) w := pg_enters Try.func59 (by kernel_rfl) (by kernel_rfl) a w
theorem pg_enter_room (a : Array Value) (w : World) : (callFunc 61 a).run Try.prog w = .ok (.enter 61 a) w := pg_enters Try.func61 (by kernel_rfl) (by kernel_rfl) a w
set_option maxHeartbeats 1000000 in
theorem indexf_any (g kb : Nat) (key : ByteArray) (A : Option Addr) (n c : Nat) (l : List Pg.C) (w : World) (hl : ST cellK w A n l) (hn : n ≤ 1000000) (hkb : w.cell? ⟨kb, 0, none⟩ = some (.string key))
    (hcf : ∀ a w, (callFunc g a).run Try.prog w = .ok (.enter g a) w)
    (hg : ∀ (x : Pg.C) (W : World), W.cell? ⟨kb, 0, none⟩ = some (.string key) → Calls Try.prog g #[cVal x, .pointer (some ⟨kb, 0, none⟩)] W fun e w' => e = .returned (.bool (x.key.toList == key.toList)) ∧ Below W.heap.size W w') :
    Calls Try.prog 58 #[.slice A n c, .func (.func g) #[] #[.pointer (some ⟨kb, 0, none⟩)]] w fun e w' => e = .returned (.int .i64 (Pg.idxI l key)) ∧ Below w.heap.size w w' := by
  have hkl := World.block_lt_of_cell? w _ hkb
  have H := Lib.hid (And.intro hl (And.intro hl.len (And.intro hkb (And.intro hg hkl))))
  clear hl hkb hg hkl
  go_enter Try.func58, Try.ntmps58
  go_wp2
  go_loopg [8] n (fun gk s8 wr => ∃ (k : Nat), k ≤ n ∧ gk = n - k ∧ s8 = .int .i64 k ∧ (∀ j, j < k → ((l.getD j Pg.C.zero).key.toList == key.toList) = false) ∧ Below w.heap.size w wr)
  case atStart => exact ⟨0, by omega, by omega, rfl, fun j hj => absurd hj (by omega), Below.refl _ _⟩
  case round =>
    obtain ⟨k, hk, rfl, rfl, hj, hb⟩ := hrel
    by_cases hlt : k < n
    · obtain ⟨b, off, rfl, hbs, c0, c1, c2⟩ := cell_at (H.out.1.below hb) hlt
      have hfd := Pg.idx_found l key k (by rw [H.out.2.1]; exact hlt) hj
      have hnx : ((l.getD k Pg.C.zero).key.toList == key.toList) = false → ∀ j, j < k + 1 → ((l.getD j Pg.C.zero).key.toList == key.toList) = false := fun h j hjk => by
        rcases Nat.lt_or_ge j k with h1 | h1
        · exact hj j h1
        · obtain rfl : j = k := by omega
          exact h
      have hcl := H.out.2.2.2.1 (l.getD k Pg.C.zero) wr ((World.cell?_of_block (hb.block kb H.out.2.2.2.2)).trans H.out.2.2.1)
      generalize l.getD k Pg.C.zero = x at *
      have HX := Lib.hid (And.intro hfd (And.intro hnx (And.intro hcl hb)))
      have hkn : (k : Int) < (n : Int) := by omega
      clear hfd hnx hcl hb hj
      go_wp2_with fail
      refine HX.out.2.2.1.mono ?_
      cases hq : (x.key.toList == key.toList) with
      | true =>
        rintro e w2 ⟨rfl, hb2⟩
        have H2 := Lib.hid (And.intro hq (HX.out.2.2.2.trans (hb2.mono HX.out.2.2.2.size)))
        clear hq hb2
        go_wp2_with fail
        go_ret
        exact ⟨by rw [HX.out.1 H2.out.1]; rfl, H2.out.2⟩
      | false =>
        rintro e w2 ⟨rfl, hb2⟩
        have H2 := Lib.hid (And.intro (HX.out.2.1 hq) (HX.out.2.2.2.trans (hb2.mono HX.out.2.2.2.size)))
        clear hq hb2
        go_wp2_with fail
        go_roundg (n - (k + 1))
        case measure => omega
        case rel => exact ⟨k + 1, by omega, rfl, by go_num, H2.out.1, H2.out.2⟩
    · obtain rfl : k = n := by omega
      have HX := Lib.hid (And.intro (Pg.idx_none l key (fun j h => hj j (by rw [H.out.2.1] at h; exact h))) hb)
      clear hj hb
      go_wp2_with fail
      go_ret
      exact ⟨by rw [HX.out.1]; rfl, HX.out.2⟩
end Go.Proofs.Ytfcmlfcpgboigaa
