/- RecMems: joined out of RecMem, RecTk, RecSmall. -/
import Derived.Test.YtlijfnekopjogaaRecMaths
import Derived.Test.YtlijfnekopjogaaRowK
import Derived.Deep.RegionHeld3
import Derived.Deep.DeepMust
import Derived.Test.YtlijfnekopjogaaConv
/- A log record's parts in memory; operations of a drawn region, wanted or not. -/
namespace Go.Proofs.Ytlijfnekopjogaa
open Go.RowKit Mem
set_option linter.unusedVariables false
set_option linter.unusedSimpArgs false

theorem below_ud {w w' : World} (h : Below w.drew.heap.size w.drew w') : Below w.heap.size w w' := ⟨h.os, h.tape, h.output, h.size, h.block⟩
theorem cell_alloc_some' {w : World} {a : Addr} {v : Value} (o : Obj) (h : w.cell? a = some v) : (w.alloc o).cell? a = some v := (World.cell?_of_block (Below.heap_alloc w o a.block (World.block_lt_of_cell? w a h))).trans h
theorem cell_below {w w' : World} {a : Addr} {v : Value} (hb : Below w.heap.size w w') (h : w.cell? a = some v) : w'.cell? a = some v := (World.cell?_of_block (hb.block _ (World.block_lt_of_cell? w a h))).trans h
section
variable {P : Program} {ops : Array Oper} {Q : Exit → Act → World → Prop} {md : Region.Mode} {S : World → Prop}
theorem anyH_skip {i d : Nat} {oi : Oper} {fuel : Nat} {listed : Array Bool} {tmps : Array Value} {ds : List Deferred} {w : World} (hi : ops[i]? = some oi)
    (hs : Region.noSelect ops = true) (hf : Region.free md ops listed i = true) (hr : (Region.ready md ops listed).contains i = true)
    (hQ : ∀ c a w, Q (.panic c) (a.put oi.dst undef) w → Q (.panic c) a w) (hd : oi.dst = some d) (hw : Region.wanted oi (yielded ops tmps) = false) (hS : S w)
    (h : wpAnyH P md ops Q S fuel (listed.setIfInBounds i true) { tmps := tmps.setIfInBounds d undef, defers := ds } w) : wpAnyH P md ops Q S (fuel + 1) listed { tmps := tmps, defers := ds } w :=
  wpAnyH_take hi hs hf hr hQ (Or.inr ⟨hw, rfl⟩) hS (by rw [hd]; exact h)
theorem anyH_take {i d : Nat} {oi : Oper} {v : Value} {fuel : Nat} {listed : Array Bool} {tmps : Array Value} {ds : List Deferred} {w : World} (hi : ops[i]? = some oi)
    (hs : Region.noSelect ops = true) (hf : Region.free md ops listed i = true) (hr : (Region.ready md ops listed).contains i = true)
    (hQ : ∀ c a w, Q (.panic c) (a.put oi.dst v) w → Q (.panic c) a w) (hd : oi.dst = some d) (hw : Region.wanted oi (yielded ops tmps) = true)
    (hy : ∀ W : World, S W → (execOp (Act.eval { tmps := tmps, defers := ds }) oi).run P W = .ok (.value v) W) (hS : S w)
    (h : wpAnyH P md ops Q S fuel (listed.setIfInBounds i true) { tmps := tmps.setIfInBounds d v, defers := ds } w) : wpAnyH P md ops Q S (fuel + 1) listed { tmps := tmps, defers := ds } w :=
  wpAnyH_take hi hs hf hr hQ (Or.inl ⟨hw, hy⟩) hS (by rw [hd]; exact h)
end
namespace Rc
/-- a row with the places of its lists -/
structure RwD where
  r : Rw
  mA : Option Addr
  mc : Nat
  lA : Option Addr
  lc : Nat
structure DeD where
  d : De
  mA : Option Addr
  mc : Nat
def RwD.zero : RwD := ⟨Rw.zero, none, 0, none, 0⟩
def DeD.zero : DeD := ⟨De.zero, none, 0⟩
abbrev vVal (v : V) : Value := .agg #[.bool v.has, .string v.data]
abbrev lVal (x : L) : Value := .agg #[.string x.key, .bool x.x]
abbrev lCells (x : L) : Array Value := #[.string x.key, .bool x.x]
abbrev dVal (x : D) : Value := .agg #[.int .i64 x.page, .int .i64 x.rc]
abbrev dCells (x : D) : Array Value := #[.int .i64 x.page, .int .i64 x.rc]
abbrev rwVal (x : RwD) : Value := .agg #[.int .i64 x.r.tx, .int .i64 x.r.st, .int .i64 x.r.fi, .int .i64 x.r.la, .int .i64 x.r.un, .int .i64 x.r.co, .slice x.mA x.r.mem.length x.mc, .slice x.lA x.r.locks.length x.lc]
abbrev rwCells (x : RwD) : Array Value := #[.int .i64 x.r.tx, .int .i64 x.r.st, .int .i64 x.r.fi, .int .i64 x.r.la, .int .i64 x.r.un, .int .i64 x.r.co, .slice x.mA x.r.mem.length x.mc, .slice x.lA x.r.locks.length x.lc]
abbrev deVal (x : DeD) : Value := .agg #[.int .i64 x.d.tx, .slice x.mA x.d.mem.length x.mc]
abbrev deCells (x : DeD) : Array Value := #[.int .i64 x.d.tx, .slice x.mA x.d.mem.length x.mc]
def lockK : Kind_ L where
  zero := L.zero
  k := 2
  cells := fun x => [.string x.key, .bool x.x]
  ok := fun _ x => x.key.size ≤ 9223372036854775807
  keep := fun h _ => h
def dirtyK : Kind_ D where
  zero := D.zero
  k := 2
  cells := fun x => [.int .i64 x.page, .int .i64 x.rc]
  ok := fun _ x => (-9223372036854775808 ≤ x.page ∧ x.page ≤ 9223372036854775807) ∧ (-9223372036854775808 ≤ x.rc ∧ x.rc ≤ 9223372036854775807)
  keep := fun h _ => h
structure RowOk (w : World) (x : RwD) : Prop where
  mem : IS w x.mA x.r.mem.length x.r.mem
  locks : ST lockK w x.lA x.r.locks.length x.r.locks
  mc : x.r.mem.length ≤ x.mc ∧ x.mc ≤ 9223372036854775807
  lc : x.r.locks.length ≤ x.lc ∧ x.lc ≤ 9223372036854775807
def rowK : Kind_ RwD where
  zero := RwD.zero
  k := 8
  cells := fun x => [.int .i64 x.r.tx, .int .i64 x.r.st, .int .i64 x.r.fi, .int .i64 x.r.la, .int .i64 x.r.un, .int .i64 x.r.co, .slice x.mA x.r.mem.length x.mc, .slice x.lA x.r.locks.length x.lc]
  ok := RowOk
  keep := fun h hb => ⟨h.mem.below hb, h.locks.below hb, h.mc, h.lc⟩
structure DeedOk (w : World) (x : DeD) : Prop where
  mem : IS w x.mA x.d.mem.length x.d.mem
  mc : x.d.mem.length ≤ x.mc ∧ x.mc ≤ 9223372036854775807
def deedK : Kind_ DeD where
  zero := DeD.zero
  k := 2
  cells := fun x => [.int .i64 x.d.tx, .slice x.mA x.d.mem.length x.mc]
  ok := DeedOk
  keep := fun h hb => ⟨h.mem.below hb, h.mc⟩
end Rc
open Rc
theorem lock_at {w : World} {A : Option Addr} {n : Nat} {l : List L} (h : ST lockK w A n l) {i : Nat} (hi : i < n) :
    ∃ b off, A = some ⟨b, off, none⟩ ∧ b < w.heap.size ∧ w.cell? ⟨b, off + i * 2, none⟩ = some (.string (l.getD i L.zero).key) ∧ w.cell? ⟨b, off + i * 2 + 1, none⟩ = some (.bool (l.getD i L.zero).x) := by
  obtain ⟨b, off, rfl, hb, hc, _⟩ := h.at_ hi
  exact ⟨b, off, rfl, hb, hc 0 (by show 0 < 2; omega), hc 1 (by show 1 < 2; omega)⟩
theorem dirty_at {w : World} {A : Option Addr} {n : Nat} {l : List D} (h : ST dirtyK w A n l) {i : Nat} (hi : i < n) :
    ∃ b off, A = some ⟨b, off, none⟩ ∧ b < w.heap.size ∧ w.cell? ⟨b, off + i * 2, none⟩ = some (.int .i64 (l.getD i D.zero).page) ∧ w.cell? ⟨b, off + i * 2 + 1, none⟩ = some (.int .i64 (l.getD i D.zero).rc) := by
  obtain ⟨b, off, rfl, hb, hc, _⟩ := h.at_ hi
  exact ⟨b, off, rfl, hb, hc 0 (by show 0 < 2; omega), hc 1 (by show 1 < 2; omega)⟩
theorem deed_at {w : World} {A : Option Addr} {n : Nat} {l : List DeD} (h : ST deedK w A n l) {i : Nat} (hi : i < n) :
    ∃ b off, A = some ⟨b, off, none⟩ ∧ b < w.heap.size ∧ w.cell? ⟨b, off + i * 2, none⟩ = some (.int .i64 (l.getD i DeD.zero).d.tx) ∧ w.cell? ⟨b, off + i * 2 + 1, none⟩ = some (.slice (l.getD i DeD.zero).mA (l.getD i DeD.zero).d.mem.length (l.getD i DeD.zero).mc) ∧ DeedOk w (l.getD i DeD.zero) := by
  obtain ⟨b, off, rfl, hb, hc, hok⟩ := h.at_ hi
  exact ⟨b, off, rfl, hb, hc 0 (by show 0 < 2; omega), hc 1 (by show 1 < 2; omega), hok⟩
theorem row_at {w : World} {A : Option Addr} {n : Nat} {l : List RwD} (h : ST rowK w A n l) {i : Nat} (hi : i < n) :
    ∃ b off, A = some ⟨b, off, none⟩ ∧ b < w.heap.size ∧ w.cell? ⟨b, off + i * 8, none⟩ = some (.int .i64 (l.getD i RwD.zero).r.tx) ∧ w.cell? ⟨b, off + i * 8 + 1, none⟩ = some (.int .i64 (l.getD i RwD.zero).r.st)
      ∧ w.cell? ⟨b, off + i * 8 + 2, none⟩ = some (.int .i64 (l.getD i RwD.zero).r.fi) ∧ w.cell? ⟨b, off + i * 8 + 3, none⟩ = some (.int .i64 (l.getD i RwD.zero).r.la)
      ∧ w.cell? ⟨b, off + i * 8 + 4, none⟩ = some (.int .i64 (l.getD i RwD.zero).r.un) ∧ w.cell? ⟨b, off + i * 8 + 5, none⟩ = some (.int .i64 (l.getD i RwD.zero).r.co)
      ∧ w.cell? ⟨b, off + i * 8 + 6, none⟩ = some (.slice (l.getD i RwD.zero).mA (l.getD i RwD.zero).r.mem.length (l.getD i RwD.zero).mc) ∧ w.cell? ⟨b, off + i * 8 + 7, none⟩ = some (.slice (l.getD i RwD.zero).lA (l.getD i RwD.zero).r.locks.length (l.getD i RwD.zero).lc)
      ∧ RowOk w (l.getD i RwD.zero) := by
  obtain ⟨b, off, rfl, hb, hc, hok⟩ := h.at_ hi
  exact ⟨b, off, rfl, hb, hc 0 (by show 0 < 8; omega), hc 1 (by show 1 < 8; omega), hc 2 (by show 2 < 8; omega), hc 3 (by show 3 < 8; omega), hc 4 (by show 4 < 8; omega), hc 5 (by show 5 < 8; omega), hc 6 (by show 6 < 8; omega), hc 7 (by show 7 < 8; omega), hok⟩
end Go.Proofs.Ytlijfnekopjogaa

/- An operation of a drawn region, taken or passed over: the lemmas of RecMem with their easy premises filled in. -/
namespace Go.Proofs.Ytlijfnekopjogaa
open Go Go.RowKit Mem Rc
section
variable {P : Program} {ops : Array Oper} {Q : Exit → Act → World → Prop} {md : Region.Mode} {S : World → Prop}
theorem tk (i d : Nat) {oi : Oper} {v : Value} {fuel : Nat} {listed listed' : Array Bool} {tmps tmps' : Array Value} {ds : List Deferred} {w : World} (hi : ops[i]? = some oi := by rfl)
    (hs : Region.noSelect ops = true := by kernel_rfl) (hf : Region.free md ops listed i = true := by kernel_rfl) (hr : (Region.ready md ops listed).contains i = true := by kernel_rfl)
    (hQ : ∀ c a w, Q (.panic c) (a.put oi.dst v) w → Q (.panic c) a w := by exact fun _ _ _ h => h) (hd : oi.dst = some d := by rfl) (hw : Region.wanted oi (yielded ops tmps) = true := by rfl)
    (hy : ∀ W : World, S W → (execOp (Act.eval { tmps := tmps, defers := ds }) oi).run P W = .ok (.value v) W := by intro W hSw; (try dsimp only at hSw); first | (go_simp; done) | (go_simp; with_reducible rfl)) (hS : S w := by assumption)
    (ht : tmps.setIfInBounds d v = tmps' := by (try simp only [List.setIfInBounds_toArray, List.set_cons_zero, List.set_cons_succ]); exact rfl) (hl : listed.setIfInBounds i true = listed' := by (try simp only [List.setIfInBounds_toArray, List.set_cons_zero, List.set_cons_succ]); exact rfl)
    (h : wpAnyH P md ops Q S fuel listed' { tmps := tmps', defers := ds } w) : wpAnyH P md ops Q S (fuel + 1) listed { tmps := tmps, defers := ds } w :=
  anyH_take hi hs hf hr hQ hd hw hy hS (by rw [ht, hl]; exact h)
theorem sk (i d : Nat) {oi : Oper} {fuel : Nat} {listed listed' : Array Bool} {tmps tmps' : Array Value} {ds : List Deferred} {w : World} (hi : ops[i]? = some oi := by rfl)
    (hs : Region.noSelect ops = true := by kernel_rfl) (hf : Region.free md ops listed i = true := by kernel_rfl) (hr : (Region.ready md ops listed).contains i = true := by kernel_rfl)
    (hQ : ∀ c a w, Q (.panic c) (a.put oi.dst undef) w → Q (.panic c) a w := by exact fun _ _ _ h => h) (hd : oi.dst = some d := by rfl) (hw : Region.wanted oi (yielded ops tmps) = false := by rfl) (hS : S w := by assumption)
    (ht : tmps.setIfInBounds d undef = tmps' := by (try simp only [List.setIfInBounds_toArray, List.set_cons_zero, List.set_cons_succ]); exact rfl) (hl : listed.setIfInBounds i true = listed' := by (try simp only [List.setIfInBounds_toArray, List.set_cons_zero, List.set_cons_succ]); exact rfl)
    (h : wpAnyH P md ops Q S fuel listed' { tmps := tmps', defers := ds } w) : wpAnyH P md ops Q S (fuel + 1) listed { tmps := tmps, defers := ds } w :=
  anyH_skip hi hs hf hr hQ hd hw hS (by rw [ht, hl]; exact h)
end
end Go.Proofs.Ytlijfnekopjogaa

/- Which keys, values, locks may be: the program's small functions. -/
namespace Go.Proofs.Ytlijfnekopjogaa
open Go.RowKit Mem Rc
set_option maxRecDepth 100000
set_option linter.unusedVariables false
set_option linter.unusedSimpArgs false

theorem rkey_any (s : ByteArray) (w : World) : Calls Try.prog 30 #[.string s] w fun e w' => e = .returned (.bool (Rc.keyOk s)) ∧ w' = w := by
  unfold Rc.keyOk
  by_cases h0 : s.toList = []
  · have h0' : (!s.toList.isEmpty) = false := by rw [h0]; rfl
    rw [h0', Bool.false_and]
    go_enter Try.func30, Try.ntmps30
    go_wp2
    go_ret
    exact ⟨rfl, rfl⟩
  · have h0' : (!s.toList.isEmpty) = true := by cases h : s.toList with | nil => exact absurd h h0 | cons a b => rfl
    rw [h0', Bool.true_and]
    by_cases h1 : s.size ≤ 16
    · have d1 : decide ((s.size : Int) ≤ 16) = true := by simp; omega
      rw [show decide (s.size ≤ 16) = true by simp; omega]
      go_enter Try.func30, Try.ntmps30
      go_wp2
      go_ret
      exact ⟨rfl, rfl⟩
    · have d1 : decide ((s.size : Int) ≤ 16) = false := by simp; omega
      rw [show decide (s.size ≤ 16) = false by simp; omega]
      go_enter Try.func30, Try.ntmps30
      go_wp2
      go_ret
      exact ⟨rfl, rfl⟩
theorem rvalue_any (v : V) (w : World) : Calls Try.prog 31 #[vVal v] w fun e w' => e = .returned (.bool (Rc.valOk v)) ∧ Below w.heap.size w w' := by
  obtain ⟨has, data⟩ := v
  unfold Rc.valOk
  simp only
  have HB := Lib.hid (show Below w.heap.size w (w.alloc (.cells #[.bool has, .string data] 23)) from (Below.refl _ _).alloc (Nat.le_refl _) _)
  by_cases h1 : data.size ≤ 32
  · have d1 : decide ((data.size : Int) ≤ 32) = true := by simp; omega
    rw [show decide (data.size ≤ 32) = true by simp; omega, Bool.true_and]
    cases has with
    | true =>
      go_enter Try.func31, Try.ntmps31
      go_wp2
      go_ret
      exact ⟨rfl, HB.out⟩
    | false =>
      rw [Bool.false_or]
      by_cases h0 : data.toList = []
      · have h0' : data.toList.isEmpty = true := by rw [h0]; rfl
        rw [h0']
        go_enter Try.func31, Try.ntmps31
        go_wp2
        go_ret
        exact ⟨rfl, HB.out⟩
      · have h0' : data.toList.isEmpty = false := by cases h : data.toList with | nil => exact absurd h h0 | cons a b => rfl
        rw [h0']
        go_enter Try.func31, Try.ntmps31
        go_wp2
        go_ret
        exact ⟨rfl, HB.out⟩
  · have d1 : decide ((data.size : Int) ≤ 32) = false := by simp; omega
    rw [show decide (data.size ≤ 32) = false by simp; omega, Bool.false_and]
    go_enter Try.func31, Try.ntmps31
    go_wp2
    go_ret
    exact ⟨rfl, HB.out⟩
theorem lockMay_any (x : L) (w : World) : Calls Try.prog 75 #[lVal x] w fun e w' => e = .returned (.bool (Rc.keyOk x.key)) ∧ Below w.heap.size w w' := by
  obtain ⟨key, is⟩ := x
  simp only
  have HB := Lib.hid (show Below w.heap.size w (w.alloc (.cells #[.string key, .bool is] 50)) from (Below.refl _ _).alloc (Nat.le_refl _) _)
  go_enter Try.func75, Try.ntmps75
  go_wp2_with fail
  refine (rkey_any key _).mono ?_
  rintro e w' ⟨rfl, rfl⟩
  go_wp2
  go_ret
  exact ⟨rfl, HB.out⟩
theorem lockLess_any (x y : L) (w : World) : Calls Try.prog 76 #[lVal x, lVal y] w fun e w' => e = .returned (.bool (Rc.lt x.key y.key)) ∧ Below w.heap.size w w' := by
  obtain ⟨key, is⟩ := x
  obtain ⟨key2, is2⟩ := y
  simp only
  have HB := Lib.hid (show Below w.heap.size w ((w.alloc (.cells #[.string key, .bool is] 50)).alloc (.cells #[.string key2, .bool is2] 50)) from ((Below.refl _ _).alloc (Nat.le_refl _) _).alloc (by simp) _)
  go_enter Try.func76, Try.ntmps76
  go_wp2
  go_ret
  exact ⟨rfl, HB.out⟩
theorem rowLess_any (x y : RwD) (w : World) : Calls Try.prog 64 #[rwVal x, rwVal y] w fun e w' => e = .returned (.bool (decide (x.r.tx < y.r.tx))) ∧ Below w.heap.size w w' := by
  have HB := Lib.hid (show Below w.heap.size w ((w.alloc (.cells (rwCells x) 52)).alloc (.cells (rwCells y) 52)) from ((Below.refl _ _).alloc (Nat.le_refl _) _).alloc (by simp) _)
  go_enter Try.func64, Try.ntmps64
  go_wp2
  go_ret
  exact ⟨rfl, HB.out⟩
theorem dirtyLess_any (x y : D) (w : World) : Calls Try.prog 67 #[dVal x, dVal y] w fun e w' => e = .returned (.bool (decide (x.page < y.page))) ∧ Below w.heap.size w w' := by
  have HB := Lib.hid (show Below w.heap.size w ((w.alloc (.cells (dCells x) 92)).alloc (.cells (dCells y) 92)) from ((Below.refl _ _).alloc (Nat.le_refl _) _).alloc (by simp) _)
  go_enter Try.func67, Try.ntmps67
  go_wp2
  go_ret
  exact ⟨rfl, HB.out⟩
theorem deedLess_any (x y : DeD) (w : World) : Calls Try.prog 70 #[deVal x, deVal y] w fun e w' => e = .returned (.bool (decide (x.d.tx < y.d.tx))) ∧ Below w.heap.size w w' := by
  have HB := Lib.hid (show Below w.heap.size w ((w.alloc (.cells (deCells x) 54)).alloc (.cells (deCells y) 54)) from ((Below.refl _ _).alloc (Nat.le_refl _) _).alloc (by simp) _)
  go_enter Try.func70, Try.ntmps70
  go_wp2
  go_ret
  exact ⟨rfl, HB.out⟩
theorem pastMay_any (x : Int) (w : World) : Calls Try.prog 72 #[.int .i64 x] w fun e w' => e = .returned (.bool (Rc.seq x 1)) ∧ w' = w := by
  go_enter Try.func72, Try.ntmps72
  go_wp2_with fail
  refine (rseq_any x 1 _).mono ?_
  rintro e w' ⟨rfl, rfl⟩
  go_wp2
  go_ret
  exact ⟨rfl, rfl⟩
end Go.Proofs.Ytlijfnekopjogaa
