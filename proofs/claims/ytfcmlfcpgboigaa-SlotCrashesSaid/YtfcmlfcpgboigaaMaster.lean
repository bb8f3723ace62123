/- What package master does: fields, may. -/
import Derived.Test.YtfcmlfcpgboigaaPut
import Derived.Test.YtfcmlfcpgboigaaDiskSync
import Derived.Test.YtfcmlfcpgboigaaSealWrite
import Derived.Test.YtfcmlfcpgboigaaSealRead2
import Derived.Test.YtfcmlfcpgboigaaSealMath2
import Derived.Deep.RegionHeld3
namespace Go.Proofs.Ytfcmlfcpgboigaa
open Go.RowKit Mem
set_option linter.unusedVariables false
set_option linter.unusedSimpArgs false

namespace Ms
/-- A RECORD. -/
structure M where
  gen : Int
  inc : Int
  first : Int
  lsn : Int
  check : Int
deriving DecidableEq
def M.vals (m : M) : List Int := [m.gen, m.inc, m.first, m.lsn, m.check]
def zero : M := ⟨0, 0, 0, 0, 0⟩
def inB (least n : Int) : Bool := decide (least ≤ n) && decide (n ≤ 1099511627776)
def okB (n : Int) : Bool := inB 0 n
def may (m : M) : Bool := m.vals.all okB && decide (0 < m.gen)
def body (m : M) : List UInt8 := m.vals.flatMap Sl.numB
end Ms
def mCells (m : Ms.M) : Array Value := #[.int .i64 m.gen, .int .i64 m.inc, .int .i64 m.first, .int .i64 m.lsn, .int .i64 m.check]
def mVal (m : Ms.M) : Value := .agg (mCells m)
def ptr (b i : Nat) : Value := .pointer (some ⟨b, i, none⟩)
def ptrs (b : Nat) : Value := .agg #[ptr b 0, ptr b 1, ptr b 2, ptr b 3, ptr b 4]
/-- 'a[k]' of an array by value, its elements of one cell -/
theorem run_index_cell {P : Program} (t e : TypeId) (n : Nat) (i : TypeInfo) (cs : Array Value) (k : Nat) (v : Value) (h : P.underlying t = some (.array n e)) (hi : P.info? e = some i) (hs : i.size = 1) (ha : ∀ w, (isAgg e).run P w = .ok false w) (hk : k < n) (hv : cs[k]? = some v) (x : Int) (hx : x = k) (w : World) :
    (Instr.index t (.agg cs) (.int .i64 x)).run P w = .ok v w := by
  subst hx
  have hn : 0 ≤ (k : Int) ∧ (k : Int) < (n : Int) := by omega
  have hk' : (k : Int) < (n : Int) := by omega
  have hsz : (sizeOf e).run P w = .ok 1 w := by simp [sizeOf, typeInfo, hi, hs]
  simp [Instr.index, run_underlying h, asIntOf, hn, hk', hk, go_sem, hsz, part, ha, hv]
theorem pinfo : (Try.prog.info? 115).map (fun i => i.size) = some 1 := by kernel_rfl
theorem isAgg_ptr (w : World) : (isAgg 115).run Try.prog w = .ok false w := by
  simp [isAgg, run_underlying Try.underlying115, go_sem]
theorem idx5 (b k : Nat) (hk : k < 5) (x : Int) (hx : x = k) (w : World) : (Instr.index 116 (ptrs b) (.int .i64 x)).run Try.prog w = .ok (ptr b k) w := by
  cases hi : Try.prog.info? 115 with
  | none => have := pinfo; rw [hi] at this; cases this
  | some i =>
    have hz := pinfo
    rw [hi] at hz
    simp only [Option.map_some, Option.some.injEq] at hz
    refine run_index_cell 116 115 5 i _ k _ Try.underlying116 hi hz isAgg_ptr hk ?_ x hx w
    match k, hk with
    | 0, _ => rfl
    | 1, _ => rfl
    | 2, _ => rfl
    | 3, _ => rfl
    | 4, _ => rfl
set_option maxHeartbeats 2000000 in
theorem fields_any (b : Nat) (w : World) :
    Calls Try.prog 70 #[.pointer (some ⟨b, 0, none⟩)] w fun e w' => e = .returned (ptrs b) ∧ Below w.heap.size w w' := by
  have hb0 : ∀ o, Below w.heap.size w (w.alloc o) := fun o => (Below.refl _ _).alloc (Nat.le_refl _) _
  have H := Lib.hid hb0
  clear hb0
  go_enter Try.func70, Try.ntmps70
  go_wp2
  go_region
  all_goals
    go_wp2
    simp [bodyPost, results, Try.results70, go_sem, ptrs, ptr]
    exact (H.out _).trans ⟨rfl, rfl, rfl, Nat.le_refl _, fun _ _ => rfl⟩
theorem mcell {w : World} {b : Nat} {t : TypeId} {m : Ms.M} (h : Blk w b t (mCells m)) {k : Nat} (hk : k < 5) : w.cell? ⟨b, k, none⟩ = some (.int .i64 (m.vals.getD k 0)) := by
  rw [h.cell k]
  match k, hk with
  | 0, _ => rfl
  | 1, _ => rfl
  | 2, _ => rfl
  | 3, _ => rfl
  | 4, _ => rfl
theorem all_step {m : Ms.M} {k : Nat} (hk : k < 5) (h : (m.vals.take k).all Ms.okB = true) (h2 : Ms.okB (m.vals.getD k 0) = true) : (m.vals.take (k + 1)).all Ms.okB = true := by
  have hl : k < m.vals.length := hk
  rw [List.take_succ_eq_append_getElem hl, List.all_append, h]
  rw [List.getD_eq_getElem?_getD, List.getElem?_eq_getElem hl] at h2
  simpa using h2
theorem all_not {m : Ms.M} {k : Nat} (hk : k < 5) (h2 : Ms.okB (m.vals.getD k 0) = false) : Ms.may m = false := by
  have hl : k < m.vals.length := hk
  unfold Ms.may
  rw [List.getD_eq_getElem?_getD, List.getElem?_eq_getElem hl] at h2
  have : m.vals.all Ms.okB = false := by
    rw [List.all_eq_false]
    exact ⟨m.vals[k], List.getElem_mem hl, by simpa using h2⟩
  rw [this]
  rfl
set_option maxRecDepth 100000 in
set_option maxHeartbeats 4000000 in
theorem may_any (m : Ms.M) (w : World) :
    Calls Try.prog 69 #[mVal m] w fun e w' => e = .returned (.bool (Ms.may m)) ∧ Below w.heap.size w w' := by
  have hb0 : Below w.heap.size w (w.alloc (.cells (mCells m) 48)) := (Below.refl _ _).alloc (Nat.le_refl _) _
  have hblk : Blk (w.alloc (.cells (mCells m) 48)) w.heap.size 48 (mCells m) := Blk.new _ _ _
  have hf := fields_any w.heap.size (w.alloc (.cells (mCells m) 48))
  have hx := fun k hk x hx => idx5 w.heap.size k hk x hx
  have HI := Lib.hid hx
  clear hx
  have H := Lib.hid (And.intro hb0 (And.intro hblk hf))
  clear hb0 hblk hf
  unfold mVal mCells ptrs ptr at *
  go_enter Try.func69, Try.ntmps69
  go_wp2_with fail
  refine H.out.2.2.mono ?_
  rintro e w1 ⟨rfl, hb1⟩
  have hc : ∀ k, k < 5 → w1.cell? ⟨w.heap.size, k, none⟩ = some (.int .i64 (m.vals.getD k 0)) := fun k hk => mcell (H.out.2.1.below hb1 (by simp)) hk
  have hgen : w1.cell? ⟨w.heap.size, 0, none⟩ = some (.int .i64 m.gen) := hc 0 (by omega)
  have H1 := Lib.hid (And.intro hc (H.out.1.trans (hb1.mono H.out.1.size)))
  clear hc hb1
  go_wp2_with fail
  go_loop [2, 4, 6] (fun r _ i => r = .bool false ∧ ∃ k : Nat, k ≤ 5 ∧ i = .int .i64 k ∧ (m.vals.take k).all Ms.okB = true) (fun _ _ i => 5 - (intOf i).toNat)
  case atStart => exact ⟨rfl, 0, by omega, rfl, rfl⟩
  case round =>
    obtain ⟨rfl, k, hk, rfl, hal⟩ := hrel
    by_cases hlt : k < 5
    · have hcell := H1.out.1 k hlt
      have hs := all_step hlt hal
      have hn := all_not (m := m) hlt
      generalize m.vals.getD k 0 = x at *
      have HS := Lib.hid (And.intro hs hn)
      clear hs hn hal
      have hidx := HI.out k hlt k rfl
      by_cases hx : x < 0
      · have g1 : decide (x < 0) = true := by simpa using hx
        have hR : Ms.may m = false := HS.out.2 (by unfold Ms.okB Ms.inB; simp; omega)
        have HR := Lib.hid hR
        clear hR
        go_wp2
        go_ret
        exact ⟨by rw [HR.out]; rfl, H1.out.2⟩
      · have g1 : decide (x < 0) = false := by simpa using hx
        by_cases hy : 1099511627776 < x
        · have g2 : decide (1099511627776 < x) = true := by simpa using hy
          have hR : Ms.may m = false := HS.out.2 (by unfold Ms.okB Ms.inB; simp; omega)
          have HR := Lib.hid hR
          clear hR
          go_wp2
          go_ret
          exact ⟨by rw [HR.out]; rfl, H1.out.2⟩
        · have g2 : decide (1099511627776 < x) = false := by simpa using hy
          have HA := Lib.hid (HS.out.1 (by unfold Ms.okB Ms.inB; simp; omega))
          go_wp2
          go_round
          case rel => exact ⟨rfl, k + 1, by omega, by go_num, HA.out⟩
          case measure => simp [intOf]; omega
    · obtain rfl : k = 5 := by omega
      have HA := Lib.hid hal
      clear hal
      go_wp2
      go_ret
      refine ⟨?_, H1.out.2⟩
      have e : Ms.may m = decide (0 < m.gen) := by
        unfold Ms.may
        have h5 : (m.vals.take 5) = m.vals := rfl
        rw [← h5, HA.out]; rfl
      rw [e]; rfl
end Go.Proofs.Ytfcmlfcpgboigaa
