/- Messages: which may be; their bytes; transactions' numbers. -/
import Derived.Test.YtlpdjpkdgagjpaaDoorRecMay9
import Derived.Test.YtlpdjpkdgagjpaaDoorSealSum
import Derived.Test.YtlpdjpkdgagjpaaDoorSealWrite
import Derived.Test.YtlpdjpkdgagjpaaDoorSealMath2
namespace Go.Proofs.YtlpdjpkdgagjpaaDoor
open Go.RowKit Mem
set_option maxRecDepth 100000
set_option linter.unusedVariables false
set_option linter.unusedSimpArgs false

/-! the plain part -/
namespace Mg
structure M where
  kind : Int
  from_ : Int
  to : Int
  tx : Int
  mem : List Int
def M.vals (m : M) : List Int := [m.kind, m.from_, m.to, m.tx]
def spareB (m : M) : Bool := (m.kind != 1) && decide (0 < m.mem.length)
def may (m : M) : Bool := !spareB m && Rc.node m.from_ && Rc.node m.to && decide (1 ≤ m.kind) && decide (m.kind ≤ 10) && (Rc.seq m.tx 1 && Rc.members m.mem)
def body (m : M) : List UInt8 := m.vals.flatMap Sl.numB ++ if m.kind = 1 then Sl.numB (m.mem.length : Int) ++ m.mem.flatMap Sl.numB else []
def enc (m : M) : List UInt8 × Nat := if may m = true then Sl.sealE (body m) else ([], 1)
def number (a b c : Int) : Int × Nat := if 1 ≤ a ∧ a ≤ 1048576 ∧ 0 ≤ b ∧ b < 65536 ∧ Rc.node c = true then ((a * 65536 + b) * 8 + c, 0) else (0, 1)
def nodeOf (tx : Int) : Int := max tx 0 % 8
end Mg
abbrev mgCells (m : Mg.M) (A : Option Addr) (n c : Nat) : Array Value := #[.int .i64 m.kind, .int .i64 m.from_, .int .i64 m.to, .int .i64 m.tx, .slice A n c]
abbrev mgVal (m : Mg.M) (A : Option Addr) (n c : Nat) : Value := .agg (mgCells m A n c)
theorem mnode_any (x : Int) (w : World) : Calls Tryd.prog 37 #[.int .i64 x] w fun e w' => e = .returned (.bool (Rc.node x)) ∧ w' = w := by
  unfold Rc.node
  by_cases h : 0 ≤ x
  · have hd : decide (0 ≤ x) = true := by simpa using h
    have H := Lib.hid hd
    go_enter Tryd.func37, Tryd.ntmps37
    go_wp2
    go_ret
    exact ⟨by first | rfl | (rw [H.out, Bool.true_and]; rfl), rfl⟩
  · have hd : decide (0 ≤ x) = false := by simpa using h
    have H := Lib.hid hd
    go_enter Tryd.func37, Tryd.ntmps37
    go_wp2
    go_ret
    exact ⟨by first | rfl | (rw [H.out, Bool.false_and]; rfl), rfl⟩
theorem mg_cells {w : World} {b : Nat} {m : Mg.M} {A : Option Addr} {n c : Nat} (h : Blk w b 60 (mgCells m A n c)) :
    w.cell? ⟨b, 0, none⟩ = some (.int .i64 m.kind) ∧ w.cell? ⟨b, 1, none⟩ = some (.int .i64 m.from_) ∧ w.cell? ⟨b, 2, none⟩ = some (.int .i64 m.to) ∧ w.cell? ⟨b, 3, none⟩ = some (.int .i64 m.tx) ∧ w.cell? ⟨b, 4, none⟩ = some (.slice A n c) :=
  ⟨h.cell 0, h.cell 1, h.cell 2, h.cell 3, h.cell 4⟩
set_option maxHeartbeats 4000000 in
theorem mgmay_any (m : Mg.M) (A : Option Addr) (n c : Nat) (w : World) (hl : IS w A n m.mem) (hn : n ≤ 1000000) (hc : c ≤ 9223372036854775807) :
    Calls Tryd.prog 32 #[mgVal m A n c] w fun e w' => e = .returned (.bool (Mg.may m)) ∧ Below w.heap.size w w' := by
  have hb0 : Below w.heap.size w (w.alloc (.cells (mgCells m A n c) 60)) := (Below.refl _ _).alloc (Nat.le_refl _) _
  have hk0 := Blk.new w 60 (mgCells m A n c)
  have hr9 := fun W (h : Below w.heap.size w W) => rmay9 m.tx A n c m.mem W (hl.below h) hn hc
  have H := Lib.hid (And.intro hb0 (And.intro hk0 (And.intro hr9 hl.1)))
  clear hb0 hk0 hl hr9
  by_cases hsp : m.kind ≠ 1 ∧ 0 < n
  · have a1 : (m.kind != 1) = true := by simpa using hsp.1
    have a2 : 0 < n := hsp.2
    have HM := Lib.hid (show Mg.may m = false by
      unfold Mg.may Mg.spareB
      rw [a1, H.out.2.2.2, decide_eq_true hsp.2]
      rfl)
    clear hsp
    go_enter Tryd.func32, Tryd.ntmps32
    go_wp2_with fail
    go_ret
    exact ⟨by rw [HM.out]; rfl, H.out.1⟩
  · have hS : Mg.spareB m = false := by
      unfold Mg.spareB
      by_cases h1 : m.kind = 1
      · rw [h1]; rfl
      · rw [H.out.2.2.2, decide_eq_false (fun h => hsp ⟨h1, h⟩), Bool.and_false]
    have hways : (m.kind != 1) = false ∨ (m.kind != 1) = true ∧ n = 0 := by
      by_cases h1 : m.kind = 1
      · exact .inl (by simpa using h1)
      · exact .inr ⟨by simpa using h1, Nat.eq_zero_of_not_pos (fun h => hsp ⟨h1, h⟩)⟩
    have hmay : Mg.may m = (Rc.node m.from_ && Rc.node m.to && decide (1 ≤ m.kind) && decide (m.kind ≤ 10) && (Rc.seq m.tx 1 && Rc.members m.mem)) := by
      unfold Mg.may; rw [hS]; simp only [Bool.not_false, Bool.true_and]
    have HM := Lib.hid hmay
    clear hsp hS hmay
    have hbw := fun W (h : Below (w.alloc (.cells (mgCells m A n c) 60)).heap.size (w.alloc (.cells (mgCells m A n c) 60)) W) => H.out.1.trans (h.mono H.out.1.size)
    have HW := Lib.hid hbw
    clear hbw
    rcases hways with a1 | ⟨a1, rfl⟩
    all_goals
      go_enter Tryd.func32, Tryd.ntmps32
      go_wp2_with fail
      refine (mnode_any m.from_ _).mono ?_
      cases hf : Rc.node m.from_ with
      | false =>
        rintro e w1 ⟨rfl, rfl⟩
        have HF := Lib.hid hf
        clear hf
        go_wp2_with fail
        go_ret
        exact ⟨by rw [HM.out, HF.out]; rfl, H.out.1⟩
      | true =>
        rintro e w1 ⟨rfl, rfl⟩
        have HF := Lib.hid hf
        clear hf
        go_wp2_with fail
        refine (mnode_any m.to _).mono ?_
        cases ht : Rc.node m.to with
        | false =>
          rintro e w1 ⟨rfl, rfl⟩
          have HT := Lib.hid ht
          clear ht
          go_wp2_with fail
          go_ret
          exact ⟨by rw [HM.out, HF.out, HT.out]; rfl, H.out.1⟩
        | true =>
          rintro e w1 ⟨rfl, rfl⟩
          have HT := Lib.hid ht
          clear ht
          by_cases h1 : 1 ≤ m.kind
          · have d1 : decide (1 ≤ m.kind) = true := by simpa using h1
            by_cases h2 : m.kind ≤ 10
            · have d2 : decide (m.kind ≤ 10) = true := by simpa using h2
              have HD := Lib.hid (And.intro d1 d2)
              clear h1 h2
              go_wp2_with fail
              refine (H.out.2.2.1 _ H.out.1).mono ?_
              rintro e w2 ⟨rfl, hb2⟩
              have H2 := Lib.hid (H.out.1.trans (hb2.mono H.out.1.size))
              clear hb2
              go_wp2_with fail
              go_ret
              exact ⟨by rw [HM.out, HF.out, HT.out, HD.out.1, HD.out.2]; rfl, H2.out⟩
            · have d2 : decide (m.kind ≤ 10) = false := by simpa using h2
              have HD := Lib.hid (And.intro d1 d2)
              clear h1 h2
              go_wp2_with fail
              go_ret
              exact ⟨by rw [HM.out, HF.out, HT.out, HD.out.1, HD.out.2]; rfl, H.out.1⟩
          · have d1 : decide (1 ≤ m.kind) = false := by simpa using h1
            have HD := Lib.hid d1
            clear h1
            go_wp2_with fail
            go_ret
            exact ⟨by rw [HM.out, HF.out, HT.out, HD.out]; rfl, H.out.1⟩
end Go.Proofs.YtlpdjpkdgagjpaaDoor
